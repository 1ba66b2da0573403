/- curve: the example of the chapter. -/
import Derived.Test.YtpkledpnicocmaaVc
set_option linter.unusedSimpArgs false
set_option linter.unusedVariables false
namespace Go.Proofs.Ytpkledpnicocmaa
open Go.RowKit Go.Shelf C55
theorem equal_c (l : List Int) (a0 a1 : Option Addr) (n m : Nat) (hn : l.length = n) (hm : l.length = m) (c0 c1 : Nat) (own : Nat → Prop) (W : World) (hl : ∀ b, own b → b < W.heap.size) (hlen : n ≤ 9000000000000000000) (hv : Has own W (RdF (Value.int .i64) a0 l)) (hu : Has own W (RdF (Value.int .i64) a1 l)) :
    Calls Try.prog 34 ⟨[.slice a0 n c0, .slice a1 m c1]⟩ W (Ret W fun r _ => r = .bool true) := by
  subst hn
  subst hm
  have hM := (((Mm.start hl).known hv).known hu)
  refine f_start Try.func34 rfl Try.ntmps34 rfl rfl ?_; intro a hF
  (repeat' (first | (with_reducible refine w_seq ?_) | (with_reducible refine c_region ?_) | (with_reducible refine s_nil ?_) | (with_reducible refine q_then_n ?_) | ((with_reducible apply s_pure hF); exact rfl; exact rfl; exact rfl; (first | exact trivial | omega | decide); clear hF a; intro a hF) | (with_reducible refine w_skip ?_) | (with_reducible refine w_block ?_) | ((with_reducible apply c_dec hF); exact rfl; all_goals intro hc; all_goals (try (exfalso; omega)))))
  refine c_loop (m := l.length) (fun m a w' => ∃ (k : Nat), m + k = l.length ∧
    Fr _ [] [(13, .int .i64 k), (12, .int .i64 l.length), (0, .slice a0 l.length c0), (1, .slice a1 l.length c1)] a ∧
    Mm own W [] [] [RdF (Value.int .i64) a1 l, RdF (Value.int .i64) a0 l] w') ⟨0, by omega, hF.sub (by repeat (first | exact Sub.nil | refine Sub.cons rfl (by first | with_reducible rfl | (refine congrArg (Value.int _) ?_; omega) | exact rfl) ?_)), hM⟩ ?_
  clear hF hM a
  rintro m a w' ⟨k, hk, hF, hM⟩
  by_cases hlt : k < l.length
  · obtain ⟨z, hz⟩ := get_of_lt hlt
    obtain ⟨ad, rfl⟩ := rd_some hM (a := a0) (by (repeat (first | exact List.mem_cons_self | refine List.mem_cons_of_mem _ ?_))) hz
    obtain ⟨ae, rfl⟩ := rd_some hM (a := a1) (by (repeat (first | exact List.mem_cons_self | refine List.mem_cons_of_mem _ ?_))) hz
    (repeat' (first | (with_reducible refine w_seq ?_) | (with_reducible refine c_region ?_) | (with_reducible refine s_nil ?_) | (with_reducible refine q_then_n ?_) | ((with_reducible apply s_pure hF); exact rfl; exact rfl; exact rfl; (first | exact trivial | omega | decide); clear hF a; intro a hF) | (with_reducible refine w_skip ?_) | (with_reducible refine w_block ?_) | ((with_reducible apply c_dec hF); exact rfl; all_goals intro hc; all_goals (try (exfalso; omega)))))
    refine c_draw (fun i => Nat.ble 9 i) hM ?_; clear hM; intro w hM
    (first | (refine t_pure (i := 0) hF rfl rfl rfl rfl (by kernel_rfl) hM.sm (fun _ _ _ h => h) ?_ ?_; (first | exact trivial | omega | decide); clear hF a; intro a hF))
    (first | (refine t_pure (i := 1) hF rfl rfl rfl rfl (by kernel_rfl) hM.sm (fun _ _ _ h => h) ?_ ?_; (first | exact trivial | omega | decide); clear hF a; intro a hF))
    (first | (refine t_pure (i := 2) hF rfl rfl rfl rfl (by kernel_rfl) hM.sm (fun _ _ _ h => h) ?_ ?_; (first | exact trivial | omega | decide); clear hF a; intro a hF))
    (first | (apply t_loadF (i := 3) hF rfl rfl rfl; (repeat (first | exact List.mem_cons_self | refine List.mem_cons_of_mem _ ?_)); (first | with_reducible assumption | (simp only [Int.toNat_natCast]; with_reducible assumption)); exact rfl; exact rfl; kernel_rfl; exact hM.sm; exact (fun _ _ _ h => h); clear hF a; intro a hF))
    (first | (refine t_pure (i := 4) hF rfl rfl rfl rfl (by kernel_rfl) hM.sm (fun _ _ _ h => h) ?_ ?_; (first | exact trivial | omega | decide); clear hF a; intro a hF))
    (first | (refine t_pure (i := 5) hF rfl rfl rfl rfl (by kernel_rfl) hM.sm (fun _ _ _ h => h) ?_ ?_; (first | exact trivial | omega | decide); clear hF a; intro a hF))
    (first | (refine t_pure (i := 6) hF rfl rfl rfl rfl (by kernel_rfl) hM.sm (fun _ _ _ h => h) ?_ ?_; (first | exact trivial | omega | decide); clear hF a; intro a hF))
    (first | (apply t_loadF (i := 7) hF rfl rfl rfl; (repeat (first | exact List.mem_cons_self | refine List.mem_cons_of_mem _ ?_)); (first | with_reducible assumption | (simp only [Int.toNat_natCast]; with_reducible assumption)); exact rfl; exact rfl; kernel_rfl; exact hM.sm; exact (fun _ _ _ h => h); clear hF a; intro a hF))
    (first | (refine t_pure (i := 8) hF rfl rfl rfl rfl (by kernel_rfl) hM.sm (fun _ _ _ h => h) ?_ ?_; (first | exact trivial | omega | decide); clear hF a; intro a hF))
    refine t_done (by kernel_rfl) ?_
    (repeat' (first | (with_reducible refine c_region ?_) | (with_reducible refine s_nil ?_) | (with_reducible refine q_then_n ?_) | ((with_reducible apply s_pure hF); exact rfl; exact rfl; exact rfl; (first | exact trivial | omega | decide); clear hF a; intro a hF) | (with_reducible refine w_skip ?_) | (with_reducible refine q_blk_n ?_) | ((with_reducible apply c_dec hF); exact rfl; all_goals intro hc; all_goals (try (exfalso; omega)))))
    exact ⟨m - 1, by omega, k + 1, by omega, hF.sub (by repeat (first | exact Sub.nil | refine Sub.cons rfl (by first | with_reducible rfl | (refine congrArg (Value.int _) ?_; omega) | exact rfl) ?_)), hM⟩
  · obtain rfl : k = l.length := by omega
    (repeat' (first | (with_reducible refine w_seq ?_) | (with_reducible refine c_region ?_) | (with_reducible refine s_nil ?_) | (with_reducible refine q_then_n ?_) | ((with_reducible apply s_pure hF); exact rfl; exact rfl; exact rfl; (first | exact trivial | omega | decide); clear hF a; intro a hF) | (with_reducible refine w_exit ?_) | (with_reducible refine w_ret ?_) | (with_reducible refine q_then_x ?_) | (with_reducible refine q_blk_x ?_) | ((with_reducible apply c_dec hF); exact rfl; all_goals intro hc; all_goals (try (exfalso; omega)))))
    (apply f_ret Try.results34 hF hM; (repeat (first | exact RL.nil | (apply RL.tmp; exact rfl) | (apply RL.cell; exact rfl; (repeat (first | exact List.mem_cons_self | refine List.mem_cons_of_mem _ ?_)); exact rfl))); refine Ret.mk hM.since ?_; dsimp only [resV])
theorem arrival_e {l V : List Int} {S T : Int} (h : wins true l S = (⟨V, T⟩, 0)) (n m : Nat) (hn : l.length = n) (hm : V.length = m) (a0 : Option Addr) (c0 : Nat) (own : Nat → Prop) (W : World) (hl : ∀ b, own b → b < W.heap.size) (hlen : n ≤ 9223372036854775807) (hv : Has own W (RdF (Value.int .i64) a0 l)) :
    Calls Try.prog 12 ⟨[.slice a0 n c0, .int .i64 S]⟩ W (Ret W fun v w => ∃ a1 c1, v = .tuple #[.agg #[.slice a1 m c1, .int .i64 T], .int .i64 0] ∧ Has own w (IsCu · (.agg #[.slice a1 m c1, .int .i64 T]) ⟨V, T⟩) ∧ Has own w (RdF (Value.int .i64) a1 V)) := by
  subst hn
  subst hm
  refine (arrival_c l S a0 c0 own W hl hlen hv).mono ?_
  rintro e w' ⟨v, rfl, hs, cv, rfl, hcv⟩
  rw [h] at hcv
  obtain ⟨a1, c1, rfl, hr, -, -⟩ := isCu_open hcv
  exact ⟨_, rfl, hs, a1, c1, by rw [h], hcv, hr⟩
theorem service_e {l V : List Int} {S T : Int} (h : wins false l S = (⟨V, T⟩, 0)) (n m : Nat) (hn : l.length = n) (hm : V.length = m) (a0 : Option Addr) (c0 : Nat) (own : Nat → Prop) (W : World) (hl : ∀ b, own b → b < W.heap.size) (hlen : n ≤ 9223372036854775807) (hv : Has own W (RdF (Value.int .i64) a0 l)) :
    Calls Try.prog 14 ⟨[.slice a0 n c0, .int .i64 S]⟩ W (Ret W fun v w => ∃ a1 c1, v = .tuple #[.agg #[.slice a1 m c1, .int .i64 T], .int .i64 0] ∧ Has own w (IsCu · (.agg #[.slice a1 m c1, .int .i64 T]) ⟨V, T⟩) ∧ Has own w (RdF (Value.int .i64) a1 V)) := by
  subst hn
  subst hm
  refine (service_c l S a0 c0 own W hl hlen hv).mono ?_
  rintro e w' ⟨v, rfl, hs, cv, rfl, hcv⟩
  rw [h] at hcv
  obtain ⟨a1, c1, rfl, hr, -, -⟩ := isCu_open hcv
  exact ⟨_, rfl, hs, a1, c1, by rw [h], hcv, hr⟩
theorem convolve_e {A B : Cu} {V : List Int} {T : Int} (h : convR A B = (⟨V, T⟩, 0)) (m : Nat) (hm : V.length = m) (v u : Value) (own : Nat → Prop) (W : World) (hl : ∀ b, own b → b < W.heap.size) (hv : Has own W (IsCu · v A)) (hu : Has own W (IsCu · u B)) :
    Calls Try.prog 21 ⟨[v, u]⟩ W (Ret W fun v w => ∃ a1 c1, v = .tuple #[.agg #[.slice a1 m c1, .int .i64 T], .int .i64 0] ∧ Has own w (IsCu · (.agg #[.slice a1 m c1, .int .i64 T]) ⟨V, T⟩) ∧ Has own w (RdF (Value.int .i64) a1 V)) := by
  subst hm
  refine (Convolve_c A B v u own W hl hv hu).mono ?_
  rintro e w' ⟨v, rfl, hs, cv, rfl, hcv⟩
  rw [h] at hcv
  obtain ⟨a1, c1, rfl, hr, -, -⟩ := isCu_open hcv
  exact ⟨_, rfl, hs, a1, c1, by rw [h], hcv, hr⟩
theorem delay_e {A B : Cu} {x e : Int} (h : delayR A B = (x, e)) (v u : Value) (own : Nat → Prop) (W : World) (hl : ∀ b, own b → b < W.heap.size) (hv : Has own W (IsCu · v A)) (hu : Has own W (IsCu · u B)) :
    Calls Try.prog 24 ⟨[v, u]⟩ W (Ret W fun r _ => r = .tuple #[.int .i64 x, .int .i64 e]) := by
  have := Delay_c A B v u own W hl hv hu
  rw [h] at this
  exact this
theorem backlog_e {A B : Cu} {x e : Int} (h : backlogR A B = (x, e)) (v u : Value) (own : Nat → Prop) (W : World) (hl : ∀ b, own b → b < W.heap.size) (hv : Has own W (IsCu · v A)) (hu : Has own W (IsCu · u B)) :
    Calls Try.prog 26 ⟨[v, u]⟩ W (Ret W fun r _ => r = .tuple #[.int .i64 x, .int .i64 e]) := by
  have := Backlog_c A B v u own W hl hv hu
  rw [h] at this
  exact this
theorem At_e {c : Cu} {t x : Int} (h : atT c t = x) (v : Value) (own : Nat → Prop) (W : World) (hl : ∀ b, own b → b < W.heap.size) (hv : Has own W (IsCu · v c)) :
    Calls Try.prog 18 ⟨[v, .int .i64 t]⟩ W (Ret W fun r _ => r = .int .i64 x) := h ▸ At_c c t v own W hl hv
theorem exA : wins true [3, 0, 5] 0 = (⟨[0, 5, 5, 8], 0⟩, 0) := by rfl
theorem exB : wins false [2, 4] 3 = (⟨[0, 2, 6], 3⟩, 0) := by rfl
theorem exD : delayR ⟨[0, 5, 5, 8], 0⟩ ⟨[0, 2, 6], 3⟩ = (1, 0) := by rfl
theorem exG : backlogR ⟨[0, 5, 5, 8], 0⟩ ⟨[0, 2, 6], 3⟩ = (3, 0) := by rfl
theorem exC : convR ⟨[0, 5], 0⟩ ⟨[0], 2⟩ = (⟨[0, 2, 4, 5], 0⟩, 0) := by rfl
theorem exT : atT ⟨[0, 2, 6], 3⟩ 4 = 12 := by rfl
theorem litCu {own : Nat → Prop} {w : World} {b : Nat} {T : TypeId} {xs : List Int} {n : Nat} (hn : xs.length = n) (S : Int) (hb : n ≤ 1000) (h : Has own w (BxF b (xs.map (Value.int .i64)) T)) : Has own w (IsCu · (.agg #[.slice (some ⟨b, 0, none⟩) n n, .int .i64 S]) ⟨xs, S⟩) :=
  isCu_mkn (c := ⟨xs, S⟩) (h.ints xs rfl) hn (by omega) (Nat.le_refl _)
theorem awake_c (own : Nat → Prop) (W : World) (hl : ∀ b, own b → b < W.heap.size) :
    Calls Try.prog 11 ⟨[]⟩ W (Ret W fun r _ => r = .bool true) := by
  have hM := Mm.start hl
  refine f_start Try.func11 rfl Try.ntmps11 rfl rfl ?_; intro a hF
  (repeat (first | (with_reducible refine w_seq ?_) | (with_reducible refine c_region ?_) | (with_reducible refine s_nil ?_) | ((with_reducible apply s_lit hF hM); exact rfl; exact rfl; exact rfl; exact rfl; clear hF hM a; intro bl w a hM hF; replace hM := Mm.freeze hM) | ((with_reducible apply s_call (f := 12) hF hM); exact rfl; exact rfl; exact rfl; exact rfl; exact rfl; exact (arrival_e exA 3 4 rfl rfl _ _ _ _ hM.lt (by omega) (Has.ints (hM.facts (BxF bl _ _) (by (repeat (first | exact List.mem_cons_self | refine List.mem_cons_of_mem _ ?_)))) [3, 0, 5] rfl)); clear hF hM a; rintro v w a ⟨a1, c1, rfl, h1, h2⟩ - hM hF; replace hM := (hM.addFact h1).addFact h2) | ((with_reducible apply s_call (f := 14) hF hM); exact rfl; exact rfl; exact rfl; exact rfl; exact rfl; exact (service_e exB 2 3 rfl rfl _ _ _ _ hM.lt (by omega) (Has.ints (hM.facts (BxF bl _ _) (by (repeat (first | exact List.mem_cons_self | refine List.mem_cons_of_mem _ ?_)))) [2, 4] rfl)); clear hF hM a; rintro v w a ⟨a3, c3, rfl, h3, h4⟩ - hM hF; replace hM := (hM.addFact h3).addFact h4) | ((with_reducible apply s_call (f := 24) hF hM); exact rfl; exact rfl; exact rfl; exact rfl; exact rfl; exact (delay_e exD _ _ _ _ hM.lt (hM.facts (IsCu · _ ⟨[0, 5, 5, 8], 0⟩) (by (repeat (first | exact List.mem_cons_self | refine List.mem_cons_of_mem _ ?_)))) (hM.facts (IsCu · _ ⟨[0, 2, 6], 3⟩) (by (repeat (first | exact List.mem_cons_self | refine List.mem_cons_of_mem _ ?_))))); clear hF hM a; rintro v w a rfl - hM hF) | ((with_reducible apply s_call (f := 26) hF hM); exact rfl; exact rfl; exact rfl; exact rfl; exact rfl; exact (backlog_e exG _ _ _ _ hM.lt (hM.facts (IsCu · _ ⟨[0, 5, 5, 8], 0⟩) (by (repeat (first | exact List.mem_cons_self | refine List.mem_cons_of_mem _ ?_)))) (hM.facts (IsCu · _ ⟨[0, 2, 6], 3⟩) (by (repeat (first | exact List.mem_cons_self | refine List.mem_cons_of_mem _ ?_))))); clear hF hM a; rintro v w a rfl - hM hF) | (with_reducible refine q_then_n ?_) | ((with_reducible apply s_pure hF); exact rfl; exact rfl; exact rfl; (first | exact trivial | omega | decide); clear hF a; intro a hF) | ((with_reducible apply s_load hF hM); exact rfl; exact rfl; (repeat (first | exact List.mem_cons_self | refine List.mem_cons_of_mem _ ?_)); exact rfl; exact rfl; clear hF a; intro a hF) | ((with_reducible apply s_store hF hM); exact rfl; exact rfl; exact rfl; exact rfl; (repeat (first | exact Upd.z | apply Upd.s)); exact rfl; exact rfl; exact rfl; clear hM; intro w hM) | ((with_reducible apply s_alloc hF hM); exact rfl; exact rfl; exact rfl; clear hF hM a; intro b w a hM hF)))
  (((with_reducible apply s_call (f := 21) hF hM); exact rfl; exact rfl; exact rfl; exact rfl; exact rfl; exact (convolve_e exC 4 rfl _ _ _ _ hM.lt (litCu (xs := [0, 5]) rfl 0 (by decide) (hM.facts (BxF _ _ _) (by (repeat (first | exact List.mem_cons_self | refine List.mem_cons_of_mem _ ?_))))) (litCu (xs := [0]) rfl 2 (by decide) (hM.facts (BxF _ _ _) (by (repeat (first | exact List.mem_cons_self | refine List.mem_cons_of_mem _ ?_)))))); clear hF hM a; rintro v w a ⟨a5, c5, rfl, h5, h6⟩ - hM hF; replace hM := (hM.addFact h5).addFact h6))
  (repeat (first | (with_reducible refine w_seq ?_) | (with_reducible refine c_region ?_) | (with_reducible refine s_nil ?_) | ((with_reducible apply s_lit hF hM); exact rfl; exact rfl; exact rfl; exact rfl; clear hF hM a; intro bl w a hM hF; replace hM := Mm.freeze hM) | (with_reducible refine q_then_n ?_) | ((with_reducible apply s_pure hF); exact rfl; exact rfl; exact rfl; (first | exact trivial | omega | decide); clear hF a; intro a hF) | ((with_reducible apply s_load hF hM); exact rfl; exact rfl; (repeat (first | exact List.mem_cons_self | refine List.mem_cons_of_mem _ ?_)); exact rfl; exact rfl; clear hF a; intro a hF) | ((with_reducible apply s_store hF hM); exact rfl; exact rfl; exact rfl; exact rfl; (repeat (first | exact Upd.z | apply Upd.s)); exact rfl; exact rfl; exact rfl; clear hM; intro w hM) | ((with_reducible apply s_alloc hF hM); exact rfl; exact rfl; exact rfl; clear hF hM a; intro b w a hM hF)))
  (((with_reducible apply s_call (f := 34) hF hM); exact rfl; exact rfl; exact rfl; exact rfl; exact rfl; exact (equal_c [0, 5, 5, 8] _ _ 4 4 rfl rfl _ _ _ _ hM.lt (by omega) (hM.facts (RdF (Value.int .i64) a1 [0, 5, 5, 8]) (by (repeat (first | exact List.mem_cons_self | refine List.mem_cons_of_mem _ ?_)))) (Has.ints (hM.facts (BxF bl _ _) (by (repeat (first | exact List.mem_cons_self | refine List.mem_cons_of_mem _ ?_)))) [0, 5, 5, 8] rfl)); clear hF hM a; rintro v w a rfl - hM hF))
  (repeat (first | ((with_reducible apply s_lit hF hM); exact rfl; exact rfl; exact rfl; exact rfl; clear hF hM a; intro bl w a hM hF; replace hM := Mm.freeze hM) | ((with_reducible apply s_pure hF); exact rfl; exact rfl; exact rfl; (first | exact trivial | omega | decide); clear hF a; intro a hF) | ((with_reducible apply s_load hF hM); exact rfl; exact rfl; (repeat (first | exact List.mem_cons_self | refine List.mem_cons_of_mem _ ?_)); exact rfl; exact rfl; clear hF a; intro a hF)))
  (((with_reducible apply s_call (f := 34) hF hM); exact rfl; exact rfl; exact rfl; exact rfl; exact rfl; exact (equal_c [0, 2, 6] _ _ 3 3 rfl rfl _ _ _ _ hM.lt (by omega) (hM.facts (RdF (Value.int .i64) a3 [0, 2, 6]) (by (repeat (first | exact List.mem_cons_self | refine List.mem_cons_of_mem _ ?_)))) (Has.ints (hM.facts (BxF bl _ _) (by (repeat (first | exact List.mem_cons_self | refine List.mem_cons_of_mem _ ?_)))) [0, 2, 6] rfl)); clear hF hM a; rintro v w a rfl - hM hF))
  (repeat (first | (with_reducible refine w_seq ?_) | (with_reducible refine c_region ?_) | (with_reducible refine s_nil ?_) | ((with_reducible apply s_lit hF hM); exact rfl; exact rfl; exact rfl; exact rfl; clear hF hM a; intro bl w a hM hF; replace hM := Mm.freeze hM) | (with_reducible refine q_then_n ?_) | ((with_reducible apply s_pure hF); exact rfl; exact rfl; exact rfl; (first | exact trivial | omega | decide); clear hF a; intro a hF) | ((with_reducible apply s_load hF hM); exact rfl; exact rfl; (repeat (first | exact List.mem_cons_self | refine List.mem_cons_of_mem _ ?_)); exact rfl; exact rfl; clear hF a; intro a hF) | (with_reducible refine w_skip ?_) | ((with_reducible apply c_false hF); exact rfl)))
  (((with_reducible apply s_call (f := 34) hF hM); exact rfl; exact rfl; exact rfl; exact rfl; exact rfl; exact (equal_c [0, 2, 4, 5] _ _ 4 4 rfl rfl _ _ _ _ hM.lt (by omega) (hM.facts (RdF (Value.int .i64) a5 [0, 2, 4, 5]) (by (repeat (first | exact List.mem_cons_self | refine List.mem_cons_of_mem _ ?_)))) (Has.ints (hM.facts (BxF bl _ _) (by (repeat (first | exact List.mem_cons_self | refine List.mem_cons_of_mem _ ?_)))) [0, 2, 4, 5] rfl)); clear hF hM a; rintro v w a rfl - hM hF))
  (repeat (first | (with_reducible refine s_nil ?_) | ((with_reducible apply s_call (f := 18) hF hM); exact rfl; exact rfl; exact rfl; exact rfl; exact rfl; exact (At_e exT _ _ _ hM.lt (hM.facts (IsCu · _ ⟨[0, 2, 6], 3⟩) (by (repeat (first | exact List.mem_cons_self | refine List.mem_cons_of_mem _ ?_))))); clear hF hM a; rintro v w a rfl - hM hF) | (with_reducible refine q_then_n ?_) | ((with_reducible apply s_pure hF); exact rfl; exact rfl; exact rfl; (first | exact trivial | omega | decide); clear hF a; intro a hF) | ((with_reducible apply s_load hF hM); exact rfl; exact rfl; (repeat (first | exact List.mem_cons_self | refine List.mem_cons_of_mem _ ?_)); exact rfl; exact rfl; clear hF a; intro a hF) | (with_reducible refine w_ret ?_)))
  (apply f_ret Try.results11 hF hM; (repeat (first | exact RL.nil | (apply RL.tmp; exact rfl) | (apply RL.cell; exact rfl; (repeat (first | exact List.mem_cons_self | refine List.mem_cons_of_mem _ ?_)); exact rfl))); refine Ret.mk hM.since ?_; dsimp only [resV])
  rfl
end Go.Proofs.Ytpkledpnicocmaa
