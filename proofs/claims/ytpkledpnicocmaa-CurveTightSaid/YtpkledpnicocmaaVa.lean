/- curve: the reference's Min, Add, Convolve. -/
import Derived.Test.YtpkledpnicocmaaV9
set_option linter.unusedSimpArgs false
set_option linter.unusedVariables false
namespace Go.Proofs.Ytpkledpnicocmaa
open Go.RowKit Go.Shelf C55
theorem value_z (c : Cu) (ok : Ok c) (k : Nat) (z : Int) (hz : z = k) (hk : k ≤ 20000) (v : Value) (own : Nat → Prop) (W : World) (hl : ∀ b, own b → b < W.heap.size) (hv : Has own W (IsCu · v c)) :
    Calls Try.prog 45 ⟨[v, .int .i64 z]⟩ W (Ret W fun x _ => x = .int .i64 (vl c k)) := by
  subst hz
  exact value_c c ok k (by omega) (by omega) v own W hl hv
theorem fin_cases (l : List Int) (S : Int) : fin l S = (⟨l, S⟩, 0) ∨ ∃ e, e ≠ 0 ∧ fin l S = (zc, e) := by
  unfold fin
  split
  · exact .inr ⟨5, by decide, rfl⟩
  · split
    · exact .inr ⟨2, by decide, rfl⟩
    · exact .inl rfl
/-- What finish answers, as a value. -/
def finV (a : Option Addr) (c : Nat) (l : List Int) (S : Int) : Value := if (fin l S).2 = 0 then .agg #[.slice a l.length c, .int .i64 S] else .agg #[.slice none 0 0, .int .i64 0]
theorem finish_c (l : List Int) (S : Int) (n : Nat) (hn : l.length = n) (a0 : Option Addr) (c0 : Nat) (own : Nat → Prop) (W : World) (hl : ∀ b, own b → b < W.heap.size) (hv : Has own W (RdF (Value.int .i64) a0 l)) (hlen : n ≤ 9000000000000000000) :
    Calls Try.prog 54 ⟨[.slice a0 n c0, .int .i64 S]⟩ W (Ret W fun v _ => v = .tuple #[finV a0 c0 l S, .int .i64 (fin l S).2]) := by
  subst hn
  have hM := (Mm.start hl).known hv
  refine f_start Try.func54 rfl Try.ntmps54 rfl rfl ?_; intro a hF
  unfold finV
  by_cases hlong : 4096 < l.length
  · (repeat' (first | (with_reducible refine w_seq ?_) | (with_reducible refine c_region ?_) | (with_reducible refine s_nil ?_) | (with_reducible refine q_then_n ?_) | ((with_reducible apply s_pure hF); exact rfl; exact rfl; exact rfl; (first | exact trivial | omega | decide); clear hF a; intro a hF) | ((with_reducible apply s_store hF hM); exact rfl; exact rfl; exact rfl; exact rfl; (repeat (first | exact Upd.z | apply Upd.s)); exact rfl; exact rfl; exact rfl; clear hM; intro w hM) | ((with_reducible apply s_alloc hF hM); exact rfl; exact rfl; exact rfl; clear hF hM a; intro b w a hM hF) | (with_reducible refine w_ret ?_) | (with_reducible refine q_then_r ?_) | ((with_reducible apply c_dec hF); exact rfl; all_goals intro hc; all_goals (try (exfalso; omega)))))
    (apply f_ret Try.results54 hF hM; (repeat (first | exact RL.nil | (apply RL.tmp; exact rfl) | (apply RL.cell; exact rfl; (repeat (first | exact List.mem_cons_self | refine List.mem_cons_of_mem _ ?_)); exact rfl))); refine Ret.mk hM.since ?_; dsimp only [resV])
    have : fin l S = (zc, 5) := by unfold fin; rw [if_pos hlong]
    rw [this, if_neg (by decide)]
  (repeat' (first | (with_reducible refine w_seq ?_) | (with_reducible refine c_region ?_) | (with_reducible refine s_nil ?_) | (with_reducible refine q_then_n ?_) | ((with_reducible apply s_pure hF); exact rfl; exact rfl; exact rfl; (first | exact trivial | omega | decide); clear hF a; intro a hF) | ((with_reducible apply s_alloc hF hM); exact rfl; exact rfl; exact rfl; clear hF hM a; intro b w a hM hF) | (with_reducible refine w_skip ?_) | (with_reducible refine w_block ?_) | ((with_reducible apply c_dec hF); exact rfl; all_goals intro hc; all_goals (try (exfalso; omega)))))
  refine c_loop (m := l.length) (fun m a w' => ∃ (k : Nat), m + k = l.length ∧ (∀ (j : Nat) x, j < k → l[j]? = some x → x ≤ 1073741824) ∧
    Fr _ [] [(6, .int .i64 k), (4, .pointer (some ⟨b, 0, none⟩)), (5, .int .i64 0), (0, .slice a0 l.length c0), (1, .int .i64 S)] a ∧
    Mm own W [⟨b, ⟨[.slice none 0 0, .int .i64 0]⟩, 24⟩] [] [RdF (Value.int .i64) a0 l] w') ⟨0, by omega, fun j x h => by omega, hF.sub (by repeat (first | exact Sub.nil | refine Sub.cons rfl (by first | with_reducible rfl | (refine congrArg (Value.int _) ?_; omega) | exact rfl) ?_)), hM⟩ ?_
  clear hF hM a
  rintro m a w' ⟨k, hk, hall, hF, hM⟩
  by_cases hlt : k < l.length
  · obtain ⟨x, hx⟩ := get_of_lt hlt
    obtain ⟨ad, rfl⟩ := rd_some hM (by (repeat (first | exact List.mem_cons_self | refine List.mem_cons_of_mem _ ?_))) hx
    (repeat' (first | (with_reducible refine w_seq ?_) | (with_reducible refine c_region ?_) | (with_reducible refine s_nil ?_) | (with_reducible refine q_then_n ?_) | ((with_reducible apply s_pure hF); exact rfl; exact rfl; exact rfl; (first | exact trivial | omega | decide); clear hF a; intro a hF) | ((with_reducible apply s_loadF hF hM); exact rfl; exact rfl; (repeat (first | exact List.mem_cons_self | refine List.mem_cons_of_mem _ ?_)); exact rfl; exact rfl; (first | with_reducible assumption | (simp only [Int.toNat_natCast]; with_reducible assumption)); clear hF a; intro a hF) | ((with_reducible apply s_store hF hM); exact rfl; exact rfl; exact rfl; exact rfl; (repeat (first | exact Upd.z | apply Upd.s)); exact rfl; exact rfl; exact rfl; clear hM; intro w hM) | (with_reducible refine w_skip ?_) | (with_reducible refine w_block ?_) | (with_reducible refine w_ret ?_) | (with_reducible refine q_then_r ?_) | (with_reducible refine q_blk_n ?_) | (with_reducible refine q_blk_r ?_) | ((with_reducible apply c_dec hF); exact rfl; all_goals intro hc; all_goals (try (exfalso; omega)))))
    · (apply f_ret Try.results54 hF hM; (repeat (first | exact RL.nil | (apply RL.tmp; exact rfl) | (apply RL.cell; exact rfl; (repeat (first | exact List.mem_cons_self | refine List.mem_cons_of_mem _ ?_)); exact rfl))); refine Ret.mk hM.since ?_; dsimp only [resV])
      rw [fin_any (by omega) (List.mem_of_getElem? hx) (by omega), if_neg (by decide)]
    · refine ⟨m - 1, by omega, k + 1, by omega, fun j y hj hy => ?_, hF.sub (by repeat (first | exact Sub.nil | refine Sub.cons rfl (by first | with_reducible rfl | (refine congrArg (Value.int _) ?_; omega) | exact rfl) ?_)), hM⟩
      by_cases e : j = k
      · subst e; rw [hx] at hy; injection hy with hy; omega
      · exact hall j y (by omega) hy
  · obtain rfl : k = l.length := by omega
    (repeat' (first | (with_reducible refine w_seq ?_) | (with_reducible refine c_region ?_) | (with_reducible refine s_nil ?_) | (with_reducible refine q_then_n ?_) | ((with_reducible apply s_pure hF); exact rfl; exact rfl; exact rfl; (first | exact trivial | omega | decide); clear hF a; intro a hF) | ((with_reducible apply s_store hF hM); exact rfl; exact rfl; exact rfl; exact rfl; (repeat (first | exact Upd.z | apply Upd.s)); exact rfl; exact rfl; exact rfl; clear hM; intro w hM) | (with_reducible refine w_skip ?_) | (with_reducible refine w_exit ?_) | (with_reducible refine w_ret ?_) | (with_reducible refine q_then_x ?_) | (with_reducible refine q_then_r ?_) | (with_reducible refine q_blk_x ?_) | ((with_reducible apply c_dec hF); exact rfl; all_goals intro hc; all_goals (try (exfalso; omega)))))
    · (apply f_ret Try.results54 hF hM; (repeat (first | exact RL.nil | (apply RL.tmp; exact rfl) | (apply RL.cell; exact rfl; (repeat (first | exact List.mem_cons_self | refine List.mem_cons_of_mem _ ?_)); exact rfl))); refine Ret.mk hM.since ?_; dsimp only [resV])
      rw [fin_slope (by omega) (by omega), if_neg (by decide)]
    · (apply f_ret Try.results54 hF hM; (repeat (first | exact RL.nil | (apply RL.tmp; exact rfl) | (apply RL.cell; exact rfl; (repeat (first | exact List.mem_cons_self | refine List.mem_cons_of_mem _ ?_)); exact rfl))); refine Ret.mk hM.since ?_; dsimp only [resV])
      rw [fin_ok (by omega) (fun x hx => by
        obtain ⟨j, hj⟩ := List.getElem?_of_mem hx
        exact hall j x (List.getElem?_eq_some_iff.1 hj).1 hj) (by omega), if_pos rfl]
theorem finV_agg (a : Option Addr) (c : Nat) (l : List Int) (S : Int) : ∃ a1 n1 c1 i, finV a c l S = .agg #[.slice a1 n1 c1, .int .i64 i] := by
  unfold finV
  split <;> exact ⟨_, _, _, _, rfl⟩
theorem fin_row {own : Nat → Prop} {w w0 : World} {bs : List BoxE} {L : List Ent} {Fs : List (World → Prop)} (hM : Mm own w0 bs L Fs w) {l : List Int} {S : Int} {e : TypeId} {a : Option Addr} {n c : Nat} (h : (⟨e, 1, .slice a n c, n, l.map (Value.int .i64)⟩ : Ent) ∈ L) (hn : l.length = n) (hb : n ≤ 9000000000000000000) :
    CvR own (fin l S) (.tuple #[finV a c l S, .int .i64 (fin l S).2]) w := by
  subst hn
  rcases fin_cases l S with h1 | ⟨e, he, h1⟩
  · unfold finV
    rw [h1, if_pos rfl]
    exact ⟨_, rfl, isCu_mkn (c := ⟨l, S⟩) (hM.rowFact h) rfl (by omega) (row_capA hM h)⟩
  · unfold finV
    rw [h1, if_neg he]
    exact ⟨_, rfl, isCu_zc⟩
theorem fin_long {l : List Int} {S : Int} (h : 4096 < l.length) : fin l S = (zc, 5) := by unfold fin; rw [if_pos h]
theorem refAdd_c (A B : Cu) (v u : Value) (own : Nat → Prop) (W : World) (hl : ∀ b, own b → b < W.heap.size) (hv : Has own W (IsCu · v A)) (hu : Has own W (IsCu · u B)) :
    Calls Try.prog 33 ⟨[v, u]⟩ W (Ret W (CvR own (addR A B))) := by
  obtain ⟨a0, c0, rfl, hV, l1, l2⟩ := isCu_open hv
  obtain ⟨a1, c1, rfl, hU, m1, m2⟩ := isCu_open hu
  have hM := (((Mm.start hl).known hv).known hu)
  refine f_start Try.func33 rfl Try.ntmps33 rfl rfl ?_; intro a hF
  unfold addR
  by_cases hp : pairE A B = 0
  case neg =>
    rw [if_pos hp]
    (repeat' (first | (with_reducible refine w_seq ?_) | (with_reducible refine c_region ?_) | (with_reducible refine s_nil ?_) | ((with_reducible apply s_call (f := 51) hF hM); exact rfl; exact rfl; exact rfl; exact rfl; exact rfl; exact (refPair_c A B _ _ _ _ hM.lt (hM.facts (IsCu · _ A) (by (repeat (first | exact List.mem_cons_self | refine List.mem_cons_of_mem _ ?_)))) (hM.facts (IsCu · _ B) (by (repeat (first | exact List.mem_cons_self | refine List.mem_cons_of_mem _ ?_))))); clear hF hM a; rintro v w a rfl - hM hF) | (with_reducible refine q_then_n ?_) | ((with_reducible apply s_pure hF); exact rfl; exact rfl; exact rfl; (first | exact trivial | omega | decide); clear hF a; intro a hF) | ((with_reducible apply s_load hF hM); exact rfl; exact rfl; (repeat (first | exact List.mem_cons_self | refine List.mem_cons_of_mem _ ?_)); exact rfl; exact rfl; clear hF a; intro a hF) | ((with_reducible apply s_store hF hM); exact rfl; exact rfl; exact rfl; exact rfl; (repeat (first | exact Upd.z | apply Upd.s)); exact rfl; exact rfl; exact rfl; clear hM; intro w hM) | ((with_reducible apply s_alloc hF hM); exact rfl; exact rfl; exact rfl; clear hF hM a; intro b w a hM hF) | ((with_reducible apply s_box hF hM); exact rfl; exact rfl; exact rfl; exact rfl; clear hF hM a; intro b w a hM hF) | (with_reducible refine w_ret ?_) | (with_reducible refine q_then_r ?_) | ((with_reducible apply c_dec hF); exact rfl; all_goals intro hc; all_goals (try (exfalso; omega)))))
    (apply f_ret Try.results33 hF hM; (repeat (first | exact RL.nil | (apply RL.tmp; exact rfl) | (apply RL.cell; exact rfl; (repeat (first | exact List.mem_cons_self | refine List.mem_cons_of_mem _ ?_)); exact rfl))); refine Ret.mk hM.since ?_; dsimp only [resV])
    exact cvR_z rfl
  rw [if_neg (by omega)]
  obtain ⟨ha, hb⟩ := pairE_ok hp
  have k0 := ha.l0
  have k1 := ha.l1
  have k2 := hb.l0
  have k3 := hb.l1
  have s1 := ha.s
  have s2 := hb.s
  obtain ⟨N, hN⟩ : ∃ N, max A.V.length B.V.length = N := ⟨_, rfl⟩
  rw [hN]
  (repeat' (first | (with_reducible refine w_seq ?_) | (with_reducible refine c_region ?_) | (with_reducible refine s_nil ?_) | ((with_reducible apply s_call (f := 51) hF hM); exact rfl; exact rfl; exact rfl; exact rfl; exact rfl; exact (refPair_c A B _ _ _ _ hM.lt (hM.facts (IsCu · _ A) (by (repeat (first | exact List.mem_cons_self | refine List.mem_cons_of_mem _ ?_)))) (hM.facts (IsCu · _ B) (by (repeat (first | exact List.mem_cons_self | refine List.mem_cons_of_mem _ ?_))))); clear hF hM a; rintro v w a rfl - hM hF) | (with_reducible refine q_then_n ?_) | ((with_reducible apply s_pure hF); exact rfl; exact rfl; exact rfl; (first | exact trivial | omega | decide); clear hF a; intro a hF) | ((with_reducible apply s_load hF hM); exact rfl; exact rfl; (repeat (first | exact List.mem_cons_self | refine List.mem_cons_of_mem _ ?_)); exact rfl; exact rfl; clear hF a; intro a hF) | ((with_reducible apply s_alloc hF hM); exact rfl; exact rfl; exact rfl; clear hF hM a; intro b w a hM hF) | ((with_reducible apply s_box hF hM); exact rfl; exact rfl; exact rfl; exact rfl; clear hF hM a; intro b w a hM hF) | (with_reducible refine w_skip ?_) | (with_reducible refine w_block ?_) | ((with_reducible apply c_dec hF); exact rfl; all_goals intro hc; all_goals (try (exfalso; omega)))))
  rename_i b2 _ b3 _ _
  replace hM := hM.nilRow 3 1
  have hs0 : (tab (fun t => vl A t + vl B t) 0).map (Value.int .i64) = [] := by simp [tab]
  refine c_loop (m := N) (fun m a w' => ∃ (k : Nat) (ga : Option Addr) (gc : Nat), m + k = N ∧
    Fr _ [] [(8, .int .i64 k), (7, .slice ga k gc), (2, .pointer (some ⟨b2, 0, none⟩)), (3, .pointer (some ⟨b3, 0, none⟩)), (4, .pointer (some ⟨b, 0, none⟩)), (5, .int .i64 0)] a ∧
    Mm own W [⟨b, ⟨[.slice none 0 0, .int .i64 0]⟩, 24⟩, ⟨b3, ⟨[.slice a1 B.V.length c1, .int .i64 B.S]⟩, 24⟩, ⟨b2, ⟨[.slice a0 A.V.length c0, .int .i64 A.S]⟩, 24⟩] [⟨3, 1, .slice ga k gc, k, (tab (fun t => vl A t + vl B t) k).map (Value.int .i64)⟩]
      [(IsCu · (.agg #[.slice a1 B.V.length c1, .int .i64 B.S]) B), (IsCu · (.agg #[.slice a0 A.V.length c0, .int .i64 A.S]) A)] w') ⟨0, none, 0, by omega, hF.sub (by repeat (first | exact Sub.nil | refine Sub.cons rfl (by first | with_reducible rfl | (refine congrArg (Value.int _) ?_; omega) | exact rfl) ?_)), by rw [hs0]; exact hM⟩ ?_
  clear hF hM a
  rintro m a w' ⟨k, ga, gc, hk, hF, hM⟩
  by_cases hlt : k < N
  · have d1 := vl_bd ha (k := k) (by omega)
    have d2 := vl_bd hb (k := k) (by omega)
    (repeat' (first | (with_reducible refine w_seq ?_) | (with_reducible refine c_region ?_) | (with_reducible refine s_nil ?_) | (with_reducible refine q_then_n ?_) | ((with_reducible apply s_pure hF); exact rfl; exact rfl; exact rfl; (first | exact trivial | omega | decide); clear hF a; intro a hF) | ((with_reducible apply s_load hF hM); exact rfl; exact rfl; (repeat (first | exact List.mem_cons_self | refine List.mem_cons_of_mem _ ?_)); exact rfl; exact rfl; clear hF a; intro a hF) | (with_reducible refine w_skip ?_) | (with_reducible refine w_block ?_) | ((with_reducible apply c_dec hF); exact rfl; all_goals intro hc; all_goals (try (exfalso; omega)))))
    refine c_draw (fun i => Nat.ble 11 i) hM ?_; clear hM; intro w hM
    (first | (refine t_pure (i := 0) hF rfl rfl rfl rfl (by kernel_rfl) hM.sm (fun _ _ _ h => h) ?_ ?_; (first | exact trivial | omega | decide); clear hF a; intro a hF))
    (first | (apply t_load (i := 1) hF rfl rfl rfl; (repeat (first | exact List.mem_cons_self | refine List.mem_cons_of_mem _ ?_)); exact rfl; exact rfl; kernel_rfl; exact hM.sm; exact (fun _ _ _ h => h); clear hF a; intro a hF))
    (first | (refine t_pure (i := 2) hF rfl rfl rfl rfl (by kernel_rfl) hM.sm (fun _ _ _ h => h) ?_ ?_; (first | exact trivial | omega | decide); clear hF a; intro a hF))
    (first | (apply t_load (i := 4) hF rfl rfl rfl; (repeat (first | exact List.mem_cons_self | refine List.mem_cons_of_mem _ ?_)); exact rfl; exact rfl; kernel_rfl; exact hM.sm; exact (fun _ _ _ h => h); clear hF a; intro a hF))
    (first | (refine t_pure (i := 5) hF rfl rfl rfl rfl (by kernel_rfl) hM.sm (fun _ _ _ h => h) ?_ ?_; (first | exact trivial | omega | decide); clear hF a; intro a hF))
    refine t_one (i := 3) hF rfl (by kernel_rfl) rfl ?_
    intro K hK
    (apply x_call hF hM; exact rfl; exact rfl; exact rfl; exact rfl; exact (value_z A ha k _ rfl (by omega) _ _ _ hM.lt (hM.facts (IsCu · _ A) (by (repeat (first | exact List.mem_cons_self | refine List.mem_cons_of_mem _ ?_))))); clear hF hM a; rintro v w a rfl - hM hF)
    refine hK _ _ (fun _ => hM.sm) ?_; clear hK
    refine t_one (i := 6) hF rfl (by kernel_rfl) rfl ?_
    intro K hK
    (apply x_call hF hM; exact rfl; exact rfl; exact rfl; exact rfl; exact (value_z B hb k _ rfl (by omega) _ _ _ hM.lt (hM.facts (IsCu · _ B) (by (repeat (first | exact List.mem_cons_self | refine List.mem_cons_of_mem _ ?_))))); clear hF hM a; rintro v w a rfl - hM hF)
    refine hK _ _ (fun _ => hM.sm) ?_; clear hK
    (first | (refine t_pure (i := 7) hF rfl rfl rfl rfl (by kernel_rfl) hM.sm (fun _ _ _ h => h) ?_ ?_; (first | exact trivial | omega | decide); clear hF a; intro a hF))
    refine t_one (i := 8) hF rfl (by kernel_rfl) rfl ?_
    intro K hK
    (refine x_lit hF hM rfl rfl rfl ?_; clear hF hM a; intro bl w a hM hF)
    refine hK _ _ (fun _ => (hM.sm.sub (fun x hx => by repeat (first | exact hx | refine List.mem_cons_of_mem _ ?_)) (fun _ h => by repeat (first | exact h | refine List.mem_cons_of_mem _ ?_)))) ?_; clear hK
    refine t_one (i := 9) hF rfl (by kernel_rfl) rfl ?_
    intro K hK
    (apply x_app hF hM rfl rfl rfl; (repeat (first | exact List.mem_cons_self | refine List.mem_cons_of_mem _ ?_)); (repeat (first | exact Kth.z | apply Kth.s)); exact rfl; exact rfl; exact rfl; exact rfl; omega; clear hF hM a; intro g cap w a hM hF; dsimp only [List.set] at hM)
    refine hK _ _ (fun _ => (hM.sm.sub (fun x hx => by repeat (first | exact hx | refine List.mem_cons_of_mem _ ?_)) (fun _ h => by repeat (first | exact h | refine List.mem_cons_of_mem _ ?_)))) ?_; clear hK
    (first | (refine t_pure (i := 10) hF rfl rfl rfl rfl (by kernel_rfl) (hM.sm.sub (fun x hx => by repeat (first | exact hx | refine List.mem_cons_of_mem _ ?_)) (fun _ h => by repeat (first | exact h | refine List.mem_cons_of_mem _ ?_))) (fun _ _ _ h => h) ?_ ?_; (first | exact trivial | omega | decide); clear hF a; intro a hF))
    refine t_done (by kernel_rfl) ?_
    (repeat' (first | (with_reducible refine c_region ?_) | (with_reducible refine s_nil ?_) | (with_reducible refine q_then_n ?_) | ((with_reducible apply s_pure hF); exact rfl; exact rfl; exact rfl; (first | exact trivial | omega | decide); clear hF a; intro a hF) | (with_reducible refine q_blk_n ?_)))
    refine ⟨m - 1, by omega, k + 1, some ⟨g, 0, none⟩, cap, by omega, hF.sub (by repeat (first | exact Sub.nil | refine Sub.cons rfl (by first | with_reducible rfl | (refine congrArg (Value.int _) ?_; omega) | exact rfl) ?_)), ?_⟩
    rw [tab_succ, List.map_append]
    exact hM.sub (.cons _ (.refl _)) (.refl _) (fun _ h => h)
  · obtain rfl : k = N := by omega
    clear hlt
    have hr := fun e => finV_agg ga gc (tab (fun t => vl A t + vl B t) k) e
    obtain ⟨f1, f2, f3, f4, hfv⟩ := hr (A.S + B.S)
    (repeat' (first | (with_reducible refine w_seq ?_) | (with_reducible refine c_region ?_) | (with_reducible refine s_nil ?_) | ((with_reducible apply s_call (f := 54) hF hM); exact rfl; exact rfl; exact rfl; exact rfl; exact rfl; exact (hfv ▸ finish_c (tab (fun t => vl A t + vl B t) k) (A.S + B.S) _ (tab_len _ _) ga gc own _ (fun b h => hM.lt b (.inl h)) (hM.rowFact (by (repeat (first | exact List.mem_cons_self | refine List.mem_cons_of_mem _ ?_)))) (by omega)); clear hF hM a; rintro v w a rfl - hM hF) | (with_reducible refine q_then_n ?_) | ((with_reducible apply s_pure hF); exact rfl; exact rfl; exact rfl; (first | exact trivial | omega | decide); clear hF a; intro a hF) | ((with_reducible apply s_load hF hM); exact rfl; exact rfl; (repeat (first | exact List.mem_cons_self | refine List.mem_cons_of_mem _ ?_)); exact rfl; exact rfl; clear hF a; intro a hF) | ((with_reducible apply s_store hF hM); exact rfl; exact rfl; exact rfl; exact rfl; (repeat (first | exact Upd.z | apply Upd.s)); exact rfl; exact rfl; exact rfl; clear hM; intro w hM) | (with_reducible refine w_exit ?_) | (with_reducible refine w_ret ?_) | (with_reducible refine q_then_x ?_) | (with_reducible refine q_blk_x ?_) | ((with_reducible apply c_dec hF); exact rfl; all_goals intro hc; all_goals (try (exfalso; omega)))))
    (apply f_ret Try.results33 hF hM; (repeat (first | exact RL.nil | (apply RL.tmp; exact rfl) | (apply RL.cell; exact rfl; (repeat (first | exact List.mem_cons_self | refine List.mem_cons_of_mem _ ?_)); exact rfl))); refine Ret.mk hM.since ?_; dsimp only [resV])
    rw [← hfv]
    exact fin_row hM (e := 3) (by (repeat (first | exact List.mem_cons_self | refine List.mem_cons_of_mem _ ?_))) (tab_len _ _) (by omega)
theorem refMin_c (A B : Cu) (v u : Value) (own : Nat → Prop) (W : World) (hl : ∀ b, own b → b < W.heap.size) (hv : Has own W (IsCu · v A)) (hu : Has own W (IsCu · u B)) :
    Calls Try.prog 31 ⟨[v, u]⟩ W (Ret W (CvR own (minR A B))) := by
  obtain ⟨a0, c0, rfl, hV, l1, l2⟩ := isCu_open hv
  obtain ⟨a1, c1, rfl, hU, m1, m2⟩ := isCu_open hu
  have hM := (((Mm.start hl).known hv).known hu)
  refine f_start Try.func31 rfl Try.ntmps31 rfl rfl ?_; intro a hF
  unfold minR
  by_cases hp : pairE A B = 0
  case neg =>
    rw [if_pos hp]
    (repeat' (first | (with_reducible refine w_seq ?_) | (with_reducible refine c_region ?_) | (with_reducible refine s_nil ?_) | ((with_reducible apply s_call (f := 51) hF hM); exact rfl; exact rfl; exact rfl; exact rfl; exact rfl; exact (refPair_c A B _ _ _ _ hM.lt (hM.facts (IsCu · _ A) (by (repeat (first | exact List.mem_cons_self | refine List.mem_cons_of_mem _ ?_)))) (hM.facts (IsCu · _ B) (by (repeat (first | exact List.mem_cons_self | refine List.mem_cons_of_mem _ ?_))))); clear hF hM a; rintro v w a rfl - hM hF) | (with_reducible refine q_then_n ?_) | ((with_reducible apply s_pure hF); exact rfl; exact rfl; exact rfl; (first | exact trivial | omega | decide); clear hF a; intro a hF) | ((with_reducible apply s_load hF hM); exact rfl; exact rfl; (repeat (first | exact List.mem_cons_self | refine List.mem_cons_of_mem _ ?_)); exact rfl; exact rfl; clear hF a; intro a hF) | ((with_reducible apply s_store hF hM); exact rfl; exact rfl; exact rfl; exact rfl; (repeat (first | exact Upd.z | apply Upd.s)); exact rfl; exact rfl; exact rfl; clear hM; intro w hM) | ((with_reducible apply s_alloc hF hM); exact rfl; exact rfl; exact rfl; clear hF hM a; intro b w a hM hF) | ((with_reducible apply s_box hF hM); exact rfl; exact rfl; exact rfl; exact rfl; clear hF hM a; intro b w a hM hF) | (with_reducible refine w_ret ?_) | (with_reducible refine q_then_r ?_) | ((with_reducible apply c_dec hF); exact rfl; all_goals intro hc; all_goals (try (exfalso; omega)))))
    (apply f_ret Try.results31 hF hM; (repeat (first | exact RL.nil | (apply RL.tmp; exact rfl) | (apply RL.cell; exact rfl; (repeat (first | exact List.mem_cons_self | refine List.mem_cons_of_mem _ ?_)); exact rfl))); refine Ret.mk hM.since ?_; dsimp only [resV])
    exact cvR_z rfl
  rw [if_neg (by omega)]
  obtain ⟨ha, hb⟩ := pairE_ok hp
  have k0 := ha.l0
  have k1 := ha.l1
  have k2 := hb.l0
  have k3 := hb.l1
  have e1 := vl_bd ha (k := max A.V.length B.V.length - 1) (by omega)
  have e2 := vl_bd hb (k := max A.V.length B.V.length - 1) (by omega)
  have e3 := cross_bd (p := vl A (max A.V.length B.V.length - 1)) (sp := A.S) (q := vl B (max A.V.length B.V.length - 1)) (sq := B.S) (by omega) (by omega) ha.s hb.s
  have e4 : max (A.V.length : Int) B.V.length - 1 = ((max A.V.length B.V.length - 1 : Nat) : Int) := by omega
  rw [e4, show val A ((max A.V.length B.V.length - 1 : Nat) : Int) = vl A (max A.V.length B.V.length - 1) from rfl, show val B ((max A.V.length B.V.length - 1 : Nat) : Int) = vl B (max A.V.length B.V.length - 1) from rfl]
  generalize hK : cross (vl A (max A.V.length B.V.length - 1)) A.S (vl B (max A.V.length B.V.length - 1)) B.S = kk at e3 ⊢
  (repeat' (first | (with_reducible refine w_seq ?_) | (with_reducible refine c_region ?_) | (with_reducible refine s_nil ?_) | ((with_reducible apply s_call (f := 51) hF hM); exact rfl; exact rfl; exact rfl; exact rfl; exact rfl; exact (refPair_c A B _ _ _ _ hM.lt (hM.facts (IsCu · _ A) (by (repeat (first | exact List.mem_cons_self | refine List.mem_cons_of_mem _ ?_)))) (hM.facts (IsCu · _ B) (by (repeat (first | exact List.mem_cons_self | refine List.mem_cons_of_mem _ ?_))))); clear hF hM a; rintro v w a rfl - hM hF) | (with_reducible refine q_then_n ?_) | ((with_reducible apply s_pure hF); exact rfl; exact rfl; exact rfl; (first | exact trivial | omega | decide); clear hF a; intro a hF) | ((with_reducible apply s_load hF hM); exact rfl; exact rfl; (repeat (first | exact List.mem_cons_self | refine List.mem_cons_of_mem _ ?_)); exact rfl; exact rfl; clear hF a; intro a hF) | ((with_reducible apply s_alloc hF hM); exact rfl; exact rfl; exact rfl; clear hF hM a; intro b w a hM hF) | ((with_reducible apply s_box hF hM); exact rfl; exact rfl; exact rfl; exact rfl; clear hF hM a; intro b w a hM hF) | (with_reducible refine w_skip ?_) | ((with_reducible apply c_dec hF); exact rfl; all_goals intro hc; all_goals (try (exfalso; omega)))))
  rename_i b2 _ b3 _ _
  refine c_draw (fun i => Nat.ble 14 i) hM ?_; clear hM; intro w hM
  (first | (apply t_load (i := 0) hF rfl rfl rfl; (repeat (first | exact List.mem_cons_self | refine List.mem_cons_of_mem _ ?_)); exact rfl; exact rfl; kernel_rfl; exact hM.sm; exact (fun _ _ _ h => h); clear hF a; intro a hF))
  (first | (refine t_pure (i := 1) hF rfl rfl rfl rfl (by kernel_rfl) hM.sm (fun _ _ _ h => h) ?_ ?_; (first | exact trivial | omega | decide); clear hF a; intro a hF))
  (first | (refine t_pure (i := 2) hF rfl rfl rfl rfl (by kernel_rfl) hM.sm (fun _ _ _ h => h) ?_ ?_; (first | exact trivial | omega | decide); clear hF a; intro a hF))
  (first | (refine t_pure (i := 4) hF rfl rfl rfl rfl (by kernel_rfl) hM.sm (fun _ _ _ h => h) ?_ ?_; (first | exact trivial | omega | decide); clear hF a; intro a hF))
  (first | (apply t_load (i := 5) hF rfl rfl rfl; (repeat (first | exact List.mem_cons_self | refine List.mem_cons_of_mem _ ?_)); exact rfl; exact rfl; kernel_rfl; exact hM.sm; exact (fun _ _ _ h => h); clear hF a; intro a hF))
  (first | (apply t_load (i := 6) hF rfl rfl rfl; (repeat (first | exact List.mem_cons_self | refine List.mem_cons_of_mem _ ?_)); exact rfl; exact rfl; kernel_rfl; exact hM.sm; exact (fun _ _ _ h => h); clear hF a; intro a hF))
  (first | (refine t_pure (i := 7) hF rfl rfl rfl rfl (by kernel_rfl) hM.sm (fun _ _ _ h => h) ?_ ?_; (first | exact trivial | omega | decide); clear hF a; intro a hF))
  (first | (refine t_pure (i := 8) hF rfl rfl rfl rfl (by kernel_rfl) hM.sm (fun _ _ _ h => h) ?_ ?_; (first | exact trivial | omega | decide); clear hF a; intro a hF))
  (first | (refine t_pure (i := 10) hF rfl rfl rfl rfl (by kernel_rfl) hM.sm (fun _ _ _ h => h) ?_ ?_; (first | exact trivial | omega | decide); clear hF a; intro a hF))
  (first | (apply t_load (i := 11) hF rfl rfl rfl; (repeat (first | exact List.mem_cons_self | refine List.mem_cons_of_mem _ ?_)); exact rfl; exact rfl; kernel_rfl; exact hM.sm; exact (fun _ _ _ h => h); clear hF a; intro a hF))
  refine t_one (i := 3) hF rfl (by kernel_rfl) rfl ?_
  intro K hK
  (apply x_call hF hM; exact rfl; exact rfl; exact rfl; exact rfl; exact (value_z A ha (max A.V.length B.V.length - 1) _ e4 (by omega) _ _ _ hM.lt (hM.facts (IsCu · _ A) (by (repeat (first | exact List.mem_cons_self | refine List.mem_cons_of_mem _ ?_))))); clear hF hM a; rintro v w a rfl - hM hF)
  refine hK _ _ (fun _ => hM.sm) ?_; clear hK
  refine t_one (i := 9) hF rfl (by kernel_rfl) rfl ?_
  intro K hK
  (apply x_call hF hM; exact rfl; exact rfl; exact rfl; exact rfl; exact (value_z B hb (max A.V.length B.V.length - 1) _ e4 (by omega) _ _ _ hM.lt (hM.facts (IsCu · _ B) (by (repeat (first | exact List.mem_cons_self | refine List.mem_cons_of_mem _ ?_))))); clear hF hM a; rintro v w a rfl - hM hF)
  refine hK _ _ (fun _ => hM.sm) ?_; clear hK
  refine t_one (i := 12) hF rfl (by kernel_rfl) rfl ?_
  intro K hK
  (apply x_call hF hM; exact rfl; exact rfl; exact rfl; exact rfl; exact (refCrossing_c _ _ _ _ _ (by omega) (by omega) ha.s hb.s); clear hF hM a; rintro v w a rfl - hM hF)
  refine hK _ _ (fun _ => hM.sm) ?_; clear hK
  (first | (refine t_pure (i := 13) hF rfl rfl rfl rfl (by kernel_rfl) hM.sm (fun _ _ _ h => h) ?_ ?_; (first | exact trivial | omega | decide); clear hF a; intro a hF))
  refine t_done (by kernel_rfl) ?_
  rw [hK] at hF
  clear e1 e2 e4 hK
  obtain ⟨N, hN⟩ : ∃ N, max A.V.length B.V.length + kk.toNat = N := ⟨_, rfl⟩
  have hNz : max (A.V.length : Int) B.V.length + kk = (N : Int) := by omega
  rw [hN]
  by_cases hlong : 4096 < N
  · (repeat' (first | (with_reducible refine w_seq ?_) | (with_reducible refine c_region ?_) | (with_reducible refine s_nil ?_) | (with_reducible refine q_then_n ?_) | ((with_reducible apply s_pure hF); exact rfl; exact rfl; exact rfl; (first | exact trivial | omega | decide); clear hF a; intro a hF) | ((with_reducible apply s_store hF hM); exact rfl; exact rfl; exact rfl; exact rfl; (repeat (first | exact Upd.z | apply Upd.s)); exact rfl; exact rfl; exact rfl; clear hM; intro w hM) | (with_reducible refine w_ret ?_) | (with_reducible refine q_then_r ?_) | ((with_reducible apply c_dec hF); exact rfl; all_goals intro hc; all_goals (try (exfalso; omega)))))
    (apply f_ret Try.results31 hF hM; (repeat (first | exact RL.nil | (apply RL.tmp; exact rfl) | (apply RL.cell; exact rfl; (repeat (first | exact List.mem_cons_self | refine List.mem_cons_of_mem _ ?_)); exact rfl))); refine Ret.mk hM.since ?_; dsimp only [resV])
    exact cvR_z (fin_long (by rw [tab_len]; exact hlong))
  (repeat' (first | (with_reducible refine w_seq ?_) | (with_reducible refine c_region ?_) | (with_reducible refine s_nil ?_) | (with_reducible refine q_then_n ?_) | ((with_reducible apply s_pure hF); exact rfl; exact rfl; exact rfl; (first | exact trivial | omega | decide); clear hF a; intro a hF) | (with_reducible refine w_skip ?_) | (with_reducible refine w_block ?_) | ((with_reducible apply c_dec hF); exact rfl; all_goals intro hc; all_goals (try (exfalso; omega)))))
  replace hM := hM.nilRow 3 1
  have hs0 : (tab (fun t => min (vl A t) (vl B t)) 0).map (Value.int .i64) = [] := by simp [tab]
  refine c_loop (m := N) (fun m a w' => ∃ (k : Nat) (ga : Option Addr) (gc : Nat), m + k = N ∧
    Fr _ [] [(10, .int .i64 k), (9, .slice ga k gc), (7, .int .i64 (max (A.V.length : Int) B.V.length)), (8, .int .i64 kk), (2, .pointer (some ⟨b2, 0, none⟩)), (3, .pointer (some ⟨b3, 0, none⟩)), (4, .pointer (some ⟨b, 0, none⟩)), (5, .int .i64 0)] a ∧
    Mm own W [⟨b, ⟨[.slice none 0 0, .int .i64 0]⟩, 24⟩, ⟨b3, ⟨[.slice a1 B.V.length c1, .int .i64 B.S]⟩, 24⟩, ⟨b2, ⟨[.slice a0 A.V.length c0, .int .i64 A.S]⟩, 24⟩] [⟨3, 1, .slice ga k gc, k, (tab (fun t => min (vl A t) (vl B t)) k).map (Value.int .i64)⟩]
      [(IsCu · (.agg #[.slice a1 B.V.length c1, .int .i64 B.S]) B), (IsCu · (.agg #[.slice a0 A.V.length c0, .int .i64 A.S]) A)] w') ⟨0, none, 0, by omega, hF.sub (by repeat (first | exact Sub.nil | refine Sub.cons rfl (by first | with_reducible rfl | (refine congrArg (Value.int _) ?_; omega) | exact rfl) ?_)), by rw [hs0]; exact hM⟩ ?_
  clear hF hM a
  rintro m a w' ⟨k, ga, gc, hk, hF, hM⟩
  by_cases hlt : k < N
  · (repeat' (first | (with_reducible refine w_seq ?_) | (with_reducible refine c_region ?_) | (with_reducible refine s_nil ?_) | (with_reducible refine q_then_n ?_) | ((with_reducible apply s_pure hF); exact rfl; exact rfl; exact rfl; (first | exact trivial | omega | decide); clear hF a; intro a hF) | (with_reducible refine w_skip ?_) | (with_reducible refine w_block ?_) | ((with_reducible apply c_dec hF); exact rfl; all_goals intro hc; all_goals (try (exfalso; omega)))))
    refine c_draw (fun i => Nat.ble 11 i) hM ?_; clear hM; intro w hM
    (first | (refine t_pure (i := 0) hF rfl rfl rfl rfl (by kernel_rfl) hM.sm (fun _ _ _ h => h) ?_ ?_; (first | exact trivial | omega | decide); clear hF a; intro a hF))
    (first | (apply t_load (i := 1) hF rfl rfl rfl; (repeat (first | exact List.mem_cons_self | refine List.mem_cons_of_mem _ ?_)); exact rfl; exact rfl; kernel_rfl; exact hM.sm; exact (fun _ _ _ h => h); clear hF a; intro a hF))
    (first | (refine t_pure (i := 2) hF rfl rfl rfl rfl (by kernel_rfl) hM.sm (fun _ _ _ h => h) ?_ ?_; (first | exact trivial | omega | decide); clear hF a; intro a hF))
    (first | (apply t_load (i := 4) hF rfl rfl rfl; (repeat (first | exact List.mem_cons_self | refine List.mem_cons_of_mem _ ?_)); exact rfl; exact rfl; kernel_rfl; exact hM.sm; exact (fun _ _ _ h => h); clear hF a; intro a hF))
    (first | (refine t_pure (i := 5) hF rfl rfl rfl rfl (by kernel_rfl) hM.sm (fun _ _ _ h => h) ?_ ?_; (first | exact trivial | omega | decide); clear hF a; intro a hF))
    refine t_one (i := 3) hF rfl (by kernel_rfl) rfl ?_
    intro K hK
    (apply x_call hF hM; exact rfl; exact rfl; exact rfl; exact rfl; exact (value_z A ha k _ rfl (by omega) _ _ _ hM.lt (hM.facts (IsCu · _ A) (by (repeat (first | exact List.mem_cons_self | refine List.mem_cons_of_mem _ ?_))))); clear hF hM a; rintro v w a rfl - hM hF)
    refine hK _ _ (fun _ => hM.sm) ?_; clear hK
    refine t_one (i := 6) hF rfl (by kernel_rfl) rfl ?_
    intro K hK
    (apply x_call hF hM; exact rfl; exact rfl; exact rfl; exact rfl; exact (value_z B hb k _ rfl (by omega) _ _ _ hM.lt (hM.facts (IsCu · _ B) (by (repeat (first | exact List.mem_cons_self | refine List.mem_cons_of_mem _ ?_))))); clear hF hM a; rintro v w a rfl - hM hF)
    refine hK _ _ (fun _ => hM.sm) ?_; clear hK
    (first | (refine t_pure (i := 7) hF rfl rfl rfl rfl (by kernel_rfl) hM.sm (fun _ _ _ h => h) ?_ ?_; (first | exact trivial | omega | decide); clear hF a; intro a hF))
    refine t_one (i := 8) hF rfl (by kernel_rfl) rfl ?_
    intro K hK
    (refine x_lit hF hM rfl rfl rfl ?_; clear hF hM a; intro bl w a hM hF)
    refine hK _ _ (fun _ => (hM.sm.sub (fun x hx => by repeat (first | exact hx | refine List.mem_cons_of_mem _ ?_)) (fun _ h => by repeat (first | exact h | refine List.mem_cons_of_mem _ ?_)))) ?_; clear hK
    refine t_one (i := 9) hF rfl (by kernel_rfl) rfl ?_
    intro K hK
    (apply x_app hF hM rfl rfl rfl; (repeat (first | exact List.mem_cons_self | refine List.mem_cons_of_mem _ ?_)); (repeat (first | exact Kth.z | apply Kth.s)); exact rfl; exact rfl; exact rfl; exact rfl; omega; clear hF hM a; intro g cap w a hM hF; dsimp only [List.set] at hM)
    refine hK _ _ (fun _ => (hM.sm.sub (fun x hx => by repeat (first | exact hx | refine List.mem_cons_of_mem _ ?_)) (fun _ h => by repeat (first | exact h | refine List.mem_cons_of_mem _ ?_)))) ?_; clear hK
    (first | (refine t_pure (i := 10) hF rfl rfl rfl rfl (by kernel_rfl) (hM.sm.sub (fun x hx => by repeat (first | exact hx | refine List.mem_cons_of_mem _ ?_)) (fun _ h => by repeat (first | exact h | refine List.mem_cons_of_mem _ ?_))) (fun _ _ _ h => h) ?_ ?_; (first | exact trivial | omega | decide); clear hF a; intro a hF))
    refine t_done (by kernel_rfl) ?_
    (repeat' (first | (with_reducible refine c_region ?_) | (with_reducible refine s_nil ?_) | (with_reducible refine q_then_n ?_) | ((with_reducible apply s_pure hF); exact rfl; exact rfl; exact rfl; (first | exact trivial | omega | decide); clear hF a; intro a hF) | (with_reducible refine q_blk_n ?_)))
    refine ⟨m - 1, by omega, k + 1, some ⟨g, 0, none⟩, cap, by omega, hF.sub (by repeat (first | exact Sub.nil | refine Sub.cons rfl (by first | with_reducible rfl | (refine congrArg (Value.int _) ?_; omega) | exact rfl) ?_)), ?_⟩
    rw [tab_succ, List.map_append]
    exact hM.sub (.cons _ (.refl _)) (.refl _) (fun _ h => h)
  · obtain rfl : k = N := by omega
    clear hlt
    obtain ⟨f1, f2, f3, f4, hfv⟩ := finV_agg ga gc (tab (fun t => min (vl A t) (vl B t)) k) (min A.S B.S)
    (repeat' (first | (with_reducible refine w_seq ?_) | (with_reducible refine c_region ?_) | (with_reducible refine s_nil ?_) | ((with_reducible apply s_call (f := 54) hF hM); exact rfl; exact rfl; exact rfl; exact rfl; exact rfl; exact (hfv ▸ finish_c (tab (fun t => min (vl A t) (vl B t)) k) (min A.S B.S) _ (tab_len _ _) ga gc own _ (fun b h => hM.lt b (.inl h)) (hM.rowFact (by (repeat (first | exact List.mem_cons_self | refine List.mem_cons_of_mem _ ?_)))) (by omega)); clear hF hM a; rintro v w a rfl - hM hF) | (with_reducible refine q_then_n ?_) | ((with_reducible apply s_pure hF); exact rfl; exact rfl; exact rfl; (first | exact trivial | omega | decide); clear hF a; intro a hF) | ((with_reducible apply s_load hF hM); exact rfl; exact rfl; (repeat (first | exact List.mem_cons_self | refine List.mem_cons_of_mem _ ?_)); exact rfl; exact rfl; clear hF a; intro a hF) | ((with_reducible apply s_store hF hM); exact rfl; exact rfl; exact rfl; exact rfl; (repeat (first | exact Upd.z | apply Upd.s)); exact rfl; exact rfl; exact rfl; clear hM; intro w hM) | (with_reducible refine w_exit ?_) | (with_reducible refine w_ret ?_) | (with_reducible refine q_then_x ?_) | (with_reducible refine q_blk_x ?_) | ((with_reducible apply c_dec hF); exact rfl; all_goals intro hc; all_goals (try (exfalso; omega)))))
    (apply f_ret Try.results31 hF hM; (repeat (first | exact RL.nil | (apply RL.tmp; exact rfl) | (apply RL.cell; exact rfl; (repeat (first | exact List.mem_cons_self | refine List.mem_cons_of_mem _ ?_)); exact rfl))); refine Ret.mk hM.since ?_; dsimp only [resV])
    rw [← hfv]
    exact fin_row hM (e := 3) (by (repeat (first | exact List.mem_cons_self | refine List.mem_cons_of_mem _ ?_))) (tab_len _ _) (by omega)
theorem at2_c (A B : Cu) (ha : Ok A) (hb : Ok B) (v u : Value) (t : Nat) (ht : t ≤ 20000) (own : Nat → Prop) (W : World) (hl : ∀ b, own b → b < W.heap.size) (hv : Has own W (IsCu · v A)) (hu : Has own W (IsCu · u B)) :
    Calls Try.prog 53 ⟨[v, u, .int .i64 t]⟩ W (Ret W fun x _ => x = .int .i64 (lst (vl A) (vl B) t t)) := by
  obtain ⟨a0, c0, rfl, hV, l1, l2⟩ := isCu_open hv
  obtain ⟨a1, c1, rfl, hU, m1, m2⟩ := isCu_open hu
  have hM := (((Mm.start hl).known hv).known hu)
  have e1 := vl_bd ha (k := 0) (by omega)
  have e2 := vl_bd hb (k := t) (by omega)
  refine f_start Try.func53 rfl Try.ntmps53 rfl rfl ?_; intro a hF
  (repeat' (first | (with_reducible refine w_seq ?_) | (with_reducible refine c_region ?_) | (with_reducible refine s_nil ?_) | (with_reducible refine q_then_n ?_) | ((with_reducible apply s_pure hF); exact rfl; exact rfl; exact rfl; (first | exact trivial | omega | decide); clear hF a; intro a hF) | ((with_reducible apply s_box hF hM); exact rfl; exact rfl; exact rfl; exact rfl; clear hF hM a; intro b w a hM hF)))
  rename_i b3 _
  refine c_draw (fun i => Nat.ble 7 i) hM ?_; clear hM; intro w hM
  (first | (apply t_load (i := 0) hF rfl rfl rfl; (repeat (first | exact List.mem_cons_self | refine List.mem_cons_of_mem _ ?_)); exact rfl; exact rfl; kernel_rfl; exact hM.sm; exact (fun _ _ _ h => h); clear hF a; intro a hF))
  (first | (apply t_load (i := 2) hF rfl rfl rfl; (repeat (first | exact List.mem_cons_self | refine List.mem_cons_of_mem _ ?_)); exact rfl; exact rfl; kernel_rfl; exact hM.sm; exact (fun _ _ _ h => h); clear hF a; intro a hF))
  (first | (refine t_pure (i := 3) hF rfl rfl rfl rfl (by kernel_rfl) hM.sm (fun _ _ _ h => h) ?_ ?_; (first | exact trivial | omega | decide); clear hF a; intro a hF))
  refine t_one (i := 1) hF rfl (by kernel_rfl) rfl ?_
  intro K hK
  (apply x_call hF hM; exact rfl; exact rfl; exact rfl; exact rfl; exact (value_z A ha 0 _ rfl (by omega) _ _ _ hM.lt (hM.facts (IsCu · _ A) (by (repeat (first | exact List.mem_cons_self | refine List.mem_cons_of_mem _ ?_))))); clear hF hM a; rintro v w a rfl - hM hF)
  refine hK _ _ (fun _ => hM.sm) ?_; clear hK
  refine t_one (i := 4) hF rfl (by kernel_rfl) rfl ?_
  intro K hK
  (apply x_call hF hM; exact rfl; exact rfl; exact rfl; exact rfl; exact (value_z B hb t _ rfl (by omega) _ _ _ hM.lt (hM.facts (IsCu · _ B) (by (repeat (first | exact List.mem_cons_self | refine List.mem_cons_of_mem _ ?_))))); clear hF hM a; rintro v w a rfl - hM hF)
  refine hK _ _ (fun _ => hM.sm) ?_; clear hK
  (first | (refine t_pure (i := 5) hF rfl rfl rfl rfl (by kernel_rfl) hM.sm (fun _ _ _ h => h) ?_ ?_; (first | exact trivial | omega | decide); clear hF a; intro a hF))
  (first | (refine t_pure (i := 6) hF rfl rfl rfl rfl (by kernel_rfl) hM.sm (fun _ _ _ h => h) ?_ ?_; (first | exact trivial | omega | decide); clear hF a; intro a hF))
  refine t_done (by kernel_rfl) ?_
  (repeat' (first | (with_reducible refine w_seq ?_) | (with_reducible refine c_region ?_) | (with_reducible refine s_nil ?_) | (with_reducible refine q_then_n ?_) | ((with_reducible apply s_pure hF); exact rfl; exact rfl; exact rfl; (first | exact trivial | omega | decide); clear hF a; intro a hF) | (with_reducible refine w_block ?_)))
  refine c_loop (m := t) (fun m a w' => ∃ (s : Nat), m + s = t ∧ Fr _ [] [(8, .int .i64 ((s : Int) + 1)), (7, .int .i64 (lst (vl A) (vl B) t s)), (2, .int .i64 t), (3, .pointer (some ⟨b3, 0, none⟩)), (4, .pointer (some ⟨b, 0, none⟩))] a ∧
    Mm own W [⟨b, ⟨[.slice a1 B.V.length c1, .int .i64 B.S]⟩, 24⟩, ⟨b3, ⟨[.slice a0 A.V.length c0, .int .i64 A.S]⟩, 24⟩] []
      [(IsCu · (.agg #[.slice a1 B.V.length c1, .int .i64 B.S]) B), (IsCu · (.agg #[.slice a0 A.V.length c0, .int .i64 A.S]) A)] w') ⟨0, by omega, hF.sub (by repeat (first | exact Sub.nil | refine Sub.cons rfl (by first | with_reducible rfl | (refine congrArg (Value.int _) ?_; omega) | exact rfl) ?_)), hM⟩ ?_
  clear hF hM a
  rintro m a w' ⟨s, hs, hF, hM⟩
  by_cases hlt : s < t
  · have e3 := lst_bd' ha hb (r := t) (s := s) ht (by omega)
    have e4 := vl_bd ha (k := s + 1) (by omega)
    have e5 := vl_bd hb (k := t - (s + 1)) (by omega)
    (repeat' (first | (with_reducible refine w_seq ?_) | (with_reducible refine c_region ?_) | (with_reducible refine s_nil ?_) | (with_reducible refine q_then_n ?_) | ((with_reducible apply s_pure hF); exact rfl; exact rfl; exact rfl; (first | exact trivial | omega | decide); clear hF a; intro a hF) | (with_reducible refine w_skip ?_) | (with_reducible refine w_block ?_) | ((with_reducible apply c_dec hF); exact rfl; all_goals intro hc; all_goals (try (exfalso; omega)))))
    refine c_draw (fun i => Nat.ble 12 i) hM ?_; clear hM; intro w hM
    (first | (refine t_pure (i := 0) hF rfl rfl rfl rfl (by kernel_rfl) hM.sm (fun _ _ _ h => h) ?_ ?_; (first | exact trivial | omega | decide); clear hF a; intro a hF))
    (first | (apply t_load (i := 1) hF rfl rfl rfl; (repeat (first | exact List.mem_cons_self | refine List.mem_cons_of_mem _ ?_)); exact rfl; exact rfl; kernel_rfl; exact hM.sm; exact (fun _ _ _ h => h); clear hF a; intro a hF))
    (first | (refine t_pure (i := 2) hF rfl rfl rfl rfl (by kernel_rfl) hM.sm (fun _ _ _ h => h) ?_ ?_; (first | exact trivial | omega | decide); clear hF a; intro a hF))
    (first | (apply t_load (i := 4) hF rfl rfl rfl; (repeat (first | exact List.mem_cons_self | refine List.mem_cons_of_mem _ ?_)); exact rfl; exact rfl; kernel_rfl; exact hM.sm; exact (fun _ _ _ h => h); clear hF a; intro a hF))
    (first | (refine t_pure (i := 5) hF rfl rfl rfl rfl (by kernel_rfl) hM.sm (fun _ _ _ h => h) ?_ ?_; (first | exact trivial | omega | decide); clear hF a; intro a hF))
    (first | (refine t_pure (i := 6) hF rfl rfl rfl rfl (by kernel_rfl) hM.sm (fun _ _ _ h => h) ?_ ?_; (first | exact trivial | omega | decide); clear hF a; intro a hF))
    (first | (refine t_pure (i := 7) hF rfl rfl rfl rfl (by kernel_rfl) hM.sm (fun _ _ _ h => h) ?_ ?_; (first | exact trivial | omega | decide); clear hF a; intro a hF))
    refine t_one (i := 3) hF rfl (by kernel_rfl) rfl ?_
    intro K hK
    (apply x_call hF hM; exact rfl; exact rfl; exact rfl; exact rfl; exact (value_z A ha (s + 1) _ rfl (by omega) _ _ _ hM.lt (hM.facts (IsCu · _ A) (by (repeat (first | exact List.mem_cons_self | refine List.mem_cons_of_mem _ ?_))))); clear hF hM a; rintro v w a rfl - hM hF)
    refine hK _ _ (fun _ => hM.sm) ?_; clear hK
    refine t_one (i := 8) hF rfl (by kernel_rfl) rfl ?_
    intro K hK
    (apply x_call hF hM; exact rfl; exact rfl; exact rfl; exact rfl; exact (value_z B hb (t - (s + 1)) _ (by omega) (by omega) _ _ _ hM.lt (hM.facts (IsCu · _ B) (by (repeat (first | exact List.mem_cons_self | refine List.mem_cons_of_mem _ ?_))))); clear hF hM a; rintro v w a rfl - hM hF)
    refine hK _ _ (fun _ => hM.sm) ?_; clear hK
    (first | (refine t_pure (i := 9) hF rfl rfl rfl rfl (by kernel_rfl) hM.sm (fun _ _ _ h => h) ?_ ?_; (first | exact trivial | omega | decide); clear hF a; intro a hF))
    (first | (refine t_pure (i := 10) hF rfl rfl rfl rfl (by kernel_rfl) hM.sm (fun _ _ _ h => h) ?_ ?_; (first | exact trivial | omega | decide); clear hF a; intro a hF))
    (first | (refine t_pure (i := 11) hF rfl rfl rfl rfl (by kernel_rfl) hM.sm (fun _ _ _ h => h) ?_ ?_; (first | exact trivial | omega | decide); clear hF a; intro a hF))
    refine t_done (by kernel_rfl) ?_
    (repeat' (first | (with_reducible refine c_region ?_) | (with_reducible refine s_nil ?_) | (with_reducible refine q_then_n ?_) | ((with_reducible apply s_pure hF); exact rfl; exact rfl; exact rfl; (first | exact trivial | omega | decide); clear hF a; intro a hF) | (with_reducible refine q_blk_n ?_)))
    exact ⟨m - 1, by omega, s + 1, by omega, hF.sub (by repeat (first | exact Sub.nil | refine Sub.cons rfl (by first | with_reducible rfl | (refine congrArg (Value.int _) ?_; omega) | exact rfl) ?_)), hM⟩
  · obtain rfl : s = t := by omega
    (repeat' (first | (with_reducible refine w_seq ?_) | (with_reducible refine c_region ?_) | (with_reducible refine s_nil ?_) | (with_reducible refine q_then_n ?_) | ((with_reducible apply s_pure hF); exact rfl; exact rfl; exact rfl; (first | exact trivial | omega | decide); clear hF a; intro a hF) | (with_reducible refine w_exit ?_) | (with_reducible refine w_ret ?_) | (with_reducible refine q_then_x ?_) | (with_reducible refine q_blk_x ?_) | ((with_reducible apply c_dec hF); exact rfl; all_goals intro hc; all_goals (try (exfalso; omega)))))
    (apply f_ret Try.results53 hF hM; (repeat (first | exact RL.nil | (apply RL.tmp; exact rfl) | (apply RL.cell; exact rfl; (repeat (first | exact List.mem_cons_self | refine List.mem_cons_of_mem _ ?_)); exact rfl))); refine Ret.mk hM.since ?_; dsimp only [resV])
end Go.Proofs.Ytpkledpnicocmaa
