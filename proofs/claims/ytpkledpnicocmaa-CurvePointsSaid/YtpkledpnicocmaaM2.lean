/- Layer 55: windows. -/
import Derived.Test.YtpkledpnicocmaaVd
import Derived.Test.YtpkledpnicocmaaV4
import Derived.Test.YtpkledpnicocmaaC5e
set_option linter.unusedSimpArgs false
set_option linter.unusedVariables false
namespace Go.Proofs.Ytpkledpnicocmaa
open Go.RowKit Go.Shelf C55
def smallB (l : List Int) (S : Int) : Bool := decide (l.length ≤ 30) && (decide (0 ≤ S) && (decide (S ≤ 1000) && !(l.any fun n => decide (n < 0) || decide (1000 < n))))
theorem smallB_iff {l : List Int} {S : Int} : smallB l S = true ↔ Sml l S := by
  unfold smallB
  simp only [Bool.and_eq_true, decide_eq_true_eq, Bool.not_eq_true', List.any_eq_false, Bool.or_eq_true, not_or]
  constructor
  · rintro ⟨h1, h2, h3, h4⟩
    exact ⟨h1, fun x hx => by have := h4 x hx; omega, h2, h3⟩
  · intro h
    exact ⟨h.n, h.s.1, h.s.2, fun x hx => by have := h.v x hx; omega⟩
theorem small1_c (n : Int) (w : World) : Calls Try.prog 60 ⟨[.int .i64 n]⟩ w (Ret w fun v _ => v = .bool (decide (n < 0) || decide (1000 < n))) := by
  have hM := Mm.start (own := fun _ => False) (w := w) (fun _ h => h.elim)
  refine f_start Try.func60 rfl Try.ntmps60 rfl rfl ?_; intro a hF
  (repeat' (first | (with_reducible refine w_seq ?_) | (with_reducible refine c_region ?_) | (with_reducible refine s_nil ?_) | (with_reducible refine q_then_n ?_) | ((with_reducible apply s_pure hF); exact rfl; exact rfl; exact rfl; (first | exact trivial | omega | decide); clear hF a; intro a hF) | (with_reducible refine w_ret ?_) | ((with_reducible apply s_skip hF); exact rfl; exact rfl; clear hF a; intro a hF) | ((with_reducible apply g_dec hF); exact rfl; exact rfl; all_goals (clear hF; intro hc hF); all_goals (try (exfalso; omega)))))
  all_goals (apply f_ret Try.results60 hF hM; (repeat (first | exact RL.nil | (apply RL.tmp; exact rfl) | (apply RL.cell; exact rfl; (repeat (first | exact List.mem_cons_self | refine List.mem_cons_of_mem _ ?_)); exact rfl))); refine Ret.mk hM.since ?_; dsimp only [resV])
  all_goals simp [*]
theorem containsSm_c (a : Option Addr) (c : Nat) (l : List Int) (w : World) (hl : l.length ≤ 9223372036854775807) (hr : Reads (Value.int .i64) w a l) :
    Calls Try.prog 39 ⟨[.slice a l.length c, .func (.func 60) #[] #[]]⟩ w (Ret w fun v _ => v = .bool (l.any fun n => decide (n < 0) || decide (1000 < n))) :=
  Ret.of (containsFunc_any _ #[] (fun n => decide (n < 0) || decide (1000 < n)) a c l w hl hr (fun x w' _ => Ret.to (small1_c x w')) (enters_of Try.func60 (by kernel_rfl) rfl))
theorem small_c (l : List Int) (S : Int) (a0 : Option Addr) (c0 : Nat) (own : Nat → Prop) (W : World) (hl : ∀ b, own b → b < W.heap.size) (hlen : l.length ≤ 9223372036854775807) (hv : Has own W (RdF (Value.int .i64) a0 l)) :
    Calls Try.prog 28 ⟨[.slice a0 l.length c0, .int .i64 S]⟩ W (Ret W fun x _ => x = .bool (smallB l S)) := by
  have hM := (Mm.start hl).known hv
  have hA := fun w hr => containsSm_c a0 c0 l w hlen hr
  unfold smallB
  generalize (l.any fun n => decide (n < 0) || decide (1000 < n)) = p at hA ⊢
  refine f_start Try.func28 rfl Try.ntmps28 rfl rfl ?_; intro a hF
  (repeat' (first | (with_reducible refine w_seq ?_) | (with_reducible refine c_region ?_) | (with_reducible refine s_nil ?_) | ((with_reducible apply s_call (f := 39) hF hM); exact rfl; exact rfl; exact rfl; exact rfl; exact rfl; exact (hA _ (hM.fact (f := RdF (Value.int .i64) _ _) (by (repeat (first | exact List.mem_cons_self | refine List.mem_cons_of_mem _ ?_))))); clear hF hM a; rintro v w a rfl - hM hF) | (with_reducible refine q_then_n ?_) | ((with_reducible apply s_pure hF); exact rfl; exact rfl; exact rfl; (first | exact trivial | omega | decide); clear hF a; intro a hF) | (with_reducible refine w_ret ?_) | ((with_reducible apply s_skip hF); exact rfl; exact rfl; clear hF a; intro a hF) | ((with_reducible apply g_dec hF); exact rfl; exact rfl; all_goals (clear hF; intro hc hF); all_goals (try (exfalso; omega)))))
  all_goals (apply f_ret Try.results28 hF hM; (repeat (first | exact RL.nil | (apply RL.tmp; exact rfl) | (apply RL.cell; exact rfl; (repeat (first | exact List.mem_cons_self | refine List.mem_cons_of_mem _ ?_)); exact rfl))); refine Ret.mk hM.since ?_; dsimp only [resV])
  all_goals (clear hF hM hA; congr 1)
  all_goals first | (rw [decide_eq_true (by omega), decide_eq_true (by omega), decide_eq_true (by omega)]; simp; done) | (rw [decide_eq_true (by omega), decide_eq_true (by omega), decide_eq_false (by omega)]; simp; done) | (rw [decide_eq_true (by omega), decide_eq_false (by omega)]; simp; done) | (rw [decide_eq_false (by omega)]; simp; done) | (simp; omega)
theorem At_v (c : Cu) (ok : Ok c) (k : Nat) (z : Int) (hz : z = k) (hk : k ≤ 1073741824) (v : Value) (own : Nat → Prop) (W : World) (hl : ∀ b, own b → b < W.heap.size) (hv : Has own W (IsCu · v c)) :
    Calls Try.prog 18 ⟨[v, .int .i64 z]⟩ W (Ret W fun x _ => x = .int .i64 (vl c k)) := by
  subst hz
  have e : atT c k = vl c k := by
    unfold atT
    rw [if_neg (by rw [check_ok.2 ok]; omega), Int.min_eq_left (by omega)]
    rfl
  exact e ▸ At_c c k v own W hl hv
theorem check_v (c : Cu) (ok : Ok c) (v : Value) (own : Nat → Prop) (W : World) (hl : ∀ b, own b → b < W.heap.size) (hv : Has own W (IsCu · v c)) :
    Calls Try.prog 16 ⟨[v]⟩ W (Ret W fun x _ => x = .int .i64 0) := check_ok.2 ok ▸ check_c c v own W hl hv
theorem check_w (c : Cu) (v : Value) (own : Nat → Prop) (W : World) (hl : ∀ b, own b → b < W.heap.size) (hv : Has own W (IsCu · v c)) (ok : Ok c) :
    Calls Try.prog 16 ⟨[v]⟩ W (Ret W fun x _ => x = .int .i64 0) := check_v c ok v own W hl hv
theorem At_w (c : Cu) (k : Nat) (z : Int) (hz : z = k) (hk : k ≤ 1073741824) (v : Value) (own : Nat → Prop) (W : World) (hl : ∀ b, own b → b < W.heap.size) (hv : Has own W (IsCu · v c)) (ok : Ok c) :
    Calls Try.prog 18 ⟨[v, .int .i64 z]⟩ W (Ret W fun x _ => x = .int .i64 (vl c k)) := At_v c ok k z hz hk v own W hl hv
theorem At_y (c : Cu) (y : Int) (k : Nat) (z : Int) (hz : z = k) (hk : k ≤ 1073741824) (ok : Ok c) (hy : vl c k = y) (v : Value) (own : Nat → Prop) (W : World) (hl : ∀ b, own b → b < W.heap.size) (hv : Has own W (IsCu · v c)) :
    Calls Try.prog 18 ⟨[v, .int .i64 z]⟩ W (Ret W fun x _ => x = .int .i64 y) := hy ▸ At_v c ok k z hz hk v own W hl hv
theorem arrival_w (l : List Int) (S : Int) (sm : Sml l S) (a0 : Option Addr) (c0 : Nat) (own : Nat → Prop) (W : World) (hl : ∀ b, own b → b < W.heap.size) (hv : Has own W (RdF (Value.int .i64) a0 l)) :
    Calls Try.prog 12 ⟨[.slice a0 l.length c0, .int .i64 S]⟩ W (Ret W fun v w => ∃ a1 n1 c1, v = .tuple #[.agg #[.slice a1 n1 c1, .int .i64 S], .int .i64 0] ∧ Has own w (IsCu · (.agg #[.slice a1 n1 c1, .int .i64 S]) (wc true l S))) := by
  refine (arrival_e (sm.wins true) l.length _ rfl rfl a0 c0 own W hl (by have := sm.n; omega) hv).mono ?_
  rintro e w' ⟨v, rfl, hs, a1, c1, rfl, h1, -⟩
  exact ⟨_, rfl, hs, a1, _, c1, rfl, h1⟩
theorem service_w (l : List Int) (S : Int) (sm : Sml l S) (a0 : Option Addr) (c0 : Nat) (own : Nat → Prop) (W : World) (hl : ∀ b, own b → b < W.heap.size) (hv : Has own W (RdF (Value.int .i64) a0 l)) :
    Calls Try.prog 14 ⟨[.slice a0 l.length c0, .int .i64 S]⟩ W (Ret W fun v w => ∃ a1 n1 c1, v = .tuple #[.agg #[.slice a1 n1 c1, .int .i64 S], .int .i64 0] ∧ Has own w (IsCu · (.agg #[.slice a1 n1 c1, .int .i64 S]) (wc false l S))) := by
  refine (service_e (sm.wins false) l.length _ rfl rfl a0 c0 own W hl (by have := sm.n; omega) hv).mono ?_
  rintro e w' ⟨v, rfl, hs, a1, c1, rfl, h1, -⟩
  exact ⟨_, rfl, hs, a1, _, c1, rfl, h1⟩
theorem bw_next (g : Bool) (l : List Int) (S : Int) (n : Nat) : ∀ k, bet g (bw g l S n (k - 1)) (win l S k n) = bw g l S n k
  | 0 => by
    have h := bet_better g (win l S 0 n) (win l S 0 n)
    show bet g (win l S 0 n) (win l S 0 n) = win l S 0 n
    omega
  | k + 1 => rfl
theorem Window_z (l : List Int) (S : Int) (ok : SOk l S) (a0 : Option Addr) (c0 : Nat) (own : Nat → Prop) (W : World) (hl : ∀ b, own b → b < W.heap.size) (hv : Has own W (RdF (Value.int .i64) a0 l)) (s k : Nat) (zs zk : Int) (hzs : zs = s) (hzk : zk = k) (hs : s ≤ 10000) (hk : k ≤ 10000) :
    Calls Try.prog 29 ⟨[.slice a0 l.length c0, .int .i64 S, .int .i64 zs, .int .i64 zk]⟩ W (Ret W fun v _ => v = .int .i64 (win l S s k)) := by
  subst hzs
  subst hzk
  exact Window_c l S ok a0 c0 own W hl hv s k hs hk
theorem windows_law (l : List Int) (S : Int) (x : Int) (hx : 0 ≤ x ∧ x ≤ 255) (a0 : Option Addr) (c0 : Nat) (W : World) (hlen : l.length ≤ 9223372036854775807) (hv : Has (fun _ => False) W (RdF (Value.int .i64) a0 l)) :
    Calls Try.prog 6 ⟨[.slice a0 l.length c0, .int .i64 S, .int .u8 x]⟩ W (Ret W fun x _ => x = .bool true) := by
  have hM := (Mm.start (fun _ h => h.elim)).known hv
  refine f_start Try.func6 rfl Try.ntmps6 rfl rfl ?_; intro a hF
  by_cases hs : smallB l S = true
  case neg =>
    have hs' : smallB l S = false := by simpa using hs
    (repeat' (first | (with_reducible refine w_seq ?_) | (with_reducible refine c_region ?_) | (with_reducible refine s_nil ?_) | ((with_reducible apply s_call (f := 28) hF hM); exact rfl; exact rfl; exact rfl; exact rfl; exact rfl; exact (hs' ▸ small_c l S _ _ _ _ hM.lt hlen (hM.facts _ (by (repeat (first | exact List.mem_cons_self | refine List.mem_cons_of_mem _ ?_))))); clear hF hM a; rintro v w a rfl - hM hF) | ((with_reducible apply s_call (f := 11) hF hM); exact rfl; exact rfl; exact rfl; exact rfl; exact rfl; exact (awake_c _ _ hM.lt); clear hF hM a; rintro v w a rfl - hM hF) | (with_reducible refine q_then_n ?_) | ((with_reducible apply s_pure hF); exact rfl; exact rfl; exact rfl; (first | exact trivial | omega | decide); clear hF a; intro a hF) | (with_reducible refine w_ret ?_) | (with_reducible refine q_then_r ?_) | ((with_reducible apply c_true hF); exact rfl)))
    (apply f_ret Try.results6 hF hM; (repeat (first | exact RL.nil | (apply RL.tmp; exact rfl) | (apply RL.cell; exact rfl; (repeat (first | exact List.mem_cons_self | refine List.mem_cons_of_mem _ ?_)); exact rfl))); refine Ret.mk hM.since ?_; dsimp only [resV])
  have sm := smallB_iff.1 hs
  have sl := sm.n
  obtain ⟨n, hn⟩ : ∃ n : Nat, x % 70 = n := ⟨(x % 70).toNat, by omega⟩
  (repeat (first | (with_reducible refine w_seq ?_) | (with_reducible refine c_region ?_) | (with_reducible refine s_nil ?_) | ((with_reducible apply s_call (f := 28) hF hM); exact rfl; exact rfl; exact rfl; exact rfl; exact rfl; exact (hs ▸ small_c l S _ _ _ _ hM.lt hlen (hM.facts _ (by (repeat (first | exact List.mem_cons_self | refine List.mem_cons_of_mem _ ?_))))); clear hF hM a; rintro v w a rfl - hM hF) | (with_reducible refine q_then_n ?_) | ((with_reducible apply s_pure hF); exact rfl; exact rfl; exact rfl; (first | exact trivial | omega | decide); clear hF a; intro a hF) | (with_reducible refine w_skip ?_) | ((with_reducible apply c_false hF); exact rfl)))
  (repeat' (first | (with_reducible refine w_seq ?_) | (with_reducible refine c_region ?_) | (with_reducible refine s_nil ?_) | ((with_reducible apply s_call (f := 12) hF hM); exact rfl; exact rfl; exact rfl; exact rfl; exact rfl; exact (arrival_w l S sm _ _ _ _ hM.lt (hM.facts (RdF _ _ l) (by (repeat (first | exact List.mem_cons_self | refine List.mem_cons_of_mem _ ?_))))); clear hF hM a; rintro v w a ⟨a1, n1, c1, rfl, h1⟩ - hM hF; replace hM := hM.addFact h1) | ((with_reducible apply s_call (f := 14) hF hM); exact rfl; exact rfl; exact rfl; exact rfl; exact rfl; exact (service_w l S sm _ _ _ _ hM.lt (hM.facts (RdF _ _ l) (by (repeat (first | exact List.mem_cons_self | refine List.mem_cons_of_mem _ ?_))))); clear hF hM a; rintro v w a ⟨a2, n2, c2, rfl, h2⟩ - hM hF; replace hM := hM.addFact h2) | ((with_reducible apply s_call (f := 16) hF hM); exact rfl; exact rfl; exact rfl; exact rfl; exact rfl; exact (check_v _ (sm.wcOk _) _ _ _ hM.lt (hM.facts (IsCu · _ (wc _ l S)) (by (repeat (first | exact List.mem_cons_self | refine List.mem_cons_of_mem _ ?_))))); clear hF hM a; rintro v w a rfl - hM hF) | ((with_reducible apply s_call (f := 29) hF hM); exact rfl; exact rfl; exact rfl; exact rfl; exact rfl; exact (Window_z l S sm.ok _ _ _ _ hM.lt (hM.facts (RdF _ _ l) (by (repeat (first | exact List.mem_cons_self | refine List.mem_cons_of_mem _ ?_)))) 0 n _ _ rfl hn (by omega) (by omega)); clear hF hM a; rintro v w a rfl - hM hF) | (with_reducible refine q_then_n ?_) | ((with_reducible apply s_pure hF); exact rfl; exact rfl; exact rfl; (first | exact trivial | omega | decide); clear hF a; intro a hF) | ((with_reducible apply s_load hF hM); exact rfl; exact rfl; (repeat (first | exact List.mem_cons_self | refine List.mem_cons_of_mem _ ?_)); exact rfl; exact rfl; clear hF a; intro a hF) | ((with_reducible apply s_store hF hM); exact rfl; exact rfl; exact rfl; exact rfl; (repeat (first | exact Upd.z | apply Upd.s)); exact rfl; exact rfl; exact rfl; clear hM; intro w hM) | ((with_reducible apply s_alloc hF hM); exact rfl; exact rfl; exact rfl; clear hF hM a; intro b w a hM hF) | (with_reducible refine w_skip ?_) | (with_reducible refine w_block ?_) | ((with_reducible apply c_false hF); exact rfl)))
  rename_i b8 _ _ _ _ _ _ _ _
  refine c_loop (m := l.length + 3) (fun m a w' => ∃ (k : Nat), m + k = l.length + 3 ∧
    Fr _ [] [(63, .int .i64 k), (62, .int .i64 ((l.length : Int) + 3)), (12, .int .i64 (bw true l S n (k - 1))), (13, .int .i64 (bw false l S n (k - 1))), (7, .int .i64 n), (0, .slice a0 l.length c0), (1, .int .i64 S), (8, .pointer (some ⟨b8, 0, none⟩)), (10, .pointer (some ⟨b, 0, none⟩))] a ∧
    Mm (fun _ => False) W [⟨b, ⟨[.slice a2 n2 c2, .int .i64 S]⟩, 24⟩, ⟨b8, ⟨[.slice a1 n1 c1, .int .i64 S]⟩, 24⟩] []
      [(IsCu · (.agg #[.slice a2 n2 c2, .int .i64 S]) (wc false l S)), (IsCu · (.agg #[.slice a1 n1 c1, .int .i64 S]) (wc true l S)), RdF (Value.int .i64) a0 l] w') ⟨0, by omega, hF.sub (by repeat (first | exact Sub.nil | refine Sub.cons rfl (by first | with_reducible rfl | (refine congrArg (Value.int _) ?_; omega) | exact rfl) ?_)), hM⟩ ?_
  clear hF hM a
  rintro m a w' ⟨k, hk, hF, hM⟩
  by_cases hlt : k < l.length + 3
  · (repeat' (first | (with_reducible refine w_seq ?_) | (with_reducible refine c_region ?_) | (with_reducible refine s_nil ?_) | ((with_reducible apply s_call (f := 29) hF hM); exact rfl; exact rfl; exact rfl; exact rfl; exact rfl; exact (Window_z l S sm.ok _ _ _ _ hM.lt (hM.facts (RdF _ _ l) (by (repeat (first | exact List.mem_cons_self | refine List.mem_cons_of_mem _ ?_)))) k n _ _ rfl rfl (by omega) (by omega)); clear hF hM a; rintro v w a rfl - hM hF) | (with_reducible refine q_then_n ?_) | ((with_reducible apply s_pure hF); exact rfl; exact rfl; exact rfl; (first | exact trivial | omega | decide); clear hF a; intro a hF) | (with_reducible refine w_skip ?_) | (with_reducible refine w_block ?_) | (with_reducible refine q_blk_n ?_) | ((with_reducible apply c_dec hF); exact rfl; all_goals intro hc; all_goals (try (exfalso; omega)))))
    have e1 := bw_next true l S n k
    have e2 := bw_next false l S n k
    simp only [bet, if_true, if_false, Bool.false_eq_true] at e1 e2
    exact ⟨m - 1, by omega, k + 1, by omega, hF.sub (by repeat (first | exact Sub.nil | refine Sub.cons rfl (by first | with_reducible rfl | (refine congrArg (Value.int _) ?_; omega) | ((refine congrArg (Value.int _) ?_; exact e1)) | ((refine congrArg (Value.int _) ?_; exact e2)) | exact rfl) ?_)), hM⟩
  · obtain rfl : k = l.length + 3 := by omega
    have e1 : bw true l S n (l.length + 3 - 1) = vl (wc true l S) n := by rw [wc_vl, show l.length + 3 - 1 = l.length + 2 by omega, bw_tail]
    have e2 : bw false l S n (l.length + 3 - 1) = vl (wc false l S) n := by rw [wc_vl, show l.length + 3 - 1 = l.length + 2 by omega, bw_tail]
    rw [e1, e2] at hF
    (repeat' (first | (with_reducible refine w_seq ?_) | (with_reducible refine c_region ?_) | (with_reducible refine s_nil ?_) | ((with_reducible apply s_call (f := 18) hF hM); exact rfl; exact rfl; exact rfl; exact rfl; exact rfl; exact (At_v _ (sm.wcOk _) n _ rfl (by omega) _ _ _ hM.lt (hM.facts (IsCu · _ (wc _ l S)) (by (repeat (first | exact List.mem_cons_self | refine List.mem_cons_of_mem _ ?_))))); clear hF hM a; rintro v w a rfl - hM hF) | ((with_reducible apply s_call (f := 11) hF hM); exact rfl; exact rfl; exact rfl; exact rfl; exact rfl; exact (awake_c _ _ hM.lt); clear hF hM a; rintro v w a rfl - hM hF) | (with_reducible refine q_then_n ?_) | ((with_reducible apply s_pure hF); exact rfl; exact rfl; exact rfl; (first | exact trivial | omega | decide); clear hF a; intro a hF) | ((with_reducible apply s_load hF hM); exact rfl; exact rfl; (repeat (first | exact List.mem_cons_self | refine List.mem_cons_of_mem _ ?_)); exact rfl; exact rfl; clear hF a; intro a hF) | (with_reducible refine w_exit ?_) | (with_reducible refine w_ret ?_) | (with_reducible refine q_then_x ?_) | (with_reducible refine q_blk_x ?_) | ((with_reducible apply g_dec hF); exact rfl; exact rfl; all_goals (clear hF; intro hc hF); all_goals (try (exfalso; omega))) | ((with_reducible apply c_dec hF); exact rfl; all_goals intro hc; all_goals (try (exfalso; omega)))))
    all_goals (apply f_ret Try.results6 hF hM; (repeat (first | exact RL.nil | (apply RL.tmp; exact rfl) | (apply RL.cell; exact rfl; (repeat (first | exact List.mem_cons_self | refine List.mem_cons_of_mem _ ?_)); exact rfl))); refine Ret.mk hM.since ?_; dsimp only [resV])
theorem lst_next (F G : Nat → Int) (n : Nat) : ∀ k, min (lst F G n (k - 1)) (F k + G (n - k)) = lst F G n (k + 1 - 1)
  | 0 => by
    show min (F 0 + G n) (F 0 + G n) = F 0 + G n
    omega
  | k + 1 => rfl
set_option maxHeartbeats 4000000 in
theorem points_law (A B : Cu) (x : Int) (hx : 0 ≤ x ∧ x ≤ 255) (v u : Value) (W : World) (hv : Has (fun _ => False) W (IsCu · v A)) (hu : Has (fun _ => False) W (IsCu · u B)) :
    Calls Try.prog 10 ⟨[v, u, .int .u8 x]⟩ W (Ret W fun x _ => x = .bool true) := by
  obtain ⟨a0, c0, rfl, hV, l1, l2⟩ := isCu_open hv
  obtain ⟨a1, c1, rfl, hU, m1, m2⟩ := isCu_open hu
  have hM := (((Mm.start (fun _ h => h.elim)).known hv).known hu)
  obtain ⟨n, hn⟩ : ∃ n : Nat, x = n := ⟨x.toNat, by omega⟩
  subst hn
  refine f_start Try.func10 rfl Try.ntmps10 rfl rfl ?_; intro a hF
  by_cases hbad : 20 < A.V.length ∨ 20 < B.V.length ∨ check A ≠ 0 ∨ check B ≠ 0
  · (repeat' (first | (with_reducible refine w_seq ?_) | (with_reducible refine c_region ?_) | (with_reducible refine s_nil ?_) | ((with_reducible apply s_call (f := 16) hF hM); exact rfl; exact rfl; exact rfl; exact rfl; exact rfl; exact (check_c _ _ _ _ hM.lt (hM.facts (IsCu · _ _) (by (repeat (first | exact List.mem_cons_self | refine List.mem_cons_of_mem _ ?_))))); clear hF hM a; rintro v w a rfl - hM hF) | ((with_reducible apply s_call (f := 11) hF hM); exact rfl; exact rfl; exact rfl; exact rfl; exact rfl; exact (awake_c _ _ hM.lt); clear hF hM a; rintro v w a rfl - hM hF) | (with_reducible refine q_then_n ?_) | ((with_reducible apply s_pure hF); exact rfl; exact rfl; exact rfl; (first | exact trivial | omega | decide); clear hF a; intro a hF) | ((with_reducible apply s_load hF hM); exact rfl; exact rfl; (repeat (first | exact List.mem_cons_self | refine List.mem_cons_of_mem _ ?_)); exact rfl; exact rfl; clear hF a; intro a hF) | ((with_reducible apply s_box hF hM); exact rfl; exact rfl; exact rfl; exact rfl; clear hF hM a; intro b w a hM hF) | (with_reducible refine w_ret ?_) | (with_reducible refine q_then_r ?_) | ((with_reducible apply c_true hF); exact rfl) | ((with_reducible apply s_skip hF); exact rfl; exact rfl; clear hF a; intro a hF) | ((with_reducible apply g_dec hF); exact rfl; exact rfl; all_goals (clear hF; intro hc hF); all_goals (try (exfalso; omega))) | ((with_reducible apply c_dec hF); exact rfl; all_goals intro hc; all_goals (try (exfalso; omega)))))
    all_goals (apply f_ret Try.results10 hF hM; (repeat (first | exact RL.nil | (apply RL.tmp; exact rfl) | (apply RL.cell; exact rfl; (repeat (first | exact List.mem_cons_self | refine List.mem_cons_of_mem _ ?_)); exact rfl))); refine Ret.mk hM.since ?_; dsimp only [resV])
  have ha : Ok A := check_ok.1 (by omega)
  have hb : Ok B := check_ok.1 (by omega)
  have ba := vl_bd ha (k := n) (by omega)
  have bb := vl_bd hb (k := n) (by omega)
  have ba0 := vl_bd ha (k := 0) (by omega)
  obtain ⟨⟨q, qe⟩, hq⟩ : ∃ q, minR A B = q := ⟨_, rfl⟩
  obtain ⟨⟨p, pe⟩, hp⟩ : ∃ q, addR A B = q := ⟨_, rfl⟩
  obtain ⟨⟨s, se⟩, hs⟩ : ∃ q, convR A B = q := ⟨_, rfl⟩
  have d1 := hq ▸ Min_c A B
  have d2 := hp ▸ Add_c A B
  have d3 := hs ▸ Convolve_c A B
  have d4 := (convR_comm ha hb ▸ hs : convR B A = (s, se)) ▸ Convolve_c B A
  have k1 : qe = 0 → Ok q ∧ ∀ k, vl q k = min (vl A k) (vl B k) := fun e => min_says ha hb (by rw [hq, e])
  have k2 : pe = 0 → Ok p ∧ ∀ k, vl p k = vl A k + vl B k := fun e => add_says ha hb (by rw [hp, e])
  have k3 : se = 0 → Ok s ∧ ∀ k, vl s k = conv A B k := fun e => conv_says ha hb (by rw [hs, e])
  clear hq hp hs
  (repeat' (first | (with_reducible refine w_seq ?_) | (with_reducible refine c_region ?_) | (with_reducible refine s_nil ?_) | ((with_reducible apply s_call (f := 16) hF hM); exact rfl; exact rfl; exact rfl; exact rfl; exact rfl; exact (check_w _ _ _ _ hM.lt (hM.facts (IsCu · _ _) (by (repeat (first | exact List.mem_cons_self | refine List.mem_cons_of_mem _ ?_)))) (by assumption)); clear hF hM a; rintro v w a rfl - hM hF) | (with_reducible refine q_then_n ?_) | ((with_reducible apply s_pure hF); exact rfl; exact rfl; exact rfl; (first | exact trivial | omega | decide); clear hF a; intro a hF) | ((with_reducible apply s_load hF hM); exact rfl; exact rfl; (repeat (first | exact List.mem_cons_self | refine List.mem_cons_of_mem _ ?_)); exact rfl; exact rfl; clear hF a; intro a hF) | ((with_reducible apply s_box hF hM); exact rfl; exact rfl; exact rfl; exact rfl; clear hF hM a; intro b w a hM hF) | (with_reducible refine w_skip ?_) | ((with_reducible apply c_false hF); exact rfl) | ((with_reducible apply g_dec hF); exact rfl; exact rfl; all_goals (clear hF; intro hc hF); all_goals (try (exfalso; omega)))))
  refine c_draw (fun i => Nat.ble 8 i) hM ?_; clear hM; intro w hM
  (first | (apply t_load (i := 0) hF rfl rfl rfl; (repeat (first | exact List.mem_cons_self | refine List.mem_cons_of_mem _ ?_)); exact rfl; exact rfl; kernel_rfl; exact hM.sm; exact (fun _ _ _ h => h); clear hF a; intro a hF))
  (first | (refine t_pure (i := 1) hF rfl rfl rfl rfl (by kernel_rfl) hM.sm (fun _ _ _ h => h) ?_ ?_; (first | exact trivial | omega | decide); clear hF a; intro a hF))
  (first | (apply t_load (i := 3) hF rfl rfl rfl; (repeat (first | exact List.mem_cons_self | refine List.mem_cons_of_mem _ ?_)); exact rfl; exact rfl; kernel_rfl; exact hM.sm; exact (fun _ _ _ h => h); clear hF a; intro a hF))
  (first | (refine t_pure (i := 4) hF rfl rfl rfl rfl (by kernel_rfl) hM.sm (fun _ _ _ h => h) ?_ ?_; (first | exact trivial | omega | decide); clear hF a; intro a hF))
  refine t_one (i := 2) hF rfl (by kernel_rfl) rfl ?_
  intro K hK
  (apply x_call hF hM; exact rfl; exact rfl; exact rfl; exact rfl; exact (At_v A ha n _ rfl (by omega) _ _ _ hM.lt (hM.facts (IsCu · _ A) (by (repeat (first | exact List.mem_cons_self | refine List.mem_cons_of_mem _ ?_))))); clear hF hM a; rintro v w a rfl - hM hF)
  refine hK _ _ (fun _ => hM.sm) ?_; clear hK
  refine t_one (i := 5) hF rfl (by kernel_rfl) rfl ?_
  intro K hK
  (apply x_call hF hM; exact rfl; exact rfl; exact rfl; exact rfl; exact (At_v B hb n _ rfl (by omega) _ _ _ hM.lt (hM.facts (IsCu · _ B) (by (repeat (first | exact List.mem_cons_self | refine List.mem_cons_of_mem _ ?_))))); clear hF hM a; rintro v w a rfl - hM hF)
  refine hK _ _ (fun _ => hM.sm) ?_; clear hK
  (first | (refine t_pure (i := 6) hF rfl rfl rfl rfl (by kernel_rfl) hM.sm (fun _ _ _ h => h) ?_ ?_; (first | exact trivial | omega | decide); clear hF a; intro a hF))
  (first | (refine t_pure (i := 7) hF rfl rfl rfl rfl (by kernel_rfl) hM.sm (fun _ _ _ h => h) ?_ ?_; (first | exact trivial | omega | decide); clear hF a; intro a hF))
  refine t_done (by kernel_rfl) ?_
  (repeat' (first | (with_reducible refine w_seq ?_) | (with_reducible refine c_region ?_) | (with_reducible refine s_nil ?_) | ((with_reducible apply s_call (f := 30) hF hM); exact rfl; exact rfl; exact rfl; exact rfl; exact rfl; exact (d1 _ _ _ _ hM.lt (hM.facts (IsCu · _ A) (by (repeat (first | exact List.mem_cons_self | refine List.mem_cons_of_mem _ ?_)))) (hM.facts (IsCu · _ B) (by (repeat (first | exact List.mem_cons_self | refine List.mem_cons_of_mem _ ?_))))); clear hF hM a; rintro v w a ⟨cv, rfl, hcv⟩ - hM hF; (obtain ⟨a2, z2, rfl, -, -, -⟩ := isCu_open hcv); replace hM := hM.addFact hcv) | ((with_reducible apply s_call (f := 16) hF hM); exact rfl; exact rfl; exact rfl; exact rfl; exact rfl; exact (check_w _ _ _ _ hM.lt (hM.facts (IsCu · _ _) (by (repeat (first | exact List.mem_cons_self | refine List.mem_cons_of_mem _ ?_)); all_goals fail)) (k1 (by assumption)).1); clear hF hM a; rintro v w a rfl - hM hF) | ((with_reducible apply s_call (f := 18) hF hM); exact rfl; exact rfl; exact rfl; exact rfl; exact rfl; exact (At_y q (min (vl A n) (vl B n)) n _ rfl (by omega) (k1 (by assumption)).1 ((k1 (by assumption)).2 n) _ _ _ hM.lt (hM.facts (IsCu · _ q) (by (repeat (first | exact List.mem_cons_self | refine List.mem_cons_of_mem _ ?_)); all_goals fail))); clear hF hM a; rintro v w a rfl - hM hF) | (with_reducible refine q_then_n ?_) | ((with_reducible apply s_pure hF); exact rfl; exact rfl; exact rfl; (first | exact trivial | omega | decide); clear hF a; intro a hF) | ((with_reducible apply s_load hF hM); exact rfl; exact rfl; (repeat (first | exact List.mem_cons_self | refine List.mem_cons_of_mem _ ?_)); exact rfl; exact rfl; clear hF a; intro a hF) | ((with_reducible apply s_store hF hM); exact rfl; exact rfl; exact rfl; exact rfl; (repeat (first | exact Upd.z | apply Upd.s)); exact rfl; exact rfl; exact rfl; clear hM; intro w hM) | ((with_reducible apply s_alloc hF hM); exact rfl; exact rfl; exact rfl; clear hF hM a; intro b w a hM hF) | (with_reducible refine w_skip ?_) | ((with_reducible apply c_false hF); exact rfl) | ((with_reducible apply s_skip hF); exact rfl; exact rfl; clear hF a; intro a hF) | ((with_reducible apply g_dec hF); exact rfl; exact rfl; all_goals (clear hF; intro hc hF); all_goals (try (exfalso; omega))) | ((with_reducible apply c_dec hF); exact rfl; all_goals intro hc; all_goals (try (exfalso; omega)))))
  all_goals (repeat' (first | (with_reducible refine w_seq ?_) | (with_reducible refine c_region ?_) | (with_reducible refine s_nil ?_) | ((with_reducible apply s_call (f := 32) hF hM); exact rfl; exact rfl; exact rfl; exact rfl; exact rfl; exact (d2 _ _ _ _ hM.lt (hM.facts (IsCu · _ A) (by (repeat (first | exact List.mem_cons_self | refine List.mem_cons_of_mem _ ?_)))) (hM.facts (IsCu · _ B) (by (repeat (first | exact List.mem_cons_self | refine List.mem_cons_of_mem _ ?_))))); clear hF hM a; rintro v w a ⟨cv, rfl, hcv⟩ - hM hF; (obtain ⟨a3, z3, rfl, -, -, -⟩ := isCu_open hcv); replace hM := hM.addFact hcv) | ((with_reducible apply s_call (f := 16) hF hM); exact rfl; exact rfl; exact rfl; exact rfl; exact rfl; exact (check_w _ _ _ _ hM.lt (hM.facts (IsCu · _ _) (by (repeat (first | exact List.mem_cons_self | refine List.mem_cons_of_mem _ ?_)); all_goals fail)) (k2 (by assumption)).1); clear hF hM a; rintro v w a rfl - hM hF) | ((with_reducible apply s_call (f := 18) hF hM); exact rfl; exact rfl; exact rfl; exact rfl; exact rfl; exact (At_y p (vl A n + vl B n) n _ rfl (by omega) (k2 (by assumption)).1 ((k2 (by assumption)).2 n) _ _ _ hM.lt (hM.facts (IsCu · _ p) (by (repeat (first | exact List.mem_cons_self | refine List.mem_cons_of_mem _ ?_)); all_goals fail))); clear hF hM a; rintro v w a rfl - hM hF) | (with_reducible refine q_then_n ?_) | ((with_reducible apply s_pure hF); exact rfl; exact rfl; exact rfl; (first | exact trivial | omega | decide); clear hF a; intro a hF) | ((with_reducible apply s_load hF hM); exact rfl; exact rfl; (repeat (first | exact List.mem_cons_self | refine List.mem_cons_of_mem _ ?_)); exact rfl; exact rfl; clear hF a; intro a hF) | ((with_reducible apply s_store hF hM); exact rfl; exact rfl; exact rfl; exact rfl; (repeat (first | exact Upd.z | apply Upd.s)); exact rfl; exact rfl; exact rfl; clear hM; intro w hM) | ((with_reducible apply s_alloc hF hM); exact rfl; exact rfl; exact rfl; clear hF hM a; intro b w a hM hF) | (with_reducible refine w_skip ?_) | ((with_reducible apply c_false hF); exact rfl) | ((with_reducible apply s_skip hF); exact rfl; exact rfl; clear hF a; intro a hF) | ((with_reducible apply g_dec hF); exact rfl; exact rfl; all_goals (clear hF; intro hc hF); all_goals (try (exfalso; omega))) | ((with_reducible apply c_dec hF); exact rfl; all_goals intro hc; all_goals (try (exfalso; omega)))))
  all_goals (repeat' (first | fail))
  all_goals (((with_reducible apply s_call (f := 21) hF hM); exact rfl; exact rfl; exact rfl; exact rfl; exact rfl; exact (d3 _ _ _ _ hM.lt (hM.facts (IsCu · _ A) (by (repeat (first | exact List.mem_cons_self | refine List.mem_cons_of_mem _ ?_)))) (hM.facts (IsCu · _ B) (by (repeat (first | exact List.mem_cons_self | refine List.mem_cons_of_mem _ ?_))))); clear hF hM a; rintro v w a ⟨cv, rfl, hcv⟩ - hM hF; (obtain ⟨a4, z4, rfl, -, -, -⟩ := isCu_open hcv); replace hM := hM.addFact hcv))
  all_goals (repeat' (first | (with_reducible refine w_seq ?_) | (with_reducible refine c_region ?_) | (with_reducible refine s_nil ?_) | (with_reducible refine q_then_n ?_) | ((with_reducible apply s_pure hF); exact rfl; exact rfl; exact rfl; (first | exact trivial | omega | decide); clear hF a; intro a hF) | ((with_reducible apply s_load hF hM); exact rfl; exact rfl; (repeat (first | exact List.mem_cons_self | refine List.mem_cons_of_mem _ ?_)); exact rfl; exact rfl; clear hF a; intro a hF) | ((with_reducible apply s_store hF hM); exact rfl; exact rfl; exact rfl; exact rfl; (repeat (first | exact Upd.z | apply Upd.s)); exact rfl; exact rfl; exact rfl; clear hM; intro w hM) | ((with_reducible apply s_alloc hF hM); exact rfl; exact rfl; exact rfl; clear hF hM a; intro b w a hM hF)))
  all_goals (((with_reducible apply s_call (f := 21) hF hM); exact rfl; exact rfl; exact rfl; exact rfl; exact rfl; exact (d4 _ _ _ _ hM.lt (hM.facts (IsCu · _ B) (by (repeat (first | exact List.mem_cons_self | refine List.mem_cons_of_mem _ ?_)))) (hM.facts (IsCu · _ A) (by (repeat (first | exact List.mem_cons_self | refine List.mem_cons_of_mem _ ?_))))); clear hF hM a; rintro v w a ⟨cv, rfl, hcv⟩ - hM hF; (obtain ⟨a5, z5, rfl, -, -, -⟩ := isCu_open hcv); replace hM := hM.addFact hcv))
  all_goals (repeat' (first | (with_reducible refine w_seq ?_) | (with_reducible refine c_region ?_) | (with_reducible refine s_nil ?_) | ((with_reducible apply s_call (f := 20) hF hM); exact rfl; exact rfl; exact rfl; exact rfl; exact rfl; exact (same_c _ _ _ _ _ _ hM.lt (hM.facts (IsCu · _ _) (by (repeat (first | exact List.mem_cons_self | refine List.mem_cons_of_mem _ ?_)))) (hM.facts (IsCu · _ _) (by (repeat (first | exact List.mem_cons_self | refine List.mem_cons_of_mem _ ?_)))) rfl); clear hF hM a; rintro v w a rfl - hM hF) | ((with_reducible apply s_call (f := 11) hF hM); exact rfl; exact rfl; exact rfl; exact rfl; exact rfl; exact (awake_c _ _ hM.lt); clear hF hM a; rintro v w a rfl - hM hF) | (with_reducible refine q_then_n ?_) | ((with_reducible apply s_pure hF); exact rfl; exact rfl; exact rfl; (first | exact trivial | omega | decide); clear hF a; intro a hF) | ((with_reducible apply s_load hF hM); exact rfl; exact rfl; (repeat (first | exact List.mem_cons_self | refine List.mem_cons_of_mem _ ?_)); exact rfl; exact rfl; clear hF a; intro a hF) | ((with_reducible apply s_store hF hM); exact rfl; exact rfl; exact rfl; exact rfl; (repeat (first | exact Upd.z | apply Upd.s)); exact rfl; exact rfl; exact rfl; clear hM; intro w hM) | ((with_reducible apply s_alloc hF hM); exact rfl; exact rfl; exact rfl; clear hF hM a; intro b w a hM hF) | (with_reducible refine w_skip ?_) | (with_reducible refine w_ret ?_) | (with_reducible refine q_then_r ?_) | ((with_reducible apply c_false hF); exact rfl) | ((with_reducible apply g_dec hF); exact rfl; exact rfl; all_goals (clear hF; intro hc hF); all_goals (try (exfalso; omega))) | ((with_reducible apply c_dec hF); exact rfl; all_goals intro hc; all_goals (try (exfalso; omega)))))
  all_goals (try ((apply f_ret Try.results10 hF hM; (repeat (first | exact RL.nil | (apply RL.tmp; exact rfl) | (apply RL.cell; exact rfl; (repeat (first | exact List.mem_cons_self | refine List.mem_cons_of_mem _ ?_)); exact rfl))); refine Ret.mk hM.since ?_; dsimp only [resV]); done))
  all_goals
    rename_i hse
    obtain ⟨hok, hcv⟩ := k3 (by omega)
    refine c_cut (fun a w => ∃ (b3 b4 b14 : Nat), Fr 153 [] [(18, .int .i64 (lst (vl A) (vl B) n 0)), (7, .int .i64 n), (3, .pointer (some ⟨b3, 0, none⟩)), (4, .pointer (some ⟨b4, 0, none⟩)), (14, .pointer (some ⟨b14, 0, none⟩))] a ∧
      Mm (fun _ => False) W [⟨b14, ⟨[.slice a4 s.V.length z4, .int .i64 s.S]⟩, 24⟩, ⟨b4, ⟨[.slice a1 B.V.length c1, .int .i64 B.S]⟩, 24⟩, ⟨b3, ⟨[.slice a0 A.V.length c0, .int .i64 A.S]⟩, 24⟩] []
        [(IsCu · (.agg #[.slice a4 s.V.length z4, .int .i64 s.S]) s), (IsCu · (.agg #[.slice a1 B.V.length c1, .int .i64 B.S]) B), (IsCu · (.agg #[.slice a0 A.V.length c0, .int .i64 A.S]) A)] w) ?_ ?_
    · refine c_draw (fun i => Nat.ble 7 i) hM ?_; clear hM; intro w hM
      (first | (apply t_load (i := 0) hF rfl rfl rfl; (repeat (first | exact List.mem_cons_self | refine List.mem_cons_of_mem _ ?_)); exact rfl; exact rfl; kernel_rfl; exact hM.sm; exact (fun _ _ _ h => h); clear hF a; intro a hF))
      (first | (apply t_load (i := 2) hF rfl rfl rfl; (repeat (first | exact List.mem_cons_self | refine List.mem_cons_of_mem _ ?_)); exact rfl; exact rfl; kernel_rfl; exact hM.sm; exact (fun _ _ _ h => h); clear hF a; intro a hF))
      (first | (refine t_pure (i := 3) hF rfl rfl rfl rfl (by kernel_rfl) hM.sm (fun _ _ _ h => h) ?_ ?_; (first | exact trivial | omega | decide); clear hF a; intro a hF))
      refine t_one (i := 1) hF rfl (by kernel_rfl) rfl ?_
      intro K hK
      (apply x_call hF hM; exact rfl; exact rfl; exact rfl; exact rfl; exact (At_v A ha 0 _ rfl (by omega) _ _ _ hM.lt (hM.facts (IsCu · _ A) (by (repeat (first | exact List.mem_cons_self | refine List.mem_cons_of_mem _ ?_))))); clear hF hM a; rintro v w a rfl - hM hF)
      refine hK _ _ (fun _ => hM.sm) ?_; clear hK
      refine t_one (i := 4) hF rfl (by kernel_rfl) rfl ?_
      intro K hK
      (apply x_call hF hM; exact rfl; exact rfl; exact rfl; exact rfl; exact (At_v B hb n _ rfl (by omega) _ _ _ hM.lt (hM.facts (IsCu · _ B) (by (repeat (first | exact List.mem_cons_self | refine List.mem_cons_of_mem _ ?_))))); clear hF hM a; rintro v w a rfl - hM hF)
      refine hK _ _ (fun _ => hM.sm) ?_; clear hK
      (first | (refine t_pure (i := 5) hF rfl rfl rfl rfl (by kernel_rfl) hM.sm (fun _ _ _ h => h) ?_ ?_; (first | exact trivial | omega | decide); clear hF a; intro a hF))
      (first | (refine t_pure (i := 6) hF rfl rfl rfl rfl (by kernel_rfl) hM.sm (fun _ _ _ h => h) ?_ ?_; (first | exact trivial | omega | decide); clear hF a; intro a hF))
      refine t_done (by kernel_rfl) ?_
      refine q_cut ?_
      apply Exists.intro
      apply Exists.intro
      apply Exists.intro
      apply And.intro
      · exact hF.sub (by repeat (first | exact Sub.nil | refine Sub.cons rfl (by first | with_reducible rfl | (refine congrArg (Value.int _) ?_; omega) | exact rfl) ?_))
      · exact hM.sub (.cons _ (.cons_cons _ (.cons _ (.cons _ (.refl _))))) (.refl _) (by intro f hf; simp only [List.mem_cons, List.not_mem_nil, or_false] at hf; (repeat (rcases hf with rfl | hf; · (repeat (first | exact List.mem_cons_self | refine List.mem_cons_of_mem _ ?_)))); try (subst hf; (repeat (first | exact List.mem_cons_self | refine List.mem_cons_of_mem _ ?_))))
    clear hF hM a
    rintro a w ⟨b3, b4, b14, hF, hM⟩
    (repeat' (first | (with_reducible refine w_seq ?_) | (with_reducible refine c_region ?_) | (with_reducible refine s_nil ?_) | (with_reducible refine q_then_n ?_) | ((with_reducible apply s_pure hF); exact rfl; exact rfl; exact rfl; (first | exact trivial | omega | decide); clear hF a; intro a hF) | (with_reducible refine w_block ?_)))
    refine c_loop (m := n + 1) (fun m a w' => ∃ (k : Nat), m + k = n + 1 ∧ Fr _ [] [(125, .int .i64 k), (124, .int .i64 ((n : Int) + 1)), (18, .int .i64 (lst (vl A) (vl B) n (k - 1))), (7, .int .i64 n), (3, .pointer (some ⟨b3, 0, none⟩)), (4, .pointer (some ⟨b4, 0, none⟩)), (14, .pointer (some ⟨b14, 0, none⟩))] a ∧
      Mm (fun _ => False) W [⟨b14, ⟨[.slice a4 s.V.length z4, .int .i64 s.S]⟩, 24⟩, ⟨b4, ⟨[.slice a1 B.V.length c1, .int .i64 B.S]⟩, 24⟩, ⟨b3, ⟨[.slice a0 A.V.length c0, .int .i64 A.S]⟩, 24⟩] []
        [(IsCu · (.agg #[.slice a4 s.V.length z4, .int .i64 s.S]) s), (IsCu · (.agg #[.slice a1 B.V.length c1, .int .i64 B.S]) B), (IsCu · (.agg #[.slice a0 A.V.length c0, .int .i64 A.S]) A)] w') ⟨0, by omega, hF.sub (by repeat (first | exact Sub.nil | refine Sub.cons rfl (by first | with_reducible rfl | (refine congrArg (Value.int _) ?_; omega) | exact rfl) ?_)), hM⟩ ?_
    clear hF hM a
    rintro m a w' ⟨k, hk, hF, hM⟩
    by_cases hlt : k < n + 1
    · have e1 := vl_bd ha (k := k) (by omega)
      have e2 := vl_bd hb (k := n - k) (by omega)
      (repeat' (first | (with_reducible refine w_seq ?_) | (with_reducible refine c_region ?_) | (with_reducible refine s_nil ?_) | (with_reducible refine q_then_n ?_) | ((with_reducible apply s_pure hF); exact rfl; exact rfl; exact rfl; (first | exact trivial | omega | decide); clear hF a; intro a hF) | (with_reducible refine w_skip ?_) | (with_reducible refine w_block ?_) | ((with_reducible apply c_dec hF); exact rfl; all_goals intro hc; all_goals (try (exfalso; omega)))))
      refine c_draw (fun i => Nat.ble 12 i) hM ?_; clear hM; intro w hM
      (first | (refine t_pure (i := 0) hF rfl rfl rfl rfl (by kernel_rfl) hM.sm (fun _ _ _ h => h) ?_ ?_; (first | exact trivial | omega | decide); clear hF a; intro a hF))
      (first | (apply t_load (i := 1) hF rfl rfl rfl; (repeat (first | exact List.mem_cons_self | refine List.mem_cons_of_mem _ ?_)); exact rfl; exact rfl; kernel_rfl; exact hM.sm; exact (fun _ _ _ h => h); clear hF a; intro a hF))
      (first | (refine t_pure (i := 2) hF rfl rfl rfl rfl (by kernel_rfl) hM.sm (fun _ _ _ h => h) ?_ ?_; (first | exact trivial | omega | decide); clear hF a; intro a hF))
      (first | (apply t_load (i := 4) hF rfl rfl rfl; (repeat (first | exact List.mem_cons_self | refine List.mem_cons_of_mem _ ?_)); exact rfl; exact rfl; kernel_rfl; exact hM.sm; exact (fun _ _ _ h => h); clear hF a; intro a hF))
      (first | (refine t_pure (i := 5) hF rfl rfl rfl rfl (by kernel_rfl) hM.sm (fun _ _ _ h => h) ?_ ?_; (first | exact trivial | omega | decide); clear hF a; intro a hF))
      (first | (refine t_pure (i := 6) hF rfl rfl rfl rfl (by kernel_rfl) hM.sm (fun _ _ _ h => h) ?_ ?_; (first | exact trivial | omega | decide); clear hF a; intro a hF))
      (first | (refine t_pure (i := 7) hF rfl rfl rfl rfl (by kernel_rfl) hM.sm (fun _ _ _ h => h) ?_ ?_; (first | exact trivial | omega | decide); clear hF a; intro a hF))
      refine t_one (i := 3) hF rfl (by kernel_rfl) rfl ?_
      intro K hK
      (apply x_call hF hM; exact rfl; exact rfl; exact rfl; exact rfl; exact (At_v A ha k _ rfl (by omega) _ _ _ hM.lt (hM.facts (IsCu · _ A) (by (repeat (first | exact List.mem_cons_self | refine List.mem_cons_of_mem _ ?_))))); clear hF hM a; rintro v w a rfl - hM hF)
      refine hK _ _ (fun _ => hM.sm) ?_; clear hK
      refine t_one (i := 8) hF rfl (by kernel_rfl) rfl ?_
      intro K hK
      (apply x_call hF hM; exact rfl; exact rfl; exact rfl; exact rfl; exact (At_v B hb (n - k) _ (by omega) (by omega) _ _ _ hM.lt (hM.facts (IsCu · _ B) (by (repeat (first | exact List.mem_cons_self | refine List.mem_cons_of_mem _ ?_))))); clear hF hM a; rintro v w a rfl - hM hF)
      refine hK _ _ (fun _ => hM.sm) ?_; clear hK
      (first | (refine t_pure (i := 9) hF rfl rfl rfl rfl (by kernel_rfl) hM.sm (fun _ _ _ h => h) ?_ ?_; (first | exact trivial | omega | decide); clear hF a; intro a hF))
      (first | (refine t_pure (i := 10) hF rfl rfl rfl rfl (by kernel_rfl) hM.sm (fun _ _ _ h => h) ?_ ?_; (first | exact trivial | omega | decide); clear hF a; intro a hF))
      (first | (refine t_pure (i := 11) hF rfl rfl rfl rfl (by kernel_rfl) hM.sm (fun _ _ _ h => h) ?_ ?_; (first | exact trivial | omega | decide); clear hF a; intro a hF))
      refine t_done (by kernel_rfl) ?_
      (repeat' (first | (with_reducible refine c_region ?_) | (with_reducible refine s_nil ?_) | (with_reducible refine q_then_n ?_) | ((with_reducible apply s_pure hF); exact rfl; exact rfl; exact rfl; (first | exact trivial | omega | decide); clear hF a; intro a hF) | (with_reducible refine q_blk_n ?_)))
      exact ⟨m - 1, by omega, k + 1, by omega, hF.sub (by repeat (first | exact Sub.nil | refine Sub.cons rfl (by first | with_reducible rfl | (refine congrArg (Value.int _) ?_; omega) | ((refine congrArg (Value.int _) ?_; exact lst_next _ _ n k)) | exact rfl) ?_)), hM⟩
    · obtain rfl : k = n + 1 := by omega
      (repeat' (first | (with_reducible refine w_seq ?_) | (with_reducible refine c_region ?_) | (with_reducible refine s_nil ?_) | ((with_reducible apply s_call (f := 16) hF hM); exact rfl; exact rfl; exact rfl; exact rfl; exact rfl; exact (check_w _ _ _ _ hM.lt (hM.facts (IsCu · _ _) (by (repeat (first | exact List.mem_cons_self | refine List.mem_cons_of_mem _ ?_)))) hok); clear hF hM a; rintro v w a rfl - hM hF) | ((with_reducible apply s_call (f := 18) hF hM); exact rfl; exact rfl; exact rfl; exact rfl; exact rfl; exact (At_y s (lst (vl A) (vl B) n (n + 1 - 1)) n _ rfl (by omega) hok (hcv n) _ _ _ hM.lt (hM.facts (IsCu · _ s) (by (repeat (first | exact List.mem_cons_self | refine List.mem_cons_of_mem _ ?_))))); clear hF hM a; rintro v w a rfl - hM hF) | ((with_reducible apply s_call (f := 11) hF hM); exact rfl; exact rfl; exact rfl; exact rfl; exact rfl; exact (awake_c _ _ hM.lt); clear hF hM a; rintro v w a rfl - hM hF) | (with_reducible refine q_then_n ?_) | ((with_reducible apply s_pure hF); exact rfl; exact rfl; exact rfl; (first | exact trivial | omega | decide); clear hF a; intro a hF) | ((with_reducible apply s_load hF hM); exact rfl; exact rfl; (repeat (first | exact List.mem_cons_self | refine List.mem_cons_of_mem _ ?_)); exact rfl; exact rfl; clear hF a; intro a hF) | (with_reducible refine w_exit ?_) | (with_reducible refine w_ret ?_) | (with_reducible refine q_then_x ?_) | (with_reducible refine q_blk_x ?_) | ((with_reducible apply g_dec hF); exact rfl; exact rfl; all_goals (clear hF; intro hc hF); all_goals (try (exfalso; omega))) | ((with_reducible apply c_dec hF); exact rfl; all_goals intro hc; all_goals (try (exfalso; omega)))))
      (apply f_ret Try.results10 hF hM; (repeat (first | exact RL.nil | (apply RL.tmp; exact rfl) | (apply RL.cell; exact rfl; (repeat (first | exact List.mem_cons_self | refine List.mem_cons_of_mem _ ?_)); exact rfl))); refine Ret.mk hM.since ?_; dsimp only [resV])
end Go.Proofs.Ytpkledpnicocmaa
