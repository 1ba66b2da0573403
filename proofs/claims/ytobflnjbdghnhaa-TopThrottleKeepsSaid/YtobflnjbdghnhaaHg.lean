/- TopThrottleKeeps. -/
import Derived.Test.YtobflnjbdghnhaaHf
import Derived.Test.YtobflnjbdghnhaaIdx
import Derived.Test.YtobflnjbdghnhaaArh
set_option linter.unusedSimpArgs false
set_option linter.unusedVariables false
set_option linter.unusedSectionVars false
namespace Go.Proofs.Ytobflnjbdghnhaa
open Go.RowKit Go.Shelf
theorem seq1_c (n : Int) (w : World) : Calls Try.prog 8 ⟨[.int .i64 n]⟩ w (Ret w fun v _ => v = .bool (decide (n < 0) || decide (60 < n))) := by
  have hM := Mm.start (own := fun _ => False) (w := w) (fun _ h => h.elim)
  refine f_start Try.func8 rfl Try.ntmps8 rfl rfl ?_; intro a hF
  (repeat' (first | (with_reducible refine w_seq ?_) | (with_reducible refine c_region ?_) | (with_reducible refine s_nil ?_) | (with_reducible refine q_then_n ?_) | ((with_reducible apply s_pure hF); exact rfl; exact rfl; exact rfl; (first | exact trivial | omega | exact ⟨Int.natCast_nonneg _, Int.ofNat_lt.2 (by assumption)⟩ | decide); clear hF a; intro a hF) | (with_reducible refine w_ret ?_) | ((with_reducible apply s_skip hF); exact rfl; exact rfl; clear hF a; intro a hF) | ((with_reducible apply g_dec hF); exact rfl; exact rfl; all_goals (clear hF; intro hc hF); all_goals (try (exfalso; omega)))))
  all_goals (apply f_ret Try.results8 hF hM; (repeat (first | exact RL.nil | (apply RL.tmp; exact rfl) | (apply RL.cell; exact rfl; (repeat (first | exact List.mem_cons_self | refine List.mem_cons_of_mem _ ?_)); exact rfl))); refine Ret.mk hM.since ?_; dsimp only [resV])
  all_goals simp [*]
theorem containsSq_c (a : Option Addr) (c : Nat) (l : List Int) (w : World) (hl : l.length ≤ 9223372036854775807) (hr : Reads (Value.int .i64) w a l) :
    Calls Try.prog 7 ⟨[.slice a l.length c, .func (.func 8) #[] #[]]⟩ w (Ret w fun v _ => v = .bool (l.any fun n => decide (n < 0) || decide (60 < n))) :=
  Ret.of (containsFunc_any _ #[] (fun n => decide (n < 0) || decide (60 < n)) a c l w hl hr (fun x w' _ => Ret.to (seq1_c x w')) (enters_of Try.func8 (by kernel_rfl) rfl))
def seqB (l : List Int) : Bool := decide (l.length ≤ 40) && !(l.any fun n => decide (n < 0) || decide (60 < n))
theorem caseSeq_c (l : List Int) (a0 : Option Addr) (c0 : Nat) (own : Nat → Prop) (W : World) (hl : ∀ b, own b → b < W.heap.size) (hlen : l.length ≤ 9223372036854775807) (hv : Has own W (RdF (Value.int .i64) a0 l)) :
    Calls Try.prog 4 ⟨[.slice a0 l.length c0]⟩ W (Ret W fun x _ => x = .bool (seqB l)) := by
  have hM := (Mm.start hl).known hv
  have hA := fun w hr => containsSq_c a0 c0 l w hlen hr
  unfold seqB
  generalize (l.any fun n => decide (n < 0) || decide (60 < n)) = p at hA ⊢
  refine f_start Try.func4 rfl Try.ntmps4 rfl rfl ?_; intro a hF
  (repeat' (first | (with_reducible refine w_seq ?_) | (with_reducible refine c_region ?_) | (with_reducible refine s_nil ?_) | ((with_reducible apply s_call (f := 7) hF hM); exact rfl; exact rfl; exact rfl; exact rfl; exact rfl; exact (hA _ (hM.fact (f := RdF (Value.int .i64) _ _) (by (repeat (first | exact List.mem_cons_self | refine List.mem_cons_of_mem _ ?_))))); clear hF hM a; rintro v w a rfl - hM hF) | (with_reducible refine q_then_n ?_) | ((with_reducible apply s_pure hF); exact rfl; exact rfl; exact rfl; (first | exact trivial | omega | exact ⟨Int.natCast_nonneg _, Int.ofNat_lt.2 (by assumption)⟩ | decide); clear hF a; intro a hF) | (with_reducible refine w_ret ?_) | ((with_reducible apply s_skip hF); exact rfl; exact rfl; clear hF a; intro a hF) | ((with_reducible apply g_dec hF); exact rfl; exact rfl; all_goals (clear hF; intro hc hF); all_goals (try (exfalso; omega)))))
  all_goals (apply f_ret Try.results4 hF hM; (repeat (first | exact RL.nil | (apply RL.tmp; exact rfl) | (apply RL.cell; exact rfl; (repeat (first | exact List.mem_cons_self | refine List.mem_cons_of_mem _ ?_)); exact rfl))); refine Ret.mk hM.since ?_; dsimp only [resV])
  all_goals (clear hF hM hA; congr 1)
  all_goals first | (rw [decide_eq_true (by omega)]; simp; done) | (rw [decide_eq_false (by omega)]; simp; done) | (simp; omega)
theorem run6 : ∃ o : Int, o ≤ 3 ∧ ∀ (a : Option Addr) (own : Nat → Prop) (W : World) (_ : ∀ b, own b → b < W.heap.size) (_ : Has own W (RdF (Value.int .i64) a [6])), Calls Try.prog 6 ⟨[.slice a 1 1, .int .i64 3, .int .i64 2]⟩ W (Ret W fun v _ => v = .tuple #[.int .i64 o, .bool true, .bool true]) := by
  refine ⟨(runTo [6] (ru0 3 2) 404).old, (rinv (O := 3) (R := 2) (ws := [6]) (by decide) (by decide) (by decide) (by decide) 404 (by decide)).old.2, fun a own W hl hv => ?_⟩
  have h := caseRun_c [6] (by decide) (by decide) 3 2 (by decide) (by decide) a 1 1 rfl W hl hv
  rw [show 4 * 1 + 400 = 404 from rfl, ex1] at h
  exact h
theorem run615 : ∃ o : Int, o ≤ 3 ∧ ∀ (a : Option Addr) (own : Nat → Prop) (W : World) (_ : ∀ b, own b → b < W.heap.size) (_ : Has own W (RdF (Value.int .i64) a [6, 1, 5])), Calls Try.prog 6 ⟨[.slice a 3 3, .int .i64 3, .int .i64 2]⟩ W (Ret W fun v _ => v = .tuple #[.int .i64 o, .bool false, .bool true]) := by
  refine ⟨(runTo [6, 1, 5] (ru0 3 2) 412).old, (rinv (O := 3) (R := 2) (ws := [6, 1, 5]) (by decide) (by decide) (by decide) (by decide) 412 (by decide)).old.2, fun a own W hl hv => ?_⟩
  have h := caseRun_c [6, 1, 5] (by decide) (by decide) 3 2 (by decide) (by decide) a 3 3 rfl W hl hv
  rw [show 4 * 3 + 400 = 412 from rfl, ex2] at h
  exact h
set_option maxHeartbeats 600000 in
theorem thrd_c (own : Nat → Prop) (W : World) (hl : ∀ b, own b → b < W.heap.size) : Calls Try.prog 5 ⟨[]⟩ W (Ret W fun x _ => x = .bool true) := by
  have hM := Mm.start hl
  obtain ⟨o1, b1, k1⟩ := run6
  obtain ⟨o2, b2, k2⟩ := run615
  refine f_start Try.func5 rfl Try.ntmps5 rfl rfl ?_; intro a hF
  (repeat (first | (with_reducible refine w_seq ?_) | (with_reducible refine c_region ?_) | (with_reducible refine s_nil ?_) | ((with_reducible apply s_lit hF hM); exact rfl; exact rfl; exact rfl; exact rfl; clear hF hM a; intro bl w a hM hF; replace hM := Mm.freeze hM) | (with_reducible refine q_then_n ?_) | ((with_reducible apply s_pure hF); exact rfl; exact rfl; exact rfl; (first | exact trivial | omega | exact ⟨Int.natCast_nonneg _, Int.ofNat_lt.2 (by assumption)⟩ | decide); clear hF a; intro a hF)))
  (((with_reducible apply s_call (f := 6) hF hM); exact rfl; exact rfl; exact rfl; exact rfl; exact rfl; exact (k1 _ _ _ hM.lt (Has.ints (hM.facts _ List.mem_cons_self) [6] rfl)); clear hF hM a; rintro v w a rfl - hM hF))
  (repeat (first | (with_reducible refine w_seq ?_) | (with_reducible refine c_region ?_) | (with_reducible refine s_nil ?_) | ((with_reducible apply s_lit hF hM); exact rfl; exact rfl; exact rfl; exact rfl; clear hF hM a; intro bl w a hM hF; replace hM := Mm.freeze hM) | (with_reducible refine q_then_n ?_) | ((with_reducible apply s_pure hF); exact rfl; exact rfl; exact rfl; (first | exact trivial | omega | exact ⟨Int.natCast_nonneg _, Int.ofNat_lt.2 (by assumption)⟩ | decide); clear hF a; intro a hF)))
  (((with_reducible apply s_call (f := 6) hF hM); exact rfl; exact rfl; exact rfl; exact rfl; exact rfl; exact (k2 _ _ _ hM.lt (Has.ints (hM.facts _ List.mem_cons_self) [6, 1, 5] rfl)); clear hF hM a; rintro v w a rfl - hM hF))
  (repeat' (first | (with_reducible refine w_seq ?_) | (with_reducible refine c_region ?_) | (with_reducible refine s_nil ?_) | (with_reducible refine q_then_n ?_) | ((with_reducible apply s_pure hF); exact rfl; exact rfl; exact rfl; (first | exact trivial | omega | exact ⟨Int.natCast_nonneg _, Int.ofNat_lt.2 (by assumption)⟩ | decide); clear hF a; intro a hF) | (with_reducible refine w_ret ?_) | ((with_reducible apply g_dec hF); exact rfl; exact rfl; all_goals (clear hF; intro hc hF); all_goals (try (exfalso; omega)))))
  (apply f_ret Try.results5 hF hM; (repeat (first | exact RL.nil | (apply RL.tmp; exact rfl) | (apply RL.cell; exact rfl; (repeat (first | exact List.mem_cons_self | refine List.mem_cons_of_mem _ ?_)); exact rfl))); refine Ret.mk hM.since ?_; dsimp only [resV])
  rw [decide_eq_true b2]
set_option maxHeartbeats 600000 in
theorem keeps_c (l : List Int) (x y : Int) (hx : 0 ≤ x ∧ x ≤ 255) (hy : 0 ≤ y ∧ y ≤ 255) (a0 : Option Addr) (c0 : Nat) (W : World) (hlen : l.length ≤ 9223372036854775807) (hv : Has (fun _ => False) W (RdF (Value.int .i64) a0 l)) :
    Calls Try.prog 3 ⟨[.slice a0 l.length c0, .int .u8 x, .int .u8 y]⟩ W (Ret W fun v _ => v = .bool true) := by
  have hM := (Mm.start (fun _ h => h.elim)).known hv
  by_cases hb : seqB l = true
  · have hb2 := hb
    unfold seqB at hb2
    simp only [Bool.and_eq_true, decide_eq_true_eq, Bool.not_eq_true', List.any_eq_false, Bool.or_eq_true, not_or] at hb2
    obtain ⟨h40, hall⟩ := hb2
    have hw : ∀ z ∈ l, 0 ≤ z ∧ z ≤ 60 := fun z hz => by have := hall z hz; omega
    have i1 := (rinv (O := x % 30 + 1) (R := y % 20 + 1) hw h40 (by omega) (by omega) (4 * l.length + 400) (by omega)).old
    have k1 := fun {own : Nat → Prop} (W : World) hl hv => caseRun_c l hw h40 (x % 30 + 1) (y % 20 + 1) (by omega) (by omega) a0 l.length c0 rfl (own := own) W hl hv
    generalize runTo l (ru0 (x % 30 + 1) (y % 20 + 1)) (4 * l.length + 400) = u at k1 i1
    have kS := fun (own : Nat → Prop) (W : World) hl hv => (caseSeq_c l a0 c0 own W hl hlen hv)
    rw [hb] at kS
    refine f_start Try.func3 rfl Try.ntmps3 rfl rfl ?_; intro a hF
    (repeat' (first | (with_reducible refine w_seq ?_) | (with_reducible refine c_region ?_) | (with_reducible refine s_nil ?_) | ((with_reducible apply s_call (f := 4) hF hM); exact rfl; exact rfl; exact rfl; exact rfl; exact rfl; exact (kS _ _ hM.lt (hM.facts _ (by (repeat (first | exact List.mem_cons_self | refine List.mem_cons_of_mem _ ?_))))); clear hF hM a; rintro v w a rfl - hM hF) | ((with_reducible apply s_call (f := 6) hF hM); exact rfl; exact rfl; exact rfl; exact rfl; exact rfl; exact (k1 _ hM.lt (hM.facts _ (by (repeat (first | exact List.mem_cons_self | refine List.mem_cons_of_mem _ ?_))))); clear hF hM a; rintro v w a rfl - hM hF) | ((with_reducible apply s_call (f := 5) hF hM); exact rfl; exact rfl; exact rfl; exact rfl; exact rfl; exact (thrd_c _ _ hM.lt); clear hF hM a; rintro v w a rfl - hM hF) | (with_reducible refine q_then_n ?_) | ((with_reducible apply s_pure hF); exact rfl; exact rfl; exact rfl; (first | exact trivial | omega | exact ⟨Int.natCast_nonneg _, Int.ofNat_lt.2 (by assumption)⟩ | decide); clear hF a; intro a hF) | (with_reducible refine w_skip ?_) | (with_reducible refine w_ret ?_) | ((with_reducible apply c_false2 hF); exact rfl; (first | with_reducible rfl | (refine congrArg Value.bool ?_; focus (simp; done)))) | ((with_reducible apply g_dec hF); exact rfl; exact rfl; all_goals (clear hF; intro hc hF); all_goals (try (exfalso; omega)))))
    (apply f_ret Try.results3 hF hM; (repeat (first | exact RL.nil | (apply RL.tmp; exact rfl) | (apply RL.cell; exact rfl; (repeat (first | exact List.mem_cons_self | refine List.mem_cons_of_mem _ ?_)); exact rfl))); refine Ret.mk hM.since ?_; dsimp only [resV])
  · have hb2 : seqB l = false := by simpa using hb
    have kS := fun (own : Nat → Prop) (W : World) hl hv => (caseSeq_c l a0 c0 own W hl hlen hv)
    rw [hb2] at kS
    refine f_start Try.func3 rfl Try.ntmps3 rfl rfl ?_; intro a hF
    (repeat' (first | (with_reducible refine w_seq ?_) | (with_reducible refine c_region ?_) | (with_reducible refine s_nil ?_) | ((with_reducible apply s_call (f := 4) hF hM); exact rfl; exact rfl; exact rfl; exact rfl; exact rfl; exact (kS _ _ hM.lt (hM.facts _ (by (repeat (first | exact List.mem_cons_self | refine List.mem_cons_of_mem _ ?_))))); clear hF hM a; rintro v w a rfl - hM hF) | ((with_reducible apply s_call (f := 5) hF hM); exact rfl; exact rfl; exact rfl; exact rfl; exact rfl; exact (thrd_c _ _ hM.lt); clear hF hM a; rintro v w a rfl - hM hF) | (with_reducible refine q_then_n ?_) | ((with_reducible apply s_pure hF); exact rfl; exact rfl; exact rfl; (first | exact trivial | omega | exact ⟨Int.natCast_nonneg _, Int.ofNat_lt.2 (by assumption)⟩ | decide); clear hF a; intro a hF) | (with_reducible refine w_ret ?_) | (with_reducible refine q_then_r ?_) | ((with_reducible apply c_true2 hF); exact rfl; (first | with_reducible rfl | (refine congrArg Value.bool ?_; focus (simp; done))))))
    (apply f_ret Try.results3 hF hM; (repeat (first | exact RL.nil | (apply RL.tmp; exact rfl) | (apply RL.cell; exact rfl; (repeat (first | exact List.mem_cons_self | refine List.mem_cons_of_mem _ ?_)); exact rfl))); refine Ret.mk hM.since ?_; dsimp only [resV])
end Go.Proofs.Ytobflnjbdghnhaa
