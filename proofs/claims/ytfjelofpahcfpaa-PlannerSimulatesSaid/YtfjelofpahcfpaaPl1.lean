/- planner: between, sectors, Check: what each call returns. -/
import Derived.Test.YtfjelofpahcfpaaIdx
import Derived.Test.YtfjelofpahcfpaaP56
import Derived.BigGuardPart
set_option linter.unusedSimpArgs false
set_option linter.unusedVariables false
namespace Go.Proofs.Ytfjelofpahcfpaa
open Go.RowKit Go.Shelf

set_option maxHeartbeats 400000 in
theorem between_any (n lo hi : Int) (w : World) :
    Calls Try.prog 36 #[.int .i64 n, .int .i64 lo, .int .i64 hi] w fun e w' => e = .returned (.bool (decide (lo ≤ n ∧ n ≤ hi))) ∧ w = w' := by
  go_enter Try.func36, Try.ntmps36
  go_wp2
  all_goals (go_ret; refine ⟨?_, rfl⟩; simp [*]; try omega)
/-- An answer of between, looked at. -/
theorem between_cases (n lo hi : Int) (w : World) :
    Calls Try.prog 36 #[.int .i64 n, .int .i64 lo, .int .i64 hi] w fun e w' => (e = .returned (.bool true) ∧ (lo ≤ n ∧ n ≤ hi) ∧ w = w') ∨ (e = .returned (.bool false) ∧ (n < lo ∨ hi < n) ∧ w = w') :=
  dec_split (by omega) (between_any n lo hi w)
theorem sectors1_any (n : Int) (w : World) :
    Calls Try.prog 49 #[.int .i64 n] w fun e w' => e = .returned (.bool (P56.bad n)) ∧ w = w' := by
  go_enter Try.func49, Try.ntmps49
  go_wp2_with (go_at_call 36; refine (between_cases _ _ _ _).mono ?_; rintro e w' (⟨rfl, hb, rfl⟩ | ⟨rfl, hb, rfl⟩))
  all_goals (go_ret; refine ⟨?_, rfl⟩; simp [P56.bad]; omega)
theorem sectors_any (a : Option Addr) (c : Nat) (l : List Int) (w : World) (hl : l.length ≤ 9223372036854775807) (hr : Reads (Value.int .i64) w a l) :
    Calls Try.prog 37 #[.slice a l.length c] w fun e w' => e = .returned (.bool (!l.any P56.bad)) ∧ Since w w' := by
  have hcall := containsFunc_any 49 #[] P56.bad a c l w hl hr (fun x w' _ => (sectors1_any x w').mono fun e w'' ⟨h1, h2⟩ => ⟨h1, h2 ▸ Since.refl _⟩) (enters_of Try.func49 (by kernel_rfl) rfl)
  generalize (l.any P56.bad) = r at hcall ⊢
  clear hr
  go_enter Try.func37, Try.ntmps37
  go_wp2_with (go_at_call 42; refine hcall.mono ?_; rintro e w1 ⟨rfl, hs1⟩)
  go_ret
  exact ⟨rfl, hs1⟩

/-- The value v is the trace t, in memory. -/
def IsTr (w : World) (v : Value) (t : P56.Tr) : Prop :=
  ∃ a a' c c', v = .agg #[.slice a t.W.length c, .slice a' t.C.length c', .int .i64 t.P, .int .i64 t.L, .int .i64 t.A] ∧ Reads (Value.int .i64) w a t.W ∧ Reads (Value.int .i64) w a' t.C ∧
    t.W.length ≤ 9223372036854775807 ∧ t.C.length ≤ 9223372036854775807 ∧ t.W.length ≤ c ∧ t.C.length ≤ c'
theorem IsTr.since {w w' : World} {v : Value} {t : P56.Tr} (h : IsTr w v t) (hs : Since w w') : IsTr w' v t := by
  obtain ⟨a, a', c, c', h1, h2, h3, h4⟩ := h
  exact ⟨a, a', c, c', h1, h2.since hs, h3.since hs, h4⟩

set_option maxHeartbeats 400000 in
theorem check_any (t : P56.Tr) (v : Value) (w : World) (ht : IsTr w v t) :
    Calls Try.prog 14 #[v] w fun e w' => e = .returned (.int .i64 (P56.check t)) ∧ Since w w' := by
  obtain ⟨a, a', c, c', rfl, hr, hr', hW, hC, -⟩ := ht
  go_enter Try.func14, Try.ntmps14
  go_wp2_with (first
    | (go_at_call 36; refine (between_cases _ _ _ _).mono ?_; rintro e w' (⟨rfl, hb, rfl⟩ | ⟨rfl, hb, rfl⟩))
    | (go_at_call 37; refine (bool_split (sectors_any a c t.W _ hW (hr.since ?_))).mono ?_; ((repeat (first | with_reducible exact Since.refl _ | with_reducible assumption | with_reducible refine Since.alloc ?_ _ | with_reducible refine Since.drew ?_ | with_reducible refine Since.drewN ?_ _ | (with_reducible refine Since.setCell ?_ ?_ _; rotate_left; (first | (dsimp only; omega) | (simp; done) | (simp; omega))) | with_reducible refine Since.trans ?_ (by with_reducible assumption)))); rintro e w1 (⟨rfl, H1, hs1⟩ | ⟨rfl, H1, hs1⟩) <;> have hk1 := hs1.rules)
    | (go_at_call 37; refine (bool_split (sectors_any a' c' t.C _ hC (hr'.since ?_))).mono ?_; ((repeat (first | with_reducible exact Since.refl _ | with_reducible assumption | with_reducible refine Since.alloc ?_ _ | with_reducible refine Since.drew ?_ | with_reducible refine Since.drewN ?_ _ | (with_reducible refine Since.setCell ?_ ?_ _; rotate_left; (first | (dsimp only; omega) | (simp; done) | (simp; omega))) | with_reducible refine Since.trans ?_ (by with_reducible assumption)))); rintro e w2 (⟨rfl, H2, hs2⟩ | ⟨rfl, H2, hs2⟩) <;> have hk2 := hs2.rules))
  all_goals
    go_ret
    refine ⟨ret_int ?_, by (repeat (first | with_reducible exact Since.refl _ | with_reducible assumption | with_reducible refine Since.alloc ?_ _ | with_reducible refine Since.drew ?_ | with_reducible refine Since.drewN ?_ _ | (with_reducible refine Since.setCell ?_ ?_ _; rotate_left; (first | (dsimp only; omega) | (simp; done) | (simp; omega))) | with_reducible refine Since.trans ?_ (by with_reducible assumption)))⟩
    first
      | exact P56.check_6 (by omega)
      | exact P56.check_2 (by omega) (.inl (not_false H1))
      | exact P56.check_2 (by omega) (.inr (.inl (not_false H2)))
      | exact P56.check_2 (by omega) (by omega)
      | exact P56.check_0 (by omega) (not_true H1) (not_true H2) (by omega)
end Go.Proofs.Ytfjelofpahcfpaa
