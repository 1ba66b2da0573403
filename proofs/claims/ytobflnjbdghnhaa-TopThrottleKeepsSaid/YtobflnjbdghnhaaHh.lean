/- Arguments of the row of layer 33. -/
import Derived.Test.YtobflnjbdghnhaaArh
import Derived.Test.YtobflnjbdghnhaaHg
set_option linter.unusedSimpArgs false
set_option linter.unusedVariables false
set_option linter.unusedSectionVars false
namespace Go.Proofs.Ytobflnjbdghnhaa
open Go.RowKit Go.Shelf Go.ChangeShapes Go.WideShapes Go.ChangeAt
section
variable {H : Type} {enc : TypeId × Value → H} {w : World} {r : Reach} {b0 base : Nat} {spare : Nat → Bool} {held : Bool}
theorem ints_arg {v : Value} {d : DataW H} {p : List MemPlace} (hv : Value.okWide Try.prog w r b0 22 v) (h : DataW.Trod enc Try.prog w 0 (fun _ => true) held 22 v d p) :
    ∃ (a : Option Addr) (xs : List Int) (cap : Nat), v = .slice a xs.length cap ∧ Has (fun _ => False) w (RdF (Value.int .i64) a xs) ∧ xs.length ≤ 9223372036854775807 ∧ xs.length ≤ cap ∧ ∀ x ∈ xs, -9223372036854775808 ≤ x ∧ x ≤ 9223372036854775807 := by
  obtain ⟨a1, n1, c1, rfl⟩ := okWide_slice Try.underlying22 hv
  obtain ⟨a, xs, cap, e, hr, l1, l2, hb⟩ := slice_arg Try.underlying22 Try.underlying3 (by kernel_rfl) rfl h
  exact ⟨a, xs, cap, e, Has.reads hr, l1, l2, fun x hx => wf64 (hb x hx)⟩
end
end Go.Proofs.Ytobflnjbdghnhaa
