/- Arguments of the last rows of layer 56. -/
import Derived.Test.YtfjelofpahcfpaaAop
set_option linter.unusedSimpArgs false
set_option linter.unusedVariables false
namespace Go.Proofs.Ytfjelofpahcfpaa
open Go.RowKit Go.Shelf Go.ChangeShapes Go.WideShapes Go.ChangeAt
section
variable {H : Type} {enc : TypeId × Value → H} {w : World} {r : Reach} {b0 base : Nat} {spare : Nat → Bool} {held : Bool}
theorem two_arg {v : Value} {d : DataW H} {p : List MemPlace} (hv : Value.okWide Try.prog w r b0 59 v) (h : DataW.Trod enc Try.prog w base spare held 59 v d p) : ∃ x y : Int, v = .agg #[.int .u8 x, .int .u8 y] ∧ (0 ≤ x ∧ x ≤ 255) ∧ (0 ≤ y ∧ y ≤ 255) := by
  obtain ⟨xs, rfl, hl, hw⟩ := arr_arg Try.underlying59 Try.underlying5 (by kernel_rfl) (by kernel_rfl) hv h
  match xs, hl with
  | [x, y], _ => exact ⟨x, y, rfl, Go.bounds_u8 (hw x (by simp)), Go.bounds_u8 (hw y (by simp))⟩
end
end Go.Proofs.Ytfjelofpahcfpaa
