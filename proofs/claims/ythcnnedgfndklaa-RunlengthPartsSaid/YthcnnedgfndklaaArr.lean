/- Arguments of the rows of layer 5. -/
import Derived.Test.YthcnnedgfndklaaAri
import Derived.Test.YthcnnedgfndklaaY8
set_option linter.unusedSimpArgs false
set_option linter.unusedVariables false
set_option linter.unusedSectionVars false
namespace Go.Proofs.Ythcnnedgfndklaa
open Go.RowKit Go.Shelf Go.ChangeShapes Go.WideShapes Go.ChangeAt
section
variable {H : Type} {enc : TypeId × Value → H} {w : World} {r : Reach} {b0 base : Nat} {spare : Nat → Bool} {held : Bool}
theorem u8_wf {x : Int} (h : (Lit.int .u8 x).wf = true) : 0 ≤ x ∧ x < 256 := by have := Go.bounds_u8 h; omega
theorem secs_arg {v : Value} {d : DataW H} {p : List MemPlace} (hv : Value.okWide Try.prog w r b0 22 v) (h : DataW.Trod enc Try.prog w 0 (fun _ => true) held 22 v d p) :
    ∃ (a : Option Addr) (cap : Nat) (ls : List (List Int)), v = .slice a ls.length cap ∧ ls.length ≤ cap ∧ W8 ls ∧ B8 ls ∧ Has (fun _ => False) w (RdF (Value.int .u8) a ls.flatten) := by
  obtain ⟨a1, n1, c1, rfl⟩ := okWide_slice Try.underlying22 hv
  obtain ⟨fuel, hf⟩ := h
  obtain ⟨a, cap, ls, h1, h2, h3, h4, h5⟩ := of_arrs Try.underlying22 Try.underlying38 Try.underlying5 (by kernel_rfl) (by kernel_rfl) hf
  exact ⟨a, cap, ls, h1, h2, fun s hs => (h4 s hs).1, fun s hs x hx => u8_wf ((h4 s hs).2 x hx), Has.reads h5⟩
theorem bytes_arg {v : Value} {d : DataW H} {p : List MemPlace} (hv : Value.okWide Try.prog w r b0 24 v) (h : DataW.Trod enc Try.prog w 0 (fun _ => true) held 24 v d p) :
    ∃ (a : Option Addr) (xs : List Int) (cap : Nat), v = .slice a xs.length cap ∧ Has (fun _ => False) w (RdF (Value.int .u8) a xs) ∧ xs.length ≤ cap ∧ By xs := by
  obtain ⟨a1, n1, c1, rfl⟩ := okWide_slice Try.underlying24 hv
  obtain ⟨a, xs, cap, e, hr, l1, l2, hb⟩ := slice_arg Try.underlying24 Try.underlying5 (by kernel_rfl) rfl h
  exact ⟨a, xs, cap, e, Has.reads hr, l2, fun x hx => u8_wf (hb x hx)⟩
theorem sec_arg {v : Value} {d : DataW H} {p : List MemPlace} (hv : Value.okWide Try.prog w r b0 38 v) (h : DataW.Trod enc Try.prog w base spare held 38 v d p) : ∃ xs : List Int, v = .agg (xs.map (Value.int .u8)).toArray ∧ xs.length = 8 ∧ By xs := by
  obtain ⟨xs, rfl, hl, hw⟩ := arr_arg Try.underlying38 Try.underlying5 (by kernel_rfl) (by kernel_rfl) hv h
  exact ⟨xs, rfl, hl, fun x hx => u8_wf (hw x hx)⟩
end
end Go.Proofs.Ythcnnedgfndklaa
