/- Arguments of the rows of layer 55. -/
import Derived.Test.YtpkledpnicocmaaArh
import Derived.Test.YtpkledpnicocmaaVd
set_option linter.unusedSimpArgs false
set_option linter.unusedVariables false
namespace Go.Proofs.Ytpkledpnicocmaa
open Go.RowKit Go.Shelf Go.ChangeShapes Go.WideShapes Go.ChangeAt C55
section
variable {H : Type} {enc : TypeId × Value → H} {w : World} {r : Reach} {b0 base : Nat} {spare : Nat → Bool} {held : Bool}
theorem isCu_arg {v : Value} {d : DataW H} {p : List MemPlace} (hv : Value.okWide Try.prog w r b0 24 v) (h : DataW.Trod enc Try.prog w 0 (fun _ => true) held 24 v d p) :
    ∃ t : Cu, Has (fun _ => False) w (IsCu · v t) := by
  obtain ⟨cs, rfl, hs, hf⟩ := open_aggN Try.underlying24 (by kernel_rfl) (by kernel_rfl) hv h
  obtain ⟨c0, y0, n0, e0, k0⟩ := hf 0 _ rfl
  obtain ⟨c1, y1, n1, e1, k1⟩ := hf 1 _ rfl
  obtain ⟨a, V, cap, rfl, hr, l1, l2, hb⟩ := of_slice Try.underlying22 Try.underlying3 (by kernel_rfl) k0
  obtain ⟨x1, rfl, _⟩ := of_int Try.underlying3 k1
  obtain ⟨l⟩ := cs
  have hl : l = [.slice a V.length cap, .int .i64 x1] := by
    match l, hs with
    | [d0, d1], _ => simp at e0 e1; simp [e0, e1]
  subst hl
  exact ⟨⟨V, x1⟩, isCu_mk (c := ⟨V, x1⟩) (Has.reads hr) l1 l2⟩
theorem ints_arg {v : Value} {d : DataW H} {p : List MemPlace} (hv : Value.okWide Try.prog w r b0 22 v) (h : DataW.Trod enc Try.prog w 0 (fun _ => true) held 22 v d p) :
    ∃ (a : Option Addr) (xs : List Int) (cap : Nat), v = .slice a xs.length cap ∧ Has (fun _ => False) w (RdF (Value.int .i64) a xs) ∧ xs.length ≤ 9223372036854775807 ∧ xs.length ≤ cap ∧ ∀ x ∈ xs, -9223372036854775808 ≤ x ∧ x ≤ 9223372036854775807 := by
  obtain ⟨a1, n1, c1, rfl⟩ := okWide_slice Try.underlying22 hv
  obtain ⟨a, xs, cap, e, hr, l1, l2, hb⟩ := slice_arg Try.underlying22 Try.underlying3 (by kernel_rfl) rfl h
  exact ⟨a, xs, cap, e, Has.reads hr, l1, l2, fun x hx => wf64 (hb x hx)⟩
theorem twoI_arg {v : Value} {d : DataW H} {p : List MemPlace} (hv : Value.okWide Try.prog w r b0 25 v) (h : DataW.Trod enc Try.prog w base spare held 25 v d p) : ∃ x y : Int, v = .agg #[.int .i64 x, .int .i64 y] := by
  obtain ⟨xs, rfl, hl, hw⟩ := arr_arg Try.underlying25 Try.underlying3 (by kernel_rfl) (by kernel_rfl) hv h
  match xs, hl with
  | [x, y], _ => exact ⟨x, y, rfl⟩
end
end Go.Proofs.Ytpkledpnicocmaa
