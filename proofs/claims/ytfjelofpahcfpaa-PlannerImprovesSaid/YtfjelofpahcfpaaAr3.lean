/- The argument of PlannerImproves. -/
import Derived.Test.YtfjelofpahcfpaaAop
import Derived.Test.YtfjelofpahcfpaaLg
set_option linter.unusedSimpArgs false
set_option linter.unusedVariables false
namespace Go.Proofs.Ytfjelofpahcfpaa
open Go.RowKit Go.Shelf Go.ChangeShapes Go.WideShapes Go.ChangeAt
section
variable {H : Type} {enc : TypeId × Value → H} {w : World} {r : Reach} {b0 base : Nat} {spare : Nat → Bool} {held : Bool}
theorem Has.readsK {α : Type} {en : α → Value} {a : Option Addr} {xs : List α} (h : Reads en w a xs) : Has (fun _ => False) w (RdF en a xs) := RdF.has h fun _ _ k => k
theorem isCh_arg {v : Value} {d : DataW H} {p : List MemPlace} (hv : Value.okWide Try.prog w r b0 49 v) (h : DataW.Trod enc Try.prog w 0 (fun _ => true) held 49 v d p) :
    ∃ t : Ch, Has (fun _ => False) w (IsCh · v t) ∧ t.Ok := by
  obtain ⟨cs, rfl, hs, hf⟩ := open_aggN Try.underlying49 (by kernel_rfl) (by kernel_rfl) hv h
  obtain ⟨c0, y0, n0, e0, k0⟩ := hf 0 _ rfl
  obtain ⟨c1, y1, n1, e1, k1⟩ := hf 1 _ rfl
  obtain ⟨c2, y2, n2, e2, k2⟩ := hf 2 _ rfl
  obtain ⟨a, M, cap, rfl, hr, l1, l2, hb⟩ := of_sliceK Try.underlying47 Try.underlying5 (by kernel_rfl) k0
  obtain ⟨a', F, cap', rfl, hr', l1', l2', hb'⟩ := of_sliceK Try.underlying47 Try.underlying5 (by kernel_rfl) k1
  obtain ⟨x2, rfl, hw⟩ := of_intK Try.underlying5 k2
  obtain ⟨l⟩ := cs
  have hl : l = [.slice a M.length cap, .slice a' F.length cap', .int .u8 x2] := by
    match l, hs with
    | [d0, d1, d2], _ => simp at e0 e1 e2; simp [e0, e1, e2]
  subst hl
  exact ⟨⟨M, F, x2⟩, ((Has.readsK hr).and (Has.readsK hr')).imp fun w k => ⟨a, a', cap, cap', rfl, k.1, k.2⟩, fun x hx => Go.bounds_u8 (hb x hx), fun x hx => Go.bounds_u8 (hb' x hx), Go.bounds_u8 hw, l1, l1'⟩
end
end Go.Proofs.Ytfjelofpahcfpaa
