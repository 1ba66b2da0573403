/- Comparisons of truth values and of nil in drawn regions. -/
import Derived.Test.YthcnnedgfndklaaGw
set_option linter.unusedSimpArgs false
set_option linter.unusedVariables false
set_option linter.unusedSectionVars false
namespace Go.Proofs.Ythcnnedgfndklaa
open Go.RowKit Go.Shelf
section
variable {n : Nat} {ds : List Deferred} {l : List (Nat × Value)} {a : Act} {w w' w0 : World} {own : Nat → Prop} {bs : List BoxE} {L : List Ent} {Fs : List (World → Prop)}
variable {os rest : List Oper} {Q : Exit → Act → World → Prop} {K : Act → World → Prop}
variable {d : Nat} {op : Op} {ty : TypeId} {pos : String} {af : Array Edge} {g : Option (Nat × Bool)}
theorem t_eqn {tail : Nat → Bool} {fuel i : Nat} {listed : Array Bool} {bs0 : List BoxE} {Fs0 : List (World → Prop)} {t t' : TypeId} {X Y : Operand} {x y v : Value} {b : Bool} {op : BinOp} (hF : Fr n ds l a) (hi : getO os i = some ⟨some d, .binOp op t X Y t', ty, pos, af, g⟩) (hg : wantO os l g = some true) (hX : ev l X = some x) (hY : ev l Y = some y) (he : eqO t X Y x y = some b) (hv : eqV op b = some v) (hd : Nat.blt d n = true) (hb : takeB os tail listed i = true) (hS : Sm bs0 Fs0 w) (hQ : ∀ c a w, Q (.panic c) (a.put (some d) v) w → Q (.panic c) a w)
    (k : ∀ a, Fr n ds ((d, v) :: l) a → wpAnyT Try.prog .any ⟨os⟩ Q (Sm bs0 Fs0) tail fuel (listed.setIfInBounds i true) a w) : wpAnyT Try.prog .any ⟨os⟩ Q (Sm bs0 Fs0) tail (fuel + 1) listed a w :=
  t_take hi hb hQ (.inl ⟨wantO_ok (o := ⟨some d, .binOp op t X Y t', ty, pos, af, g⟩) hF hg, fun w _ => e_eqn hF hX hY he hv w⟩) hS (k _ (hF.put hd v))
end
end Go.Proofs.Ythcnnedgfndklaa
