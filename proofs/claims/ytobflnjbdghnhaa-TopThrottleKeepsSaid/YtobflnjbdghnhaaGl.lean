/- Shifts by a place. -/
import Derived.Test.YtobflnjbdghnhaaGk
import Derived.Test.YtobflnjbdghnhaaGh
import Derived.Laws.Shifts
set_option linter.unusedSimpArgs false
set_option linter.unusedVariables false
set_option linter.unusedSectionVars false
namespace Go.Proofs.Ytobflnjbdghnhaa
open Go.RowKit Go.Shelf
section
variable {n : Nat} {ds : List Deferred} {l : List (Nat × Value)} {a : Act} {w w0 : World} {own : Nat → Prop} {bs : List BoxE} {L : List Ent} {Fs : List (World → Prop)}
variable {os rest : List Oper} {Q : Exit → Act → World → Prop} {K : Act → World → Prop}
variable {d : Nat} {op : Op} {ty : TypeId} {pos : String} {af : Array Edge} {g : Option (Nat × Bool)}
theorem e_shr1 {t t' : TypeId} {X Y : Operand} {k yk : IntKind} {x : Int} (hF : Fr n ds l a) (hX : ev l X = some (.int k x)) (hY : ev l Y = some (.int yk 1)) (w : World) {dst : Option Tmp} :
    (execOp a.eval ⟨dst, .binOp .shr t X Y t', ty, pos, af, g⟩).run Try.prog w = .ok (.value (.int k (x / 2))) w := by
  have hb : min (1 : Int).toNat k.bits = 1 := by cases k <;> decide
  simp only [execOp, hF.eval hX, hF.eval hY, Sem.run_bind, eqGuard_int, Result.andThen]
  have hb2 : min 1 k.bits = 1 := by cases k <;> decide
  simp [binOp, Op.shift, hb2, Result.andThen, Int.fdiv_eq_ediv]
theorem s_shr1 {t t' : TypeId} {X Y : Operand} {k yk : IntKind} {x : Int} (hF : Fr n ds l a) (hg : wantO os l g = some true) (hX : ev l X = some (.int k x)) (hY : ev l Y = some (.int yk 1)) (hd : Nat.blt d n = true)
    (kk : ∀ a, Fr n ds ((d, .int k (x / 2)) :: l) a → wl ⟨os⟩ Q rest a w) : wl ⟨os⟩ Q (⟨some d, .binOp .shr t X Y t', ty, pos, af, g⟩ :: rest) a w :=
  s_op hF hg fun _ hK => upon_value (e_shr1 hF hX hY w) (hK _ _ (kk _ (hF.put hd _)))
/-- An element of a literal, or of an array in a box, in a drawn region. -/
theorem t_loadB {tail : Nat → Bool} {fuel i : Nat} {listed : Array Bool} {bs0 : List BoxE} {Fs0 : List (World → Prop)} {T T' : TypeId} {X : Operand} {b off : Nat} {j : Int} {sz : Nat} {cs : List Value} {v : Value} (hF : Fr n ds l a) (hi : getO os i = some ⟨some d, .load T X, ty, pos, af, g⟩) (hg : wantO os l g = some true) (hX : ev l X = some (.pointer (some (adr ⟨b, off, none⟩ j sz)))) (hm : (⟨b, ⟨cs⟩, T'⟩ : BoxE) ∈ bs0) (hv : rdV T cs (off + j.toNat * sz) = some v) (hd : Nat.blt d n = true) (hb : takeB os tail listed i = true) (hS : Sm bs0 Fs0 w) (hQ : ∀ c a w, Q (.panic c) (a.put (some d) v) w → Q (.panic c) a w)
    (k : ∀ a, Fr n ds ((d, v) :: l) a → wpAnyT Try.prog .any ⟨os⟩ Q (Sm bs0 Fs0) tail fuel (listed.setIfInBounds i true) a w) : wpAnyT Try.prog .any ⟨os⟩ Q (Sm bs0 Fs0) tail (fuel + 1) listed a w := by
  have e : adr ⟨b, off, none⟩ j sz = ⟨b, off + j.toNat * sz, none⟩ := by unfold adr; rw [add_lit]
  rw [e] at hX
  exact t_load hF hi hg hX hm hv hd hb hS hQ k
end
end Go.Proofs.Ytobflnjbdghnhaa
