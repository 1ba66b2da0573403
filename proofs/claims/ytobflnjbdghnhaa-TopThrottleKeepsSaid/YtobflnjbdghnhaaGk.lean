/- Comparisons of values other than numbers: with nil, and of truth values. -/
import Derived.Test.YtobflnjbdghnhaaGj
set_option linter.unusedSimpArgs false
set_option linter.unusedVariables false
set_option linter.unusedSectionVars false
namespace Go.Proofs.Ytobflnjbdghnhaa
open Go.RowKit Go.Shelf
section
variable {n : Nat} {ds : List Deferred} {l : List (Nat × Value)} {a : Act} {w w0 : World} {own : Nat → Prop} {bs : List BoxE} {L : List Ent} {Fs : List (World → Prop)}
variable {os rest : List Oper} {Q : Exit → Act → World → Prop} {K : Act → World → Prop}
variable {d : Nat} {op : Op} {ty : TypeId} {pos : String} {af : Array Edge} {g : Option (Nat × Bool)}
def isConst : Operand → Bool
  | .const _ => true
  | _ => false
/-- Whether two values are equal, where one is nil or both are truth values. -/
def eqO (t : TypeId) (X Y : Operand) (x y : Value) : Option Bool := match tyD t with
  | some (.slice _) => match x, y with
    | .slice none _ _, .slice none _ _ => some true
    | .slice none _ _, .slice (some _) _ _ => some false
    | .slice (some _) _ _, .slice none _ _ => some false
    | _, _ => none
  | some (.pointer _) => match x, y with
    | .pointer none, .pointer none => some true
    | .pointer none, .pointer (some _) => some false
    | .pointer (some _), .pointer none => some false
    | _, _ => none
  | some (.func _ _ _) => match x, y with
    | .nilFunc, .nilFunc => some true
    | .func _ _ _, .nilFunc => some false
    | .nilFunc, .func _ _ _ => some false
    | _, _ => none
  | some (.interface _) => match x, y with
    | .nilIface, .nilIface => match isConst X || isConst Y with
      | true => some true
      | false => none
    | .iface _ _, .nilIface => some false
    | .nilIface, .iface _ _ => some false
    | _, _ => none
  | some .bool => match x, y with
    | .bool p, .bool q => some (p == q)
    | _, _ => none
  | _ => none
def eqV (op : BinOp) (b : Bool) : Option Value := match op with
  | .eql => some (.bool b)
  | .neq => some (.bool (!b))
  | _ => none
theorem eqO_guard {op : BinOp} {t : TypeId} {X Y : Operand} {x y : Value} {b : Bool} (h : eqO t X Y x y = some b) (w : World) : (eqGuard op t X Y x y).run Try.prog w = .ok () w := by
  unfold eqO at h
  unfold eqGuard
  split at h
  all_goals try (split at h)
  all_goals try cases h
  all_goals try (cases op <;> simp <;> done)
  split at h
  · rename_i hc
    unfold isConst at hc
    cases X <;> cases Y <;> simp at hc <;> cases op <;> simp
  · cases h
theorem eqO_ok {t : TypeId} {X Y : Operand} {x y : Value} {b : Bool} (h : eqO t X Y x y = some b) (w : World) : (Op.equal t x y).run Try.prog w = .ok b w := by
  unfold eqO at h
  unfold Op.equal Op.maxDepth
  rw [show (10000 : Nat) = 9999 + 1 from rfl]
  unfold Op.equalIn
  split at h
  all_goals try (rename_i hd; have hu := tyD_run hd w)
  all_goals try (split at h)
  all_goals try (cases h; done)
  all_goals try (injection h with h; subst h; simp only [Sem.run_bind, hu, Result.andThen]; simp; done)
  split at h
  · injection h with h
    subst h
    simp only [Sem.run_bind, hu, Result.andThen]
    simp
  · cases h
theorem e_eqn {t t' : TypeId} {X Y : Operand} {x y v : Value} {b : Bool} {op : BinOp} (hF : Fr n ds l a) (hX : ev l X = some x) (hY : ev l Y = some y) (he : eqO t X Y x y = some b) (hv : eqV op b = some v) (w : World) {dst : Option Tmp} : (execOp a.eval ⟨dst, .binOp op t X Y t', ty, pos, af, g⟩).run Try.prog w = .ok (.value v) w := by
  have h1 := eqO_guard (op := op) he w
  have h2 := eqO_ok he w
  have h3 : (binOp op t x y).run Try.prog w = .ok v w := by
    unfold eqO at he
    unfold eqV at hv
    split at hv
    · injection hv with hv; subst hv
      split at he
      all_goals try (split at he)
      all_goals try (cases he; done)
      all_goals (simp [binOp, Sem.run_bind, h2, Result.andThen])
    · injection hv with hv; subst hv
      split at he
      all_goals try (split at he)
      all_goals try (cases he; done)
      all_goals (simp [binOp, Sem.run_bind, h2, Result.andThen])
    · cases hv
  simp only [execOp, hF.eval hX, hF.eval hY, Sem.run_bind, h1, Result.andThen, h3]
  rfl
theorem s_eqn {t t' : TypeId} {X Y : Operand} {x y v : Value} {b : Bool} {op : BinOp} (hF : Fr n ds l a) (hg : wantO os l g = some true) (hX : ev l X = some x) (hY : ev l Y = some y) (he : eqO t X Y x y = some b) (hv : eqV op b = some v) (hd : Nat.blt d n = true)
    (k : ∀ a, Fr n ds ((d, v) :: l) a → wl ⟨os⟩ Q rest a w) : wl ⟨os⟩ Q (⟨some d, .binOp op t X Y t', ty, pos, af, g⟩ :: rest) a w :=
  s_op hF hg fun _ hK => upon_value (e_eqn hF hX hY he hv w) (hK _ _ (k _ (hF.put hd v)))
/-- A drawn region in which boxes are stored into before others are read: what all its orders see is less. -/
theorem c_drawS {id : Nat} {bs0 : List BoxE} (tail : Nat → Bool) (hs : ∀ x ∈ bs0, x ∈ bs) (hM : Mm own w0 bs L Fs w) (h : ∀ w, Mm own w0 bs L Fs w → wpAnyT Try.prog .any ⟨os⟩ Q (Sm bs0 Fs) tail os.length (Array.replicate os.length false) a w) : Wk none (Code.region id ⟨os⟩ true) Q a w :=
  wp_region_T (Sm bs0 Fs) tail mixed (hM.drew.sm.sub hs fun _ h => h) fun _ => by have := h _ hM.drew; simpa using this
/-- A call that hands over rows: what is known of the world before it stays, for addRows. -/
theorem s_callO {f : FuncId} {X : Operand} {as_ : List Operand} {ts : Array TypeId} {vs : List Value} {R : Value → World → Prop} (hF : Fr n ds l a) (hg : wantO os l g = some true) (hX : ev l X = some (.func (.func f) #[] #[])) (ha : evL l as_ = some vs) (he : memB entL f = true) (hd : Nat.blt d n = true)
    (hC : Calls Try.prog f ⟨vs⟩ w (Ret w R)) (k : ∀ v w' a, R v w' → Since w w' → Fr n ds ((d, v) :: l) a → wl ⟨os⟩ Q rest a w') : wl ⟨os⟩ Q (⟨some d, .call ⟨.value X, ⟨as_⟩, ts⟩, ty, pos, af, g⟩ :: rest) a w :=
  s_op hF hg fun _ hK => e_call hF hX ha he hC fun v w' hs hR => hK _ _ (k v w' _ hR hs (hF.put hd v))
theorem x_callO {f : FuncId} {X : Operand} {as_ : List Operand} {ts : Array TypeId} {vs : List Value} {R : Value → World → Prop} (hF : Fr n ds l a) (hX : ev l X = some (.func (.func f) #[] #[])) (ha : evL l as_ = some vs) (he : memB entL f = true) (hd : Nat.blt d n = true)
    (hC : Calls Try.prog f ⟨vs⟩ w (Ret w R)) (k : ∀ v w' a, R v w' → Since w w' → Fr n ds ((d, v) :: l) a → K a w') : (⟨some d, .call ⟨.value X, ⟨as_⟩, ts⟩, ty, pos, af, g⟩ : Oper).wp Try.prog a w K Q :=
  e_call hF hX ha he hC fun v w' hs hR => k v w' _ hR hs (hF.put hd v)
/-- A literal without elements: a row. -/
theorem e_lit0 {t e : TypeId} {size : Nat} (hM : Mm own w0 bs L Fs w) (he : tyD t = some (.slice e)) (hs : tyS e = some size)
    (k : ∀ b w', Mm own w0 bs (⟨e, size, .slice (some ⟨b, 0, none⟩) 0 0, 0, []⟩ :: L) Fs w' → Since w w' → K (a.put (some d) (.slice (some ⟨b, 0, none⟩) 0 0)) w') : (⟨some d, .buildSlice t 0 ⟨[]⟩, ty, pos, af, g⟩ : Oper).wp Try.prog a w K Q := by
  refine upon_value (v := .slice (some ⟨w.heap.size, 0, none⟩) 0 0) (w' := w.alloc (.cells ⟨[]⟩ e)) ?_ (k _ _ ((hM.box ⟨[]⟩ e).boxRow size 0 (by simp) (by decide)) ((Since.refl w).alloc _))
  simp only [execOp, Instr.buildSlice, List.map_toArray, List.map_nil]
  simp only [Sem.run_bind, tyD_run he, Result.andThen, tyS_run hs]
  rw [if_neg (by omega)]
  simp [Sem.run_bind, Result.andThen, Instr.fill, newRow, newObj, Sem.run]
  rw [show Array.range 0 = #[] from Array.ext' (by simp)]
  simp
theorem s_lit0 {t e : TypeId} {size : Nat} (hF : Fr n ds l a) (hM : Mm own w0 bs L Fs w) (hg : wantO os l g = some true) (he : tyD t = some (.slice e)) (hs : tyS e = some size) (hd : Nat.blt d n = true)
    (k : ∀ b w' a, Mm own w0 bs (⟨e, size, .slice (some ⟨b, 0, none⟩) 0 0, 0, []⟩ :: L) Fs w' → Fr n ds ((d, .slice (some ⟨b, 0, none⟩) 0 0) :: l) a → wl ⟨os⟩ Q rest a w') : wl ⟨os⟩ Q (⟨some d, .buildSlice t 0 ⟨[]⟩, ty, pos, af, g⟩ :: rest) a w :=
  s_op hF hg fun _ hK => e_lit0 hM he hs fun b w' h1 _ => hK _ _ (k b w' _ h1 (hF.put hd _))
end
end Go.Proofs.Ytobflnjbdghnhaa
