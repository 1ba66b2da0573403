/- The walker's steps: calls, literals. -/
import Derived.Test.YtobflnjbdghnhaaGe
import Derived.Shelf.Abstract
set_option linter.unusedSimpArgs false
set_option linter.unusedVariables false
set_option linter.unusedSectionVars false
namespace Go.Proofs.Ytobflnjbdghnhaa
open Go.RowKit Go.Shelf
variable {n : Nat} {ds : List Deferred} {l : List (Nat × Value)} {a : Act} {w w0 : World} {own : Nat → Prop} {bs : List BoxE} {L : List Ent} {Fs : List (World → Prop)}
variable {os rest : List Oper} {Q : Exit → Act → World → Prop} {K : Act → World → Prop}
variable {d : Nat} {op : Op} {ty : TypeId} {pos : String} {af : Array Edge} {g : Option (Nat × Bool)}
/-! Calls -/
/-- A call returns, nothing old has turned, and R holds of the result. -/
def Ret (w : World) (R : Value → World → Prop) : Ending → World → Prop := fun e w' => ∃ v, e = .returned v ∧ Since w w' ∧ R v w'
theorem Ret.of {f : FuncId} {args : Array Value} {v : Value} (h : Calls Try.prog f args w fun e w' => e = .returned v ∧ Since w w') : Calls Try.prog f args w (Ret w fun u _ => u = v) := h.mono fun _ _ ⟨h1, h2⟩ => ⟨_, h1, h2, rfl⟩
theorem Ret.to {f : FuncId} {args : Array Value} {v : Value} (h : Calls Try.prog f args w (Ret w fun u _ => u = v)) : Calls Try.prog f args w fun e w' => e = .returned v ∧ Since w w' := h.mono fun _ _ ⟨_, h1, h2, h3⟩ => ⟨by rw [h1, h3], h2⟩
def memB : List Nat → Nat → Bool
  | [], _ => false
  | k :: r, f => match Nat.beq k f with | true => true | false => memB r f
theorem memB_ok : ∀ {l : List Nat} {f : Nat}, memB l f = true → f ∈ l
  | [], _, h => by simp [memB] at h
  | k :: r, f, h => by
    unfold memB at h
    split at h
    · rename_i hb; rw [Nat.eq_of_beq_eq_true hb]; exact List.mem_cons_self
    · exact List.mem_cons_of_mem _ (memB_ok h)
def entL : List Nat := [3, 4, 5, 6, 7, 8, 9, 10, 11, 12, 13, 14, 15, 16, 17, 18, 19, 20, 21, 22, 23, 24, 25, 26]
theorem entL_ok {f : Nat} (h : f ∈ entL) : ∀ args w, (callFunc f args).run Try.prog w = .ok (.enter f args) w := ((List.forall_mem_cons.2 ⟨enters_of Try.func3 (by kernel_rfl) rfl, (List.forall_mem_cons.2 ⟨enters_of Try.func4 (by kernel_rfl) rfl, (List.forall_mem_cons.2 ⟨enters_of Try.func5 (by kernel_rfl) rfl, (List.forall_mem_cons.2 ⟨enters_of Try.func6 (by kernel_rfl) rfl, (List.forall_mem_cons.2 ⟨enters_of Try.func7 (by kernel_rfl) rfl, (List.forall_mem_cons.2 ⟨enters_of Try.func8 (by kernel_rfl) rfl, (List.forall_mem_cons.2 ⟨enters_of Try.func9 (by kernel_rfl) rfl, (List.forall_mem_cons.2 ⟨enters_of Try.func10 (by kernel_rfl) rfl, (List.forall_mem_cons.2 ⟨enters_of Try.func11 (by kernel_rfl) rfl, (List.forall_mem_cons.2 ⟨enters_of Try.func12 (by kernel_rfl) rfl, (List.forall_mem_cons.2 ⟨enters_of Try.func13 (by kernel_rfl) rfl, (List.forall_mem_cons.2 ⟨enters_of Try.func14 (by kernel_rfl) rfl, (List.forall_mem_cons.2 ⟨enters_of Try.func15 (by kernel_rfl) rfl, (List.forall_mem_cons.2 ⟨enters_of Try.func16 (by kernel_rfl) rfl, (List.forall_mem_cons.2 ⟨enters_of Try.func17 (by kernel_rfl) rfl, (List.forall_mem_cons.2 ⟨enters_of Try.func18 (by kernel_rfl) rfl, (List.forall_mem_cons.2 ⟨enters_of Try.func19 (by kernel_rfl) rfl, (List.forall_mem_cons.2 ⟨enters_of Try.func20 (by kernel_rfl) rfl, (List.forall_mem_cons.2 ⟨enters_of Try.func21 (by kernel_rfl) rfl, (List.forall_mem_cons.2 ⟨enters_of Try.func22 (by kernel_rfl) rfl, (List.forall_mem_cons.2 ⟨enters_of Try.func23 (by kernel_rfl) rfl, (List.forall_mem_cons.2 ⟨enters_of Try.func24 (by kernel_rfl) rfl, (List.forall_mem_cons.2 ⟨enters_of Try.func25 (by kernel_rfl) rfl, (List.forall_mem_cons.2 ⟨enters_of Try.func26 (by kernel_rfl) rfl, (fun _ h => by simp at h)⟩)⟩)⟩)⟩)⟩)⟩)⟩)⟩)⟩)⟩)⟩)⟩)⟩)⟩)⟩)⟩)⟩)⟩)⟩)⟩)⟩)⟩)⟩)⟩) : ∀ f ∈ entL, ∀ args w, (callFunc f args).run Try.prog w = .ok (.enter f args) w) f h
theorem e_call {f : FuncId} {X : Operand} {as_ : List Operand} {ts : Array TypeId} {vs : List Value} {R : Value → World → Prop} {dst : Option Tmp} (hF : Fr n ds l a) (hX : ev l X = some (.func (.func f) #[] #[])) (ha : evL l as_ = some vs) (he : memB entL f = true)
    (hC : Calls Try.prog f ⟨vs⟩ w (Ret w R)) (k : ∀ v w', Since w w' → R v w' → K (a.put dst v) w') : (⟨dst, .call ⟨.value X, ⟨as_⟩, ts⟩, ty, pos, af, g⟩ : Oper).wp Try.prog a w K Q := by
  have hr : (execOp a.eval ⟨dst, .call ⟨.value X, ⟨as_⟩, ts⟩, ty, pos, af, g⟩).run Try.prog w = .ok (.enter f ⟨vs⟩) w := by
    have h1 := hF.evalL ha
    simp [execOp, resolve, hF.eval hX, Deferred.ofValue, invoke, h1, Sem.run_bind, Result.andThen, entL_ok (memB_ok he)]
  unfold Oper.wp
  rw [hr]
  refine Calls.mono hC ?_
  rintro e w' ⟨v, rfl, hs, hR⟩
  exact k v w' hs hR
theorem s_call {f : FuncId} {X : Operand} {as_ : List Operand} {ts : Array TypeId} {vs : List Value} {R : Value → World → Prop} (hF : Fr n ds l a) (hM : Mm own w0 bs L Fs w) (hg : wantO os l g = some true) (hX : ev l X = some (.func (.func f) #[] #[])) (ha : evL l as_ = some vs) (he : memB entL f = true) (hd : Nat.blt d n = true)
    (hC : Calls Try.prog f ⟨vs⟩ w (Ret w R)) (k : ∀ v w' a, R v w' → Since w w' → Mm own w0 bs L Fs w' → Fr n ds ((d, v) :: l) a → wl ⟨os⟩ Q rest a w') : wl ⟨os⟩ Q (⟨some d, .call ⟨.value X, ⟨as_⟩, ts⟩, ty, pos, af, g⟩ :: rest) a w :=
  s_op hF hg fun _ hK => e_call hF hX ha he hC fun v w' hs hR => hK _ _ (k v w' _ hR hs (hM.keep hs) (hF.put hd v))
def appL : List Value → List Value → Option (List Value)
  | [], ys => some ys
  | x :: xs, ys => match appL xs ys with | some zs => some (x :: zs) | none => none
theorem appL_ok : ∀ {xs ys zs : List Value}, appL xs ys = some zs → xs ++ ys = zs
  | [], ys, zs, h => by injection h
  | x :: xs, ys, zs, h => by
    unfold appL at h
    split at h
    · rename_i us hu; injection h with h; subst h; rw [List.cons_append, appL_ok hu]
    · cases h
/-- A call of a function value. -/
theorem e_callc {f : FuncId} {X : Operand} {as_ : List Operand} {ts : Array TypeId} {fi ca vs us xs : List Value} {R : Value → World → Prop} {dst : Option Tmp} (hF : Fr n ds l a) (hX : ev l X = some (.func (.func f) ⟨fi⟩ ⟨ca⟩)) (ha : evL l as_ = some vs) (h1 : appL fi vs = some us) (h2 : appL us ca = some xs) (he : memB entL f = true)
    (hC : Calls Try.prog f ⟨xs⟩ w (Ret w R)) (k : ∀ v w', Since w w' → R v w' → K (a.put dst v) w') : (⟨dst, .call ⟨.value X, ⟨as_⟩, ts⟩, ty, pos, af, g⟩ : Oper).wp Try.prog a w K Q := by
  have hr : (execOp a.eval ⟨dst, .call ⟨.value X, ⟨as_⟩, ts⟩, ty, pos, af, g⟩).run Try.prog w = .ok (.enter f ⟨xs⟩) w := by
    have h3 := hF.evalL ha
    have h4 := appL_ok h1
    have h5 := appL_ok h2
    subst h4
    subst h5
    simp [execOp, resolve, hF.eval hX, Deferred.ofValue, invoke, h3, Sem.run_bind, Result.andThen, entL_ok (memB_ok he)]
  unfold Oper.wp
  rw [hr]
  refine Calls.mono hC ?_
  rintro e w' ⟨v, rfl, hs, hR⟩
  exact k v w' hs hR
theorem s_callc {f : FuncId} {X : Operand} {as_ : List Operand} {ts : Array TypeId} {fi ca vs us xs : List Value} {R : Value → World → Prop} (hF : Fr n ds l a) (hM : Mm own w0 bs L Fs w) (hg : wantO os l g = some true) (hX : ev l X = some (.func (.func f) ⟨fi⟩ ⟨ca⟩)) (ha : evL l as_ = some vs) (h1 : appL fi vs = some us) (h2 : appL us ca = some xs) (he : memB entL f = true) (hd : Nat.blt d n = true)
    (hC : Calls Try.prog f ⟨xs⟩ w (Ret w R)) (k : ∀ v w' a, R v w' → Since w w' → Mm own w0 bs L Fs w' → Fr n ds ((d, v) :: l) a → wl ⟨os⟩ Q rest a w') : wl ⟨os⟩ Q (⟨some d, .call ⟨.value X, ⟨as_⟩, ts⟩, ty, pos, af, g⟩ :: rest) a w :=
  s_op hF hg fun _ hK => e_callc hF hX ha h1 h2 he hC fun v w' hs hR => hK _ _ (k v w' _ hR hs (hM.keep hs) (hF.put hd v))

/-! Literals of slices -/
def zerosL (z : List Value) : Nat → List Value
  | 0 => []
  | k + 1 => z ++ zerosL z k
theorem zerosL_len (z : List Value) : ∀ k, (zerosL z k).length = k * z.length
  | 0 => by simp [zerosL]
  | k + 1 => by simp [zerosL, zerosL_len z k, Nat.succ_mul]; omega
theorem zerosL_get (z : List Value) : ∀ (k i : Nat), i < k * z.length → (zerosL z k)[i]? = z[i % z.length]?
  | 0, i, h => by simp at h
  | k + 1, i, h => by
    rw [Nat.succ_mul] at h
    unfold zerosL
    by_cases hi : i < z.length
    · rw [List.getElem?_append_left hi, Nat.mod_eq_of_lt hi]
    · rw [List.getElem?_append_right (by omega), zerosL_get z k _ (by omega), ← Nat.mod_eq_sub_mod (by omega)]
theorem zeros_eq {z : Array Value} {len size : Nat} (hz : z.size = size) : (Array.range (len * size)).map (z[· % z.size]!) = (zerosL z.toList len).toArray := by
  apply Array.ext'
  apply List.ext_getElem?
  intro i
  have hl : (zerosL z.toList len).length = len * size := by rw [zerosL_len]; simp [hz]
  by_cases hi : i < len * size
  · have := zerosL_get z.toList len i (by rw [Array.length_toList, hz]; exact hi)
    simp only [Array.toList_map, Array.toList_range, List.getElem?_map, List.getElem?_range hi, Option.map_some]
    rw [this]
    have h0 : 0 < z.size := by rcases Nat.eq_zero_or_pos z.size with h | h; (rw [hz] at h; subst h; simp at hi); exact h
    have hm : i % z.size < z.size := Nat.mod_lt _ h0
    rw [Array.length_toList, getElem!_pos z _ hm]
    simp [hm]
  · rw [List.getElem?_eq_none (by simp; omega), List.getElem?_eq_none (by simpa [hl] using hi)]
def litO (t : TypeId) (len : Nat) (vs : List (Nat × Value)) : Option (TypeId × List Value) := match tyD t with
  | some (.slice e) => match te e with
    | some i => match cellsO i.zero with
      | some z => match Nat.beq z.length i.size && (Nat.ble 1 (len * i.size) && Nat.ble (len * i.size) 1000) with
        | true => match fillL (fun k => some (k * i.size, i.size)) (zerosL z len) vs with
          | some cs => some (e, cs)
          | none => none
        | false => none
      | none => none
    | none => none
  | _ => none
theorem e_lit {t e : TypeId} {len : Nat} {ps : List (Nat × Operand)} {vs : List (Nat × Value)} {cs : List Value} (hF : Fr n ds l a) (hM : Mm own w0 bs L Fs w) (hp : evP l ps = some vs) (hl : litO t len vs = some (e, cs))
    (k : ∀ b w', Mm own w0 (⟨b, ⟨cs⟩, e⟩ :: bs) L Fs w' → Since w w' → K (a.put (some d) (.slice (some ⟨b, 0, none⟩) len len)) w') : (⟨some d, .buildSlice t len ⟨ps⟩, ty, pos, af, g⟩ : Oper).wp Try.prog a w K Q := by
  refine upon_value (v := .slice (some ⟨w.heap.size, 0, none⟩) len len) (w' := w.alloc (.cells ⟨cs⟩ e)) ?_ (k _ _ (hM.box _ _) ((Since.refl w).alloc _))
  unfold litO at hl
  split at hl
  · rename_i e' he
    split at hl
    · rename_i i hi
      split at hl
      · rename_i z hz
        split at hl
        · rename_i hb
          rw [Bool.and_eq_true, Bool.and_eq_true] at hb
          have b1 := Nat.eq_of_beq_eq_true hb.1
          have b2 := Nat.le_of_ble_eq_true hb.2.1
          have b3 := Nat.le_of_ble_eq_true hb.2.2
          split at hl
          · rename_i cs' hc
            injection hl with hl
            injection hl with h1 h2
            subst h1 h2
            have ok := te_ok hi
            have hzc := cellsO_ok hz
            have hsz : i.zero.cells.size = i.size := by rw [hzc]; simpa using b1
            have hzz := zeros_eq (z := i.zero.cells) (len := len) hsz
            have hf := fillL_ok hc
            have hev := hF.evalP hp
            simp only [execOp, Instr.buildSlice, List.map_toArray, hev]
            simp only [Sem.run_bind, tyD_run he, Result.andThen, ok.size w]
            rw [if_neg (by omega), if_neg (by omega)]
            have hz' : (⟨z⟩ : Array Value).toList = z := rfl
            rw [hzc] at hzz
            simp [Sem.run_bind, ok.zero w, Result.andThen, hzc]
            simp at hzz
            rw [hzz]
            simp [hf, newRow, newObj, Sem.run_bind, Result.andThen, Sem.run]
          · cases hl
        · cases hl
      · cases hl
    · cases hl
  · cases hl
theorem s_lit {t e : TypeId} {len : Nat} {ps : List (Nat × Operand)} {vs : List (Nat × Value)} {cs : List Value} (hF : Fr n ds l a) (hM : Mm own w0 bs L Fs w) (hg : wantO os l g = some true) (hp : evP l ps = some vs) (hl : litO t len vs = some (e, cs)) (hd : Nat.blt d n = true)
    (k : ∀ b w' a, Mm own w0 (⟨b, ⟨cs⟩, e⟩ :: bs) L Fs w' → Fr n ds ((d, .slice (some ⟨b, 0, none⟩) len len) :: l) a → wl ⟨os⟩ Q rest a w') : wl ⟨os⟩ Q (⟨some d, .buildSlice t len ⟨ps⟩, ty, pos, af, g⟩ :: rest) a w :=
  s_op hF hg fun _ hK => e_lit hF hM hp hl fun b w' h1 _ => hK _ _ (k b w' _ h1 (hF.put hd _))
end Go.Proofs.Ytobflnjbdghnhaa
