/- The walker's steps. -/
import Derived.Test.YtobflnjbdghnhaaMm
import Derived.Test.YtobflnjbdghnhaaReg
import Derived.RangeFuncCalls
import Derived.TacticsIn
set_option linter.unusedSimpArgs false
set_option linter.unusedVariables false
set_option linter.unusedSectionVars false
namespace Go.Proofs.Ytobflnjbdghnhaa
open Go.RowKit
/-- Is an operation wanted? -/
def wantO (os : List Oper) (l : List (Nat × Value)) : Option (Nat × Bool) → Option Bool
  | none => some true
  | some (j, want) => match getO os j with
    | some o => match o.dst with
      | some d => match lk l d with
        | some (.bool c) => some (match c, want with | true, true => true | false, false => true | _, _ => false)
        | some (.tuple _) => some false
        | _ => none
      | none => none
    | none => none
theorem wantO_ok {n : Nat} {ds : List Deferred} {l : List (Nat × Value)} {a : Act} (hF : Fr n ds l a) {os : List Oper} {o : Oper} {b : Bool} (h : wantO os l o.guard = some b) : Region.wanted o (yielded ⟨os⟩ a.tmps) = b := by
  unfold Region.wanted
  unfold wantO at h
  split at h
  · rename_i hg; injection h with h; rw [hg]; exact h
  · rename_i j want hg
    rw [hg]
    simp only
    split at h
    · rename_i o' ho
      rw [getO_eq] at ho
      split at h
      · rename_i d hd
        have hy : ∀ u, lk l d = some u → yielded ⟨os⟩ a.tmps j = match (if d < n then some u else none) with | some (.bool b) => some b | _ => none := by
          intro u hu
          have hg := hF.get d u hu
          have ht : a.tmps[d]? = if d < n then some u else none := by
            by_cases hlt : d < n
            · rw [if_pos hlt]
              rw [Array.getD_eq_getD_getElem?, Array.getElem?_eq_getElem (by rw [hF.size]; exact hlt)] at hg
              rw [Array.getElem?_eq_getElem (by rw [hF.size]; exact hlt)]
              simpa using hg
            · rw [if_neg hlt]
              exact Array.getElem?_eq_none (by rw [hF.size]; exact Nat.le_of_not_lt hlt)
          unfold yielded
          rw [show (({ toList := os } : Array Oper)[j]?) = some o' from by simpa using ho]
          simp only [Option.bind_some, hd]
          rw [ht]
          by_cases hlt : d < n
          · rw [if_pos hlt]; cases u <;> rfl
          · rw [if_neg hlt]
        split at h
        · rename_i c hc
          have hlt : d < n := by
            rcases Nat.lt_or_ge d n with g | g
            · exact g
            · have := hF.get d _ hc
              rw [Array.getD_eq_getD_getElem?, Array.getElem?_eq_none (by rw [hF.size]; exact g)] at this
              simp [undef] at this
          rw [hy _ hc, if_pos hlt]
          injection h with h
          subst h
          cases c <;> cases want <;> rfl
        · rename_i u hu
          rw [hy _ hu]
          injection h with h
          subst h
          split
          · rename_i b hb; split at hb <;> cases hb
          · simp
        · cases h
      · cases h
    · cases h
/-- The operations of a region, one after another. -/
def wl (ops : Array Oper) (Q : Exit → Act → World → Prop) : List Oper → Act → World → Prop
  | [], a, w => Q .normal a w
  | o :: rest, a, w => if Region.wanted o (yielded ops a.tmps) then o.wp Try.prog a w (wl ops Q rest) Q else wl ops Q rest (a.put o.dst undef) w
theorem wl_list {ops : Array Oper} {Q : Exit → Act → World → Prop} : ∀ {rest : List Oper} {a : Act} {w : World}, wl ops Q rest a w → wpList Try.prog ops Q rest a w
  | [], _, _, h => h
  | o :: rest, a, w, h => by
    unfold wl at h
    unfold wpList
    split
    · rename_i hw
      rw [if_pos hw] at h
      exact .inl (Oper.wp_mono (fun _ _ h' => wl_list h') h)
    · rename_i hw
      rw [if_neg hw] at h
      exact wl_list h
theorem wl_step {ops : Array Oper} {rest : List Oper} {o : Oper} {a : Act} {w : World} {Q : Exit → Act → World → Prop} (h : ∀ K : Act → World → Prop, (∀ a w, wl ops Q rest a w → K a w) →
      if Region.wanted o (yielded ops a.tmps) then o.wp Try.prog a w K Q else K (a.put o.dst undef) w) : wl ops Q (o :: rest) a w := by
  have := h _ (fun _ _ h => h)
  unfold wl
  exact this
def noDefer (o : Oper) : Bool := match o.op with | .defer _ => false | _ => true
theorem callsIn_w {l n : Nat} {f : FuncId} {args : Array Value} {w : World} {R : Ending → World → Prop} (h : Calls Try.prog f args w R) : CallsIn (Fence.wide.inRound l) n Try.prog f args w R := callsIn_wide.2 h
theorem rowsIn_w {l n : Nat} {row : String} {args : Array Value} {w : World} {R : Value → World → Prop} (h : Rows Try.prog row args w R) : RowsIn (Fence.wide.inRound l) n Try.prog row args w R :=
  fun c cs _ => let ⟨v, w', r, s⟩ := h c cs; ⟨v, w', r, stepsIn_wide.2 s⟩
theorem op_in {l n : Nat} {o : Oper} {a : Act} {w : World} {K : Act → World → Prop} {Q : Exit → Act → World → Prop} (hd : noDefer o = true) (h : o.wp Try.prog a w K Q) : o.wpIn (Fence.wide.inRound l) n Try.prog a w K Q := by
  refine ⟨fun _ _ => trivial, ?_⟩
  have he : o.semAt (Fence.wide.inRound l).round a.eval = execOp a.eval o := by
    unfold noDefer at hd
    simp only [Fence.inRound_round]
    unfold Oper.semAt
    obtain ⟨dst, op, ty, pos, af, g⟩ := o
    cases op <;> first | rfl | (simp at hd)
  rw [he]
  unfold Oper.wp at h
  generalize (execOp a.eval o).run Try.prog w = r at h ⊢
  cases r with
  | ok x w' =>
    cases x <;> simp only [Oper.upon] at h <;> simp only [Oper.uponIn] <;> first
      | exact h
      | exact ⟨fun hz => by simp [Fence.wide] at hz, callsIn_w h⟩
      | exact ⟨fun hz => by simp [Fence.wide] at hz, rowsIn_w h⟩
      | exact h.elim
  | halt x w' => cases x <;> simp only [Oper.upon] at h <;> simp only [Oper.uponIn] <;> first | exact h | exact h.elim
theorem wl_in {l n : Nat} {ops : Array Oper} {Q : Exit → Act → World → Prop} : ∀ {rest : List Oper} {a : Act} {w : World}, rest.all noDefer = true → wl ops Q rest a w → wpListIn (Fence.wide.inRound l) n Try.prog ops Q rest a w
  | [], _, _, _, h => h
  | o :: rest, a, w, hd, h => by
    rw [List.all_cons, Bool.and_eq_true] at hd
    unfold wl at h
    unfold wpListIn
    split
    · rename_i hw
      rw [if_pos hw] at h
      exact op_in hd.1 (Oper.wp_mono (fun _ _ h' => wl_in hd.2 h') h)
    · rename_i hw
      rw [if_neg hw] at h
      exact ⟨fun _ _ => trivial, wl_in hd.2 h⟩
variable {n : Nat} {ds : List Deferred} {l : List (Nat × Value)} {a : Act} {w w0 : World} {own : Nat → Prop} {bs : List BoxE} {L : List Ent} {Fs : List (World → Prop)}
variable {os rest : List Oper} {Q : Exit → Act → World → Prop} {K : Act → World → Prop}
variable {d : Nat} {op : Op} {ty : TypeId} {pos : String} {af : Array Edge} {g : Option (Nat × Bool)}
theorem upon_value {o : Oper} {v : Value} {w' : World} (h : (execOp a.eval o).run Try.prog w = .ok (.value v) w') (hK : K (a.put o.dst v) w') : o.wp Try.prog a w K Q := by
  unfold Oper.wp; rw [h]; exact hK
theorem upon_skip' {o : Oper} {w' : World} (h : (execOp a.eval o).run Try.prog w = .ok .skip w') (hK : K (a.put o.dst undef) w') : o.wp Try.prog a w K Q := by
  unfold Oper.wp; rw [h]; exact hK
/-- One operation, then the others. -/
theorem s_op {o : Oper} (hF : Fr n ds l a) (hg : wantO os l o.guard = some true) (h : ∀ K : Act → World → Prop, (∀ a w, wl ⟨os⟩ Q rest a w → K a w) → o.wp Try.prog a w K Q) : wl ⟨os⟩ Q (o :: rest) a w :=
  wl_step fun K hK => by rw [wantO_ok hF hg]; simp only [if_true]; exact h K hK
theorem s_skip (hF : Fr n ds l a) (hg : wantO os l g = some false) (hd : Nat.blt d n = true) (k : ∀ a, Fr n ds ((d, undef) :: l) a → wl ⟨os⟩ Q rest a w) : wl ⟨os⟩ Q (⟨some d, op, ty, pos, af, g⟩ :: rest) a w :=
  wl_step fun K hK => by rw [wantO_ok (o := ⟨some d, op, ty, pos, af, g⟩) hF hg]; simp only [Bool.false_eq_true, if_false]; exact hK _ _ (k _ (hF.put hd _))
theorem s_skip0 (hF : Fr n ds l a) (hg : wantO os l g = some false) (k : wl ⟨os⟩ Q rest a w) : wl ⟨os⟩ Q (⟨none, op, ty, pos, af, g⟩ :: rest) a w :=
  wl_step fun K hK => by rw [wantO_ok (o := ⟨none, op, ty, pos, af, g⟩) hF hg]; simp only [Bool.false_eq_true, if_false]; exact hK _ _ k
theorem s_pure {v : Value} {p : Prop} (hF : Fr n ds l a) (hg : wantO os l g = some true) (hp : pureO l op = some (v, p)) (hd : Nat.blt d n = true) (ob : p) (k : ∀ a, Fr n ds ((d, v) :: l) a → wl ⟨os⟩ Q rest a w) :
    wl ⟨os⟩ Q (⟨some d, op, ty, pos, af, g⟩ :: rest) a w :=
  s_op hF hg fun _ hK => upon_value (pureO_ok (o := ⟨some d, op, ty, pos, af, g⟩) hF hp ob w) (hK _ _ (k _ (hF.put hd v)))
theorem s_pure0 {v : Value} {p : Prop} (hF : Fr n ds l a) (hg : wantO os l g = some true) (hp : pureO l op = some (v, p)) (ob : p) (k : wl ⟨os⟩ Q rest a w) :
    wl ⟨os⟩ Q (⟨none, op, ty, pos, af, g⟩ :: rest) a w :=
  s_op hF hg fun _ hK => upon_value (pureO_ok (o := ⟨none, op, ty, pos, af, g⟩) hF hp ob w) (hK _ _ k)

/-! Loads -/
theorem run_loadVar_rd {T T' : TypeId} {b off : Nat} {cs : List Value} {v : Value} (hb : Box w b ⟨cs⟩ T') (hv : rdV T cs off = some v) : (loadVar T ⟨b, off, none⟩).run Try.prog w = .ok v w := by
  unfold rdV at hv
  split at hv
  · rename_i ag sz by' de ze hi
    have ok := te_ok hi
    have ha := ok.agg w
    have hz := ok.size w
    simp only at ha hz
    have hcell : ∀ o, w.cell? ⟨b, o, none⟩ = cs[o]? := fun o => by rw [(Box.rules hb).1 o]; simp
    split at hv
    · split at hv
      · rename_i r hr
        injection hv with hv
        subst hv
        obtain ⟨h1, h2⟩ := rdV.seg_eq hr
        have := run_loadCells_list (P := Try.prog) w ⟨b, off, none⟩ r (fun j u hu => by
          rw [add_lit, hcell]
          rw [h1, List.getElem?_take] at hu
          split at hu
          · rw [List.getElem?_drop] at hu; exact hu
          · cases hu)
        rw [h2] at this
        simp [loadVar, Sem.run_bind, ha, hz, this, Result.andThen]
      · cases hv
    · rw [rdV.at'_eq] at hv
      have hc := hcell off
      rw [hv] at hc
      simp [loadVar, Sem.run_bind, ha, Result.andThen, load, Sem.run, hc]
  · cases hv
theorem e_load {T T' : TypeId} {X : Operand} {b off : Nat} {cs : List Value} {v : Value} (hF : Fr n ds l a) (hX : ev l X = some (.pointer (some ⟨b, off, none⟩))) (hb : Box w b ⟨cs⟩ T') (hv : rdV T cs off = some v) :
    (execOp a.eval ⟨some d, .load T X, ty, pos, af, g⟩).run Try.prog w = .ok (.value v) w := by
  have := run_loadVar_rd hb hv
  simp [execOp, hF.eval hX, Instr.loadAt, Instr.sureAddr, Sem.run_bind, this, Result.andThen]
theorem s_load {T T' : TypeId} {X : Operand} {b off : Nat} {cs : List Value} {v : Value} (hF : Fr n ds l a) (hM : Mm own w0 bs L Fs w) (hg : wantO os l g = some true) (hX : ev l X = some (.pointer (some ⟨b, off, none⟩))) (hb : ⟨b, ⟨cs⟩, T'⟩ ∈ bs) (hv : rdV T cs off = some v) (hd : Nat.blt d n = true)
    (k : ∀ a, Fr n ds ((d, v) :: l) a → wl ⟨os⟩ Q rest a w) : wl ⟨os⟩ Q (⟨some d, .load T X, ty, pos, af, g⟩ :: rest) a w :=
  s_op hF hg fun _ hK => upon_value (e_load hF hX (hM.mem.box _ hb) hv) (hK _ _ (k _ (hF.put hd v)))
/-- No aggregate. -/
def sclO (T : TypeId) : Option Unit := match te T with | some i => (match i.agg with | false => some () | true => none) | none => none
theorem e_loadF {α : Type} {enc : α → Value} {T : TypeId} {X : Operand} {ad : Addr} {j : Int} {xs : List α} {x : α} (hF : Fr n ds l a) (hX : ev l X = some (.pointer (some (adr ad j 1)))) (hr : Reads enc w (some ad) xs) (hx : xs[j.toNat]? = some x) (hT : sclO T = some ()) :
    (execOp a.eval ⟨some d, .load T X, ty, pos, af, g⟩).run Try.prog w = .ok (.value (enc x)) w := by
  obtain ⟨b, off, e, hb, hc⟩ := hr _ x hx
  injection e with e
  subst e
  have hadr : adr ⟨b, off, none⟩ j 1 = ⟨b, off + j.toNat, none⟩ := by unfold adr; rw [add_lit]; simp
  unfold sclO at hT
  split at hT
  · rename_i i hi
    split at hT
    · rename_i ha
      have hagg := (te_ok hi).agg w
      rw [ha] at hagg
      simp [execOp, hF.eval hX, Instr.loadAt, Instr.sureAddr, Sem.run_bind, loadVar, hadr, hagg, Result.andThen, load, Sem.run, hc]
    · cases hT
  · cases hT
theorem s_loadF {α : Type} {enc : α → Value} {T : TypeId} {X : Operand} {ad : Addr} {j : Int} {xs : List α} {x : α} (hF : Fr n ds l a) (hM : Mm own w0 bs L Fs w) (hg : wantO os l g = some true) (hX : ev l X = some (.pointer (some (adr ad j 1)))) (hr : RdF enc (some ad) xs ∈ Fs) (hT : sclO T = some ()) (hd : Nat.blt d n = true) (hx : xs[j.toNat]? = some x)
    (k : ∀ a, Fr n ds ((d, enc x) :: l) a → wl ⟨os⟩ Q rest a w) : wl ⟨os⟩ Q (⟨some d, .load T X, ty, pos, af, g⟩ :: rest) a w :=
  s_op hF hg fun _ hK => upon_value (e_loadF hF hX (hM.fact hr) hx hT) (hK _ _ (k _ (hF.put hd _)))

/-! New blocks -/
def cellsO : Value → Option (List Value)
  | .agg ⟨cs⟩ => some cs
  | .int k x => some [.int k x]
  | .bool b => some [.bool b]
  | .slice x y z => some [.slice x y z]
  | .pointer x => some [.pointer x]
  | .func x y z => some [.func x y z]
  | .map x => some [.map x]
  | .string x => some [.string x]
  | .iface x y => some [.iface x y]
  | .nilIface => some [.nilIface]
  | .nilFunc => some [.nilFunc]
  | _ => none
theorem cellsO_ok {v : Value} {cs : List Value} (h : cellsO v = some cs) : v.cells = ⟨cs⟩ := by
  unfold cellsO at h
  split at h <;> first | (injection h with h; subst h; rfl) | cases h
def zeroO (T : TypeId) : Option (List Value) := match te T with | some i => cellsO i.zero | none => none
theorem zeroO_ok {T : TypeId} {cs : List Value} (h : zeroO T = some cs) : ∃ z, (∀ w, (zeroValue T).run Try.prog w = .ok z w) ∧ z.cells = ⟨cs⟩ := by
  unfold zeroO at h
  split at h
  · rename_i i hi; exact ⟨i.zero, (te_ok hi).zero, cellsO_ok h⟩
  · cases h
theorem e_alloc {T : TypeId} {cs : List Value} (hz : zeroO T = some cs) (hM : Mm own w0 bs L Fs w)
    (k : ∀ b w', Mm own w0 (⟨b, ⟨cs⟩, T⟩ :: bs) L Fs w' → Since w w' → K (a.put (some d) (.pointer (some ⟨b, 0, none⟩))) w') : (⟨some d, .alloc T, ty, pos, af, g⟩ : Oper).wp Try.prog a w K Q := by
  obtain ⟨z, hz1, hz2⟩ := zeroO_ok hz
  refine upon_value (v := .pointer (some ⟨w.heap.size, 0, none⟩)) (w' := w.alloc (.cells ⟨cs⟩ T)) ?_ (k _ _ (hM.box _ _) ((Since.refl w).alloc _))
  simp [execOp, Instr.alloc, Sem.run_bind, hz1, Result.andThen, newVar, newRow, newObj, Sem.run, hz2]
theorem e_box {T : TypeId} {X : Operand} {v : Value} {cs : List Value} (hF : Fr n ds l a) (hX : ev l X = some v) (hc : cellsO v = some cs) (hM : Mm own w0 bs L Fs w)
    (k : ∀ b w', Mm own w0 (⟨b, ⟨cs⟩, T⟩ :: bs) L Fs w' → Since w w' → K (a.put (some d) (.pointer (some ⟨b, 0, none⟩))) w') : (⟨some d, .box T X, ty, pos, af, g⟩ : Oper).wp Try.prog a w K Q := by
  refine upon_value (v := .pointer (some ⟨w.heap.size, 0, none⟩)) (w' := w.alloc (.cells ⟨cs⟩ T)) ?_ (k _ _ (hM.box _ _) ((Since.refl w).alloc _))
  simp [execOp, Instr.box, Sem.run_bind, Result.andThen, newVar, newRow, newObj, Sem.run, hF.eval hX, cellsO_ok hc]
theorem s_alloc {T : TypeId} {cs : List Value} (hF : Fr n ds l a) (hM : Mm own w0 bs L Fs w) (hg : wantO os l g = some true) (hz : zeroO T = some cs) (hd : Nat.blt d n = true)
    (k : ∀ b w' a, Mm own w0 (⟨b, ⟨cs⟩, T⟩ :: bs) L Fs w' → Fr n ds ((d, .pointer (some ⟨b, 0, none⟩)) :: l) a → wl ⟨os⟩ Q rest a w') : wl ⟨os⟩ Q (⟨some d, .alloc T, ty, pos, af, g⟩ :: rest) a w :=
  s_op hF hg fun _ hK => e_alloc hz hM fun b w' h1 _ => hK _ _ (k b w' _ h1 (hF.put hd _))
theorem s_box {T : TypeId} {X : Operand} {v : Value} {cs : List Value} (hF : Fr n ds l a) (hM : Mm own w0 bs L Fs w) (hg : wantO os l g = some true) (hX : ev l X = some v) (hc : cellsO v = some cs) (hd : Nat.blt d n = true)
    (k : ∀ b w' a, Mm own w0 (⟨b, ⟨cs⟩, T⟩ :: bs) L Fs w' → Fr n ds ((d, .pointer (some ⟨b, 0, none⟩)) :: l) a → wl ⟨os⟩ Q rest a w') : wl ⟨os⟩ Q (⟨some d, .box T X, ty, pos, af, g⟩ :: rest) a w :=
  s_op hF hg fun _ hK => e_box hF hX hc hM fun b w' h1 _ => hK _ _ (k b w' _ h1 (hF.put hd _))

/-! Stores -/
def oneL : List Value → Bool
  | [] => true
  | v :: vs => v.oneCell' && oneL vs
theorem oneL_ok : ∀ {vs : List Value}, oneL vs = true → ∀ v ∈ vs, v.oneCell' = true
  | [], _, v, h => by cases h
  | u :: vs, h, v, hv => by
    unfold oneL at h
    rw [Bool.and_eq_true] at h
    rcases List.mem_cons.1 hv with rfl | hv
    · exact h.1
    · exact oneL_ok h.2 v hv
/-- Cells stored one after another into a box. -/
theorem Mm.storeL : ∀ {vs : List Value} {w : World} {bs bs' : List BoxE} {b i : Nat} {cs cs' : List Value} {T : TypeId}, Mm own w0 bs L Fs w → oneL vs = true → setAt cs i vs = some cs' → Upd bs ⟨b, ⟨cs⟩, T⟩ ⟨b, ⟨cs'⟩, T⟩ bs' →
    ∀ j o, o + j = i → ∃ w', (storeCells ⟨b, o, none⟩ vs j).run Try.prog w = .ok () w' ∧ Mm own w0 bs' L Fs w'
  | [], w, bs, bs', b, i, cs, cs', T, hM, _, hs, hu, j, o, _ => by
    simp [setAt] at hs
    subst hs
    obtain ⟨k, hk, rfl⟩ := hu.get
    refine ⟨w, rfl, ?_⟩
    have : bs.set k ⟨b, ⟨cs⟩, T⟩ = bs := by
      apply List.ext_getElem?
      intro q
      rw [List.getElem?_set]
      split
      · rename_i e; subst e
        split
        · exact hk.symm
        · rename_i hn; rw [List.getElem?_eq_none (by omega)]
      · rfl
    rw [this]
    exact hM
  | v :: vs, w, bs, bs', b, i, cs, cs', T, hM, h1, hs, hu, j, o, hij => by
    obtain ⟨k, hk, rfl⟩ := hu.get
    have hlt : i < cs.length := by
      have : ∀ (l : List Value) (i : Nat) (r : List Value), setAt l i (v :: vs) = some r → i < l.length := by
        intro l
        induction l with
        | nil => intro i r h; simp [setAt] at h
        | cons c l ih =>
          intro i r h
          cases i with
          | zero => simp
          | succ i =>
            unfold setAt at h
            split at h
            · rename_i r' hr; have := ih _ _ hr; simp; omega
            · cases h
      exact this _ _ _ hs
    unfold oneL at h1
    rw [Bool.and_eq_true] at h1
    have hbox := hM.mem.box _ (List.mem_of_getElem? hk)
    have hc : w.cell? ⟨b, i, none⟩ = some cs[i] := by rw [(Box.rules hbox).1]; simp [hlt]
    have hfz : w.frozen? ⟨b, i, none⟩ = false := (Box.rules hbox).2.1 i
    have hkl : k < bs.length := by
      rcases Nat.lt_or_ge k bs.length with g | g
      · exact g
      · rw [List.getElem?_eq_none g] at hk; cases hk
    have upd : ∀ (l : List BoxE) (k : Nat) (x x' : BoxE), l[k]? = some x → Upd l x x' (l.set k x') := by
      intro l
      induction l with
      | nil => intro k x x' h; simp at h
      | cons y l ih =>
        intro k x x' h
        cases k with
        | zero => simp at h; subst h; exact .z
        | succ k => simp at h; simp only [List.set_cons_succ]; exact .s (ih k x x' h)
    have hM2 := hM.store i v (upd bs k _ _ hk)
    obtain ⟨w', r1, r2⟩ := Mm.storeL (vs := vs) (i := i + 1) (cs := cs.set i v) (cs' := cs') hM2 h1.2 (setAt_set hs) (bs' := (bs.set k ⟨b, (⟨cs⟩ : Array Value).setIfInBounds i v, T⟩).set k ⟨b, ⟨cs'⟩, T⟩) (by
      have := upd (bs.set k ⟨b, (⟨cs⟩ : Array Value).setIfInBounds i v, T⟩) k ⟨b, (⟨cs⟩ : Array Value).setIfInBounds i v, T⟩ ⟨b, ⟨cs'⟩, T⟩ (by simp [hkl])
      simpa using this) (j + 1) o (by omega)
    refine ⟨w', ?_, by simpa using r2⟩
    have hadd : (⟨b, o, none⟩ : Addr).add j = ⟨b, i, none⟩ := by rw [add_lit, hij]
    unfold storeCells
    rw [Sem.run_bind, hadd, run_store Try.prog w _ _ _ h1.1, hc, hfz]
    simpa [Result.andThen] using r1
theorem e_store {T T' : TypeId} {X Y : Operand} {b off : Nat} {cs cs' vs : List Value} {v : Value} {bs' : List BoxE} (hF : Fr n ds l a) (hM : Mm own w0 bs L Fs w) (hX : ev l X = some (.pointer (some ⟨b, off, none⟩))) (hY : ev l Y = some v) (hv : cellsO v = some vs)
    (hu : Upd bs ⟨b, ⟨cs⟩, T'⟩ ⟨b, ⟨cs'⟩, T'⟩ bs') (hs : setAt cs off vs = some cs') (hT : tyS T = some vs.length) (h1 : oneL vs = true) {dst : Option Tmp} (k : ∀ w', Mm own w0 bs' L Fs w' → K (a.put dst undef) w') :
    (⟨dst, .store T X Y, ty, pos, af, g⟩ : Oper).wp Try.prog a w K Q := by
  obtain ⟨w', r1, r2⟩ := hM.storeL h1 hs hu 0 off (by omega)
  refine upon_skip' (w' := w') ?_ (k w' r2)
  simp [execOp, Instr.storeAt, Sem.run_bind, hF.eval hX, hF.eval hY, Instr.sureAddr, storeVar, cellsO_ok hv, tyS_run hT, Result.andThen, r1]
theorem s_store {T T' : TypeId} {X Y : Operand} {b off : Nat} {cs cs' vs : List Value} {v : Value} {bs' : List BoxE} (hF : Fr n ds l a) (hM : Mm own w0 bs L Fs w) (hg : wantO os l g = some true) (hX : ev l X = some (.pointer (some ⟨b, off, none⟩))) (hY : ev l Y = some v) (hv : cellsO v = some vs)
    (hu : Upd bs ⟨b, ⟨cs⟩, T'⟩ ⟨b, ⟨cs'⟩, T'⟩ bs') (hs : setAt cs off vs = some cs') (hT : tyS T = some vs.length) (h1 : oneL vs = true) (k : ∀ w', Mm own w0 bs' L Fs w' → wl ⟨os⟩ Q rest a w') : wl ⟨os⟩ Q (⟨none, .store T X Y, ty, pos, af, g⟩ :: rest) a w :=
  s_op hF hg fun _ hK => e_store hF hM hX hY hv hu hs hT h1 fun w' h => hK _ _ (k w' h)
end Go.Proofs.Ytobflnjbdghnhaa
