/- Texts of this seat, one behind the other: Gs Gt Gu J5 Gw Gz Ha J6 J9 Gx Gy Ma Hb Hp Hc J7 J2 Ja Jb J8 Jc Jd. -/
import Derived.OrdersIn
import Derived.Laws.CopyRow
import Derived.Laws.BytesArg
import Derived.Laws.Bits64b
import Derived.Deep.AppendSrc
import Derived.Lib.Bytes
import Derived.Laws.StructEq
import Derived.ArgAppend
import Derived.RangeFuncRecord
import Derived.RangeFuncOwn
import Derived.MapKept
import Derived.Test.YtadfdpkhehdikaaQVBa
set_option linter.unusedSimpArgs false
set_option linter.unusedVariables false
set_option linter.unusedSectionVars false
set_option maxRecDepth 3000
/- Calls of yield; ranges over a function whose loop variable is boxed. -/
namespace Go.Proofs.Ytadfdpkhehdikaa
open Go.RowKit Go.Shelf
variable {n : Nat} {ds : List Deferred} {l : List (Nat × Value)} {a : Act} {w w0 : World} {own : Nat → Prop} {bs : List BoxE} {L : List Ent} {Fs : List (World → Prop)}
variable {Q : Exit → Act → World → Prop} {os rest : List Oper}
theorem op_wide {m : Nat} {o : Oper} {a : Act} {w : World} {K : Act → World → Prop} {Q : Exit → Act → World → Prop} (h : o.wp Try.prog a w K Q) : o.wpIn Fence.wide m Try.prog a w K Q := by
  refine ⟨fun _ _ => trivial, ?_⟩
  have he : o.semAt Fence.wide.round a.eval = execOp a.eval o := rfl
  rw [he]
  unfold Oper.wp at h
  generalize (execOp a.eval o).run Try.prog w = r at h ⊢
  cases r with
  | ok x w' =>
    cases x <;> simp only [Oper.upon] at h <;> simp only [Oper.uponIn] <;> first
      | exact h
      | exact ⟨fun hz => by simp [Fence.wide] at hz, callsIn_wide.2 h⟩
      | exact ⟨fun hz => by simp [Fence.wide] at hz, fun c cs _ => let ⟨v, w', r, s⟩ := h c cs; ⟨v, w', r, stepsIn_wide.2 s⟩⟩
      | exact h.elim
  | halt x w' => cases x <;> simp only [Oper.upon] at h <;> simp only [Oper.uponIn] <;> first | exact h | exact h.elim
theorem wl_wide {m : Nat} {ops : Array Oper} {Q : Exit → Act → World → Prop} : ∀ {rest : List Oper} {a : Act} {w : World}, wl ops Q rest a w → wpListIn Fence.wide m Try.prog ops Q rest a w
  | [], _, _, h => h
  | o :: rest, a, w, h => by
    unfold wl at h
    unfold wpListIn
    split
    · rename_i hw
      rw [if_pos hw] at h
      exact op_wide (Oper.wp_mono (fun _ _ h' => wl_wide h') h)
    · rename_i hw
      rw [if_neg hw] at h
      exact ⟨fun _ _ => trivial, wl_wide h⟩
theorem upon_no {o : Oper} {K : Act → World → Prop} {Q Q' : Exit → Act → World → Prop} (hq : ∀ c a w, Q (.panic c) a w → Q' (.panic c) a w) (hq2 : ∀ a w, Q .outgrown a w → Q' .outgrown a w) {a : Act} {w : World} (h : o.wp Try.prog a w K Q) : o.wp Try.prog a w K Q' := by
  unfold Oper.wp at h ⊢
  generalize (execOp a.eval o).run Try.prog w = r at h ⊢
  cases r with
  | ok x w' =>
    cases x <;> simp only [Oper.upon] at h ⊢ <;> first
      | exact h
      | (refine Calls.mono h ?_; intro e w' h; cases e <;> first | exact h | exact hq _ _ _ h | exact (let ⟨a, w, h⟩ := h; ⟨a, w, hq2 _ _ h⟩))
      | exact h.elim
  | halt x w' => cases x <;> simp only [Oper.upon] at h ⊢ <;> first | exact h | exact hq _ _ _ h | exact h.elim
theorem wl_pre {m : Nat} {ops : Array Oper} {Q : Exit → Act → World → Prop} {J : Act → World → Prop} {rest : List Oper} (hJ : ∀ a w, J a w → wpListIn Fence.wide m Try.prog ops Q rest a w) : ∀ {pre : List Oper} {a : Act} {w : World}, wl ops (Exit.then J Q) pre a w → wpListIn Fence.wide m Try.prog ops Q (pre ++ rest) a w
  | [], a, w, h => hJ a w h
  | o :: pre, a, w, h => by
    unfold wl at h
    rw [List.cons_append]
    unfold wpListIn
    split
    · rename_i hw
      rw [if_pos hw] at h
      exact op_wide (upon_no (fun c a w h => h) (fun a w h => h) (Oper.wp_mono (fun _ _ h' => wl_pre hJ h') h))
    · rename_i hw
      rw [if_neg hw] at h
      exact ⟨fun _ _ => trivial, wl_pre hJ h⟩
/-- A call of yield in the middle of a region. -/
theorem c_yield (k m : Nat) {id d : Nat} {X : Operand} {as_ : List Operand} {ts : Array TypeId} {ty : TypeId} {pos : String} {af : Array Edge} (ho : os.drop k = ⟨some d, .call ⟨.value X, ⟨as_⟩, ts⟩, ty, pos, af, none⟩ :: rest) (hd : Nat.blt d n = true)
    (h : wl ⟨os⟩ (Exit.then (fun a w => ∃ l vs lp R, Fr n ds l a ∧ ev l X = some (.func (.yield lp) #[] #[]) ∧ evL l as_ = some vs ∧ YieldAt Fence.wide m Try.prog lp ⟨vs⟩ w R ∧
      ∀ e w', R e w' → ∃ v, e = .returned v ∧ ∀ a', Fr n ds ((d, v) :: l) a' → wl ⟨os⟩ Q rest a' w') Q) (os.take k) a w) : Wk none (Code.region id ⟨os⟩ false) Q a w := by
  refine (wpIn_wide (n := m + 1)).1 (wpIn_region_list ?_)
  have key : wpListIn Fence.wide (m + 1) Try.prog ⟨os⟩ Q (os.take k ++ os.drop k) a w := by
    rw [ho]
    refine wl_pre ?_ h
    rintro a w ⟨l, vs, lp, R, hF, hX, ha, ⟨fn, tmps, assign, body, hy, hR⟩, hk⟩
    unfold wpListIn
    rw [if_pos (by simp [Region.wanted])]
    refine ⟨fun _ _ => trivial, ?_⟩
    have h1 := hF.evalL ha
    have he : (Oper.semAt Fence.wide.round a.eval ⟨some d, .call ⟨.value X, ⟨as_⟩, ts⟩, ty, pos, af, none⟩).run Try.prog w = .ok (.round lp fn tmps assign body) w := by
      have hs : Oper.semAt Fence.wide.round a.eval ⟨some d, .call ⟨.value X, ⟨as_⟩, ts⟩, ty, pos, af, none⟩ = execOp a.eval ⟨some d, .call ⟨.value X, ⟨as_⟩, ts⟩, ty, pos, af, none⟩ := rfl
      rw [hs]
      simp [execOp, resolve, hF.eval hX, Deferred.ofValue, invoke, h1, Sem.run_bind, Result.andThen, hy]
    rw [he, Oper.uponIn_round]
    refine ⟨fun hz => by simp [Fence.wide] at hz, ?_⟩
    refine RoundIn.mono hR ?_
    intro e w' hr
    obtain ⟨v, rfl, hk2⟩ := hk e w' hr
    exact wl_wide (hk2 _ (hF.put hd v))
  rwa [List.take_append_drop] at key
theorem Since.grows {w w' : World} (h : Since w w') : w.grownBy w' none := ⟨h.os, h.tape, h.output, h.size, fun k hk _ => h.block k hk⟩
/-- What has the type T, from B on, stays. -/
def KT (B : Nat) (T : TypeId) (w : World) : World → Prop := fun w' => ∀ k cs, B ≤ k → w.heap[k]? = some (.cells cs T (0, 0)) → w'.heap[k]? = some (.cells cs T (0, 0))
theorem KT.refl (B : Nat) (T : TypeId) (w : World) : KT B T w w := fun _ _ _ h => h
theorem KT.trans {B : Nat} {T : TypeId} {x y z : World} (h : KT B T x y) (k : KT B T y z) : KT B T x z := fun i cs hb hi => k i cs hb (h i cs hb hi)
theorem KT.grown {B : Nat} {T : TypeId} {w w' : World} (h : w.grownBy w' none) : KT B T w w' := fun k _ _ hk => (h.block k (Array.getElem?_eq_some_iff.1 hk).1 (by simp)).trans hk
theorem KT.putObj {B : Nat} {T : TypeId} {w : World} {j : Nat} {o : Obj} (o' : Obj) (h : w.heap[j]? = some o) (hc : o.isCells = false) : KT B T w (w.putObj j o') := fun k _ _ hk =>
  (World.putObj_heap_other (fun e => by subst e; rw [hk] at h; injection h with h; subst h; cases hc)).trans hk
theorem Mm.alien (m : Mm own w0 bs L Fs w) {T : TypeId} {k : Nat} {cs : Array Value} (h1 : ∀ x ∈ bs, x.T ≠ T) (h2 : ∀ y ∈ L, y.e ≠ T) (hb : w0.heap.size ≤ k) (hk : w.heap[k]? = some (.cells cs T (0, 0))) : ¬ ownOf own bs L k := by
  rintro (h | ⟨x, hx, rfl⟩ | ⟨y, hy, he⟩)
  · have := m.low k h; omega
  · rw [show w.heap[x.b]? = _ from m.mem.box x hx] at hk
    injection hk with hk
    injection hk with _ hT
    exact h1 x hx hT
  · obtain ⟨_, r⟩ := m.mem.own.own y hy
    rcases r with ⟨r, _⟩ | ⟨g, cap, cur, e1, e2, e3, r⟩
    · rw [r] at he; cases he
    · rw [e1] at he
      injection he with he
      have he : g = k := he
      subst he
      rw [e3] at hk
      injection hk with hk
      injection hk with _ hT
      exact h2 y hy hT
theorem Mm.kt (m : Mm own w0 bs L Fs w) (T : TypeId) (h1 : ∀ x ∈ bs, x.T ≠ T) (h2 : ∀ y ∈ L, y.e ≠ T) : Has (ownOf own bs L) w (KT w0.heap.size T w) := by
  refine ⟨fun b => w0.heap.size ≤ b ∧ ∃ cs, w.heap[b]? = some (.cells cs T (0, 0)), ?_, ?_⟩
  · rintro b ⟨hb, cs, hk⟩
    exact ⟨(Array.getElem?_eq_some_iff.1 hk).1, m.alien h1 h2 hb hk⟩
  · intro w' h _ k cs hb hk
    exact (h k ⟨hb, cs, hk⟩).trans hk
/-! An array as a slice -/
section
variable {d : Nat} {op : Op} {ty : TypeId} {pos : String} {af : Array Edge} {g : Option (Nat × Bool)}
def arrO (t : TypeId) : Option (Nat × Nat) := match tyD t with
  | some (.array m e) => match tyS e with
    | some z => some (m, z)
    | none => none
  | _ => none
theorem arrO_ok {t : TypeId} {m z : Nat} (h : arrO t = some (m, z)) : ∃ e, tyD t = some (.array m e) ∧ tyS e = some z := by
  unfold arrO at h
  split at h
  · rename_i m' e h1
    split at h
    · rename_i z' h2
      injection h with h; injection h with h3 h4
      subst h3 h4
      exact ⟨e, h1, h2⟩
    · cases h
  · cases h
theorem e_arrSl {t : TypeId} {X : Operand} {m z b off : Nat} (hF : Fr n ds l a) (hX : ev l X = some (.pointer (some ⟨b, off, none⟩))) (ht : arrO t = some (m, z)) (w : World) {dst : Option Tmp} :
    (execOp a.eval ⟨dst, .slice t X none none none, ty, pos, af, g⟩).run Try.prog w = .ok (.value (.slice (some ⟨b, off, none⟩) m m)) w := by
  obtain ⟨e, h1, h2⟩ := arrO_ok ht
  simp only [execOp, hF.eval hX, Option.map_none]
  simp [Instr.sliceAt, Instr.sliceBounds, Sem.run_bind, tyD_run h1, tyS_run h2, Result.andThen, Instr.sureAddr, add_lit]
theorem s_arrSl {t : TypeId} {X : Operand} {m z b off : Nat} (hF : Fr n ds l a) (hg : wantO os l g = some true) (hX : ev l X = some (.pointer (some ⟨b, off, none⟩))) (ht : arrO t = some (m, z)) (hd : Nat.blt d n = true)
    (kk : ∀ a, Fr n ds ((d, .slice (some ⟨b, off, none⟩) m m) :: l) a → wl ⟨os⟩ Q rest a w) : wl ⟨os⟩ Q (⟨some d, .slice t X none none none, ty, pos, af, g⟩ :: rest) a w :=
  s_op hF hg fun _ hK => upon_value (e_arrSl hF hX ht w) (hK _ _ (kk _ (hF.put hd _)))
end
/-! Drawn regions in a round -/
theorem any_in {l m : Nat} {ops : Array Oper} {Q : Exit → Act → World → Prop} (hd : ∀ (i : Nat) (o : Oper), ops[i]? = some o → noDefer o = true) (hno : ¬ LetsOut Q) : ∀ (fuel : Nat) (listed : Array Bool) (a : Act) (w : World), wpAny Try.prog .any ops Q fuel listed a w → wpAnyIn (Fence.wide.inRound l) m Try.prog .any ops Q fuel listed a w
  | 0, _, _, _, h => h
  | fuel + 1, listed, a, w, h => by
    refine ⟨h.1, fun i hi => ?_⟩
    have := h.2 i hi
    unfold wpOp at this
    unfold wpOpIn
    split
    · rename_i ho
      rw [ho] at this
      exact any_in hd hno fuel _ a w this
    · rename_i o ho
      rw [ho] at this
      simp only at this
      split
      · rename_i hw
        rw [if_pos hw] at this
        rcases this with h1 | ⟨_, h2⟩
        · exact op_in (hd i o ho) (Oper.wp_mono (fun a w h' => any_in hd hno fuel _ a w h') h1)
        · exact absurd h2 hno
      · rename_i hw
        rw [if_neg hw] at this
        exact ⟨fun _ _ => trivial, any_in hd hno fuel _ _ w this⟩
theorem c_drawR {id l m : Nat} {bs0 : List BoxE} (tail : Nat → Bool) (hd : os.all noDefer = true) (hno : ¬ LetsOut Q) (hs : ∀ x ∈ bs0, x ∈ bs) (hM : Mm own w0 bs L Fs w) (h : ∀ w, Mm own w0 bs L Fs w → wpAnyT Try.prog .any ⟨os⟩ Q (Sm bs0 Fs) tail os.length (Array.replicate os.length false) a w) : Wk (some (l, m)) (Code.region id ⟨os⟩ true) Q a w :=
  wpIn_region_any mixed (any_in (fun i o ho => List.all_eq_true.1 hd o (List.mem_of_getElem? (by simpa using ho))) hno _ _ _ _ (wpAny_of_T _ _ _ _ (by have := h _ hM.drew; simpa using this)))
end Go.Proofs.Ytadfdpkhehdikaa


/- Copies; zeros appended; boxes and rows replaced; bytes as strings. -/
namespace Go.Proofs.Ytadfdpkhehdikaa
open Go.RowKit Go.Shelf
section
variable {n : Nat} {ds : List Deferred} {l : List (Nat × Value)} {a : Act} {w w' w0 : World} {own : Nat → Prop} {bs : List BoxE} {L : List Ent} {Fs : List (World → Prop)}
variable {os rest : List Oper} {Q : Exit → Act → World → Prop} {K : Act → World → Prop}
variable {d : Nat} {op : Op} {ty : TypeId} {pos : String} {af : Array Edge} {g : Option (Nat × Bool)}
/-! Bytes as strings -/
theorem e_b2s {src dst' e : TypeId} {X : Operand} {ao : Option Addr} {xs : List Int} {m c : Nat} (hF : Fr n ds l a) (hM : Mm own w0 bs L Fs w) (hX : ev l X = some (.slice ao m c)) (hf : RdF (Value.int .u8) ao xs ∈ Fs) (h1 : tyD src = some (.slice e)) (h2 : tyD e = some (.int .u8)) (h3 : tyD dst' = some .string) (hm : xs.length = m) {dst : Option Tmp} :
    (execOp a.eval ⟨dst, .convert src dst' X, ty, pos, af, g⟩).run Try.prog w = .ok (.value (.string (strOfNums xs))) w := by
  have hrd := hM.fact hf
  have key : (convert src dst' (.slice ao m c)).run Try.prog w = .ok (.string (strOfNums xs)) w := by
    rcases Nat.eq_zero_or_pos m with h0 | h0
    · obtain rfl : xs = [] := List.length_eq_zero_iff.1 (by omega)
      cases ao with
      | none => exact run_convert_bytes_nil w src e (tyD_ok h1) (tyD_ok h2) m c dst' (tyD_ok h3)
      | some ad =>
        subst h0
        rw [run_convert_bytes_string w src dst' e _ 0 c (tyD_ok h1) (tyD_ok h2) (tyD_ok h3), run_bytesToString w ad 0 c [] (by simpa using run_loadCells_list (P := Try.prog) w ad [] (by simp))]
        rfl
    · obtain ⟨b, off, rfl, _, _⟩ := hrd 0 _ (List.getElem?_eq_getElem (by omega))
      refine run_convert_bytes_arg w src e (tyD_ok h1) (tyD_ok h2) b off m c xs hm (fun i hi => ?_) dst' (tyD_ok h3)
      obtain ⟨b', off', e4, _, e5⟩ := hrd i xs[i] (List.getElem?_eq_getElem (by omega))
      simp only [Option.some.injEq, Addr.mk.injEq, and_true] at e4
      obtain ⟨rfl, rfl⟩ := e4
      rw [e5]
      simp [List.getD, List.getElem?_eq_getElem (show i < xs.length by omega)]
  simp only [execOp, hF.eval hX]
  simp [Sem.run_bind, key, Result.andThen]
theorem strOf_inj {xs ys : List Int} (hx : ∀ x ∈ xs, 0 ≤ x ∧ x < 256) (hy : ∀ y ∈ ys, 0 ≤ y ∧ y < 256) : strOfNums xs = strOfNums ys ↔ xs = ys := by
  refine ⟨fun h => ?_, fun h => by rw [h]⟩
  have h2 := congrArg (fun b : ByteArray => b.data.toList) h
  simp only [strOfNums_data] at h2
  clear h
  induction xs generalizing ys with
  | nil => cases ys with
    | nil => rfl
    | cons y ys => simp at h2
  | cons x xs ih => cases ys with
    | nil => simp at h2
    | cons y ys =>
      rw [List.map_cons, List.map_cons, List.cons.injEq] at h2
      have hx0 := hx x (by simp)
      have hy0 := hy y (by simp)
      have e := congrArg UInt8.toNat h2.1
      simp only [UInt8.toNat_ofNat'] at e
      have : x = y := by omega
      rw [this, ih (fun z hz => hx z (List.mem_cons_of_mem _ hz)) (fun z hz => hy z (List.mem_cons_of_mem _ hz)) h2.2]
theorem strOf_beq {xs ys : List Int} (hx : ∀ x ∈ xs, 0 ≤ x ∧ x < 256) (hy : ∀ y ∈ ys, 0 ≤ y ∧ y < 256) : ((strOfNums xs).toList == (strOfNums ys).toList) = decide (xs = ys) := by
  rw [Lib.toList_data, Lib.toList_data]
  by_cases h : xs = ys
  · subst h; simp
  · rw [decide_eq_false h]
    simp only [beq_eq_false_iff_ne, ne_eq]
    intro e
    refine h ((strOf_inj hx hy).1 ?_)
    have : (strOfNums xs).data = (strOfNums ys).data := Array.ext' e
    generalize strOfNums xs = A at *
    generalize strOfNums ys = B at *
    cases A; cases B
    simp only at this
    rw [this]
end
end Go.Proofs.Ytadfdpkhehdikaa


/- Zeros appended; a row that is read from then on; high bits. -/
namespace Go.Proofs.Ytadfdpkhehdikaa
open Go.RowKit Go.Shelf
section
variable {n : Nat} {ds : List Deferred} {l : List (Nat × Value)} {a : Act} {w w' w0 : World} {own : Nat → Prop} {bs : List BoxE} {L : List Ent} {Fs : List (World → Prop)}
variable {os rest : List Oper} {Q : Exit → Act → World → Prop} {K : Act → World → Prop}
variable {d : Nat} {op : Op} {ty : TypeId} {pos : String} {af : Array Edge} {g : Option (Nat × Bool)}
/-- A row that is only read from then on. -/
theorem Mm.freezeRow {α : Type} {enc : α → Value} {e : TypeId} {ao : Option Addr} {m c : Nat} {xs : List α} (m0 : Mm own w0 bs (⟨e, 1, .slice ao m c, m, xs.map enc⟩ :: L) Fs w) : Mm own w0 bs L (RdF enc ao xs :: Fs) w := by
  have hrd := own_reads (m0.mem.own.own _ List.mem_cons_self)
  refine (m0.sub (.refl _) (List.sublist_cons_self _ _) (fun _ h => h)).addFact (RdF.has hrd ?_)
  rintro ad rfl
  have hob : (Value.slice (some ad) m c).ownBlock = some ad.block := rfl
  rintro (h | ⟨x, hx, hx2⟩ | ⟨y, hy, hy2⟩)
  · have h2 := m0.low _ h
    have h3 := (m0.mem.own.lt List.mem_cons_self _ hob).1
    omega
  · exact m0.mem.far x hx _ List.mem_cons_self (by rw [hob, hx2])
  · have hp := m0.mem.own.apart
    rw [List.pairwise_cons] at hp
    rcases hp.1 y hy with h | h
    · rw [show (Value.slice (some ad) m c).ownBlock = none from h] at hob; cases hob
    · exact h (hob.trans hy2.symm)
end
end Go.Proofs.Ytadfdpkhehdikaa


/- Bits of words; loads of elements of many cells. -/
namespace Go.Proofs.Ytadfdpkhehdikaa
open Go.RowKit Go.Shelf
section
variable {n : Nat} {ds : List Deferred} {l : List (Nat × Value)} {a : Act} {w w0 : World} {own : Nat → Prop} {bs : List BoxE} {L : List Ent} {Fs : List (World → Prop)}
variable {os rest : List Oper} {Q : Exit → Act → World → Prop} {K : Act → World → Prop}
variable {d : Nat} {op : Op} {ty : TypeId} {pos : String} {af : Array Edge} {g : Option (Nat × Bool)}
theorem e_xorU {t t' : TypeId} {X Y : Operand} {k : IntKind} {x y : Int} (hF : Fr n ds l a) (hX : ev l X = some (.int k x)) (hY : ev l Y = some (.int k y)) (w : World) {dst : Option Tmp} :
    (execOp a.eval ⟨dst, .binOp .xor t X Y t', ty, pos, af, g⟩).run Try.prog w = .ok (.value (.int k (bits .xor k x y))) w := by
  simp only [execOp, hF.eval hX, hF.eval hY, Sem.run_bind, eqGuard_int, Result.andThen]
  simp [binOp, intBits_xor]
theorem s_xorU {t t' : TypeId} {X Y : Operand} {k : IntKind} {x y : Int} (hF : Fr n ds l a) (hg : wantO os l g = some true) (hX : ev l X = some (.int k x)) (hY : ev l Y = some (.int k y)) (hd : Nat.blt d n = true)
    (kk : ∀ a, Fr n ds ((d, .int k (bits .xor k x y)) :: l) a → wl ⟨os⟩ Q rest a w) : wl ⟨os⟩ Q (⟨some d, .binOp .xor t X Y t', ty, pos, af, g⟩ :: rest) a w :=
  s_op hF hg fun _ hK => upon_value (e_xorU hF hX hY w) (hK _ _ (kk _ (hF.put hd _)))
theorem e_shrU {t t' : TypeId} {X Y : Operand} {yk : IntKind} {x : Int} (hF : Fr n ds l a) (hX : ev l X = some (.int .u64 x)) (hY : ev l Y = some (.int yk 32)) (w : World) {dst : Option Tmp} :
    (execOp a.eval ⟨dst, .binOp .shr t X Y t', ty, pos, af, g⟩).run Try.prog w = .ok (.value (.int .u64 (x / 4294967296))) w := by
  simp only [execOp, hF.eval hX, hF.eval hY, Sem.run_bind, eqGuard_int, Result.andThen]
  have hb2 : min 32 IntKind.u64.bits = 32 := by decide
  simp [binOp, Op.shift, hb2, Result.andThen, Int.fdiv_eq_ediv]
theorem s_shrU {t t' : TypeId} {X Y : Operand} {yk : IntKind} {x : Int} (hF : Fr n ds l a) (hg : wantO os l g = some true) (hX : ev l X = some (.int .u64 x)) (hY : ev l Y = some (.int yk 32)) (hd : Nat.blt d n = true)
    (kk : ∀ a, Fr n ds ((d, .int .u64 (x / 4294967296)) :: l) a → wl ⟨os⟩ Q rest a w) : wl ⟨os⟩ Q (⟨some d, .binOp .shr t X Y t', ty, pos, af, g⟩ :: rest) a w :=
  s_op hF hg fun _ hK => upon_value (e_shrU hF hX hY w) (hK _ _ (kk _ (hF.put hd _)))
theorem e_loadE {T : TypeId} {X : Operand} {ad : Addr} {j : Int} {m : Nat} {ls : List (List Value)} {s : List Value} (hF : Fr n ds l a) (hX : ev l X = some (.pointer (some (adr ad j m)))) (hr : Reads id w (some ad) ls.flatten) (hT : aggS T = some m) (hx : ls[j.toNat]? = some s) (hw : ∀ y ∈ ls, y.length = m) :
    (execOp a.eval ⟨some d, .load T X, ty, pos, af, g⟩).run Try.prog w = .ok (.value (.agg s.toArray)) w := by
  have hsl := hw s (List.mem_of_getElem? hx)
  unfold aggS at hT
  split at hT
  · rename_i i hi
    split at hT
    · rename_i ha
      injection hT with hT
      have hagg := (te_ok hi).agg w
      have hsz := (te_ok hi).size w
      rw [ha] at hagg
      rw [hT] at hsz
      have := run_loadCells_list (P := Try.prog) w (adr ad j m) s (fun q u hu => by
        obtain ⟨b, off, e, hb, hc⟩ := hr _ u (flat_get hw hx hu)
        injection e with e
        subst e
        have : (adr ⟨b, off, none⟩ j m).add q = ⟨b, off + (j.toNat * m + q), none⟩ := by unfold adr; rw [add_lit, add_lit, Nat.add_assoc]
        rw [this]
        exact hc)
      rw [hsl] at this
      simp [execOp, hF.eval hX, Instr.loadAt, Instr.sureAddr, Sem.run_bind, loadVar, hagg, hsz, this, Result.andThen]
    · cases hT
  · cases hT
theorem s_loadE {T : TypeId} {X : Operand} {ad : Addr} {j : Int} {m : Nat} {ls : List (List Value)} {s : List Value} (hF : Fr n ds l a) (hM : Mm own w0 bs L Fs w) (hg : wantO os l g = some true) (hX : ev l X = some (.pointer (some (adr ad j m)))) (hr : RdF id (some ad) ls.flatten ∈ Fs) (hT : aggS T = some m) (hd : Nat.blt d n = true) (hx : ls[j.toNat]? = some s) (hw : ∀ y ∈ ls, y.length = m)
    (kk : ∀ a, Fr n ds ((d, .agg s.toArray) :: l) a → wl ⟨os⟩ Q rest a w) : wl ⟨os⟩ Q (⟨some d, .load T X, ty, pos, af, g⟩ :: rest) a w :=
  s_op hF hg fun _ hK => upon_value (e_loadE hF hX (hM.fact hr) hT hx hw) (hK _ _ (kk _ (hF.put hd _)))
end
end Go.Proofs.Ytadfdpkhehdikaa


/- Rows of any size that are read from then on; structs of two numbers compared. -/
namespace Go.Proofs.Ytadfdpkhehdikaa
open Go.RowKit Go.Shelf
section
variable {n : Nat} {ds : List Deferred} {l : List (Nat × Value)} {a : Act} {w w' w0 : World} {own : Nat → Prop} {bs : List BoxE} {L : List Ent} {Fs : List (World → Prop)}
variable {os rest : List Oper} {Q : Exit → Act → World → Prop} {K : Act → World → Prop}
variable {d : Nat} {op : Op} {ty : TypeId} {pos : String} {af : Array Edge} {g : Option (Nat × Bool)}
theorem own_readsN {α : Type} {enc : α → Value} {base : Nat} {e : TypeId} {size k c : Nat} {ao : Option Addr} {xs : List α} (ho : w.ownsRow base e size (.slice ao k c) k (xs.map enc)) : Reads enc w ao xs := by
  intro i x hx
  have hlen := ho.1
  rcases ho.2 with ⟨h1, h2⟩ | ⟨g, cap, cur, h1, h2, h3, h4⟩
  · rw [h2, Nat.zero_mul, List.length_map] at hlen
    have := (List.getElem?_eq_some_iff.1 hx).1
    omega
  · simp only [Value.slice.injEq] at h1
    obtain ⟨rfl, _, rfl⟩ := h1
    have hc := ho.cells (g := g) rfl i (enc x) (by simp [hx])
    rw [add_lit] at hc
    exact ⟨g, 0, rfl, (Array.getElem?_eq_some_iff.1 h3).1, hc⟩
/-- A row that is only read from then on, whatever its elements. -/
theorem Mm.freezeN {α : Type} {enc : α → Value} {e : TypeId} {size : Nat} {ao : Option Addr} {m c : Nat} {xs : List α} (m0 : Mm own w0 bs (⟨e, size, .slice ao m c, m, xs.map enc⟩ :: L) Fs w) : Mm own w0 bs L (RdF enc ao xs :: Fs) w := by
  have hrd := own_readsN (m0.mem.own.own _ List.mem_cons_self)
  refine (m0.sub (.refl _) (List.sublist_cons_self _ _) (fun _ h => h)).addFact (RdF.has hrd ?_)
  rintro ad rfl
  have hob : (Value.slice (some ad) m c).ownBlock = some ad.block := rfl
  rintro (h | ⟨x, hx, hx2⟩ | ⟨y, hy, hy2⟩)
  · have h2 := m0.low _ h
    have h3 := (m0.mem.own.lt List.mem_cons_self _ hob).1
    omega
  · exact m0.mem.far x hx _ List.mem_cons_self (by rw [hob, hx2])
  · have hp := m0.mem.own.apart
    rw [List.pairwise_cons] at hp
    rcases hp.1 y hy with h | h
    · rw [show (Value.slice (some ad) m c).ownBlock = none from h] at hob; cases hob
    · exact h (hob.trans hy2.symm)
end
end Go.Proofs.Ytadfdpkhehdikaa


/- Rows of which a part is used: what is behind it is appended to. -/
namespace Go.Proofs.Ytadfdpkhehdikaa
open Go.RowKit Go.Shelf
section
variable {n : Nat} {ds : List Deferred} {l : List (Nat × Value)} {a : Act} {w w' w0 : World} {own : Nat → Prop} {bs : List BoxE} {L : List Ent} {Fs : List (World → Prop)}
variable {os rest : List Oper} {Q : Exit → Act → World → Prop} {K : Act → World → Prop}
variable {d : Nat} {op : Op} {ty : TypeId} {pos : String} {af : Array Edge} {g : Option (Nat × Bool)}
/-- A slice that is the end of an owned row. -/
def OffR (e : TypeId) (size : Nat) (v : Value) (m : Nat) (xs : List Value) (E : Ent) : Prop :=
  E.e = e ∧ E.size = size ∧ xs.length = m * size ∧
  ((v = .slice none 0 0 ∧ m = 0 ∧ E.v = .slice none 0 0) ∨ (∃ ad, v = .slice (some ad) 0 0 ∧ m = 0) ∨
   ∃ g off cap pre, v = .slice (some ⟨g, off * size, none⟩) m cap ∧ pre.length = off * size ∧ E.v = .slice (some ⟨g, 0, none⟩) (off + m) (off + cap) ∧ E.n = off + m ∧ E.xs = pre ++ xs)
theorem OffR.plain {e : TypeId} {size : Nat} {v : Value} {m : Nat} {xs : List Value} (hM : Mm own w0 bs L Fs w) (h : (⟨e, size, v, m, xs⟩ : Ent) ∈ L) : OffR e size v m xs ⟨e, size, v, m, xs⟩ := by
  have ho := hM.mem.own.own _ h
  refine ⟨rfl, rfl, ho.1, ?_⟩
  rcases ho.2 with ⟨h1, h2⟩ | ⟨g, cap, cur, h1, _⟩
  · exact .inl ⟨h1, h2, h1⟩
  · refine .inr (.inr ⟨g, 0, cap, [], ?_, by simp, ?_, ?_, rfl⟩)
    · rw [Nat.zero_mul]; exact h1
    · rw [Nat.zero_add, Nat.zero_add]; exact h1
    · exact (Nat.zero_add _).symm
theorem OffR.nil {e : TypeId} {size : Nat} : OffR e size (.slice none 0 0) 0 [] ⟨e, size, .slice none 0 0, 0, []⟩ := ⟨rfl, rfl, by simp, .inl ⟨rfl, rfl, rfl⟩⟩
theorem OffR.shape {e : TypeId} {size : Nat} {v : Value} {m : Nat} {xs : List Value} {E : Ent} (hM : Mm own w0 bs L Fs w) {k : Nat} (hL : L[k]? = some E) (h : OffR e size v m xs E) : ∃ ao c, v = .slice ao m c ∧ m ≤ c ∧ (0 < m → ∃ ad, ao = some ad) := by
  obtain ⟨h1, h2, h3, h4⟩ := h
  rcases h4 with ⟨h, rfl, _⟩ | ⟨ad, h, rfl⟩ | ⟨g, off, cap, pre, h5, h6, h7, h8, h9⟩
  · exact ⟨_, _, h, Nat.le_refl _, fun q => by omega⟩
  · exact ⟨_, _, h, Nat.le_refl _, fun q => by omega⟩
  · refine ⟨_, _, h5, ?_, fun _ => ⟨_, rfl⟩⟩
    rcases (hM.mem.own.get hL).2 with ⟨p1, p2⟩ | ⟨g', cap', cur, p1, p2, p3, p4, _⟩
    · rw [h7] at p1; cases p1
    · rw [h7] at p1
      injection p1 with p1 p5 p6
      omega
/-- The cells of such a slice. -/
theorem OffR.cells {e : TypeId} {size : Nat} {ao : Option Addr} {ad : Addr} {m c : Nat} {xs : List Value} {E : Ent} (hM : Mm own w0 bs L Fs w) {k : Nat} (hL : L[k]? = some E) (h : OffR e size (.slice ao m c) m xs E) (ha : ao = some ad) : ∀ j u, xs[j]? = some u → w.cell? (ad.add j) = some u := by
  subst ha
  obtain ⟨h1, h2, h3, h4⟩ := h
  have he : ∀ j u, m = 0 → xs[j]? = some u → w.cell? (ad.add j) = some u := by
    intro j u h0 hu
    rw [h0, Nat.zero_mul] at h3
    rw [List.eq_nil_of_length_eq_zero h3] at hu
    simp at hu
  rcases h4 with ⟨h, _⟩ | ⟨ad', h, h0⟩ | ⟨g, off, cap, pre, h5, h6, h7, h8, h9⟩
  · cases h
  · exact fun j u => he j u h0
  · intro j u hu
    injection h5 with h5
    injection h5 with h5
    subst h5
    have hc := (hM.mem.own.get hL).cells (g := g) (by rw [h7]; rfl) (off * size + j) u (by rw [h9, List.getElem?_append_right (by omega), h6, Nat.add_sub_cancel_left]; exact hu)
    rw [add_lit] at hc ⊢
    rw [← hc]
    congr 2
    omega
/-- A part of such a slice. -/
theorem OffR.drop {e : TypeId} {size : Nat} {ao : Option Addr} {m c : Nat} {xs : List Value} {E : Ent} (hM : Mm own w0 bs L Fs w) {k : Nat} (hL : L[k]? = some E) (h : OffR e size (.slice ao m c) m xs E) (q : Nat) (hq : q ≤ m) : OffR e size (.slice (sadr ao q c size) (m - q) (c - q)) (m - q) (xs.drop (q * size)) E := by
  obtain ⟨ao', c', e1, hmc, _⟩ := OffR.shape hM hL h
  injection e1 with e1 _ e2
  subst e1
  subst e2
  obtain ⟨h1, h2, h3, h4⟩ := h
  refine ⟨h1, h2, by rw [List.length_drop, h3, Nat.sub_mul], ?_⟩
  rcases h4 with ⟨h, h0, h5⟩ | ⟨ad, h, h0⟩ | ⟨g, off, cap, pre, h5, h6, h7, h8, h9⟩
  · injection h with ha hb hc
    subst ha
    subst hc
    subst h0
    refine .inl ⟨?_, by omega, h5⟩
    unfold sadr
    simp
  · injection h with ha hb hc
    subst ha
    subst hc
    subst h0
    refine .inr (.inl ⟨ad, ?_, by omega⟩)
    obtain rfl : q = 0 := by omega
    unfold sadr
    simp
  · injection h5 with ha hb hc
    subst ha
    subst hc
    by_cases hcq : c = q
    · subst hcq
      refine .inr (.inl ⟨⟨g, off * size, none⟩, ?_, by omega⟩)
      unfold sadr
      rw [if_pos rfl]
      congr 1
      · omega
      · omega
    · refine .inr (.inr ⟨g, off + q, c - q, pre ++ xs.take (q * size), ?_, ?_, ?_, ?_, ?_⟩)
      · unfold sadr
        rw [if_neg hcq, Option.map_some, add_lit, Nat.add_mul]
      · rw [List.length_append, List.length_take, h6, h3, Nat.add_mul]
        have : q * size ≤ m * size := Nat.mul_le_mul_right _ hq
        omega
      · rw [h7]
        congr 1 <;> omega
      · omega
      · rw [h9, List.append_assoc, List.take_append_drop]
theorem run_append_off (t ty e : TypeId) (i : TypeInfo) (z : Value) (size bytes : Nat) (ht : Try.prog.underlying t = some (.slice e)) (hi : Try.prog.info? e = some i) (hz : i.zero = some z)
    (hsize : i.size = size) (hby : i.bytes = bytes) (hzs : z.cells.size = size) (hsz : 0 < size) {v : Value} {m k : Nat} {xs ys : List Value} {E : Ent} {ad : Addr} {q c : Nat} (hM : Mm own w0 bs L Fs w) (hL : L[k]? = some E) (hR : OffR e size v m xs E)
    (hy : ys.length = q * size) (hc : ∀ j u, ys[j]? = some u → w.cell? (ad.add j) = some u) (h1 : ∀ u ∈ ys, u.oneCell' = true) (h0 : 0 < q) (hb : (m + q) * bytes ≤ 140737488355328 ∧ m + q ≤ 9223372036854775807) :
    ∃ v' E' w', (Builtin.append_ #[t, t] ty #[v, .slice (some ad) q c]).run Try.prog w = .ok v' w' ∧ OffR e size v' (m + q) (xs ++ ys) E' ∧ Mm own w0 bs (L.set k E') Fs w' := by
  have hbase := hM.since.size
  have hlen : (xs ++ ys).length = (m + q) * size := by rw [List.length_append, hR.2.2.1, hy, Nat.add_mul]
  have hown := hM.mem.own.get hL
  have hEe := hR.1
  have hEs := hR.2.1
  obtain ⟨Ee, Es, Ev, En, Ex⟩ := E
  simp only at hEe hEs
  subst hEe
  subst hEs
  have fresh : ∀ (v' : Value) (cap' : Nat), v' = .slice (some ⟨w.heap.size, 0, none⟩) (m + q) cap' → ∀ w', w'.ownsRow w0.heap.size Ee Es v' (m + q) (xs ++ ys) → w.grownBy w' none → OffR Ee Es v' (m + q) (xs ++ ys) ⟨Ee, Es, v', m + q, xs ++ ys⟩ ∧ Mm own w0 bs (L.set k ⟨Ee, Es, v', m + q, xs ++ ys⟩) Fs w' := by
    intro v' cap' hv w' ho hg
    refine ⟨⟨rfl, rfl, hlen, .inr (.inr ⟨w.heap.size, 0, cap', [], ?_, by simp, ?_, (Nat.zero_add _).symm, rfl⟩)⟩, hM.app hL ho ⟨hg.os, hg.tape, hg.output, hg.size, fun j hj _ => hg.block j hj (by simp)⟩ (.inr (by rw [hv]; rfl))⟩
    · rw [hv, Nat.zero_mul]
    · show v' = _
      rw [hv, Nat.zero_add, Nat.zero_add]
  have hgrow : ∀ (bA : Addr) (cp : Nat), v = .slice (some bA) m cp → cp < m + q → (∀ j u, xs[j]? = some u → w.cell? (bA.add j) = some u) → ∃ v' E' w', (Builtin.append_ #[t, t] ty #[v, .slice (some ad) q c]).run Try.prog w = .ok v' w' ∧ OffR Ee Es v' (m + q) (xs ++ ys) E' ∧ Mm own w0 bs (L.set k E') Fs w' := by
    intro bA cp hv hg hold
    subst hsize
    subst hby
    have hr := run_append_grow (P := Try.prog) w t ty Ee i z ht hi hz bA m cp xs hR.2.2.1 hold ad q c ys hy hc hg (by omega) (growslice_fits hg hb.1)
    have hge := grownCap_ge w (m + q) cp Ee
    have hcm : grownCap w (m + q) cp Ee ≤ maxLen := grownCap_le_maxLen w (m + q) cp Ee (by unfold maxLen; exact hb.2)
    subst hv
    have hrow : (w.drew.alloc (.cells (xs.toArray ++ ys.toArray ++ Builtin.zeroCells z.cells (grownCap w (m + q) cp Ee - (m + q))) Ee)).ownsRow w0.heap.size Ee i.size (.slice (some ⟨w.heap.size, 0, none⟩) (m + q) (grownCap w (m + q) cp Ee)) (m + q) (xs ++ ys) := by
      refine ⟨hlen, .inr ⟨w.heap.size, _, _, rfl, hbase, heap_alloc_new w.drew _, hge, hcm, ?_, ?_⟩⟩
      · simp only [Array.size_append, List.size_toArray, size_zeroCells, hzs, hR.2.2.1, hy, ← Nat.add_mul]
        congr 1
        omega
      · simp only [Array.toList_append, List.append_assoc]
        rw [← List.append_assoc, ← hlen]
        exact List.take_left
    obtain ⟨f1, f2⟩ := fresh _ _ rfl _ hrow ⟨rfl, rfl, rfl, by simp, fun k hk _ => Below.heap_alloc w.drew _ k hk⟩
    exact ⟨_, _, _, hr, f1, f2⟩
  rcases hR.2.2.2 with ⟨hv, hm0, hEv⟩ | ⟨bA, hv, hm0⟩ | ⟨gb, off, cap, pre, hv, hpre, hEv, hEn, hEx⟩
  · subst hm0
    obtain rfl : xs = [] := List.eq_nil_of_length_eq_zero (by have := hR.2.2.1; simpa using this)
    subst hv
    simp only at hEv
    subst hEv
    rcases hown.2 with ⟨_, p2⟩ | ⟨g', cap', cur, p1, _⟩
    · simp only at p2
      subst p2
      obtain rfl : Ex = [] := List.eq_nil_of_length_eq_zero (by simpa using hown.1)
      obtain ⟨v', w', hr, ho, hg, hn⟩ := run_append_own (P := Try.prog) w w0.heap.size t ty Ee i z Es bytes ht hi hz hsize hby hzs hsz (.slice none 0 0) 0 [] hown ad q c ys hy hc h1 (by unfold maxLen; exact hb.2) hb.1 hbase
      subst hsize
      subst hby
      have hr2 := run_append_nil (P := Try.prog) w t ty Ee i z ht hi hz ad q c ys hy hc (by omega) (by omega) (by have hb := hb.1; simp only [Nat.zero_add] at hb; omega)
      rw [hr2] at hr
      injection hr with hr3 hr4
      have hf := fresh v' (grownCap w q 0 Ee) (by rw [← hr3, Nat.zero_add]) w' ho hg
      exact ⟨v', _, w', by rw [hr2, hr3, hr4], hf.1, hf.2⟩
    · cases p1
  · subst hm0
    exact hgrow bA 0 hv (by omega) (by
      intro j u hu
      obtain rfl : xs = [] := List.eq_nil_of_length_eq_zero (by have := hR.2.2.1; simpa using this)
      simp at hu)
  · have hcells : ∀ j u, xs[j]? = some u → w.cell? ((⟨gb, off * Es, none⟩ : Addr).add j) = some u := by
      subst hv
      exact OffR.cells hM hL hR rfl
    simp only at hEv hEn hEx
    subst hEv
    subst hEn
    subst hEx
    by_cases hroom : m + q ≤ cap
    · rcases hown.2 with ⟨p1, _⟩ | ⟨g', cap', cur, p1, p2, p3, p4, p5, p6, p7⟩
      · cases p1
      · simp only [Value.slice.injEq, Option.some.injEq, Addr.mk.injEq, true_and, and_true] at p1
        obtain ⟨rfl, rfl⟩ := p1
        subst hsize
        have hfit : (off + m) * i.size + ys.length ≤ cur.size := by rw [hy, p6, ← Nat.add_mul]; exact Nat.mul_le_mul_right _ (by omega)
        have hr1 := run_append_room (P := Try.prog) w t ty Ee i ht hi gb (off + m) (off + cap) cur p3 ad q c ys hy hc h1 (by omega) hfit
        have hin : ∀ j, j < ys.length → (w.cell? ⟨gb, off * i.size + m * i.size + j, none⟩).isSome = true ∧ w.frozen? ⟨gb, off * i.size + m * i.size + j, none⟩ = false := by
          intro j hj
          have hlt : off * i.size + m * i.size + j < cur.size := by rw [← Nat.add_mul]; omega
          constructor
          · simp [World.cell?, p3, hlt]
          · simp [World.frozen?, p3]
        have hr2 := run_append_room_cells (P := Try.prog) w t ty Ee i ht hi gb (off * i.size) m cap ad q c ys hy hc h1 hroom (fun j hj => (hin j hj).1) (fun j hj => (hin j hj).2)
        have hr3 := run_append_room_cells (P := Try.prog) w t ty Ee i ht hi gb 0 (off + m) (off + cap) ad q c ys hy hc h1 (by omega) (fun j hj => by rw [Nat.zero_add, Nat.add_mul]; exact (hin j hj).1) (fun j hj => by rw [Nat.zero_add, Nat.add_mul]; exact (hin j hj).2)
        rw [hr1] at hr3
        injection hr3 with _ hw
        rw [show off * i.size + m * i.size = 0 + (off + m) * i.size by rw [Nat.zero_add, Nat.add_mul], ← hw] at hr2
        subst hv
        have hrow : (w.setRow gb (cur.toList.take ((off + m) * i.size) ++ ys ++ cur.toList.drop ((off + m) * i.size + ys.length)).toArray).ownsRow w0.heap.size Ee i.size (.slice (some ⟨gb, 0, none⟩) (off + m + q) (off + cap)) (off + m + q) (pre ++ xs ++ ys) := by
          have e1 : (pre ++ xs ++ ys).length = (off + m + q) * i.size := by
            have := hR.2.2.1
            simp only [List.length_append, hpre, this, hy, Nat.add_mul]
          refine ⟨e1, .inr ⟨gb, off + cap, _, rfl, p2, setRow_heap w gb cur _ Ee _ p3, by omega, p5, ?_, ?_⟩⟩
          · have p6 : cur.size = (off + cap) * i.size := p6
            simp only [List.size_toArray, List.length_append, List.length_take, List.length_drop, Array.length_toList]
            omega
          · have p7 : cur.toList.take ((off + m) * i.size) = pre ++ xs := p7
            rw [p7, ← e1]
            exact List.take_left
        have hM' : Mm own w0 bs (L.set k ⟨Ee, i.size, .slice (some ⟨gb, 0, none⟩) (off + m + q) (off + cap), off + m + q, pre ++ xs ++ ys⟩) Fs (w.setRow gb (cur.toList.take ((off + m) * i.size) ++ ys ++ cur.toList.drop ((off + m) * i.size + ys.length)).toArray) :=
          hM.app hL hrow ⟨rfl, rfl, rfl, by simp, fun k _ hk => setRow_other w gb k _ (fun e => hk (by simp [Value.ownBlock, e]))⟩ (.inl rfl)
        refine ⟨_, ⟨Ee, i.size, .slice (some ⟨gb, 0, none⟩) (off + m + q) (off + cap), off + m + q, pre ++ xs ++ ys⟩, _, hr2, ⟨rfl, rfl, hlen, .inr (.inr ⟨gb, off, cap, pre, rfl, hpre, ?_, ?_, ?_⟩)⟩, hM'⟩
        · show Value.slice _ (off + m + q) _ = _
          rw [Nat.add_assoc]
        · exact Nat.add_assoc _ _ _
        · exact List.append_assoc _ _ _
    · exact hgrow _ _ hv (by omega) hcells
theorem e_appO {t e : TypeId} {size bytes : Nat} {S X : Operand} {v : Value} {m k : Nat} {xs ys : List Value} {E : Ent} {ad : Addr} {q c : Nat} (hF : Fr n ds l a) (hM : Mm own w0 bs L Fs w) (hS : ev l S = some v) (hX : ev l X = some (.slice (some ad) q c)) (he : elO t = some (e, size, bytes))
    (hL : L[k]? = some E) (hR : OffR e size v m xs E) (hy : ys.length = q * size) (hc : ∀ j u, ys[j]? = some u → w.cell? (ad.add j) = some u) (h1 : ∀ u ∈ ys, u.oneCell' = true) (h0 : 0 < q) (hb : (m + q) * bytes ≤ 140737488355328 ∧ m + q ≤ 9223372036854775807)
    (kk : ∀ v' E' w', OffR e size v' (m + q) (xs ++ ys) E' → Mm own w0 bs (L.set k E') Fs w' → K (a.put (some d) v') w') :
    (⟨some d, .call ⟨.builtin .append, #[S, X], #[t, t]⟩, ty, pos, af, g⟩ : Oper).wp Try.prog a w K Q := by
  obtain ⟨e1, e2, i, z, i1, i2, i3, i4, i5⟩ := elO_ok he
  obtain ⟨v', E', w', hr, h2, h3⟩ := run_append_off t ty e i z size bytes e1 i1 i2 i3 i4 i5 e2 hM hL hR hy hc h1 h0 hb
  unfold Oper.wp execOp
  simp only [resolve, invoke, builtin, Sem.run_bind, Sem.run_pure, Result.andThen_ok, List.map_toArray, List.map_cons, List.map_nil, hF.eval hS, hF.eval hX]
  rw [hr]
  exact kk v' E' w' h2 h3
/-- append to the end of a row, of a literal just laid. -/
theorem s_appO {t e T : TypeId} {size bytes : Nat} {S X : Operand} {v : Value} {m : Nat} (k : Nat) {xs ys : List Value} {E : Ent} {b q c : Nat} (hF : Fr n ds l a) (hM : Mm own w0 (⟨b, ⟨ys⟩, T⟩ :: bs) L Fs w) (hR : OffR e size v m xs E) (hg : wantO os l g = some true) (hS : ev l S = some v) (hX : ev l X = some (.slice (some ⟨b, 0, none⟩) q c)) (he : elO t = some (e, size, bytes))
    (hL : Kth L k E) (hy : ys.length = q * size) (h1 : oneL ys = true) (h0 : Nat.blt 0 q = true) (hd : Nat.blt d n = true) (hb : (m + q) * bytes ≤ 140737488355328 ∧ m + q ≤ 9223372036854775807)
    (kk : ∀ v' E' w' a, OffR e size v' (m + q) (xs ++ ys) E' → Mm own w0 bs (L.set k E') Fs w' → Fr n ds ((d, v') :: l) a → wl ⟨os⟩ Q rest a w') :
    wl ⟨os⟩ Q (⟨some d, .call ⟨.builtin .append, #[S, X], #[t, t]⟩, ty, pos, af, g⟩ :: rest) a w := by
  have hbox := hM.mem.box _ List.mem_cons_self
  refine s_op hF hg fun _ hK => e_appO hF (hM.sub (List.sublist_cons_self _ _) (List.Sublist.refl _) (fun _ h => h)) hS hX he hL.get hR hy ?_ (oneL_ok h1) (by simpa using h0) hb fun v' E' w' h2 h3 => hK _ _ (kk v' E' w' _ h2 h3 (hF.put hd _))
  intro j u hu
  rw [add_lit, (Box.rules hbox).1]
  simpa using hu
end
end Go.Proofs.Ytadfdpkhehdikaa


/- Fields of elements of slices: their addresses, loads and stores; rows of elements of any size appended. -/
namespace Go.Proofs.Ytadfdpkhehdikaa
open Go.RowKit Go.Shelf
section
variable {n : Nat} {ds : List Deferred} {l : List (Nat × Value)} {a : Act} {w w' w0 : World} {own : Nat → Prop} {bs : List BoxE} {L : List Ent} {Fs : List (World → Prop)}
variable {os rest : List Oper} {Q : Exit → Act → World → Prop} {K : Act → World → Prop}
variable {d : Nat} {op : Op} {ty : TypeId} {pos : String} {af : Array Edge} {g : Option (Nat × Bool)}
variable {tail : Nat → Bool} {fuel i : Nat} {listed : Array Bool} {bs0 : List BoxE} {Fs0 : List (World → Prop)}
/-- Where a field lies. -/
def fldO (s : TypeId) (i : Nat) : Option Nat := match tyD s with
  | some (.struct ⟨fs⟩) => match getO fs i with
    | some f => match tyS f.type with
      | some (_ + 1) => some f.offset
      | _ => none
    | none => none
  | _ => none
/-- The address of a part of an element. -/
@[irreducible] def adrP (a : Addr) (j : Int) (m q : Nat) : Addr := (adr a j m).add q
theorem e_fieldA {s : TypeId} {X : Operand} {ad : Addr} {j : Int} {m q : Nat} (hF : Fr n ds l a) (hX : ev l X = some (.pointer (some (adr ad j m)))) (hq : fldO s i = some q) (w : World) {dst : Option Tmp} :
    (execOp a.eval ⟨dst, .fieldAddr s X i, ty, pos, af, g⟩).run Try.prog w = .ok (.value (.pointer (some (adrP ad j m q)))) w := by
  unfold fldO at hq
  split at hq
  · rename_i fs hs
    split at hq
    · rename_i f hf
      split at hq
      · rename_i k hm
        injection hq with hq
        have := fieldAt_ok (a := adr ad j m) hs hf hm w
        simp only [execOp, hF.eval hX]
        rw [Sem.run_bind, this]
        unfold adrP
        rw [hq]
        rfl
      · cases hq
    · cases hq
  · cases hq
theorem s_fieldA {s : TypeId} {X : Operand} {ad : Addr} {j : Int} {m q : Nat} (hF : Fr n ds l a) (hg : wantO os l g = some true) (hX : ev l X = some (.pointer (some (adr ad j m)))) (hq : fldO s i = some q) (hd : Nat.blt d n = true)
    (kk : ∀ a, Fr n ds ((d, .pointer (some (adrP ad j m q))) :: l) a → wl ⟨os⟩ Q rest a w) : wl ⟨os⟩ Q (⟨some d, .fieldAddr s X i, ty, pos, af, g⟩ :: rest) a w :=
  s_op hF hg fun _ hK => upon_value (e_fieldA hF hX hq w) (hK _ _ (kk _ (hF.put hd _)))
theorem e_loadP {α : Type} {enc : α → Value} {T : TypeId} {X : Operand} {ad : Addr} {j : Int} {m q : Nat} {xs : List α} {x : α} (hF : Fr n ds l a) (hX : ev l X = some (.pointer (some (adrP ad j m q)))) (hr : Reads enc w (some ad) xs) (hx : xs[j.toNat * m + q]? = some x) (hT : sclO T = some ()) :
    (execOp a.eval ⟨some d, .load T X, ty, pos, af, g⟩).run Try.prog w = .ok (.value (enc x)) w := by
  obtain ⟨b, off, e, hb, hc⟩ := hr _ x hx
  injection e with e
  subst e
  have hadr : adrP ⟨b, off, none⟩ j m q = ⟨b, off + (j.toNat * m + q), none⟩ := by unfold adrP adr; rw [add_lit, add_lit, Nat.add_assoc]
  unfold sclO at hT
  split at hT
  · rename_i i hi
    split at hT
    · rename_i ha
      have hagg := (te_ok hi).agg w
      rw [ha] at hagg
      simp [execOp, hF.eval hX, Instr.loadAt, Instr.sureAddr, Sem.run_bind, loadVar, hadr, hagg, Result.andThen, load, Sem.run, hc]
    · cases hT
  · cases hT
theorem s_loadP {α : Type} {enc : α → Value} {T : TypeId} {X : Operand} {ad : Addr} {j : Int} {m q : Nat} {xs : List α} {x : α} (hF : Fr n ds l a) (hM : Mm own w0 bs L Fs w) (hg : wantO os l g = some true) (hX : ev l X = some (.pointer (some (adrP ad j m q)))) (hr : RdF enc (some ad) xs ∈ Fs) (hT : sclO T = some ()) (hd : Nat.blt d n = true) (hx : xs[j.toNat * m + q]? = some x)
    (k : ∀ a, Fr n ds ((d, enc x) :: l) a → wl ⟨os⟩ Q rest a w) : wl ⟨os⟩ Q (⟨some d, .load T X, ty, pos, af, g⟩ :: rest) a w :=
  s_op hF hg fun _ hK => upon_value (e_loadP hF hX (hM.fact hr) hx hT) (hK _ _ (k _ (hF.put hd _)))
/-- append of a slice that is read only, of elements of any size. -/
theorem s_appN {α : Type} {enc : α → Value} {t e : TypeId} {bytes size q : Nat} {S X : Operand} {v : Value} {m k c : Nat} {xs : List Value} {ys : List α} {ao : Option Addr} (hF : Fr n ds l a) (hM : Mm own w0 bs L Fs w) (hg : wantO os l g = some true) (hX : ev l X = some (.slice ao q c)) (hf : RdF enc ao ys ∈ Fs) (hS : ev l S = some v) (he : elO t = some (e, size, bytes)) (hq : ys.length = q * size)
    (hL : Kth L k ⟨e, size, v, m, xs⟩) (h1 : ∀ y, (enc y).oneCell' = true) (hd : Nat.blt d n = true) (hb : (m + q) * bytes ≤ 140737488355328 ∧ m + q ≤ 9223372036854775807)
    (kk : ∀ a' cap w' a, Mm own w0 bs (L.set k ⟨e, size, .slice a' (m + q) cap, m + q, xs ++ ys.map enc⟩) Fs w' → Fr n ds ((d, .slice a' (m + q) cap) :: l) a → wl ⟨os⟩ Q rest a w') :
    wl ⟨os⟩ Q (⟨some d, .call ⟨.builtin .append, #[S, X], #[t, t]⟩, ty, pos, af, g⟩ :: rest) a w := by
  have hrd := hM.fact hf
  rcases Nat.eq_zero_or_pos q with h0 | h0
  · subst h0
    rw [Nat.zero_mul] at hq
    obtain rfl := List.length_eq_zero_iff.1 hq
    obtain ⟨e1, e2, i, z, i1, i2, i3, i4, i5⟩ := elO_ok he
    have hown := hM.mem.own.get hL.get
    obtain ⟨a', cap, rfl, hle⟩ : ∃ a' cap, v = .slice a' m cap ∧ m ≤ cap := by
      rcases hown.2 with ⟨h', h2⟩ | ⟨g', cap', cur, h', _, _, h3, _⟩
      · simp only at h' h2; exact ⟨none, 0, by rw [h', h2], by omega⟩
      · exact ⟨_, _, h', h3⟩
    have hset : L.set k ⟨e, size, .slice a' m cap, m, xs⟩ = L := by
      apply List.ext_getElem?
      intro q
      rw [List.getElem?_set]
      split
      · rename_i hq; subst hq
        split
        · exact hL.get.symm
        · rename_i hn; rw [List.getElem?_eq_none (by omega)]
      · rfl
    refine s_op hF hg fun _ hK => ?_
    have hsrc : Src Try.prog i.size t (.slice ao 0 c) 0 [] w := by
      cases ao with
      | none => exact Src.ofNil w e1 c
      | some ad => exact Src.ofSlice w e1 ad 0 c [] (by simp) (by simp) (by simp)
    have hr := run_append_nothing (P := Try.prog) w t t ty e i e1 i1 a' m cap hle _ hsrc
    unfold Oper.wp execOp
    simp only [resolve, invoke, builtin, Sem.run_bind, Sem.run_pure, Result.andThen_ok, List.map_toArray, List.map_cons, List.map_nil, hF.eval hS, hF.eval hX, List.length_nil, hr]
    exact hK _ _ (kk a' cap w _ (by simpa [hset] using hM) (hF.put hd _))
  · have hlen : 0 < ys.length := by rw [hq]; exact Nat.mul_pos h0 (elO_ok he).2.1
    obtain ⟨b, off, rfl, _, _⟩ := hrd 0 _ (List.getElem?_eq_getElem hlen)
    refine s_op hF hg fun _ hK => e_app hF hM hS hX he hL (ys := ys.map enc) (by simpa using hq) ?_ (by intro u hu; obtain ⟨y, _, rfl⟩ := List.mem_map.1 hu; exact h1 y) h0 hb fun g cap w' h => hK _ _ (kk _ cap w' _ h (hF.put hd _))
    intro j u hu
    rw [List.getElem?_map] at hu
    cases hy : ys[j]? with
    | none => rw [hy] at hu; simp at hu
    | some y =>
      rw [hy] at hu
      simp only [Option.map_some, Option.some.injEq] at hu
      obtain ⟨b', off', e1, _, e2⟩ := hrd j y hy
      simp only [Option.some.injEq, Addr.mk.injEq, and_true] at e1
      obtain ⟨rfl, rfl⟩ := e1
      rw [add_lit, e2, hu]
/-- A row, as a fact. -/
theorem Mm.rowFactN {α : Type} {enc : α → Value} (m : Mm own w0 bs L Fs w) {e : TypeId} {sz : Nat} {a : Option Addr} {n c : Nat} {xs : List α} (h : ⟨e, sz, .slice a n c, n, xs.map enc⟩ ∈ L) : Has own w (RdF enc a xs) := by
  have ho : w.ownsRow w0.heap.size e sz (.slice a n c) n (xs.map enc) := m.mem.own.own _ h
  refine RdF.has (own_readsN ho) ?_
  rintro ad rfl hn
  have h1 := m.mem.own.lt h ad.block rfl
  have := m.low _ hn
  omega
end
end Go.Proofs.Ytadfdpkhehdikaa


/- Layer 29: sectors are copied and compared. -/
namespace Go.Proofs.Ytadfdpkhehdikaa
open Go.RowKit Go.Shelf
namespace D29
def W8 (l : Dat) : Prop := ∀ y ∈ l, y.length = 8
theorem len8 {s : List Int} (h : s.length = 8) : ∃ a b c d e f g i, s = [a, b, c, d, e, f, g, i] := by
  match s, h with
  | [a, b, c, d, e, f, g, i], _ => exact ⟨a, b, c, d, e, f, g, i, rfl⟩
theorem flat_len : ∀ {D : Dat}, W8 D → D.flatten.length = D.length * 8
  | [], _ => rfl
  | s :: D, h => by
    rw [List.flatten_cons, List.length_append, h s (by simp), flat_len (fun y hy => h y (List.mem_cons_of_mem _ hy)), List.length_cons, Nat.succ_mul]
    omega
theorem W8.drop {l : Dat} (h : W8 l) (i : Nat) : W8 (l.drop i) := fun y hy => h y (List.mem_of_mem_drop hy)
theorem W8.take {l : Dat} (h : W8 l) (i : Nat) : W8 (l.take i) := fun y hy => h y (List.mem_of_mem_take hy)
end D29
open D29
section
variable {own : Nat → Prop} {W : World}
theorem sclone_c (x : Dat) (hw : W8 x) (a0 : Option Addr) (c0 n : Nat) (hn : x.length = n) (hb : n ≤ 100000) (own : Nat → Prop) (W : World) (hl : ∀ b, own b → b < W.heap.size) (hv : Has own W (RdF (Value.int .u8) a0 x.flatten)) :
    Calls Try.prog 36 ⟨[.slice a0 n c0]⟩ W (Ret W fun v w' => ∃ a' c', v = .slice a' n c' ∧ Owns w' W.heap.size [⟨83, 8, .slice a' n c', n, x.flatten.map (Value.int .u8)⟩]) := by
  have hM := (Mm.start hl).known hv
  have hq := flat_len hw
  rw [hn] at hq
  cases a0 with
  | none =>
    obtain rfl : x = [] := by
      cases x with
      | nil => rfl
      | cons s r =>
        have hs := hw s List.mem_cons_self
        obtain ⟨y, hy⟩ := get_of_lt (l := (s :: r).flatten) (i := 0) (by rw [hq, ← hn]; simp)
        obtain ⟨ad, h⟩ := rd_some hM (by (repeat (first | exact List.mem_cons_self | refine List.mem_cons_of_mem _ ?_))) hy
        cases h
    subst hn
    refine f_start Try.func36 rfl Try.ntmps36 rfl rfl ?_; intro a hF
    (repeat' (first | (with_reducible refine w_seq ?_) | (with_reducible refine c_region ?_) | (with_reducible refine s_nil ?_) | ((with_reducible apply s_eqn hF); exact rfl; exact rfl; exact rfl; exact rfl; exact rfl; exact rfl; clear hF a; intro a hF) | (with_reducible refine q_then_n ?_) | ((with_reducible apply s_pure hF); exact rfl; exact rfl; exact rfl; (first | exact trivial | omega | exact ⟨Int.natCast_nonneg _, Int.ofNat_lt.2 (by assumption)⟩ | decide); clear hF a; intro a hF) | (with_reducible refine w_ret ?_) | (with_reducible refine q_then_r ?_) | ((with_reducible apply c_true2 hF); exact rfl; (first | with_reducible rfl | (refine congrArg Value.bool ?_; focus (simp; done))))))
    (apply f_ret Try.results36 hF hM; (repeat (first | exact RL.nil | (apply RL.tmp; exact rfl) | (apply RL.cell; exact rfl; (repeat (first | exact List.mem_cons_self | refine List.mem_cons_of_mem _ ?_)); exact rfl))); refine Ret.mk hM.since ?_; dsimp only [resV])
    exact ⟨none, 0, rfl, (Owns.nil _ _).cons _ _⟩
  | some ad =>
    refine f_start Try.func36 rfl Try.ntmps36 rfl rfl ?_; intro a hF
    (repeat' (first | (with_reducible refine w_seq ?_) | (with_reducible refine c_region ?_) | (with_reducible refine s_nil ?_) | ((with_reducible apply s_eqn hF); exact rfl; exact rfl; exact rfl; exact rfl; exact rfl; exact rfl; clear hF a; intro a hF) | ((with_reducible apply s_lit0 hF hM); exact rfl; exact rfl; exact rfl; exact rfl; clear hF hM a; intro bl w a hM hF) | ((with_reducible apply s_appN hF hM); exact rfl; exact rfl; (repeat (first | exact List.mem_cons_self | refine List.mem_cons_of_mem _ ?_)); exact rfl; exact rfl; (with_reducible assumption); (repeat (first | exact Kth.z | apply Kth.s)); (intro _; exact rfl); exact rfl; omega; clear hF hM a; intro g cap w a hM hF; dsimp only [List.set] at hM) | (with_reducible refine q_then_n ?_) | ((with_reducible apply s_pure hF); exact rfl; exact rfl; exact rfl; (first | exact trivial | omega | exact ⟨Int.natCast_nonneg _, Int.ofNat_lt.2 (by assumption)⟩ | decide); clear hF a; intro a hF) | (with_reducible refine w_skip ?_) | (with_reducible refine w_ret ?_) | ((with_reducible apply c_false2 hF); exact rfl; (first | with_reducible rfl | (refine congrArg Value.bool ?_; focus (simp; done))))))
    (apply f_ret Try.results36 hF hM; (repeat (first | exact RL.nil | (apply RL.tmp; exact rfl) | (apply RL.cell; exact rfl; (repeat (first | exact List.mem_cons_self | refine List.mem_cons_of_mem _ ?_)); exact rfl))); refine Ret.mk hM.since ?_; dsimp only [resV])
    simp only [Nat.zero_add, List.nil_append] at hM ⊢
    exact ⟨_, _, rfl, hM.mem.own⟩
set_option maxRecDepth 20000 in
theorem eqS_c (l m : Dat) (hl8 : W8 l) (hm8 : W8 m) (a1 a2 : Option Addr) (q1 q2 c1 c2 : Nat) (h1 : l.length = q1) (h2 : m.length = q2) (hq : q1 ≤ 1000000) (own : Nat → Prop) (W : World) (hl : ∀ b, own b → b < W.heap.size) (hv1 : Has own W (RdF (Value.int .u8) a1 l.flatten)) (hv2 : Has own W (RdF (Value.int .u8) a2 m.flatten)) :
    Calls Try.prog 35 ⟨[.slice a1 q1 c1, .slice a2 q2 c2]⟩ W (Ret W fun v _ => v = .bool (decide (l = m))) := by
  subst h1 h2
  have hM := ((Mm.start hl).known hv1).known hv2
  have hw1 : ∀ y ∈ l, y.length = 8 := hl8
  have hw2 : ∀ y ∈ m, y.length = 8 := hm8
  refine f_start Try.func35 rfl Try.ntmps35 rfl rfl ?_; intro a hF
  (repeat' (first | (with_reducible refine w_seq ?_) | (with_reducible refine c_region ?_) | (with_reducible refine s_nil ?_) | (with_reducible refine q_then_n ?_) | ((with_reducible apply s_pure hF); exact rfl; exact rfl; exact rfl; (first | exact trivial | omega | exact ⟨Int.natCast_nonneg _, Int.ofNat_lt.2 (by assumption)⟩ | decide); clear hF a; intro a hF) | (with_reducible refine w_skip ?_) | (with_reducible refine w_block ?_) | (with_reducible refine w_ret ?_) | (with_reducible refine q_then_r ?_) | ((with_reducible apply c_dec hF); exact rfl; all_goals intro hc; all_goals (try (exfalso; omega)))))
  · rw [show decide (l = m) = false from decide_eq_false (fun e => by subst e; omega)]
    (apply f_ret Try.results35 hF hM; (repeat (first | exact RL.nil | (apply RL.tmp; exact rfl) | (apply RL.cell; exact rfl; (repeat (first | exact List.mem_cons_self | refine List.mem_cons_of_mem _ ?_)); exact rfl))); refine Ret.mk hM.since ?_; dsimp only [resV])
  have hlm : l.length = m.length := by omega
  refine c_loop (m := l.length) (fun mm a w' => ∃ i : Nat, mm + i = l.length ∧ l.take i = m.take i ∧ Fr 26 [] [(13, .int .i64 i), (12, .int .i64 l.length), (0, .slice a1 l.length c1), (1, .slice a2 m.length c2)] a ∧ Mm own W [] [] [RdF (Value.int .u8) a2 m.flatten, RdF (Value.int .u8) a1 l.flatten] w') ⟨0, by omega, rfl, hF.sub (by repeat (first | exact Sub.nil | refine Sub.cons rfl (by first | with_reducible rfl | (refine congrArg (Value.int _) ?_; omega) | exact rfl) ?_)), hM⟩ ?_
  clear hF hM a
  rintro mm a w' ⟨i, hmi, hlt, hF, hM⟩
  by_cases hi : i < l.length
  · obtain ⟨s, hs⟩ := get_of_lt hi
    obtain ⟨t, ht⟩ := get_of_lt (l := m) (i := i) (by omega)
    have hs8 := hw1 s (List.mem_of_getElem? hs)
    have ht8 := hw2 t (List.mem_of_getElem? ht)
    obtain ⟨ad1, rfl⟩ : ∃ ad, a1 = some ad := rd_some hM (by (repeat (first | exact List.mem_cons_self | refine List.mem_cons_of_mem _ ?_))) (flat_get (q := 0) hl8 hs (List.getElem?_eq_getElem (by omega)))
    obtain ⟨ad2, rfl⟩ : ∃ ad, a2 = some ad := rd_some hM (enc := Value.int .u8) (a := a2) (xs := m.flatten) (by (repeat (first | exact List.mem_cons_self | refine List.mem_cons_of_mem _ ?_))) (flat_get (q := 0) hm8 ht (List.getElem?_eq_getElem (by omega)))
    have hst : (l.take (i + 1) = m.take (i + 1)) ↔ s = t := by
      rw [List.take_add_one, List.take_add_one, hs, ht, hlt]
      simp
    (repeat' (first | (with_reducible refine w_seq ?_) | (with_reducible refine c_region ?_) | (with_reducible refine s_nil ?_) | (with_reducible refine q_then_n ?_) | ((with_reducible apply s_pure hF); exact rfl; exact rfl; exact rfl; (first | exact trivial | omega | exact ⟨Int.natCast_nonneg _, Int.ofNat_lt.2 (by assumption)⟩ | decide); clear hF a; intro a hF) | (with_reducible refine w_skip ?_) | (with_reducible refine w_block ?_) | ((with_reducible apply c_dec hF); exact rfl; all_goals intro hc; all_goals (try (exfalso; omega)))))
    refine c_draw (fun i => Nat.ble 9 i) hM ?_; clear hM; intro w hM
    (first | (refine t_pure (i := 0) hF rfl rfl rfl rfl (by kernel_rfl) hM.sm (fun _ _ _ h => h) ?_ ?_; (first | exact trivial | omega | decide); clear hF a; intro a hF))
    (first | (refine t_pure (i := 1) hF rfl rfl rfl rfl (by kernel_rfl) hM.sm (fun _ _ _ h => h) ?_ ?_; (first | exact trivial | omega | decide); clear hF a; intro a hF))
    (first | (refine t_pure (i := 2) hF rfl rfl rfl rfl (by kernel_rfl) hM.sm (fun _ _ _ h => h) ?_ ?_; (first | exact trivial | omega | decide); clear hF a; intro a hF))
    (first | (apply t_loadS (i := 3) hF rfl rfl rfl; (repeat (first | exact List.mem_cons_self | refine List.mem_cons_of_mem _ ?_)); (first | with_reducible assumption | (simp only [Int.toNat_natCast]; with_reducible assumption)); (with_reducible assumption); exact rfl; exact rfl; kernel_rfl; exact hM.sm; exact (fun _ _ _ h => h); clear hF a; intro a hF))
    (first | (refine t_pure (i := 4) hF rfl rfl rfl rfl (by kernel_rfl) hM.sm (fun _ _ _ h => h) ?_ ?_; (first | exact trivial | omega | decide); clear hF a; intro a hF))
    (first | (refine t_pure (i := 5) hF rfl rfl rfl rfl (by kernel_rfl) hM.sm (fun _ _ _ h => h) ?_ ?_; (first | exact trivial | omega | decide); clear hF a; intro a hF))
    (first | (refine t_pure (i := 6) hF rfl rfl rfl rfl (by kernel_rfl) hM.sm (fun _ _ _ h => h) ?_ ?_; (first | exact trivial | omega | decide); clear hF a; intro a hF))
    (first | (apply t_loadS (i := 7) hF rfl rfl rfl; (repeat (first | exact List.mem_cons_self | refine List.mem_cons_of_mem _ ?_)); (first | with_reducible assumption | (simp only [Int.toNat_natCast]; with_reducible assumption)); (with_reducible assumption); exact rfl; exact rfl; kernel_rfl; exact hM.sm; exact (fun _ _ _ h => h); clear hF a; intro a hF))
    (first | (apply t_eqA (i := 8) hF rfl rfl rfl rfl rfl; kernel_rfl; exact rfl; exact rfl; kernel_rfl; (first | with_reducible assumption | rfl); (first | with_reducible assumption | rfl); exact hM.sm; exact (fun _ _ _ h => h); clear hF a; intro a hF))
    refine t_done (by kernel_rfl) ?_
    (repeat' (first | (with_reducible refine w_seq ?_) | (with_reducible refine c_region ?_) | (with_reducible refine s_nil ?_) | (with_reducible refine q_then_n ?_) | ((with_reducible apply s_pure hF); exact rfl; exact rfl; exact rfl; (first | exact trivial | omega | exact ⟨Int.natCast_nonneg _, Int.ofNat_lt.2 (by assumption)⟩ | decide); clear hF a; intro a hF) | (with_reducible refine w_skip ?_) | (with_reducible refine w_ret ?_) | (with_reducible refine q_then_r ?_) | (with_reducible refine q_blk_n ?_) | (with_reducible refine q_blk_r ?_) | ((with_reducible apply c_ndec hF); exact rfl; all_goals intro hc; all_goals (try (exfalso; omega)))))
    · rw [show decide (l = m) = false from decide_eq_false (fun e => by subst e; rw [hs] at ht; injection ht with ht; contradiction)]
      (apply f_ret Try.results35 hF hM; (repeat (first | exact RL.nil | (apply RL.tmp; exact rfl) | (apply RL.cell; exact rfl; (repeat (first | exact List.mem_cons_self | refine List.mem_cons_of_mem _ ?_)); exact rfl))); refine Ret.mk hM.since ?_; dsimp only [resV])
    · exact ⟨mm - 1, by omega, i + 1, by omega, hst.2 (by assumption), hF.sub (by repeat (first | exact Sub.nil | refine Sub.cons rfl (by first | with_reducible rfl | (refine congrArg (Value.int _) ?_; omega) | exact rfl) ?_)), hM⟩
  · rw [List.take_of_length_le (by omega), List.take_of_length_le (by omega)] at hlt
    rw [decide_eq_true hlt]
    (repeat' (first | (with_reducible refine w_seq ?_) | (with_reducible refine c_region ?_) | (with_reducible refine s_nil ?_) | (with_reducible refine q_then_n ?_) | ((with_reducible apply s_pure hF); exact rfl; exact rfl; exact rfl; (first | exact trivial | omega | exact ⟨Int.natCast_nonneg _, Int.ofNat_lt.2 (by assumption)⟩ | decide); clear hF a; intro a hF) | (with_reducible refine w_exit ?_) | (with_reducible refine w_ret ?_) | (with_reducible refine q_then_x ?_) | (with_reducible refine q_blk_x ?_) | ((with_reducible apply c_dec hF); exact rfl; all_goals intro hc; all_goals (try (exfalso; omega)))))
    (apply f_ret Try.results35 hF hM; (repeat (first | exact RL.nil | (apply RL.tmp; exact rfl) | (apply RL.cell; exact rfl; (repeat (first | exact List.mem_cons_self | refine List.mem_cons_of_mem _ ?_)); exact rfl))); refine Ret.mk hM.since ?_; dsimp only [resV])
set_option maxRecDepth 20000 in
theorem SameS_c (l m : Dat) (hl8 : W8 l) (hm8 : W8 m) (a1 a2 : Option Addr) (q1 q2 c1 c2 : Nat) (h1 : l.length = q1) (h2 : m.length = q2) (hq : q1 ≤ 1000000) (own : Nat → Prop) (W : World) (hl : ∀ b, own b → b < W.heap.size) (hv1 : Has own W (RdF (Value.int .u8) a1 l.flatten)) (hv2 : Has own W (RdF (Value.int .u8) a2 m.flatten)) :
    Calls Try.prog 11 ⟨[.slice a1 q1 c1, .slice a2 q2 c2]⟩ W (Ret W fun v _ => v = .bool (decide (l = m))) := by
  subst h1 h2
  have hM := ((Mm.start hl).known hv1).known hv2
  have hw1 : ∀ y ∈ l, y.length = 8 := hl8
  have hw2 : ∀ y ∈ m, y.length = 8 := hm8
  refine f_start Try.func11 rfl Try.ntmps11 rfl rfl ?_; intro a hF
  (repeat' (first | (with_reducible refine w_seq ?_) | (with_reducible refine c_region ?_) | (with_reducible refine s_nil ?_) | (with_reducible refine q_then_n ?_) | ((with_reducible apply s_pure hF); exact rfl; exact rfl; exact rfl; (first | exact trivial | omega | exact ⟨Int.natCast_nonneg _, Int.ofNat_lt.2 (by assumption)⟩ | decide); clear hF a; intro a hF) | (with_reducible refine w_skip ?_) | (with_reducible refine w_block ?_) | (with_reducible refine w_ret ?_) | (with_reducible refine q_then_r ?_) | ((with_reducible apply c_dec hF); exact rfl; all_goals intro hc; all_goals (try (exfalso; omega)))))
  · rw [show decide (l = m) = false from decide_eq_false (fun e => by subst e; omega)]
    (apply f_ret Try.results11 hF hM; (repeat (first | exact RL.nil | (apply RL.tmp; exact rfl) | (apply RL.cell; exact rfl; (repeat (first | exact List.mem_cons_self | refine List.mem_cons_of_mem _ ?_)); exact rfl))); refine Ret.mk hM.since ?_; dsimp only [resV])
  have hlm : l.length = m.length := by omega
  refine c_loop (m := l.length) (fun mm a w' => ∃ i : Nat, mm + i = l.length ∧ l.take i = m.take i ∧ Fr 26 [] [(5, .int .i64 i), (0, .slice a1 l.length c1), (1, .slice a2 m.length c2)] a ∧ Mm own W [] [] [RdF (Value.int .u8) a2 m.flatten, RdF (Value.int .u8) a1 l.flatten] w') ⟨0, by omega, rfl, hF.sub (by repeat (first | exact Sub.nil | refine Sub.cons rfl (by first | with_reducible rfl | (refine congrArg (Value.int _) ?_; omega) | exact rfl) ?_)), hM⟩ ?_
  clear hF hM a
  rintro mm a w' ⟨i, hmi, hlt, hF, hM⟩
  by_cases hi : i < l.length
  · obtain ⟨s, hs⟩ := get_of_lt hi
    obtain ⟨t, ht⟩ := get_of_lt (l := m) (i := i) (by omega)
    have hs8 := hw1 s (List.mem_of_getElem? hs)
    have ht8 := hw2 t (List.mem_of_getElem? ht)
    obtain ⟨ad1, rfl⟩ : ∃ ad, a1 = some ad := rd_some hM (by (repeat (first | exact List.mem_cons_self | refine List.mem_cons_of_mem _ ?_))) (flat_get (q := 0) hl8 hs (List.getElem?_eq_getElem (by omega)))
    obtain ⟨ad2, rfl⟩ : ∃ ad, a2 = some ad := rd_some hM (enc := Value.int .u8) (a := a2) (xs := m.flatten) (by (repeat (first | exact List.mem_cons_self | refine List.mem_cons_of_mem _ ?_))) (flat_get (q := 0) hm8 ht (List.getElem?_eq_getElem (by omega)))
    have hst : (l.take (i + 1) = m.take (i + 1)) ↔ s = t := by
      rw [List.take_add_one, List.take_add_one, hs, ht, hlt]
      simp
    (repeat' (first | (with_reducible refine w_seq ?_) | (with_reducible refine c_region ?_) | (with_reducible refine s_nil ?_) | (with_reducible refine q_then_n ?_) | ((with_reducible apply s_pure hF); exact rfl; exact rfl; exact rfl; (first | exact trivial | omega | exact ⟨Int.natCast_nonneg _, Int.ofNat_lt.2 (by assumption)⟩ | decide); clear hF a; intro a hF) | (with_reducible refine w_skip ?_) | (with_reducible refine w_block ?_) | ((with_reducible apply c_dec hF); exact rfl; all_goals intro hc; all_goals (try (exfalso; omega)))))
    refine c_draw (fun i => Nat.ble 9 i) hM ?_; clear hM; intro w hM
    (first | (refine t_pure (i := 0) hF rfl rfl rfl rfl (by kernel_rfl) hM.sm (fun _ _ _ h => h) ?_ ?_; (first | exact trivial | omega | decide); clear hF a; intro a hF))
    (first | (refine t_pure (i := 1) hF rfl rfl rfl rfl (by kernel_rfl) hM.sm (fun _ _ _ h => h) ?_ ?_; (first | exact trivial | omega | decide); clear hF a; intro a hF))
    (first | (refine t_pure (i := 2) hF rfl rfl rfl rfl (by kernel_rfl) hM.sm (fun _ _ _ h => h) ?_ ?_; (first | exact trivial | omega | decide); clear hF a; intro a hF))
    (first | (apply t_loadS (i := 3) hF rfl rfl rfl; (repeat (first | exact List.mem_cons_self | refine List.mem_cons_of_mem _ ?_)); (first | with_reducible assumption | (simp only [Int.toNat_natCast]; with_reducible assumption)); (with_reducible assumption); exact rfl; exact rfl; kernel_rfl; exact hM.sm; exact (fun _ _ _ h => h); clear hF a; intro a hF))
    (first | (refine t_pure (i := 4) hF rfl rfl rfl rfl (by kernel_rfl) hM.sm (fun _ _ _ h => h) ?_ ?_; (first | exact trivial | omega | decide); clear hF a; intro a hF))
    (first | (refine t_pure (i := 5) hF rfl rfl rfl rfl (by kernel_rfl) hM.sm (fun _ _ _ h => h) ?_ ?_; (first | exact trivial | omega | decide); clear hF a; intro a hF))
    (first | (refine t_pure (i := 6) hF rfl rfl rfl rfl (by kernel_rfl) hM.sm (fun _ _ _ h => h) ?_ ?_; (first | exact trivial | omega | decide); clear hF a; intro a hF))
    (first | (apply t_loadS (i := 7) hF rfl rfl rfl; (repeat (first | exact List.mem_cons_self | refine List.mem_cons_of_mem _ ?_)); (first | with_reducible assumption | (simp only [Int.toNat_natCast]; with_reducible assumption)); (with_reducible assumption); exact rfl; exact rfl; kernel_rfl; exact hM.sm; exact (fun _ _ _ h => h); clear hF a; intro a hF))
    (first | (apply t_eqA (i := 8) hF rfl rfl rfl rfl rfl; kernel_rfl; exact rfl; exact rfl; kernel_rfl; (first | with_reducible assumption | rfl); (first | with_reducible assumption | rfl); exact hM.sm; exact (fun _ _ _ h => h); clear hF a; intro a hF))
    refine t_done (by kernel_rfl) ?_
    (repeat' (first | (with_reducible refine w_seq ?_) | (with_reducible refine c_region ?_) | (with_reducible refine s_nil ?_) | (with_reducible refine q_then_n ?_) | ((with_reducible apply s_pure hF); exact rfl; exact rfl; exact rfl; (first | exact trivial | omega | exact ⟨Int.natCast_nonneg _, Int.ofNat_lt.2 (by assumption)⟩ | decide); clear hF a; intro a hF) | (with_reducible refine w_skip ?_) | (with_reducible refine w_ret ?_) | (with_reducible refine q_then_r ?_) | (with_reducible refine q_blk_n ?_) | (with_reducible refine q_blk_r ?_) | ((with_reducible apply c_ndec hF); exact rfl; all_goals intro hc; all_goals (try (exfalso; omega)))))
    · rw [show decide (l = m) = false from decide_eq_false (fun e => by subst e; rw [hs] at ht; injection ht with ht; contradiction)]
      (apply f_ret Try.results11 hF hM; (repeat (first | exact RL.nil | (apply RL.tmp; exact rfl) | (apply RL.cell; exact rfl; (repeat (first | exact List.mem_cons_self | refine List.mem_cons_of_mem _ ?_)); exact rfl))); refine Ret.mk hM.since ?_; dsimp only [resV])
    · exact ⟨mm - 1, by omega, i + 1, by omega, hst.2 (by assumption), hF.sub (by repeat (first | exact Sub.nil | refine Sub.cons rfl (by first | with_reducible rfl | (refine congrArg (Value.int _) ?_; omega) | exact rfl) ?_)), hM⟩
  · rw [List.take_of_length_le (by omega), List.take_of_length_le (by omega)] at hlt
    rw [decide_eq_true hlt]
    (repeat' (first | (with_reducible refine w_seq ?_) | (with_reducible refine c_region ?_) | (with_reducible refine s_nil ?_) | (with_reducible refine q_then_n ?_) | ((with_reducible apply s_pure hF); exact rfl; exact rfl; exact rfl; (first | exact trivial | omega | exact ⟨Int.natCast_nonneg _, Int.ofNat_lt.2 (by assumption)⟩ | decide); clear hF a; intro a hF) | (with_reducible refine w_exit ?_) | (with_reducible refine w_ret ?_) | (with_reducible refine q_then_x ?_) | (with_reducible refine q_blk_x ?_) | ((with_reducible apply c_dec hF); exact rfl; all_goals intro hc; all_goals (try (exfalso; omega)))))
    (apply f_ret Try.results11 hF hM; (repeat (first | exact RL.nil | (apply RL.tmp; exact rfl) | (apply RL.cell; exact rfl; (repeat (first | exact List.mem_cons_self | refine List.mem_cons_of_mem _ ?_)); exact rfl))); refine Ret.mk hM.since ?_; dsimp only [resV])
end
end Go.Proofs.Ytadfdpkhehdikaa


/- checksum: the digest of sectors. -/
namespace Go.Proofs.Ytadfdpkhehdikaa
open Go.RowKit Go.Shelf
namespace D29
theorem below_of {W A B : World} (h : Since W A) (k : Since W B) (hs : A.heap.size ≤ B.heap.size) : Below W.heap.size A B :=
  ⟨k.os.trans h.os.symm, k.tape.trans h.tape.symm, k.output.trans h.output.symm, hs, fun b hb => (k.block b hb).trans (h.block b hb).symm⟩
theorem since_below {W0 w w' : World} (h : Since W0 w) (k : Below W0.heap.size w w') : Since W0 w' := Below.trans h k
end D29
open D29
section
variable {n : Nat} {ds : List Deferred} {l : List (Nat × Value)} {a : Act} {w : World} {os rest : List Oper} {Q : Exit → Act → World → Prop} {d : Nat} {ty : TypeId} {pos : String} {af : Array Edge} {g : Option (Nat × Bool)}
/-- An element of an array of numbers that is a value. -/
theorem s_indexS {t e : TypeId} {len : Nat} {X I : Operand} {cs : List Value} {k : IntKind} {j : Nat} {v : Value} (hF : Fr n ds l a) (hg : wantO os l g = some true) (hX : ev l X = some (.agg ⟨cs⟩)) (hI : ev l I = some (.int k j)) (ht : tyD t = some (.array len e)) (hs : tyS e = some 1) (hr : (fun j => rdV e cs j) = fun j => rdV.at' cs j) (hv : cs[j]? = some v) (hd : Nat.blt d n = true) (hj : j < len)
    (kk : ∀ a, Fr n ds ((d, v) :: l) a → wl ⟨os⟩ Q rest a w) : wl ⟨os⟩ Q (⟨some d, .index t X I, ty, pos, af, g⟩ :: rest) a w :=
  s_op hF hg fun _ hK => upon_value (v := v) (by
    have h0 : rdV e cs j = some v := by
      have e : rdV e cs j = rdV.at' cs j := congrFun hr j
      rw [e, rdV.at'_eq, hv]
    have := rdV_part h0 w
    simp [execOp, hF.eval hX, hF.eval hI, Instr.index, asIntOf, Sem.run_bind, tyD_run ht, tyS_run hs, Result.andThen, hj, this]) (hK _ _ (kk _ (hF.put hd v)))
end
set_option maxRecDepth 20000 in
set_option maxHeartbeats 1000000 in
theorem sec_stops (l : Dat) (hw : D29.W8 l) (hlen : l.length ≤ 1000000) (a0 : Option Addr) (c0 b0 : Nat) (W0 w : World) (hr : Reads (Value.int .u8) W0 a0 l.flatten) (hs : Since W0 w) (hbx : Box W0 b0 ⟨[.slice a0 l.length c0]⟩ 33) :
    SeqStopsK Fence.wide 8 Try.prog 78 #[.pointer (some ⟨b0, 0, none⟩)] (fun x : Int => #[.int .u8 x]) (Below W0.heap.size) (fun ys => ys = l.flatten) (fun pre => ∃ k, pre = l.flatten.take k) l.flatten.length w := by
  intro lp J Jx W hW hJ hJx hY h0
  refine callsIn_wide.2 ?_
  show Calls Try.prog _ ⟨[.func (.yield lp) #[] #[], .pointer (some ⟨b0, 0, none⟩)]⟩ W _
  have hw' : ∀ y ∈ l, y.length = 8 := hw
  have hsW : Since W0 W := hs.trans hW
  have hfl := flat_len hw
  have hM : Mm (fun _ => False) W [] [] [RdF (Value.int .u8) a0 l.flatten, BxF b0 [.slice a0 l.length c0] 33] W :=
    ((Mm.start (fun _ h => h.elim)).known (BxF.has (hbx.of_block (hsW.block _ hbx.lt)))).known (RdF.has (hr.since hsW) fun _ _ k => k)
  refine f_start Try.func78 rfl Try.ntmps78 rfl rfl ?_; intro a hF
  (repeat (first | (with_reducible refine w_seq ?_) | (with_reducible refine c_region ?_) | (with_reducible refine s_nil ?_) | (with_reducible refine q_then_n ?_) | ((with_reducible apply s_pure hF); exact rfl; exact rfl; exact rfl; (first | exact trivial | omega | exact ⟨Int.natCast_nonneg _, Int.ofNat_lt.2 (by assumption)⟩ | decide); clear hF a; intro a hF) | ((with_reducible apply s_loadK hF hM); exact rfl; exact rfl; (repeat (first | exact List.mem_cons_self | refine List.mem_cons_of_mem _ ?_)); exact rfl; exact rfl; clear hF a; intro a hF) | (with_reducible refine w_block ?_)))
  refine c_loop (m := l.length) (fun m a w' => ∃ i : Nat, m + i = l.length ∧ J (l.flatten.take (i * 8)) w' ∧ Since W0 w' ∧
    Fr 23 [] [(9, .int .i64 i), (8, .int .i64 l.length), (7, .slice a0 l.length c0), (0, .func (.yield lp) #[] #[]), (1, .pointer (some ⟨b0, 0, none⟩))] a) ⟨0, by omega, by rw [Nat.zero_mul]; exact h0, hsW.trans hM.since, hF.sub (by repeat (first | exact Sub.nil | refine Sub.cons rfl (by first | with_reducible rfl | (refine congrArg (Value.int _) ?_; omega) | exact rfl) ?_))⟩ ?_
  clear hF hM a
  rintro m a w' ⟨i, hm, hJp, hsp, hF⟩
  have hM : Mm (fun _ => False) w' [] [] [RdF (Value.int .u8) a0 l.flatten, BxF b0 [.slice a0 l.length c0] 33] w' :=
    ((Mm.start (fun _ h => h.elim)).known (BxF.has (hbx.of_block (hsp.block _ hbx.lt)))).known (RdF.has (hr.since hsp) fun _ _ k => k)
  by_cases hi : i < l.length
  · obtain ⟨s, hsx⟩ := get_of_lt hi
    have hs8 := hw s (List.mem_of_getElem? hsx)
    obtain ⟨ad, rfl⟩ : ∃ ad, a0 = some ad := rd_some hM (by (repeat (first | exact List.mem_cons_self | refine List.mem_cons_of_mem _ ?_))) (flat_get (q := 0) hw hsx (List.getElem?_eq_getElem (by omega)))
    obtain ⟨x0, x1, x2, x3, x4, x5, x6, x7, rfl⟩ := len8 hs8
    obtain ⟨cs, hcs⟩ : ∃ cs : List Value, cs = [.int .u8 x0, .int .u8 x1, .int .u8 x2, .int .u8 x3, .int .u8 x4, .int .u8 x5, .int .u8 x6, .int .u8 x7] := ⟨_, rfl⟩
    (repeat' (first | (with_reducible refine w_seq ?_) | (with_reducible refine c_region ?_) | (with_reducible refine s_nil ?_) | ((with_reducible apply s_loadS hF hM); exact rfl; exact rfl; (repeat (first | exact List.mem_cons_self | refine List.mem_cons_of_mem _ ?_)); exact rfl; exact rfl; (first | with_reducible assumption | (simp only [Int.toNat_natCast]; with_reducible assumption)); (with_reducible assumption); clear hF a; intro a hF) | (with_reducible refine q_then_n ?_) | ((with_reducible apply s_pure hF); exact rfl; exact rfl; exact rfl; (first | exact trivial | omega | exact ⟨Int.natCast_nonneg _, Int.ofNat_lt.2 (by assumption)⟩ | decide); clear hF a; intro a hF) | ((with_reducible apply s_load hF hM); exact rfl; exact rfl; (repeat (first | exact List.mem_cons_self | refine List.mem_cons_of_mem _ ?_)); exact rfl; exact rfl; clear hF a; intro a hF) | ((with_reducible apply s_store hF hM); exact rfl; exact rfl; exact rfl; exact rfl; (repeat (first | exact Upd.z | apply Upd.s)); exact rfl; exact rfl; exact rfl; clear hM; intro w hM) | ((with_reducible apply s_alloc hF hM); exact rfl; exact rfl; exact rfl; clear hF hM a; intro b w a hM hF) | (with_reducible refine w_skip ?_) | (with_reducible refine w_block ?_) | ((with_reducible apply c_dec hF); exact rfl; all_goals intro hc; all_goals (try (exfalso; omega)))))
    have hag : Value.agg ⟨[.int .u8 x0, .int .u8 x1, .int .u8 x2, .int .u8 x3, .int .u8 x4, .int .u8 x5, .int .u8 x6, .int .u8 x7]⟩ = .agg ⟨cs⟩ := by rw [hcs]
    have hJ2 : J (l.flatten.take (i * 8 + 0)) w := hJ _ w' w none hJp hM.since.grows (fun r e => by cases e)
    refine c_loop (m := 8) (fun m a w' => ∃ j : Nat, m + j = 8 ∧ J (l.flatten.take (i * 8 + j)) w' ∧ Since W0 w' ∧
      Fr 23 [] [(14, .int .i64 j), (13, .agg ⟨cs⟩), (9, .int .i64 i), (8, .int .i64 l.length), (7, .slice (some ad) l.length c0), (0, .func (.yield lp) #[] #[]), (1, .pointer (some ⟨b0, 0, none⟩))] a)
      ⟨0, by omega, hJ2, hsp.trans hM.since, hF.sub (by repeat (first | exact Sub.nil | refine Sub.cons rfl (by first | with_reducible rfl | (refine congrArg (Value.int _) ?_; omega) | (exact hag) | exact rfl) ?_))⟩ ?_
    clear hF hM hJp hJ2 a
    rintro mj a w' ⟨j, hmj, hJp, hsp, hF⟩
    have hM : Mm (fun _ => False) w' [] [] [] w' := Mm.start (fun _ h => h.elim)
    by_cases hj : j < 8
    · obtain ⟨x, hx⟩ : ∃ x, ([x0, x1, x2, x3, x4, x5, x6, x7] : List Int)[j]? = some x := ⟨_, List.getElem?_eq_getElem (by simpa using hj)⟩
      have hcx : cs[j]? = some (.int .u8 x) := by
        rw [hcs, show ([.int .u8 x0, .int .u8 x1, .int .u8 x2, .int .u8 x3, .int .u8 x4, .int .u8 x5, .int .u8 x6, .int .u8 x7] : List Value) = ([x0, x1, x2, x3, x4, x5, x6, x7] : List Int).map (Value.int .u8) from rfl, List.getElem?_map, hx]
        rfl
      have hfx := flat_get hw hsx hx
      have htk : l.flatten.take (i * 8 + (j + 1)) = l.flatten.take (i * 8 + j) ++ [x] := by
        rw [← Nat.add_assoc, List.take_add_one, hfx]
        rfl
      with_reducible refine w_seq ?_
      refine c_cut (fun a' w1 => w1 = w' ∧ Fr 23 [] [(15, .bool (decide ((j : Int) < 8))), (14, .int .i64 j), (13, .agg ⟨cs⟩), (9, .int .i64 i), (8, .int .i64 l.length), (7, .slice (some ad) l.length c0), (0, .func (.yield lp) #[] #[]), (1, .pointer (some ⟨b0, 0, none⟩))] a') ?_ ?_
      · (repeat (first | (with_reducible refine c_region ?_) | (with_reducible refine s_nil ?_) | ((with_reducible apply s_pure hF); exact rfl; exact rfl; exact rfl; (first | exact trivial | omega | exact ⟨Int.natCast_nonneg _, Int.ofNat_lt.2 (by assumption)⟩ | decide); clear hF a; intro a hF)))
        exact q_cut ⟨rfl, hF.sub (by repeat (first | exact Sub.nil | refine Sub.cons rfl (by first | with_reducible rfl | (refine congrArg (Value.int _) ?_; omega) | exact rfl) ?_))⟩
      clear hF a
      rintro a w0 ⟨rfl, hF⟩
      with_reducible refine w_seq ?_
      refine c_cut (fun a' w1 => w1 = w0 ∧ Fr 23 [] [(14, .int .i64 j), (13, .agg ⟨cs⟩), (9, .int .i64 i), (8, .int .i64 l.length), (7, .slice (some ad) l.length c0), (0, .func (.yield lp) #[] #[]), (1, .pointer (some ⟨b0, 0, none⟩))] a') ?_ ?_
      · (repeat' (first | (with_reducible refine w_skip ?_) | ((with_reducible apply c_dec hF); exact rfl; all_goals intro hc; all_goals (try (exfalso; omega)))))
        exact q_cut ⟨rfl, hF.sub (by repeat (first | exact Sub.nil | refine Sub.cons rfl (by first | with_reducible rfl | (refine congrArg (Value.int _) ?_; omega) | exact rfl) ?_))⟩
      clear hF a
      rintro a w1 ⟨rfl, hF⟩
      with_reducible refine w_seq ?_
      with_reducible refine w_block ?_
      with_reducible refine w_seq ?_
      refine c_cut (fun a' w2 => w2 = w1 ∧ Fr 23 [] [(6, .int .u8 x), (14, .int .i64 j), (13, .agg ⟨cs⟩), (9, .int .i64 i), (8, .int .i64 l.length), (7, .slice (some ad) l.length c0), (0, .func (.yield lp) #[] #[]), (1, .pointer (some ⟨b0, 0, none⟩))] a') ?_ ?_
      · (repeat' (first | (with_reducible refine c_region ?_) | (with_reducible refine s_nil ?_) | ((with_reducible apply s_indexS hF); exact rfl; exact rfl; exact rfl; exact rfl; exact rfl; exact rfl; (with_reducible assumption); exact rfl; omega; clear hF a; intro a hF) | ((with_reducible apply s_pure hF); exact rfl; exact rfl; exact rfl; (first | exact trivial | omega | exact ⟨Int.natCast_nonneg _, Int.ofNat_lt.2 (by assumption)⟩ | decide); clear hF a; intro a hF)))
        exact q_cut ⟨rfl, hF.sub (by repeat (first | exact Sub.nil | refine Sub.cons rfl (by first | with_reducible rfl | (refine congrArg (Value.int _) ?_; omega) | exact rfl) ?_))⟩
      clear hF a
      rintro a w2 ⟨rfl, hF⟩
      with_reducible refine w_seq ?_
      apply c_yield (n := 23) (ds := []) 2 7
      · exact rfl
      · exact rfl
      show wl _ _ [_, _] _ _
      (repeat (first | (with_reducible refine s_nil ?_) | (with_reducible refine q_then_n ?_) | ((with_reducible apply s_pure hF); exact rfl; exact rfl; exact rfl; (first | exact trivial | omega | exact ⟨Int.natCast_nonneg _, Int.ofNat_lt.2 (by assumption)⟩ | decide); clear hF a; intro a hF)))
      have hlp : (l.flatten.take (i * 8 + j)).length < l.flatten.length := by rw [List.length_take]; omega
      refine ⟨_, [.int .u8 x], lp, _, hF, rfl, rfl, hY _ x _ hJp hlp, ?_⟩
      rintro e w3 (⟨rfl, hJ3, k1⟩ | ⟨rfl, hJx3⟩)
      · refine ⟨_, rfl, fun a hF => ?_⟩
        have hs3 := since_below hsp k1
        clear hM
        have hM : Mm (fun _ => False) w3 [] [] [] w3 := Mm.start (fun _ h => h.elim)
        (repeat' (first | (with_reducible refine c_region ?_) | (with_reducible refine s_nil ?_) | (with_reducible refine q_then_n ?_) | ((with_reducible apply s_pure hF); exact rfl; exact rfl; exact rfl; (first | exact trivial | omega | exact ⟨Int.natCast_nonneg _, Int.ofNat_lt.2 (by assumption)⟩ | decide); clear hF a; intro a hF) | (with_reducible refine w_skip ?_) | (with_reducible refine q_blk_n ?_) | ((with_reducible apply c_false2 hF); exact rfl; (first | with_reducible rfl | (refine congrArg Value.bool ?_; focus (simp; done))))))
        exact ⟨mj - 1, by omega, j + 1, by omega, by rw [htk]; exact hJ3, hs3, hF.sub (by repeat (first | exact Sub.nil | refine Sub.cons rfl (by first | with_reducible rfl | (refine congrArg (Value.int _) ?_; omega) | exact rfl) ?_))⟩
      · refine ⟨_, rfl, fun a hF => ?_⟩
        clear hM
        have hM : Mm (fun _ => False) w3 [] [] [] w3 := Mm.start (fun _ h => h.elim)
        (repeat' (first | (with_reducible refine s_nil ?_) | (with_reducible refine q_then_n ?_) | ((with_reducible apply s_pure hF); exact rfl; exact rfl; exact rfl; (first | exact trivial | omega | exact ⟨Int.natCast_nonneg _, Int.ofNat_lt.2 (by assumption)⟩ | decide); clear hF a; intro a hF) | (with_reducible refine w_ret ?_) | (with_reducible refine q_then_r ?_) | (with_reducible refine q_blk_r ?_) | ((with_reducible apply c_true2 hF); exact rfl; (first | with_reducible rfl | (refine congrArg Value.bool ?_; focus (simp; done))))))
        (apply f_ret Try.results78 hF hM; (repeat (first | exact RL.nil | (apply RL.tmp; exact rfl) | (apply RL.cell; exact rfl; (repeat (first | exact List.mem_cons_self | refine List.mem_cons_of_mem _ ?_)); exact rfl))); try dsimp only [resV])
        exact ⟨⟨_, rfl⟩, .inr ⟨_, ⟨i * 8 + (j + 1), htk.symm⟩, hJx3⟩⟩
    · obtain rfl : j = 8 := by omega
      (repeat' (first | (with_reducible refine w_seq ?_) | (with_reducible refine c_region ?_) | (with_reducible refine s_nil ?_) | (with_reducible refine q_then_n ?_) | ((with_reducible apply s_pure hF); exact rfl; exact rfl; exact rfl; (first | exact trivial | omega | exact ⟨Int.natCast_nonneg _, Int.ofNat_lt.2 (by assumption)⟩ | decide); clear hF a; intro a hF) | (with_reducible refine w_exit ?_) | (with_reducible refine q_then_x ?_) | (with_reducible refine q_blk_n ?_) | (with_reducible refine q_blk_x ?_) | ((with_reducible apply c_false2 hF); exact rfl; (first | with_reducible rfl | (refine congrArg Value.bool ?_; focus (simp; done))))))
      exact ⟨m - 1, by omega, i + 1, by omega, by rw [Nat.succ_mul]; exact hJp, hsp, hF.sub (by repeat (first | exact Sub.nil | refine Sub.cons rfl (by first | with_reducible rfl | (refine congrArg (Value.int _) ?_; omega) | exact rfl) ?_))⟩
  · have hie : i * 8 = l.flatten.length := by omega
    (repeat' (first | (with_reducible refine w_seq ?_) | (with_reducible refine c_region ?_) | (with_reducible refine s_nil ?_) | (with_reducible refine q_then_n ?_) | ((with_reducible apply s_pure hF); exact rfl; exact rfl; exact rfl; (first | exact trivial | omega | exact ⟨Int.natCast_nonneg _, Int.ofNat_lt.2 (by assumption)⟩ | decide); clear hF a; intro a hF) | (with_reducible refine w_exit ?_) | (with_reducible refine q_then_x ?_) | (with_reducible refine q_blk_x ?_) | ((with_reducible apply c_dec hF); exact rfl; all_goals intro hc; all_goals (try (exfalso; omega)))))
    (apply f_end Try.results78 hF hM; (repeat (first | exact RL.nil | (apply RL.tmp; exact rfl) | (apply RL.cell; exact rfl; (repeat (first | exact List.mem_cons_self | refine List.mem_cons_of_mem _ ?_)); exact rfl))); try dsimp only [resV])
    refine ⟨⟨_, rfl⟩, .inl ⟨_, ?_, hJp⟩⟩
    rw [hie, List.take_length]
set_option maxRecDepth 20000 in
set_option maxHeartbeats 1000000 in
theorem digest_c (l : Dat) (hw : D29.W8 l) (hlen : l.length ≤ 1000000) (a0 : Option Addr) (c0 b0 : Nat) (own : Nat → Prop) (W : World) (hl : ∀ b, own b → b < W.heap.size) (hr : Reads (Value.int .u8) W a0 l.flatten) (hbx : Box W b0 ⟨[.slice a0 l.length c0]⟩ 33) :
    Calls Try.prog 77 ⟨[.func (.func 78) #[] #[.pointer (some ⟨b0, 0, none⟩)]]⟩ W (Ret W fun v _ => v = .int .u64 (dg l)) := by
  have hM := Mm.start hl
  refine f_startM Try.func77 rfl Try.ntmps77 rfl rfl ?_; intro a hF
  (repeat (first | (with_reducible refine w_seq ?_) | (with_reducible refine c_region ?_) | (with_reducible refine s_nil ?_) | (with_reducible refine q_then_n ?_) | ((with_reducible apply s_pure hF); exact rfl; exact rfl; exact rfl; (first | exact trivial | omega | exact ⟨Int.natCast_nonneg _, Int.ofNat_lt.2 (by assumption)⟩ | decide); clear hF a; intro a hF) | ((with_reducible apply s_store hF hM); exact rfl; exact rfl; exact rfl; exact rfl; (repeat (first | exact Upd.z | apply Upd.s)); exact rfl; exact rfl; exact rfl; clear hM; intro w hM) | ((with_reducible apply s_alloc hF hM); exact rfl; exact rfl; exact rfl; clear hF hM a; intro b w a hM hF) | (with_reducible refine w_block ?_)))
  generalize b = b3 at *
  obtain ⟨w2, rfl⟩ : ∃ x, x = w := ⟨_, rfl⟩
  have hsz : W.heap.size ≤ w2.heap.size := hM.since.size
  refine c_range1 hF rfl rfl rfl (va := fun x : Int => .int .u8 x) (la := fun x => [(4, .int .u8 x), (3, .pointer (some ⟨b3, 0, none⟩))]) (sec_stops l hw hlen a0 c0 b0 W w2 hr hM.since hbx) (by omega) (fun _ => Below.refl _ _) (fun h k => Below.trans h k) ?kb (Below.refl _ _)
    (fun pre W' => Mm own W [⟨b3, ⟨[.int .u64 (pre.foldl dgs 14695981039346656037)]⟩, 84⟩] [] [] W') ?hI hM ?assign ?body ?done
  case kb =>
    intro W' lb o o' h1 h2 h3 h4
    exact belowK_b hsz W' lb o o' h1 h2 h3 h4
  case hI =>
    rintro pre W1 W2 row hm hg hr
    exact hm.turn hg (fun r e => ⟨by have := (hr r e).1; omega, (hr r e).2⟩)
  case assign =>
    intro l0 k x a W' hF
    (repeat (first | ((with_reducible refine c_regionR ?_ ?_); rotate_left; exact rfl) | (with_reducible refine s_nil ?_) | ((with_reducible apply s_pure hF); exact rfl; exact rfl; exact rfl; (first | exact trivial | omega | exact ⟨Int.natCast_nonneg _, Int.ofNat_lt.2 (by assumption)⟩ | decide); clear hF a; intro a hF)))
    exact q_cut ⟨rfl, hF.sub (by repeat (first | exact Sub.nil | refine Sub.cons rfl (by first | with_reducible rfl | (refine congrArg (Value.int _) ?_; omega) | exact rfl) ?_))⟩
  case done =>
    rintro D xs a W' hD rfl hM hK hF
    replace hM := hM.addDef hK (by omega)
    (repeat (first | (with_reducible refine w_seq ?_) | (with_reducible refine c_region ?_) | (with_reducible refine s_nil ?_) | ((with_reducible apply s_xorU hF); exact rfl; exact rfl; exact rfl; exact rfl; clear hF a; intro a hF) | ((with_reducible apply s_shrU hF); exact rfl; exact rfl; exact rfl; exact rfl; clear hF a; intro a hF) | (with_reducible refine q_then_n ?_) | ((with_reducible apply s_pure hF); exact rfl; exact rfl; exact rfl; (first | exact trivial | omega | exact ⟨Int.natCast_nonneg _, Int.ofNat_lt.2 (by assumption)⟩ | decide); clear hF a; intro a hF) | ((with_reducible apply s_load hF hM); exact rfl; exact rfl; (repeat (first | exact List.mem_cons_self | refine List.mem_cons_of_mem _ ?_)); exact rfl; exact rfl; clear hF a; intro a hF) | (with_reducible refine w_ret ?_) | (with_reducible refine q_blk_n ?_)))
    apply f_retM Try.results77 hF hM List.mem_cons_self (by omega)
    · (repeat (first | exact RL.nil | (apply RL.tmp; exact rfl) | (apply RL.cell; exact rfl; (repeat (first | exact List.mem_cons_self | refine List.mem_cons_of_mem _ ?_)); exact rfl)))
    intro w' hM'
    exact Ret.mk hM'.since rfl
  case body =>
    rintro l0 k pre x a W' hM hF hlt
    obtain ⟨h, hh⟩ : ∃ h, pre.foldl dgs 14695981039346656037 = h := ⟨_, rfl⟩
    rw [hh] at hM
    have hM0 := hM
    replace hM : Mm own W _ _ [KeepsFrom w2.heap.size W'] W' := hM.addFact (hM.ko hsz)
    (repeat (first | ((with_reducible refine c_regionR ?_ ?_); rotate_left; exact rfl) | (with_reducible refine s_nil ?_) | ((with_reducible apply s_xorU hF); exact rfl; exact rfl; exact rfl; exact rfl; clear hF a; intro a hF) | ((with_reducible apply s_pure hF); exact rfl; exact rfl; exact rfl; (first | exact trivial | omega | exact ⟨Int.natCast_nonneg _, Int.ofNat_lt.2 (by assumption)⟩ | decide); clear hF a; intro a hF) | ((with_reducible apply s_load hF hM); exact rfl; exact rfl; (repeat (first | exact List.mem_cons_self | refine List.mem_cons_of_mem _ ?_)); exact rfl; exact rfl; clear hF a; intro a hF) | ((with_reducible apply s_store hF hM); exact rfl; exact rfl; exact rfl; exact rfl; (repeat (first | exact Upd.z | apply Upd.s)); exact rfl; exact rfl; exact rfl; clear hM; intro w hM) | (with_reducible refine w_block ?_) | (with_reducible refine q_blk_n ?_)))
    have hko := hM.fact (f := KeepsFrom w2.heap.size W') (by (repeat (first | exact List.mem_cons_self | refine List.mem_cons_of_mem _ ?_)))
    refine ⟨hko, below_of hM0.since hM.since hko.size, ?_⟩
    dsimp only
    rw [List.foldl_append, hh, show List.foldl dgs h [x] = dgs h x from rfl]
    unfold dgs
    exact hM.sub (.refl _) (.refl _) (by simp)
theorem sectors_c (x : Dat) (hw : D29.W8 x) (hlen : x.length ≤ 1000000) (a0 : Option Addr) (c0 n : Nat) (hn : x.length = n) (own : Nat → Prop) (W : World) (hl : ∀ b, own b → b < W.heap.size) (hv : Has own W (RdF (Value.int .u8) a0 x.flatten)) :
    Calls Try.prog 33 ⟨[.slice a0 n c0]⟩ W (Ret W fun v _ => v = .int .u64 (dg x)) := by
  subst hn
  have hM := (Mm.start hl).known hv
  refine f_start Try.func33 rfl Try.ntmps33 rfl rfl ?_; intro a hF
  (repeat (first | (with_reducible refine w_seq ?_) | (with_reducible refine c_region ?_) | (with_reducible refine s_nil ?_) | (with_reducible refine q_then_n ?_) | ((with_reducible apply s_pure hF); exact rfl; exact rfl; exact rfl; (first | exact trivial | omega | exact ⟨Int.natCast_nonneg _, Int.ofNat_lt.2 (by assumption)⟩ | decide); clear hF a; intro a hF) | ((with_reducible apply s_box hF hM); exact rfl; exact rfl; exact rfl; exact rfl; clear hF hM a; intro b w a hM hF)))
  generalize b = b1 at *
  (repeat (first | (with_reducible refine s_nil ?_) | ((with_reducible apply s_call (f := 77) hF hM); exact rfl; exact rfl; exact rfl; exact rfl; exact rfl; exact (digest_c x hw hlen a0 c0 b1 _ _ hM.lt (hM.fact (f := RdF (Value.int .u8) a0 x.flatten) (by (repeat (first | exact List.mem_cons_self | refine List.mem_cons_of_mem _ ?_)))) (hM.bx (b := b1) (by (repeat (first | exact List.mem_cons_self | refine List.mem_cons_of_mem _ ?_))))); clear hF hM a; rintro v w a rfl - hM hF) | (with_reducible refine q_then_n ?_) | ((with_reducible apply s_pure hF); exact rfl; exact rfl; exact rfl; (first | exact trivial | omega | exact ⟨Int.natCast_nonneg _, Int.ofNat_lt.2 (by assumption)⟩ | decide); clear hF a; intro a hF) | (with_reducible refine w_ret ?_)))
  (apply f_ret Try.results33 hF hM; (repeat (first | exact RL.nil | (apply RL.tmp; exact rfl) | (apply RL.cell; exact rfl; (repeat (first | exact List.mem_cons_self | refine List.mem_cons_of_mem _ ?_)); exact rfl))); refine Ret.mk hM.since ?_; dsimp only [resV])
end Go.Proofs.Ytadfdpkhehdikaa


/- Maps that a call has made. -/
namespace Go.Proofs.Ytadfdpkhehdikaa
open Go.RowKit Go.Shelf
section
variable {n : Nat} {ds : List Deferred} {l : List (Nat × Value)} {a : Act} {w w' w0 : World} {own : Nat → Prop} {bs : List BoxE} {L : List Ent} {Fs : List (World → Prop)}
variable {os rest : List Oper} {Q : Exit → Act → World → Prop} {K : Act → World → Prop}
variable {d : Nat} {op : Op} {ty : TypeId} {pos : String} {af : Array Edge} {g : Option (Nat × Bool)}
/-- A block that holds a map. -/
def MpF (b : Nat) (es : List MapEntry) (c : Nat) : World → Prop := fun w => w.heap[b]? = some (.map es.toArray c)
/-- A fact that does not look at maps. -/
def Cf (f : World → Prop) : Prop := ∀ (w : World) (b : Nat) (es : Array MapEntry) (c : Nat) (o : Obj), w.heap[b]? = some (.map es c) → f w → f (w.putObj b o)
theorem cell_put {w : World} {b : Nat} {es : Array MapEntry} {c : Nat} {o : Obj} {ad : Addr} {v : Value} (h : w.heap[b]? = some (.map es c)) (hc : w.cell? ad = some v) : (w.putObj b o).cell? ad = some v := by
  refine (World.cell?_of_block (World.putObj_heap_other ?_)).trans hc
  intro e
  unfold World.cell? at hc
  rw [e, h] at hc
  simp at hc
theorem Cf.rd {α : Type} {enc : α → Value} {ao : Option Addr} {xs : List α} : Cf (RdF enc ao xs) := by
  intro w b es c o h hr i x hx
  obtain ⟨b', off, e, hb, hc⟩ := hr i x hx
  exact ⟨b', off, e, by rw [World.putObj_size]; exact hb, cell_put h hc⟩
theorem Cf.bx {b : Nat} {cs : List Value} {T : TypeId} : Cf (BxF b cs T) := by
  intro w b' es c o h hb
  refine Box.of_block hb (World.putObj_heap_other ?_)
  intro e
  subst e
  rw [show w.heap[b]? = _ from hb] at h
  cases h
theorem Mm.notOwn (m : Mm own w0 bs L Fs w) {b : Nat} {o : Obj} (hb : w0.heap.size ≤ b) (hk : w.heap[b]? = some o) (hc : o.isCells = false) : ¬ ownOf own bs L b := by
  rintro (h | ⟨x, hx, rfl⟩ | ⟨y, hy, he⟩)
  · have := m.low b h; omega
  · rw [show w.heap[x.b]? = _ from m.mem.box x hx] at hk
    injection hk with hk; subst hk; cases hc
  · obtain ⟨_, r⟩ := m.mem.own.own y hy
    rcases r with ⟨r, _⟩ | ⟨g, cap, cur, e1, e2, e3, r⟩
    · rw [r] at he; cases he
    · rw [e1] at he
      injection he with he
      have he : g = b := he
      subst he
      rw [e3] at hk
      injection hk with hk; subst hk; cases hc
theorem put_put {w : World} {b : Nat} {o o2 : Obj} (h : w.heap[b]? = some o2) : (w.putObj b o).putObj b o2 = w := by
  unfold World.putObj
  have : (w.heap.setIfInBounds b o).setIfInBounds b o2 = w.heap := by
    apply Array.ext_getElem?
    intro i
    rw [Array.getElem?_setIfInBounds]
    by_cases e : b = i
    · subst e
      rw [if_pos rfl]
      have := (Array.getElem?_eq_some_iff.1 h).1
      simp [this, h]
      rw [Array.getElem?_eq_getElem this] at h
      injection h with h
      exact h.symm
    · rw [if_neg e, Array.getElem?_setIfInBounds, if_neg e]
  simp only [this]
/-- A map changed. -/
theorem Mm.mapTo (m : Mm own w0 bs L Fs w) {b : Nat} {es : Array MapEntry} {c : Nat} (hb : w0.heap.size ≤ b) (hk : w.heap[b]? = some (.map es c)) (hcf : ∀ f ∈ Fs, Cf f) (es' : List MapEntry) (c' : Nat) : Mm own w0 bs L (MpF b es' c' :: Fs) (w.putObj b (.map es'.toArray c')) := by
  have hno := m.notOwn hb hk rfl
  have hlt := (Array.getElem?_eq_some_iff.1 hk).1
  have m' : Mm own w0 bs L [] (w.putObj b (.map es'.toArray c')) := m.turn (grownBy_putObj' w b _) (fun r e => by cases e; exact ⟨hb, _, hk, rfl⟩)
  refine ⟨m'.mem, m'.low, fun f hf => ?_⟩
  rcases List.mem_cons.1 hf with rfl | hf
  · refine ⟨fun x => x = b, fun x hx => ⟨by subst hx; rw [World.putObj_size]; exact hlt, by subst hx; exact hno⟩, fun w2 h2 _ => (h2 b rfl).trans (World.putObj_heap_same hlt)⟩
  · obtain ⟨S, s1, s2⟩ := m.facts f hf
    refine ⟨fun x => S x ∧ x ≠ b, fun x hx => ⟨by rw [World.putObj_size]; exact (s1 x hx.1).1, (s1 x hx.1).2⟩, fun w2 h2 hz => ?_⟩
    rw [World.putObj_size] at hz
    have hb2 : w2.heap[b]? = some w2.heap[b] := Array.getElem?_eq_getElem (by omega)
    have h3 : f (w2.putObj b (.map es c)) := by
      refine s2 _ (fun x hx => ?_) (by rw [World.putObj_size]; exact hz)
      by_cases e : x = b
      · subst e; rw [World.putObj_heap_same (by omega), hk]
      · rw [World.putObj_heap_other e, h2 x ⟨hx, e⟩, World.putObj_heap_other e]
    have h4 := hcf f hf _ b es c w2.heap[b] (World.putObj_heap_same (by omega)) h3
    rw [put_put hb2] at h4
    exact h4
/-! Keys -/
def ent {α : Type} (ek : α → Value) (p : α × Value × Nat) : MapEntry := ⟨ek p.1, p.2.1, p.2.2⟩
def pfind {α : Type} [DecidableEq α] (x : α) : List (α × Value × Nat) → Nat → Option (Nat × Value)
  | [], _ => none
  | p :: r, i => if x = p.1 then some (i, p.2.1) else pfind x r (i + 1)
structure KeyOk {α : Type} [DecidableEq α] (kt : TypeId) (ek : α → Value) (A : α → Prop) : Prop where
  check : ∀ b x w, A x → (Instr.checkKey b 10000 kt (ek x)).run Try.prog w = .ok () w
  find : ∀ x ps w, A x → (∀ p ∈ ps, A p.1) → (Instr.findKey kt (ek x) (ps.map (ent ek))).run Try.prog w = .ok (pfind x ps 0) w
  same : ∀ x, A x → Instr.sameBits 10000 (ek x) (ek x) = true
theorem findNow_int {k : IntKind} (x : Int) : ∀ (ps : List (Int × Value × Nat)) (i : Nat), Instr.findNow (.int k) (.int k x) (ps.map (ent (Value.int k))) i = some (pfind x ps i)
  | [], i => by simp [Instr.findNow, pfind]
  | p :: ps, i => by
    have ih := findNow_int (k := k) x ps (i + 1)
    rw [List.map_cons, Instr.findNow, pfind]
    by_cases h : x = p.1
    · simp [ent, Instr.sameNow, h]
    · simp only [ent, Instr.sameNow, if_true, h, if_false]
      rw [show (x == p.1) = false from by simpa using h]
      exact ih
theorem keyOk_int {kt : TypeId} {k : IntKind} (h : tyD kt = some (.int k)) : KeyOk (α := Int) kt (Value.int k) (fun _ => True) := by
  refine ⟨fun b x w _ => ?_, fun x ps w _ _ => ?_, fun x _ => ?_⟩
  · rw [show (10000 : Nat) = 9999 + 1 from rfl, Instr.checkKey]
    simp only [Sem.run_bind, tyD_run h, Result.andThen]
    rfl
  · unfold Instr.findKey
    simp only [Sem.run_bind, tyD_run h, Result.andThen, findNow_int]
    rfl
  · rw [show (10000 : Nat) = 9999 + 1 from rfl, Instr.sameBits]
    simp
theorem sameBits_ints {k : IntKind} (m : Nat) (xs : List Int) : Instr.sameBits (m + 2) (.agg (xs.map (Value.int k)).toArray) (.agg (xs.map (Value.int k)).toArray) = true := by
  rw [Instr.sameBits]
  simp only [beq_self_eq_true, Bool.true_and]
  rw [List.all_eq_true]
  rintro ⟨u, v⟩ h
  have key : ∀ (l : List Value), (u, v) ∈ l.zip l → u = v := by
    intro l
    induction l with
    | nil => intro h; simp at h
    | cons x l ih =>
      intro h
      rw [List.zip_cons_cons] at h
      rcases List.mem_cons.1 h with e | h
      · injection e with e1 e2; rw [e1, e2]
      · exact ih h
  have e := key _ h
  subst e
  have hm := (List.of_mem_zip h).1
  obtain ⟨x, _, rfl⟩ := List.mem_map.1 hm
  rw [Instr.sameBits]
  simp
theorem check_arr {kt e : TypeId} {k : IntKind} {m : Nat} (h1 : tyD kt = some (.array m e)) (h2 : tyD e = some (.int k)) (h3 : tyS e = some 1) (hs : sclO e = some ()) (b : Bool) (xs : List Int) (hx : xs.length = m) (w : World) : (Instr.checkKey b 10000 kt (.agg (xs.map (Value.int k)).toArray)).run Try.prog w = .ok () w := by
  rw [show (10000 : Nat) = 9998 + 1 + 1 from rfl, Instr.checkKey]
  simp only [Sem.run_bind, tyD_run h1, Result.andThen]
  rw [Std.Legacy.Range.forIn_eq_forIn_range']
  have hr : (List.range' [:m].start [:m].size [:m].step) = List.range' 0 m := by simp [Std.Legacy.Range.size]
  rw [hr]
  have key : ∀ q i, i + q = m → (forIn (List.range' i q) PUnit.unit fun (i : Nat) (_ : PUnit) => (do
      let s ← sizeOf e
      let v ← part e (xs.map (Value.int k)).toArray (i * s)
      Instr.checkKey b (9998 + 1) e v
      pure (ForInStep.yield PUnit.unit) : Sem _)).run Try.prog w = .ok PUnit.unit w := by
    intro q
    induction q with
    | zero => intro i _; simp
    | succ q ih =>
      intro i hi
      have p1 := part_scl (k := k) hs (List.getElem?_eq_getElem (l := xs) (i := i) (by omega)) w
      have p2 : (Instr.checkKey b (9998 + 1) e (.int k xs[i])).run Try.prog w = .ok () w := by
        rw [Instr.checkKey]
        simp only [Sem.run_bind, tyD_run h2, Result.andThen]
        rfl
      rw [List.range'_succ, List.forIn_cons]
      simp only [Sem.run_bind, tyS_run h3, Result.andThen, Nat.mul_one, p1, p2, Sem.run_pure]
      exact ih (i + 1) (by omega)
  rw [key m 0 (by omega)]
  rfl
theorem findAsk_arr {kt e : TypeId} {k : IntKind} {m : Nat} (h1 : tyD kt = some (.array m e)) (h2 : tyD e = some (.int k)) (h3 : tyS e = some 1) (hs : sclO e = some ()) (xs : List Int) (hx : xs.length = m) (w : World) : ∀ (ps : List (List Int × Value × Nat)) (i : Nat), (∀ p ∈ ps, p.1.length = m) →
    (Instr.findAsking kt (.agg (xs.map (Value.int k)).toArray) (ps.map (ent fun ys : List Int => .agg (ys.map (Value.int k)).toArray)) i).run Try.prog w = .ok (pfind xs ps i) w
  | [], i, _ => by simp [Instr.findAsking, pfind]
  | p :: ps, i, h => by
    have ih := findAsk_arr h1 h2 h3 hs xs hx w ps (i + 1) fun q hq => h q (by simp [hq])
    have he := equal_arr (k := k) h1 h2 h3 hs hx (h p (by simp)) w
    rw [List.map_cons, Instr.findAsking, pfind]
    simp only [ent, Sem.run_bind, he, Result.andThen]
    by_cases hxp : xs = p.1
    · simp [hxp]
    · simp only [hxp, decide_false, Bool.false_eq_true, if_false]
      exact ih
theorem keyOk_arr {kt e : TypeId} {k : IntKind} {m : Nat} (h1 : tyD kt = some (.array m e)) (h2 : tyD e = some (.int k)) (h3 : tyS e = some 1) (hs : sclO e = some ()) : KeyOk (α := List Int) kt (fun ys : List Int => .agg (ys.map (Value.int k)).toArray) (fun ys => ys.length = m) := by
  refine ⟨fun b x w hx => check_arr h1 h2 h3 hs b x hx w, fun x ps w hx hps => ?_, fun x _ => sameBits_ints 9998 x⟩
  have hf := findAsk_arr h1 h2 h3 hs x hx w ps 0 hps
  unfold Instr.findKey
  simp only [Sem.run_bind, tyD_run h1, Result.andThen]
  cases ps with
  | nil => simp [Instr.findNow, pfind]
  | cons p ps => exact hf
/-! Rules -/
def plk {α : Type} [DecidableEq α] (x : α) (ps : List (α × Value × Nat)) (z : Value) : Value × Bool := match pfind x ps 0 with
  | some (_, v) => (v, true)
  | none => (z, false)
def mapTy (t : TypeId) : Option (TypeId × Value) := match tyD t with
  | some (.map k e) => match te e with
    | some i => some (k, i.zero)
    | none => none
  | _ => none
theorem mapTy_ok {t k : TypeId} {z : Value} (h : mapTy t = some (k, z)) : ∃ e, tyD t = some (.map k e) ∧ ∀ w, (zeroValue e).run Try.prog w = .ok z w := by
  unfold mapTy at h
  split at h
  · rename_i k' e h1
    split at h
    · rename_i i hi
      injection h with h; injection h with h2 h3
      subst h2 h3
      exact ⟨e, h1, (te_ok hi).zero⟩
    · cases h
  · cases h
section
variable {α : Type} [DecidableEq α] {kt xT : TypeId} {ek : α → Value} {A : α → Prop} {z : Value} {b : Nat} {ps : List (α × Value × Nat)} {c : Nat} {x : α} {X I Y : Operand}
theorem run_lookup (hK : KeyOk kt ek A) (ht : mapTy xT = some (kt, z)) (hb : MpF b (ps.map (ent ek)) c w) (hx : A x) (hps : ∀ p ∈ ps, A p.1) (ok : Bool) :
    (Instr.lookup xT (.map (some b)) (ek x) ok).run Try.prog w = .ok (if ok then .tuple #[(plk x ps z).1, .bool (plk x ps z).2] else (plk x ps z).1) w := by
  obtain ⟨e, h1, h2⟩ := mapTy_ok ht
  have h3 := hK.check (ps.map (ent ek)).toArray.isEmpty x w hx
  have h4 := hK.find x ps w hx hps
  unfold Instr.lookup
  simp only [Sem.run_bind, tyD_run h1, Result.andThen, MapKept.run_getObj_map hb, Sem.run_pure, h3, h4]
  unfold plk
  cases hp : pfind x ps 0 with
  | none => simp only [Sem.run_bind, h2 w, Result.andThen, Sem.run_pure]
  | some q => simp only [Sem.run_bind, Result.andThen, Sem.run_pure]
theorem s_lookupOk (hK : KeyOk kt ek A) (hF : Fr n ds l a) (hM : Mm own w0 bs L Fs w) (hg : wantO os l g = some true) (hX : ev l X = some (.map (some b))) (hI : ev l I = some (ek x)) (ht : mapTy xT = some (kt, z)) (hb : MpF b (ps.map (ent ek)) c ∈ Fs) (hx : A x) (hps : ∀ p ∈ ps, A p.1) (hd : Nat.blt d n = true)
    (k : ∀ a, Fr n ds ((d, .tuple #[(plk x ps z).1, .bool (plk x ps z).2]) :: l) a → wl ⟨os⟩ Q rest a w) : wl ⟨os⟩ Q (⟨some d, .lookup xT X I true, ty, pos, af, g⟩ :: rest) a w :=
  s_op hF hg fun _ hK' => upon_value (v := .tuple #[(plk x ps z).1, .bool (plk x ps z).2]) (by
    have := run_lookup hK ht (hM.fact hb) hx hps true
    simp [execOp, hF.eval hX, hF.eval hI, Sem.run_bind, this, Result.andThen]) (hK' _ _ (k _ (hF.put hd _)))
/-- What a store into a map makes of its entries. -/
def pput (x : α) (v : Value) (ps : List (α × Value × Nat)) (c : Nat) : List (α × Value × Nat) × Nat := match pfind x ps 0 with
  | some (i, _) => (ps.modify i fun p => (p.1, v, p.2.2), c)
  | none => (ps ++ [(x, v, c)], c + 1)
theorem pfind_key : ∀ {ps : List (α × Value × Nat)} {i j : Nat} {v : Value}, pfind x ps i = some (j, v) → ∃ p, ps[j - i]? = some p ∧ p.1 = x ∧ i ≤ j
  | [], _, _, _, h => by cases h
  | p :: ps, i, j, v, h => by
    rw [pfind] at h
    split at h
    · rename_i e
      injection h with h; injection h with h1 h2
      subst h1
      exact ⟨p, by simp, e.symm, Nat.le_refl _⟩
    · obtain ⟨q, h1, h2, h3⟩ := pfind_key h
      refine ⟨q, ?_, h2, by omega⟩
      rw [show j - i = (j - (i + 1)) + 1 by omega]
      simpa using h1
theorem ent_put (v : Value) (ps : List (α × Value × Nat)) (i : Nat) {p : α × Value × Nat} (hp : ps[i]? = some p) (hx : p.1 = x) : ((ps.map (ent ek)).toArray.modify i fun e => { e with key := ek x, val := v }) = ((ps.modify i fun p => (p.1, v, p.2.2)).map (ent ek)).toArray := by
  apply Array.ext'
  simp only [Array.toList_modify]
  apply List.ext_getElem?
  intro j
  simp only [List.getElem?_map, List.getElem?_modify]
  by_cases e : i = j
  · subst e
    simp [hp, ent, hx]
  · simp [e]
theorem run_mapUpdate (hK : KeyOk kt ek A) (ht : mapTy xT = some (kt, z)) (hb : MpF b (ps.map (ent ek)) c w) (hx : A x) (hps : ∀ p ∈ ps, A p.1) (v : Value) :
    (Instr.mapUpdate xT (.map (some b)) (ek x) v).run Try.prog w = .ok () (w.putObj b (.map (((pput x v ps c).1.map (ent ek)).toArray) (pput x v ps c).2)) := by
  obtain ⟨e, h1, h2⟩ := mapTy_ok ht
  have h3 := hK.check false x w hx
  have h4 := hK.find x ps w hx hps
  have h5 := hK.same x hx
  unfold Instr.mapUpdate
  simp only [Sem.run_bind, tyD_run h1, Result.andThen, MapKept.run_getObj_map hb, h3, h4]
  unfold pput
  cases hp : pfind x ps 0 with
  | none =>
    simp only [MapKept.run_setObj_map _ hb]
    simp [World.putObj, ent]
  | some q =>
    obtain ⟨i, u⟩ := q
    obtain ⟨p, hp1, hp2, _⟩ := pfind_key hp
    rw [Nat.sub_zero] at hp1
    have hkey : (((ps.map (ent ek)).toArray[i]?).map (·.key)).getD (ek x) = ek x := by simp [hp1, ent, hp2]
    have he := ent_put (ek := ek) (x := x) v ps i hp1 hp2
    simp only [hkey, Instr.keyThatStays, h5, if_true, Sem.run_bind, Sem.run_pure, Result.andThen, MapKept.run_setObj_map _ hb, he]
    rfl
end
/-- A map made. -/
theorem s_makeMap {t : TypeId} (hF : Fr n ds l a) (hM : Mm own w0 bs L Fs w) (hg : wantO os l g = some true) (hd : Nat.blt d n = true)
    (k : ∀ b w' a, w0.heap.size ≤ b → Mm own w0 bs L (MpF b [] 0 :: Fs) w' → Fr n ds ((d, .map (some b)) :: l) a → wl ⟨os⟩ Q rest a w') : wl ⟨os⟩ Q (⟨some d, .makeMap t none, ty, pos, af, g⟩ :: rest) a w := by
  have hs : Since w (w.alloc (.map #[] 0)) := (Since.refl w).alloc _
  have hM' := hM.keep hs
  have hk : (w.alloc (.map #[] 0)).heap[w.heap.size]? = some (.map #[] 0) := heap_alloc_new w _
  have hz := hM.since.size
  refine s_op hF hg fun _ hK => upon_value (v := .map (some w.heap.size)) (w' := w.alloc (.map #[] 0)) ?_ (hK _ _ (k w.heap.size _ _ hz (hM'.addFact ?_) (hF.put hd _)))
  · simp [execOp, Instr.makeMap, Sem.run_bind, newObj, Sem.run, Result.andThen]
  · have hno := hM'.notOwn hz hk rfl
    refine ⟨fun x => x = w.heap.size, fun x hx => ⟨by subst hx; simp, by subst hx; exact hno⟩, fun w2 h2 _ => (h2 _ rfl).trans hk⟩
/-! Arrays out of slices -/
theorem s_s2a {T : TypeId} {X : Operand} {m z len c : Nat} {ao : Option Addr} (hF : Fr n ds l a) (hg : wantO os l g = some true) (hX : ev l X = some (.slice ao len c)) (ht : arrO T = some (m, z)) (hd : Nat.blt d n = true) (hm : m ≤ len)
    (kk : ∀ a, Fr n ds ((d, .pointer ao) :: l) a → wl ⟨os⟩ Q rest a w) : wl ⟨os⟩ Q (⟨some d, .sliceToArrayPointer T X, ty, pos, af, g⟩ :: rest) a w := by
  obtain ⟨e, h1, h2⟩ := arrO_ok ht
  refine s_op hF hg fun _ hK => upon_value (v := .pointer ao) ?_ (hK _ _ (kk _ (hF.put hd _)))
  simp [execOp, hF.eval hX, Instr.arrayAt, Sem.run_bind, tyD_run h1, Result.andThen, show ¬ len < m by omega]
/-- An array of numbers loaded from where a list lies. -/
theorem s_loadA {T : TypeId} {X : Operand} {ad : Addr} {m : Nat} {k : IntKind} {xs s : List Int} (hF : Fr n ds l a) (hM : Mm own w0 bs L Fs w) (hg : wantO os l g = some true) (hX : ev l X = some (.pointer (some ad))) (hr : RdF (Value.int k) (some ad) xs ∈ Fs) (hT : aggS T = some m) (hd : Nat.blt d n = true) (hs : xs.take m = s) (hm : m ≤ xs.length)
    (kk : ∀ a, Fr n ds ((d, .agg (s.map (Value.int k)).toArray) :: l) a → wl ⟨os⟩ Q rest a w) : wl ⟨os⟩ Q (⟨some d, .load T X, ty, pos, af, g⟩ :: rest) a w := by
  subst hs
  have hrd := hM.fact hr
  unfold aggS at hT
  split at hT
  · rename_i i hi
    split at hT
    · rename_i ha
      injection hT with hT
      have hagg := (te_ok hi).agg w
      have hsz := (te_ok hi).size w
      rw [ha] at hagg
      rw [hT] at hsz
      have := run_loadCells_list (P := Try.prog) w ad ((xs.take m).map (Value.int k)) (fun q u hu => by
        rw [List.getElem?_map, List.getElem?_take] at hu
        split at hu
        · cases hq : xs[q]? with
          | none => rw [hq] at hu; simp at hu
          | some x =>
            rw [hq] at hu
            simp only [Option.map_some, Option.some.injEq] at hu
            subst hu
            obtain ⟨b, off, e, hb, hc⟩ := hrd q x hq
            injection e with e
            subst e
            rw [add_lit]
            exact hc
        · simp at hu)
      rw [List.length_map, List.length_take, Nat.min_eq_left hm] at this
      refine s_op hF hg fun _ hK => upon_value (v := .agg ((xs.take m).map (Value.int k)).toArray) ?_ (hK _ _ (kk _ (hF.put hd _)))
      simp [execOp, hF.eval hX, Instr.loadAt, Instr.sureAddr, Sem.run_bind, loadVar, hagg, hsz, this, Result.andThen]
    · cases hT
  · cases hT
end
end Go.Proofs.Ytadfdpkhehdikaa


/- Maps: entries found or laid, then stored. -/
namespace Go.Proofs.Ytadfdpkhehdikaa
open Go.RowKit Go.Shelf
section
variable {n : Nat} {ds : List Deferred} {l : List (Nat × Value)} {a : Act} {w w' w0 : World} {own : Nat → Prop} {bs : List BoxE} {L : List Ent} {Fs : List (World → Prop)}
variable {os rest : List Oper} {Q : Exit → Act → World → Prop} {K : Act → World → Prop}
variable {d : Nat} {op : Op} {ty : TypeId} {pos : String} {af : Array Edge} {g : Option (Nat × Bool)}
theorem ownOf_perm {own : Nat → Prop} {bs : List BoxE} {L L' : List Ent} (h : L'.Perm L) {b : Nat} (hb : ownOf own bs L' b) : ownOf own bs L b := by
  rcases hb with h1 | h1 | ⟨y, hy, e⟩
  · exact .inl h1
  · exact .inr (.inl h1)
  · exact .inr (.inr ⟨y, h.mem_iff.1 hy, e⟩)
/-- The order of rows does not matter. -/
theorem Mm.permL (m : Mm own w0 bs L Fs w) {L' : List Ent} (h : L'.Perm L) : Mm own w0 bs L' Fs w := by
  refine ⟨⟨m.mem.since, m.mem.box, m.mem.new, m.mem.two, ⟨fun x hx => m.mem.own.own x (h.mem_iff.1 hx), ?_⟩, fun x hx y hy => m.mem.far x hx y (h.mem_iff.1 hy)⟩, m.low, fun f hf => (m.facts f hf).own_eq fun b hb => ownOf_perm h hb⟩
  refine (h.pairwise_iff ?_).2 m.mem.own.apart
  intro x y hxy
  by_cases e : y.v.ownBlock = none
  · exact .inl e
  · rcases hxy with q | q
    · exact .inr fun e2 => e (e2.trans q)
    · exact .inr fun e2 => q e2.symm
theorem c_drawF {id : Nat} {bs0 : List BoxE} {Fs0 : List (World → Prop)} (tail : Nat → Bool) (hs : ∀ x ∈ bs0, x ∈ bs) (hf : ∀ f ∈ Fs0, f ∈ Fs) (hM : Mm own w0 bs L Fs w) (h : ∀ w, Mm own w0 bs L Fs w → wpAnyT Try.prog .any ⟨os⟩ Q (Sm bs0 Fs0) tail os.length (Array.replicate os.length false) a w) : Wk none (Code.region id ⟨os⟩ true) Q a w :=
  wp_region_T (Sm bs0 Fs0) tail mixed (hM.drew.sm.sub hs hf) (fun hS => h _ hM.drew)
variable {α : Type} [DecidableEq α]
/-- Entries with their stamps. -/
def stamp (es : List (α × Value)) : List (α × Value × Nat) := es.mapIdx fun i e => (e.1, e.2, i)
/-- A block that holds a map with these keys and values. -/
def MpE (ek : α → Value) (b : Nat) (es : List (α × Value)) : World → Prop := MpF b ((stamp es).map (ent ek)) es.length
def kfind (x : α) : List (α × Value) → Nat → Option Nat
  | [], _ => none
  | e :: r, i => if x = e.1 then some i else kfind x r (i + 1)
/-- Where the entry of a key is, when it is laid if it lacks. -/
def kadd (x : α) (z : Value) (es : List (α × Value)) : List (α × Value) × Nat × Value := match kfind x es 0 with
  | some i => (es, i, ((es[i]?).map (·.2)).getD z)
  | none => (es ++ [(x, z)], es.length, z)
theorem kfind_lt {x : α} : ∀ {es : List (α × Value)} {i j : Nat}, kfind x es i = some j → i ≤ j ∧ ∃ v, es[j - i]? = some (x, v)
  | [], _, _, h => by cases h
  | e :: r, i, j, h => by
    rw [kfind] at h
    split at h
    · rename_i hx
      injection h with h
      subst h
      exact ⟨Nat.le_refl _, e.2, by rw [Nat.sub_self, List.getElem?_cons_zero, hx]⟩
    · obtain ⟨h1, v, h2⟩ := kfind_lt h
      refine ⟨by omega, v, ?_⟩
      rw [show j - i = (j - (i + 1)) + 1 by omega, List.getElem?_cons_succ]
      exact h2
theorem stamp_get (es : List (α × Value)) (i : Nat) : (stamp es)[i]? = (es[i]?).map fun e => (e.1, e.2, i) := by simp [stamp, List.getElem?_mapIdx]
theorem pfind_idx {x : α} : ∀ (ps : List (α × Value × Nat)) (es : List (α × Value)) (i : Nat), ps.map (fun p => (p.1, p.2.1)) = es → pfind x ps i = (kfind x es i).map fun j => (j, ((es[j - i]?).map (·.2)).getD undef)
  | [], _, i, h => by subst h; simp [pfind, kfind]
  | p :: ps, es, i, h => by
    subst h
    rw [pfind, List.map_cons, kfind]
    by_cases e : x = p.1
    · simp [e]
    · rw [if_neg e, if_neg e, pfind_idx ps _ (i + 1) rfl]
      cases hk : kfind x (ps.map fun p => (p.1, p.2.1)) (i + 1) with
      | none => rfl
      | some j =>
        have := (kfind_lt hk).1
        simp only [Option.map_some, Option.some.injEq, Prod.mk.injEq, true_and]
        rw [show j - i = (j - (i + 1)) + 1 by omega, List.getElem?_cons_succ]
theorem stamp_keys (es : List (α × Value)) : (stamp es).map (fun p => (p.1, p.2.1)) = es := by
  apply List.ext_getElem?
  intro i
  rw [List.getElem?_map, stamp_get]
  cases es[i]? <;> simp
theorem pfind_stamp (x : α) (es : List (α × Value)) : pfind x (stamp es) 0 = (kfind x es 0).map fun j => (j, ((es[j]?).map (·.2)).getD undef) := pfind_idx _ _ 0 (stamp_keys es)
section
variable {kt xT : TypeId} {ek : α → Value} {A : α → Prop} {z : Value} {b : Nat} {es : List (α × Value)} {x : α} {X I Y : Operand}
theorem stamp_ok (hes : ∀ e ∈ es, A e.1) : ∀ p ∈ stamp es, A p.1 := by
  intro p hp
  obtain ⟨i, hi⟩ := List.mem_iff_getElem?.1 hp
  rw [stamp_get] at hi
  cases he : es[i]? with
  | none => rw [he] at hi; cases hi
  | some e =>
    rw [he] at hi
    injection hi with hi
    subst hi
    exact hes e (List.mem_of_getElem? he)
theorem run_mapEntry (hK : KeyOk kt ek A) (ht : mapTy xT = some (kt, z)) (hb : MpE ek b es w) (hx : A x) (hes : ∀ e ∈ es, A e.1) :
    (Instr.mapEntry xT (.map (some b)) (ek x)).run Try.prog w = .ok (.tuple #[(kadd x z es).2.2, goInt (kadd x z es).2.1]) (w.putObj b (.map (((stamp (kadd x z es).1).map (ent ek)).toArray) (kadd x z es).1.length)) := by
  obtain ⟨e, h1, h2⟩ := mapTy_ok ht
  have h3 := hK.check false x w hx
  have h4 := hK.find x (stamp es) w hx (stamp_ok hes)
  have h5 := hK.same x hx
  rw [pfind_stamp] at h4
  unfold Instr.mapEntry
  have hb' : w.heap[b]? = some (.map ((stamp es).map (ent ek)).toArray es.length) := hb
  simp only [Sem.run_bind, tyD_run h1, Result.andThen, MapKept.run_getObj_map hb', h3, h4]
  unfold kadd
  cases hp : kfind x es 0 with
  | none =>
    simp only [Option.map_none, Sem.run_bind, h2 w, Result.andThen, MapKept.run_setObj_map _ hb', Sem.run_pure]
    have : ((stamp es).map (ent ek)).toArray.push { key := ek x, val := z, born := es.length } = ((stamp (es ++ [(x, z)])).map (ent ek)).toArray := by
      apply Array.ext'
      simp [stamp, ent]
    rw [this]
    simp [World.putObj]
  | some i =>
    obtain ⟨_, v, hv⟩ := kfind_lt hp
    rw [Nat.sub_zero] at hv
    have hkey : ((((stamp es).map (ent ek)).toArray[i]?).map (·.key)).getD (ek x) = ek x := by simp [stamp_get, hv, ent]
    have hborn : ((((stamp es).map (ent ek)).toArray[i]?).map (·.born)).getD 0 = i := by simp [stamp_get, hv, ent]
    have hmod : (((stamp es).map (ent ek)).toArray.modify i fun e => { e with key := ek x }) = ((stamp es).map (ent ek)).toArray := by
      apply Array.ext'
      simp only [Array.toList_modify]
      apply List.ext_getElem?
      intro j
      simp only [List.getElem?_map, List.getElem?_modify, stamp_get]
      by_cases e : i = j
      · subst e
        simp [hv, ent]
      · simp [e]
    simp only [Option.map_some, hkey, Instr.keyThatStays, h5, if_true, Sem.run_bind, Sem.run_pure, Result.andThen, MapKept.run_setObj_map _ hb', hmod, hv, Option.getD_some, hborn]
    have hb2 : ((Option.map ((fun x => (x.born : Int)) ∘ ent ek) (stamp es)[i]?).getD 0) = (i : Int) := by simp [stamp_get, hv, ent]
    simp [World.putObj, hv, hb2]
theorem run_entryStore (hb : MpE ek b es w) {i : Nat} {u v : Value} (hi : es[i]? = some (x, u)) :
    (Instr.entryStore xT (.map (some b)) (goInt i) v).run Try.prog w = .ok () (w.putObj b (.map (((stamp (es.set i (x, v))).map (ent ek)).toArray) (es.set i (x, v)).length)) := by
  have hb' : w.heap[b]? = some (.map ((stamp es).map (ent ek)).toArray es.length) := hb
  have hil := (List.getElem?_eq_some_iff.1 hi).1
  have hfind : ((stamp es).map (ent ek)).toArray.findIdx? (fun e => (e.born : Int) == (i : Int)) = some i := by
    rw [List.findIdx?_toArray, List.findIdx?_eq_some_iff_getElem]
    refine ⟨by simp [stamp]; omega, ?_, ?_⟩
    · simp [stamp, ent]
    · intro j hj
      simp [stamp, ent]
      omega
  have hmod : (((stamp es).map (ent ek)).toArray.modify i fun e => { e with val := v }) = ((stamp (es.set i (x, v))).map (ent ek)).toArray := by
    apply Array.ext'
    simp only [Array.toList_modify]
    apply List.ext_getElem?
    intro j
    simp only [List.getElem?_map, List.getElem?_modify, stamp_get, List.getElem?_set]
    by_cases e : i = j
    · subst e
      simp only [hi, if_true, hil, Option.map_some]
      simp [ent]
    · simp [e]
  unfold Instr.entryStore
  simp only [Sem.run_bind, Sem.run_pure, MapKept.run_getObj_map hb', Result.andThen, asInt, asIntOf, goInt, hfind, MapKept.run_setObj_map _ hb', hmod, List.length_set]
  simp [World.putObj, Sem.run_bind, Result.andThen, hfind, MapKept.run_setObj_map _ hb', hmod]
theorem e_mapEntry (hK : KeyOk kt ek A) (hF : Fr n ds l a) (hM : Mm own w0 bs L (MpE ek b es :: Fs) w) (hX : ev l X = some (.map (some b))) (hI : ev l I = some (ek x)) (ht : mapTy xT = some (kt, z)) (hx : A x) (hes : ∀ e ∈ es, A e.1) (hb0 : w0.heap.size ≤ b) (hcf : ∀ f ∈ Fs, Cf f) (hd : Nat.blt d n = true)
    (k : ∀ w' a, Mm own w0 bs L (MpE ek b (kadd x z es).1 :: Fs) w' → Fr n ds ((d, .tuple #[(kadd x z es).2.2, goInt (kadd x z es).2.1]) :: l) a → K a w') : (⟨some d, .mapEntry xT X I, ty, pos, af, g⟩ : Oper).wp Try.prog a w K Q := by
  have hb := hM.fact (f := MpE ek b es) List.mem_cons_self
  refine upon_value (v := .tuple #[(kadd x z es).2.2, goInt (kadd x z es).2.1]) ?_ (k _ _ ((hM.sub (.refl _) (.refl _) (fun f hf => List.mem_cons_of_mem _ hf)).mapTo hb0 hb hcf _ _) (hF.put hd _))
  have := run_mapEntry hK ht hb hx hes
  simp [execOp, hF.eval hX, hF.eval hI, Sem.run_bind, this, Result.andThen]
theorem e_entryStore {i : Nat} {u v : Value} (hF : Fr n ds l a) (hM : Mm own w0 bs L (MpE ek b es :: Fs) w) (hX : ev l X = some (.map (some b))) (hI : ev l I = some (goInt i)) (hY : ev l Y = some v) (hi : es[i]? = some (x, u)) (hb0 : w0.heap.size ≤ b) (hcf : ∀ f ∈ Fs, Cf f)
    (k : ∀ w', Mm own w0 bs L (MpE ek b (es.set i (x, v)) :: Fs) w' → K (a.put none undef) w') : (⟨none, .entryStore xT X I Y, ty, pos, af, g⟩ : Oper).wp Try.prog a w K Q := by
  have hb := hM.fact (f := MpE ek b es) List.mem_cons_self
  refine upon_skip' (w' := w.putObj b (.map (((stamp (es.set i (x, v))).map (ent ek)).toArray) (es.set i (x, v)).length)) ?_ (k _ ((hM.sub (.refl _) (.refl _) (fun f hf => List.mem_cons_of_mem _ hf)).mapTo hb0 hb hcf _ _))
  have := run_entryStore (xT := xT) hb (v := v) hi
  simp [execOp, hF.eval hX, hF.eval hI, hF.eval hY, Sem.run_bind, this, Result.andThen]
theorem plk_stamp (x : α) (z : Value) (es : List (α × Value)) : (plk x (stamp es) z).1 = (kadd x z es).2.2 ∧ (plk x (stamp es) z).2 = (kfind x es 0).isSome := by
  unfold plk kadd
  rw [pfind_stamp]
  cases h : kfind x es 0 with
  | none => simp
  | some i =>
    obtain ⟨_, v, h2⟩ := kfind_lt h
    rw [Nat.sub_zero] at h2
    simp [h2]
theorem e_lookupE (hK : KeyOk kt ek A) (hF : Fr n ds l a) (hM : Mm own w0 bs L Fs w) (hX : ev l X = some (.map (some b))) (hI : ev l I = some (ek x)) (ht : mapTy xT = some (kt, z)) (hb : MpE ek b es ∈ Fs) (hx : A x) (hes : ∀ e ∈ es, A e.1) :
    (execOp a.eval ⟨some d, .lookup xT X I false, ty, pos, af, g⟩).run Try.prog w = .ok (.value (kadd x z es).2.2) w := by
  have := run_lookup hK ht (hM.fact hb) hx (stamp_ok hes) false
  rw [← (plk_stamp x z es).1]
  simp [execOp, hF.eval hX, hF.eval hI, Sem.run_bind, this, Result.andThen]
end
/-- An empty map is made. -/
theorem s_makeMapE {α : Type} {ek : α → Value} {t : TypeId} (hF : Fr n ds l a) (hM : Mm own w0 bs L Fs w) (hg : wantO os l g = some true) (hd : Nat.blt d n = true)
    (k : ∀ b w' a, w0.heap.size ≤ b → Mm own w0 bs L (MpE ek b [] :: Fs) w' → Fr n ds ((d, .map (some b)) :: l) a → wl ⟨os⟩ Q rest a w') : wl ⟨os⟩ Q (⟨some d, .makeMap t none, ty, pos, af, g⟩ :: rest) a w :=
  s_makeMap hF hM hg hd fun b w' a h1 h2 h3 => k b w' a h1 h2 h3
end
end Go.Proofs.Ytadfdpkhehdikaa


/- throttle: the small functions. -/
namespace Go.Proofs.Ytadfdpkhehdikaa
open Go.RowKit Go.Shelf
/-- Marks, as the program's memory holds them. -/
abbrev Mk := List (Int × Int)
def mks (ms : Mk) : List (List Int) := ms.map fun m => [m.1, m.2]
def tot (ms : Mk) : Int := match ms.getLast? with | some m => m.2 | none => 0
def opn (cf : Int) : Mk → Nat
  | [] => 0
  | m :: r => if cf < m.2 then 0 else opn cf r + 1
end Go.Proofs.Ytadfdpkhehdikaa


/- throttle: what it computes, and its law. -/
namespace Go.Proofs.Ytadfdpkhehdikaa
/-- A throttle. -/
structure Th where
  O : Int
  R : Int
  T : Int
  B : Int
  ms : Mk
def Th.conf (s : Th) : Int := tot s.ms - s.B
def chain (T : Int) : Int × Int → Mk → Prop
  | _, [] => True
  | p, m :: r => p.1 < m.1 ∧ m.1 ≤ T ∧ p.2 < m.2 ∧ m.2 ≤ 1073741824 ∧ chain T m r
structure Th.Ok (s : Th) : Prop where
  hO : 1 ≤ s.O ∧ s.O ≤ 1073741824
  hR : 1 ≤ s.R ∧ s.R ≤ 4096
  hT : 0 ≤ s.T ∧ s.T ≤ 1073741824
  hB : 0 ≤ s.B ∧ s.B ≤ tot s.ms
  hn : s.ms.length ≤ 4096
  hc : chain s.T (-1, 0) s.ms
  ho : 1 < s.ms.length → opn s.conf s.ms = 0
theorem chain_mono {T T' : Int} (h : T ≤ T') : ∀ {ms : Mk} {p : Int × Int}, chain T p ms → chain T' p ms
  | [], _, _ => trivial
  | m :: r, p, hc => ⟨hc.1, Int.le_trans hc.2.1 h, hc.2.2.1, hc.2.2.2.1, chain_mono h hc.2.2.2.2⟩
/-! The operations -/
def Th.prog (s : Th) (now c : Int) : Th := { s with T := now, B := tot s.ms - c, ms := s.ms.drop (min (opn c s.ms) (s.ms.length - 1)) }
def Th.same (s : Th) : Bool := match s.ms[s.ms.length - 1]? with | some m => decide (m.1 = s.T) | none => false
theorem Th.Ok.at {s : Th} (h : s.Ok) {now : Int} (h1 : s.T ≤ now) (h2 : now ≤ 1073741824) : Th.Ok { s with T := now } :=
  ⟨h.hO, h.hR, ⟨Int.le_trans h.hT.1 h1, h2⟩, h.hB, h.hn, chain_mono h1 h.hc, h.ho⟩
/-! The run -/
structure Ru where
  s : Th
  q : List Int
  old : Int
  free : Bool
  c : Int
/-- What holds of a throttle behind tick now. -/
structure Kept (O R now : Int) (s : Th) : Prop where
  eO : s.O = O
  eR : s.R = R
  ok : s.Ok
  T : s.T = max 0 now
  B : s.B ≤ R * O
  young : ∀ m ∈ s.ms, s.conf < m.2 → m.2 - s.conf ≤ R * (O - (now - m.1))
/-- Room that is left for more writes. -/
structure Room (N : Nat) (s : Th) (q : List Int) : Prop where
  small : ∀ n ∈ q, 1 ≤ n ∧ n ≤ 60
  tot : tot s.ms + 60 * q.length ≤ 60 * N
  len : s.ms.length + q.length ≤ N
/-- What holds of a run behind k ticks. -/
structure RInv (O R : Int) (ws : List Int) (k : Nat) (u : Ru) : Prop where
  kept : Kept O R (k - 1) u.s
  room : Room (min k ws.length) u.s u.q
  c : u.c = u.s.conf
  old : 0 ≤ u.old ∧ u.old ≤ O
end Go.Proofs.Ytadfdpkhehdikaa


/- throttle: checks, and what moves the time. -/
namespace Go.Proofs.Ytadfdpkhehdikaa
open Go.RowKit Go.Shelf
section
variable {n : Nat} {ds : List Deferred} {l : List (Nat × Value)} {a : Act} {w w' w0 : World} {own : Nat → Prop} {bs : List BoxE} {L : List Ent} {Fs : List (World → Prop)}
/-- The end of a row, as a fact for the caller. -/
theorem OffR.fact {α : Type} {enc : α → Value} {e : TypeId} {size : Nat} {ao : Option Addr} {m c : Nat} {xs : List α} {E : Ent} (hM : Mm own w0 bs L Fs w) {k : Nat} (hL : L[k]? = some E) (h : OffR e size (.slice ao m c) m (xs.map enc) E) : Has own w (RdF enc ao xs) := by
  have hcell := fun ad => OffR.cells (ad := ad) hM hL h
  obtain ⟨h1, h2, h3, h4⟩ := h
  rcases h4 with ⟨h, h0, _⟩ | ⟨ad', h, h0⟩ | ⟨g, off, cap, pre, h5, h6, h7, h8, h9⟩
  · rw [h0, Nat.zero_mul, List.length_map] at h3
    rw [List.eq_nil_of_length_eq_zero h3]
    exact RdF.nil
  · rw [h0, Nat.zero_mul, List.length_map] at h3
    rw [List.eq_nil_of_length_eq_zero h3]
    exact RdF.nil
  · injection h5 with h5
    subst h5
    have hown := hM.mem.own.lt (List.mem_of_getElem? hL) g (by rw [h7]; rfl)
    refine RdF.has ?_ ?_
    · intro i x hx
      refine ⟨g, off * size, rfl, hown.2, ?_⟩
      have := hcell _ rfl i (enc x) (by rw [List.getElem?_map, hx]; rfl)
      rw [add_lit] at this
      exact this
    · intro ad e hn
      injection e with e
      subst e
      have h1 : g < w0.heap.size := hM.low _ hn
      have h2 : w0.heap.size ≤ g := hown.1
      omega
end
end Go.Proofs.Ytadfdpkhehdikaa


/- Layer 29: items in memory, and the table of the chunks by their digests. -/
namespace Go.Proofs.Ytadfdpkhehdikaa
open Go.RowKit Go.Shelf
namespace D29
/-- An item, where its data lie, and how many places these have. -/
abbrev P := Itm × Option Addr × Nat
abbrev itC (p : P) : List Value := [.int .u64 p.1.d, .slice p.2.1 p.1.x.length p.2.2]
def cellsP (l : List P) : List Value := (l.map itC).flatten
theorem itC_len (l : List P) : ∀ y ∈ l.map itC, y.length = 2 := by
  intro y hy
  obtain ⟨p, -, rfl⟩ := List.mem_map.1 hy
  rfl
theorem cellsP_app (l m : List P) : cellsP (l ++ m) = cellsP l ++ cellsP m := by simp [cellsP]
theorem cellsP_drop (l : List P) (k : Nat) : (cellsP l).drop (k * 2) = cellsP (l.drop k) := by
  induction k generalizing l with
  | zero => simp
  | succ k ih =>
    cases l with
    | nil => simp [cellsP]
    | cons p l =>
      rw [List.drop_succ_cons, ← ih l, Nat.succ_mul, show cellsP (p :: l) = itC p ++ cellsP l from rfl, List.drop_append, show (itC p).length = 2 from rfl, show k * 2 + 2 - 2 = k * 2 by omega, List.drop_eq_nil_of_le (by simp [itC])]
      rfl
/-- The data of all items can be read. -/
def DatF (l : List P) : World → Prop := fun w => ∀ p ∈ l, RdF (Value.int .u8) p.2.1 p.1.x.flatten w
/-- Data have sectors of 8 bytes, and lie in their places. -/
def DatW (l : List P) : Prop := ∀ p ∈ l, W8 p.1.x ∧ p.1.x.length ≤ p.2.2 ∧ ∀ s ∈ p.1.x, ∀ b ∈ s, 0 ≤ b ∧ b < 256
/-- An entry of the table: digest, slice, the row in which it lies, the items. -/
structure TE where
  k : Int
  sv : Value
  en : Ent
  ps : List P
def esE (E : List TE) : List (Int × Value) := E.map fun e => (e.k, e.sv)
def rowsT (E : List TE) : List Ent := E.map fun e => e.en
def lookE (k : Int) : List TE → List P
  | [] => []
  | e :: r => if k = e.k then e.ps else lookE k r
def TEOk (E : List TE) : Prop := ∀ e ∈ E, OffR 102 2 e.sv e.ps.length (cellsP e.ps) e.en
theorem look_get {k : Int} : ∀ {E : List TE} {i j : Nat}, kfind k (esE E) i = some j → i ≤ j ∧ ∃ e, E[j - i]? = some e ∧ e.k = k ∧ e.ps = lookE k E
  | [], _, _, h => by cases h
  | e :: r, i, j, h => by
    rw [esE, List.map_cons, kfind] at h
    rw [lookE]
    by_cases hx : k = e.k
    · rw [if_pos hx] at h ⊢
      injection h with h
      subst h
      exact ⟨Nat.le_refl _, e, by rw [Nat.sub_self, List.getElem?_cons_zero], hx.symm, rfl⟩
    · rw [if_neg hx] at h ⊢
      obtain ⟨h1, e2, h2, h3, h4⟩ := look_get (E := r) h
      refine ⟨by omega, e2, ?_, h3, h4⟩
      rw [show j - i = (j - (i + 1)) + 1 by omega, List.getElem?_cons_succ]
      exact h2
theorem look_none {k : Int} : ∀ {E : List TE} {i : Nat}, kfind k (esE E) i = none → lookE k E = []
  | [], _, _ => rfl
  | e :: r, i, h => by
    rw [esE, List.map_cons, kfind] at h
    rw [lookE]
    by_cases hx : k = e.k
    · rw [if_pos hx] at h; cases h
    · rw [if_neg hx] at h ⊢
      exact look_none (E := r) h
theorem look_set {k : Int} (k' : Int) (sv : Value) (en : Ent) (ps : List P) : ∀ {E : List TE} {i j : Nat}, kfind k (esE E) i = some j → lookE k' (E.set (j - i) ⟨k, sv, en, ps⟩) = if k' = k then ps else lookE k' E
  | [], _, _, h => by cases h
  | e :: r, i, j, h => by
    rw [esE, List.map_cons, kfind] at h
    by_cases hx : k = e.k
    · rw [if_pos hx] at h
      injection h with h
      subst h
      rw [Nat.sub_self, List.set_cons_zero, lookE, lookE]
      subst hx
      split <;> rfl
    · rw [if_neg hx] at h
      have h1 := (look_get (E := r) h).1
      rw [show j - i = (j - (i + 1)) + 1 by omega, List.set_cons_succ, lookE, lookE, look_set k' sv en ps (E := r) h]
      by_cases h3 : k' = e.k
      · rw [if_pos h3, if_pos h3, if_neg (by rw [h3]; exact fun q => hx q.symm)]
      · rw [if_neg h3, if_neg h3]
theorem look_app {k : Int} (k' : Int) (sv : Value) (en : Ent) (ps : List P) : ∀ {E : List TE} {i : Nat}, kfind k (esE E) i = none → lookE k' (E ++ [⟨k, sv, en, ps⟩]) = if k' = k then ps else lookE k' E
  | [], _, _ => by simp [lookE]
  | e :: r, i, h => by
    rw [esE, List.map_cons, kfind] at h
    by_cases hx : k = e.k
    · rw [if_pos hx] at h; cases h
    · rw [if_neg hx] at h
      rw [List.cons_append, lookE, lookE, look_app k' sv en ps (E := r) h]
      by_cases h3 : k' = e.k
      · rw [if_pos h3, if_pos h3, if_neg (by rw [h3]; exact fun q => hx q.symm)]
      · rw [if_neg h3, if_neg h3]
theorem esE_get (E : List TE) (i : Nat) : (esE E)[i]? = (E[i]?).map fun e => (e.k, e.sv) := by simp [esE]
theorem rowsT_get (E : List TE) (i : Nat) : (rowsT E)[i]? = (E[i]?).map fun e => e.en := by simp [rowsT]
theorem esE_set (E : List TE) (i : Nat) (e : TE) : esE (E.set i e) = (esE E).set i (e.k, e.sv) := by simp [esE, List.map_set]
theorem rowsT_set (E : List TE) (i : Nat) (e : TE) : rowsT (E.set i e) = (rowsT E).set i e.en := by simp [rowsT, List.map_set]
/-- The entry of a digest, laid if it lacks. -/
theorem te_add {own : Nat → Prop} {w w0 : World} {bs : List BoxE} {L1 : List Ent} {Fs : List (World → Prop)} {E : List TE} (hM : Mm own w0 bs (L1 ++ rowsT E) Fs w) (hE : TEOk E) (k : Int) :
    ∃ (E1 : List TE) (j : Nat) (e : TE), Mm own w0 bs (L1 ++ rowsT E1) Fs w ∧ TEOk E1 ∧ kadd k (.slice none 0 0) (esE E) = (esE E1, j, e.sv) ∧ E1[j]? = some e ∧ e.k = k ∧ e.ps = lookE k E ∧
      ∀ sv' en' ps' k', lookE k' (E1.set j ⟨k, sv', en', ps'⟩) = if k' = k then ps' else lookE k' E := by
  unfold kadd
  cases h : kfind k (esE E) 0 with
  | some j =>
    obtain ⟨_, e, h2, h3, h4⟩ := look_get h
    rw [Nat.sub_zero] at h2
    refine ⟨E, j, e, hM, hE, ?_, h2, h3, h4, fun sv' en' ps' k' => ?_⟩
    · simp [esE_get, h2]
    · have := look_set k' sv' en' ps' h
      rwa [Nat.sub_zero] at this
  | none =>
    have h0 := look_none h
    refine ⟨E ++ [⟨k, .slice none 0 0, ⟨102, 2, .slice none 0 0, 0, []⟩, []⟩], E.length, ⟨k, .slice none 0 0, ⟨102, 2, .slice none 0 0, 0, []⟩, []⟩, (hM.nilRow 102 2).permL ?_, ?_, ?_, ?_, rfl, h0.symm, fun sv' en' ps' k' => ?_⟩
    · simp only [rowsT, List.map_append, List.map_cons, List.map_nil]
      rw [← List.append_assoc]
      exact List.perm_append_singleton _ _
    · intro e he
      rcases List.mem_append.1 he with he | he
      · exact hE e he
      · rw [List.mem_singleton] at he
        subst he
        exact OffR.nil
    · simp [esE]
    · simp
    · rw [List.set_append_right _ _ (Nat.le_refl _), Nat.sub_self, List.set_cons_zero, look_app k' sv' en' ps' h]
end D29
end Go.Proofs.Ytadfdpkhehdikaa


/- Plain laws of layer 29: mirrors, what is saved. -/
namespace Go.Proofs.Ytadfdpkhehdikaa
namespace D29
theorem findI_some {l : List Itm} {d : Int} {x : Dat} (h : findI l d = some x) : ∃ i ∈ l, i.d = d ∧ i.x = x := by
  unfold findI at h
  cases hf : l.find? fun i => decide (i.d = d) with
  | none => rw [hf] at h; cases h
  | some i =>
    rw [hf] at h
    injection h with h
    exact ⟨i, List.mem_of_find?_eq_some hf, by simpa using List.find?_some hf, h⟩
theorem findI_none {l : List Itm} {d : Int} (h : findI l d = none) : ∀ i ∈ l, i.d ≠ d := by
  unfold findI at h
  intro i hi e
  cases hf : l.find? fun i => decide (i.d = d) with
  | none =>
    have := List.find?_eq_none.1 hf i hi
    simp [e] at this
  | some j => rw [hf] at h; cases h
theorem encI_len (cap : Int) : ∀ (xs : List Dat) (l : List Itm), (encI cap xs l).2.length = xs.length
  | [], _ => rfl
  | x :: r, l => by rw [encI, List.length_cons, List.length_cons, encI_len cap r]
theorem tok_cor {l : List Itm} {x : Dat} (h : isCh x = true) : corT (tokI l x) = true := by
  unfold tokI
  split
  · simp [corT]
  · simp [corT, h]
theorem tok_get {l : List Itm} {x : Dat} : (if (tokI l x).r = true then findI l (tokI l x).d else some (tokI l x).x) = some x := by
  unfold tokI
  split
  · rename_i h; simpa using h
  · simp
/-- The receiver decodes what the sender encodes, and has the same store. -/
theorem mirror (cap : Int) : ∀ {xs : List Dat} {l : List Itm} {o : Dat}, (∀ x ∈ xs, isCh x = true) → decI cap (encI cap xs l).2 l o = .ok ((encI cap xs l).1, o ++ xs.flatten)
  | [], l, o, _ => by simp [encI, decI]
  | x :: r, l, o, h => by
    have hx := h x List.mem_cons_self
    rw [encI]
    show decI cap (tokI l x :: (encI cap r (addI cap l x)).2) l o = _
    rw [decI, tok_cor hx, tok_get]
    simp only [Bool.not_true, Bool.false_eq_true, if_false]
    rw [mirror cap fun y hy => h y (List.mem_cons_of_mem _ hy)]
    simp
theorem enc_sok {cap : Int} : ∀ {xs : List Dat} {l : List Itm}, (∀ x ∈ xs, isCh x = true) → SOk ⟨cap, l⟩ → SOk ⟨cap, (encI cap xs l).1⟩
  | [], _, _, h => h
  | x :: r, l, hx, h => by
    rw [encI]
    exact enc_sok (fun y hy => hx y (List.mem_cons_of_mem _ hy)) (h.add (hx x List.mem_cons_self))
end D29
end Go.Proofs.Ytadfdpkhehdikaa


/- Layer 29: the chunks of a list. -/
namespace Go.Proofs.Ytadfdpkhehdikaa
namespace D29
def part (n : Nat) (l : Dat) (k : Nat) : Dat := (l.drop (k * n)).take n
def parts (n : Nat) (l : Dat) : List Dat := (List.range ((l.length + n - 1) / n)).map (part n l)
theorem parts_lt {n : Nat} {l : Dat} (hn : 1 ≤ n) {k : Nat} : k < (l.length + n - 1) / n ↔ k * n < l.length := by
  rw [show (k < (l.length + n - 1) / n) ↔ k + 1 ≤ (l.length + n - 1) / n from Iff.rfl, Nat.le_div_iff_mul_le (by omega), Nat.succ_mul]
  omega
theorem parts_take (n : Nat) (l : Dat) : ∀ k, ((List.range k).map (part n l)).flatten = l.take (k * n)
  | 0 => by simp
  | k + 1 => by
    rw [List.range_succ, List.map_append, List.flatten_append, parts_take n l k, Nat.succ_mul, List.take_add]
    simp [part]
theorem parts_flat {n : Nat} {l : Dat} (hn : 1 ≤ n) : (parts n l).flatten = l := by
  unfold parts
  rw [parts_take, List.take_of_length_le]
  have h := parts_lt (l := l) hn (k := (l.length + n - 1) / n)
  omega
theorem part_len {n : Nat} {l : Dat} {k : Nat} : (part n l k).length = min n (l.length - k * n) := by simp [part]
theorem parts_ch {n : Nat} {l : Dat} (hn : 1 ≤ n) (h2 : n ≤ 4096) : ∀ x ∈ parts n l, isCh x = true := by
  intro x hx
  obtain ⟨k, hk, rfl⟩ := List.mem_map.1 hx
  have hk := (parts_lt hn).1 (List.mem_range.1 hk)
  unfold isCh
  rw [decide_eq_true_eq, part_len]
  omega
theorem parts_num (n : Nat) (l : Dat) : (parts n l).length = (l.length + n - 1) / n := by simp [parts]
theorem part_sub {n : Nat} {l : Dat} {k : Nat} : ∀ s ∈ part n l k, s ∈ l := fun s hs => List.mem_of_mem_drop (List.mem_of_mem_take hs)
end D29
end Go.Proofs.Ytadfdpkhehdikaa


/- Layer 29: the table holds the items by their digests. -/
namespace Go.Proofs.Ytadfdpkhehdikaa
open Go.RowKit Go.Shelf
namespace D29
def Tab (E : List TE) (l : List P) : Prop := ∀ k, lookE k E = l.filter fun p => decide (p.1.d = k)
def ims (l : List P) : List Itm := l.map (·.1)
theorem tab_put {E1 : List TE} {j : Nat} {k : Int} {E : List TE} {l : List P} (h : Tab E l) (hs : ∀ sv' en' ps' k', lookE k' (E1.set j ⟨k, sv', en', ps'⟩) = if k' = k then ps' else lookE k' E) (p : P) (hp : p.1.d = k) (sv : Value) (en : Ent) : Tab (E1.set j ⟨k, sv, en, lookE k E ++ [p]⟩) (l ++ [p]) := by
  intro k'
  rw [hs, List.filter_append, h k]
  by_cases e : k' = k
  · rw [if_pos e, e]
    simp [hp]
  · rw [if_neg e, h k']
    have e2 : ¬ k = k' := fun q => e q.symm
    simp [hp, e2]
theorem tab_drop {E1 : List TE} {j : Nat} {E : List TE} {o : P} {l : List P} (h : Tab E (o :: l)) (hs : ∀ sv' en' ps' k', lookE k' (E1.set j ⟨o.1.d, sv', en', ps'⟩) = if k' = o.1.d then ps' else lookE k' E) (sv : Value) (en : Ent) : Tab (E1.set j ⟨o.1.d, sv, en, (lookE o.1.d E).drop 1⟩) l := by
  intro k'
  rw [hs, h o.1.d]
  by_cases e : k' = o.1.d
  · rw [if_pos e, e]
    simp
  · rw [if_neg e, h k', List.filter_cons_of_neg (by simpa using fun q : o.1.d = k' => e q.symm)]
theorem tab_first {E : List TE} {o : P} {l : List P} (h : Tab E (o :: l)) : ∃ r, lookE o.1.d E = o :: r := ⟨_, by rw [h o.1.d]; simp; rfl⟩
theorem tab_find {E : List TE} {l : List P} (h : Tab E l) (d : Int) : findI (ims l) d = ((lookE d E).head?).map (·.1.x) := by
  rw [h d]
  clear h
  unfold findI ims
  induction l with
  | nil => rfl
  | cons p l ih =>
    by_cases e : p.1.d = d
    · simp [e]
    · simp [e] at ih ⊢
      exact ih
theorem tab_has {E : List TE} {l : List P} (h : Tab E l) (hd : ∀ p ∈ l, p.1.d = dg p.1.x) (x : Dat) : hasD (ims l) x = (lookE (dg x) E).any fun p => decide (p.1.x = x) := by
  rw [h (dg x), Bool.eq_iff_iff, hasD_iff, List.any_eq_true]
  constructor
  · rintro ⟨i, hi, e⟩
    obtain ⟨p, hp, rfl⟩ := List.mem_map.1 hi
    exact ⟨p, List.mem_filter.2 ⟨hp, by simp [hd p hp, e]⟩, by simpa using e⟩
  · rintro ⟨p, hp, e⟩
    exact ⟨p.1, List.mem_map.2 ⟨p, (List.mem_filter.1 hp).1, rfl⟩, by simpa using e⟩
theorem tab_nil : Tab [] [] := fun _ => rfl
end D29
end Go.Proofs.Ytadfdpkhehdikaa


/- Facts that stay when blocks that hold no cells turn: ranges over functions, and maps, in one memory. -/
namespace Go.Proofs.Ytadfdpkhehdikaa
open Go.RowKit Go.Shelf
section
variable {n : Nat} {ds : List Deferred} {l : List (Nat × Value)} {a : Act} {w w' w0 : World} {own : Nat → Prop} {bs : List BoxE} {L : List Ent} {Fs : List (World → Prop)}
variable {os rest : List Oper} {Q : Exit → Act → World → Prop} {K : Act → World → Prop}
variable {d : Nat} {op : Op} {ty : TypeId} {pos : String} {af : Array Edge} {g : Option (Nat × Bool)}
/-- A fact that does not look at a block, while it holds no cells. -/
def Nb (b : Nat) (f : World → Prop) : Prop := ∀ (w : World) (o o' : Obj), w.heap[b]? = some o → o.isCells = false → f w → f (w.putObj b o')
theorem cell_putN {w : World} {b : Nat} {o o' : Obj} {ad : Addr} {v : Value} (h : w.heap[b]? = some o) (hn : o.isCells = false) (hc : w.cell? ad = some v) : (w.putObj b o').cell? ad = some v := by
  refine (World.cell?_of_block (World.putObj_heap_other ?_)).trans hc
  intro e
  unfold World.cell? at hc
  rw [e, h] at hc
  cases o <;> first | (cases hn; done) | (simp at hc; done)
theorem Nb.rd {b : Nat} {α : Type} {enc : α → Value} {ao : Option Addr} {xs : List α} : Nb b (RdF enc ao xs) := by
  intro w o o' h hn hr i x hx
  obtain ⟨b', off, e, hb, hc⟩ := hr i x hx
  exact ⟨b', off, e, by rw [World.putObj_size]; exact hb, cell_putN h hn hc⟩
theorem Nb.bx {b b' : Nat} {cs : List Value} {T : TypeId} : Nb b (BxF b' cs T) := by
  intro w o o' h hn hb
  refine Box.of_block hb (World.putObj_heap_other ?_)
  intro e
  subst e
  rw [show w.heap[b']? = _ from hb] at h
  injection h with h
  subst h
  cases hn
theorem Nb.mp {b mb : Nat} {es : List MapEntry} {c : Nat} (h : mb ≠ b) : Nb b (MpF mb es c) := by
  intro w o o' _ _ hb
  exact (World.putObj_heap_other h).trans hb
theorem Nb.keeps {b B : Nat} {W : World} (h : b < B) : Nb b (KeepsFrom B W) := by
  rintro w o o' _ _ hk
  refine ⟨by rw [World.putObj_size]; exact hk.1, fun k ob h1 h2 h3 => ?_⟩
  rw [World.putObj_heap_other (by omega)]
  exact hk.2 k ob h1 h2 h3
theorem Nb.kt {b B : Nat} {T : TypeId} {W : World} : Nb b (KT B T W) := by
  intro w o o' h hn hk k cs hb hw
  have h1 := hk k cs hb hw
  refine (World.putObj_heap_other ?_).trans h1
  intro e
  subst e
  rw [h] at h1
  injection h1 with h1
  subst h1
  cases hn
theorem Nb.and {b : Nat} {f g : World → Prop} (h : Nb b f) (k : Nb b g) : Nb b fun w => f w ∧ g w := fun w o o' h1 h2 h3 => ⟨h w o o' h1 h2 h3.1, k w o o' h1 h2 h3.2⟩
theorem Nb.all {b : Nat} {α : Type} {f : α → World → Prop} (h : ∀ x, Nb b (f x)) : Nb b fun w => ∀ x, f x w := fun w o o' h1 h2 h3 x => h x w o o' h1 h2 (h3 x)
/-- A block that holds no cells turns: boxes, rows, and facts that do not look at it. -/
theorem Mm.turnN {W W' : World} {row : Option Nat} (m : Mm own w0 bs L Fs W) (hg : W.grownBy W' row) (hr : ∀ r, row = some r → w0.heap.size ≤ r ∧ ∃ o : Obj, W.heap[r]? = some o ∧ o.isCells = false) (hf : ∀ r, row = some r → ∀ f ∈ Fs, Nb r f) : Mm own w0 bs L Fs W' := by
  have m' := m.turn hg hr
  refine ⟨m'.mem, m'.low, fun f hff => ?_⟩
  obtain ⟨S, s1, s2⟩ := m.facts f hff
  cases row with
  | none =>
    refine ⟨S, fun x hx => ⟨Nat.lt_of_lt_of_le (s1 x hx).1 hg.size, (s1 x hx).2⟩, fun w2 h2 hz => s2 w2 (fun x hx => ?_) (Nat.le_trans hg.size hz)⟩
    rw [h2 x hx, hg.block x (s1 x hx).1 (by simp)]
  | some r =>
    obtain ⟨_, o, ho, hn⟩ := hr r rfl
    have hlt := (Array.getElem?_eq_some_iff.1 ho).1
    have hsz := hg.size
    refine ⟨fun x => S x ∧ x ≠ r, fun x hx => ⟨Nat.lt_of_lt_of_le (s1 x hx.1).1 hg.size, (s1 x hx.1).2⟩, fun w2 h2 hz => ?_⟩
    have hb2 : w2.heap[r]? = some w2.heap[r] := Array.getElem?_eq_getElem (by omega)
    have h3 : f (w2.putObj r o) := by
      refine s2 _ (fun x hx => ?_) (by rw [World.putObj_size]; omega)
      by_cases e : x = r
      · subst e; rw [World.putObj_heap_same (by omega), ho]
      · rw [World.putObj_heap_other e, h2 x ⟨hx, e⟩, hg.block x (s1 x hx).1 (by simpa using e)]
    have h4 := hf r rfl f hff _ o w2.heap[r] (World.putObj_heap_same (by omega)) hn h3
    rw [put_put hb2] at h4
    exact h4
/-- A map changed; the facts do not look at it. -/
theorem Mm.mapToN (m : Mm own w0 bs L Fs w) {b : Nat} {es : Array MapEntry} {c : Nat} (hb : w0.heap.size ≤ b) (hk : w.heap[b]? = some (.map es c)) (hcf : ∀ f ∈ Fs, Nb b f) (es' : List MapEntry) (c' : Nat) : Mm own w0 bs L (MpF b es' c' :: Fs) (w.putObj b (.map es'.toArray c')) := by
  have hlt := (Array.getElem?_eq_some_iff.1 hk).1
  have m' : Mm own w0 bs L Fs (w.putObj b (.map es'.toArray c')) := m.turnN (grownBy_putObj' w b _) (fun r e => by cases e; exact ⟨hb, _, hk, rfl⟩) (fun r e => by cases e; exact hcf)
  have hk' : (w.putObj b (.map es'.toArray c')).heap[b]? = some (.map es'.toArray c') := World.putObj_heap_same hlt
  exact m'.addFact ⟨fun x => x = b, fun x hx => ⟨by subst hx; rw [World.putObj_size]; exact hlt, by subst hx; exact m'.notOwn hb hk' rfl⟩, fun w2 h2 _ => (h2 b rfl).trans hk'⟩
section
variable {α : Type} [DecidableEq α] {kt xT : TypeId} {ek : α → Value} {A : α → Prop} {z : Value} {b : Nat} {es : List (α × Value)} {x : α} {X I Y : Operand}
theorem e_mapEntryN (hK : KeyOk kt ek A) (hF : Fr n ds l a) (hM : Mm own w0 bs L (MpE ek b es :: Fs) w) (hX : ev l X = some (.map (some b))) (hI : ev l I = some (ek x)) (ht : mapTy xT = some (kt, z)) (hx : A x) (hes : ∀ e ∈ es, A e.1) (hb0 : w0.heap.size ≤ b) (hcf : ∀ f ∈ Fs, Nb b f) (hd : Nat.blt d n = true)
    (k : ∀ w' a, Mm own w0 bs L (MpE ek b (kadd x z es).1 :: Fs) w' → Fr n ds ((d, .tuple #[(kadd x z es).2.2, goInt (kadd x z es).2.1]) :: l) a → K a w') : (⟨some d, .mapEntry xT X I, ty, pos, af, g⟩ : Oper).wp Try.prog a w K Q := by
  have hb := hM.fact (f := MpE ek b es) List.mem_cons_self
  refine upon_value (v := .tuple #[(kadd x z es).2.2, goInt (kadd x z es).2.1]) ?_ (k _ _ ((hM.sub (.refl _) (.refl _) (fun f hf => List.mem_cons_of_mem _ hf)).mapToN hb0 hb hcf _ _) (hF.put hd _))
  have := run_mapEntry hK ht hb hx hes
  simp [execOp, hF.eval hX, hF.eval hI, Sem.run_bind, this, Result.andThen]
theorem e_entryStoreN {i : Nat} {u v : Value} (hF : Fr n ds l a) (hM : Mm own w0 bs L (MpE ek b es :: Fs) w) (hX : ev l X = some (.map (some b))) (hI : ev l I = some (goInt i)) (hY : ev l Y = some v) (hi : es[i]? = some (x, u)) (hb0 : w0.heap.size ≤ b) (hcf : ∀ f ∈ Fs, Nb b f)
    (k : ∀ w', Mm own w0 bs L (MpE ek b (es.set i (x, v)) :: Fs) w' → K (a.put none undef) w') : (⟨none, .entryStore xT X I Y, ty, pos, af, g⟩ : Oper).wp Try.prog a w K Q := by
  have hb := hM.fact (f := MpE ek b es) List.mem_cons_self
  refine upon_skip' (w' := w.putObj b (.map (((stamp (es.set i (x, v))).map (ent ek)).toArray) (es.set i (x, v)).length)) ?_ (k _ ((hM.sub (.refl _) (.refl _) (fun f hf => List.mem_cons_of_mem _ hf)).mapToN hb0 hb hcf _ _))
  have := run_entryStore (xT := xT) hb (v := v) hi
  simp [execOp, hF.eval hX, hF.eval hI, hF.eval hY, Sem.run_bind, this, Result.andThen]
/-- The entries when a value is stored at a key. -/
def kput (x : α) (v : Value) (es : List (α × Value)) : List (α × Value) := (kadd x undef es).1.set (kadd x undef es).2.1 (x, v)
theorem kput_add (x : α) (v z : Value) (es : List (α × Value)) : kput x v es = (kadd x z es).1.set (kadd x z es).2.1 (x, v) := by
  unfold kput kadd
  cases kfind x es 0 with
  | some i => rfl
  | none => simp
theorem pput_stamp (x : α) (v : Value) (es : List (α × Value)) : pput x v (stamp es) es.length = (stamp (kput x v es), (kput x v es).length) := by
  unfold pput kput kadd
  rw [pfind_stamp]
  cases h : kfind x es 0 with
  | none =>
    simp only [Option.map_none, Prod.mk.injEq]
    rw [List.set_append_right _ _ (Nat.le_refl _), Nat.sub_self, List.set_cons_zero]
    constructor
    · simp [stamp]
    · simp
  | some i =>
    obtain ⟨_, u, hv⟩ := kfind_lt h
    rw [Nat.sub_zero] at hv
    have hil := (List.getElem?_eq_some_iff.1 hv).1
    simp only [Option.map_some, Prod.mk.injEq, List.length_set, and_true]
    apply List.ext_getElem?
    intro j
    simp only [List.getElem?_modify, stamp_get, List.getElem?_set]
    by_cases e : i = j
    · subst e
      have e2 := (List.getElem?_eq_some_iff.1 hv).2
      simp [hil, e2]
    · simp [e]
theorem e_mapUpdateN (hK : KeyOk kt ek A) {v : Value} (hF : Fr n ds l a) (hM : Mm own w0 bs L (MpE ek b es :: Fs) w) (hX : ev l X = some (.map (some b))) (hI : ev l I = some (ek x)) (hY : ev l Y = some v) (ht : mapTy xT = some (kt, z)) (hx : A x) (hes : ∀ e ∈ es, A e.1) (hb0 : w0.heap.size ≤ b) (hcf : ∀ f ∈ Fs, Nb b f)
    (k : ∀ w', Mm own w0 bs L (MpE ek b (kput x v es) :: Fs) w' → K (a.put none undef) w') : (⟨none, .mapUpdate xT X I Y, ty, pos, af, g⟩ : Oper).wp Try.prog a w K Q := by
  have hb := hM.fact (f := MpE ek b es) List.mem_cons_self
  have h1 := run_mapUpdate hK ht hb hx (stamp_ok hes) v
  rw [pput_stamp] at h1
  refine upon_skip' (w' := w.putObj b (.map (((stamp (kput x v es)).map (ent ek)).toArray) (kput x v es).length)) ?_ (k _ ((hM.sub (.refl _) (.refl _) (fun f hf => List.mem_cons_of_mem _ hf)).mapToN hb0 hb hcf _ _))
  simp [execOp, hF.eval hX, hF.eval hI, hF.eval hY, Sem.run_bind, h1, Result.andThen]
end
end
section
variable {n : Nat} {ds : List Deferred} {l : List (Nat × Value)} {a : Act} {w : World} {os : List Oper} {Q : Exit → Act → World → Prop} {tail : Nat → Bool} {fuel i j k : Nat} {listed : Array Bool} {bs0 : List BoxE} {Fs0 : List (World → Prop)}
theorem t_three {o u v : Oper} (hF : Fr n ds l a) (hi : getO os i = some o) (hj : getO os j = some u) (hk : getO os k = some v) (hr : Region.ready .any ⟨os⟩ listed = [i, j, k]) (hg : wantO os l o.guard = some true) (hg' : wantO os l u.guard = some true) (hg2 : wantO os l v.guard = some true)
    (h : ∀ K : Act → World → Prop, (∀ a' w', (tail i = false → Sm bs0 Fs0 w') → wpAnyT Try.prog .any ⟨os⟩ Q (Sm bs0 Fs0) tail fuel (listed.setIfInBounds i true) a' w' → K a' w') → o.wp Try.prog a w K Q)
    (h' : ∀ K : Act → World → Prop, (∀ a' w', (tail j = false → Sm bs0 Fs0 w') → wpAnyT Try.prog .any ⟨os⟩ Q (Sm bs0 Fs0) tail fuel (listed.setIfInBounds j true) a' w' → K a' w') → u.wp Try.prog a w K Q)
    (h2 : ∀ K : Act → World → Prop, (∀ a' w', (tail k = false → Sm bs0 Fs0 w') → wpAnyT Try.prog .any ⟨os⟩ Q (Sm bs0 Fs0) tail fuel (listed.setIfInBounds k true) a' w' → K a' w') → v.wp Try.prog a w K Q) : wpAnyT Try.prog .any ⟨os⟩ Q (Sm bs0 Fs0) tail (fuel + 1) listed a w := by
  have ei : (⟨os⟩ : Array Oper)[i]? = some o := by rw [← hi, getO_eq]; simp
  have ej : (⟨os⟩ : Array Oper)[j]? = some u := by rw [← hj, getO_eq]; simp
  have ek : (⟨os⟩ : Array Oper)[k]? = some v := by rw [← hk, getO_eq]; simp
  have wi := wantO_ok hF hg
  have wj := wantO_ok hF hg'
  have wk := wantO_ok hF hg2
  refine wpAnyT_all hr (by simp) fun q hq => ?_
  rw [List.mem_cons, List.mem_cons, List.mem_singleton] at hq
  rcases hq with rfl | rfl | rfl
  · unfold wpOp
    simp only [ei, wi, if_true]
    exact .inl (h _ fun a' w' h1 h2 => ⟨h1, h2⟩)
  · unfold wpOp
    simp only [ej, wj, if_true]
    exact .inl (h' _ fun a' w' h1 h2 => ⟨h1, h2⟩)
  · unfold wpOp
    simp only [ek, wk, if_true]
    exact .inl (h2 _ fun a' w' h1 h2 => ⟨h1, h2⟩)
end
end Go.Proofs.Ytadfdpkhehdikaa


/- dedup: chunks, tokens, what the table finds. -/
namespace Go.Proofs.Ytadfdpkhehdikaa
open Go.RowKit Go.Shelf D29
section
variable {n : Nat} {ds : List Deferred} {l : List (Nat × Value)} {a : Act} {w w0 : World} {own : Nat → Prop} {bs : List BoxE} {L : List Ent} {Fs : List (World → Prop)}
variable {os rest : List Oper} {Q : Exit → Act → World → Prop}
variable {d : Nat} {ty : TypeId} {pos : String} {af : Array Edge} {g : Option (Nat × Bool)}
theorem s_lookE {α : Type} [DecidableEq α] {kt xT : TypeId} {ek : α → Value} {A : α → Prop} {z : Value} {b : Nat} {es : List (α × Value)} {x : α} {X I : Operand} (hK : KeyOk kt ek A) (hF : Fr n ds l a) (hM : Mm own w0 bs L Fs w) (hg : wantO os l g = some true) (hX : ev l X = some (.map (some b))) (hI : ev l I = some (ek x)) (ht : mapTy xT = some (kt, z)) (hb : MpE ek b es ∈ Fs) (hd : Nat.blt d n = true) (hx : A x) (hes : ∀ e ∈ es, A e.1)
    (kk : ∀ a, Fr n ds ((d, (kadd x z es).2.2) :: l) a → wl ⟨os⟩ Q rest a w) : wl ⟨os⟩ Q (⟨some d, .lookup xT X I false, ty, pos, af, g⟩ :: rest) a w :=
  s_op hF hg fun _ hK' => upon_value (e_lookupE hK hF hM hX hI ht hb hx hes) (hK' _ _ (kk _ (hF.put hd _)))
end
namespace D29
/-- The table's slices can be read. -/
def TabR (own : Nat → Prop) (w : World) (E : List TE) : Prop := ∀ e ∈ E, ∃ a c, e.sv = .slice a e.ps.length c ∧ e.ps.length ≤ c ∧ Has own w (RdF id a (cellsP e.ps))
theorem tabR_look {own : Nat → Prop} {w : World} {E : List TE} (h : TabR own w E) (d : Int) : ∃ a c, (kadd d (.slice none 0 0) (esE E)).2.2 = .slice a (lookE d E).length c ∧ (lookE d E).length ≤ c ∧ Has own w (RdF id a (cellsP (lookE d E))) := by
  unfold kadd
  cases hk : kfind d (esE E) 0 with
  | some j =>
    obtain ⟨_, e, h2, h3, h4⟩ := look_get hk
    rw [Nat.sub_zero] at h2
    obtain ⟨a, c, q1, q2, q3⟩ := h e (List.mem_of_getElem? h2)
    rw [← h4]
    refine ⟨a, c, ?_, q2, q3⟩
    rw [← q1]
    simp [esE_get, h2]
  | none =>
    rw [look_none hk]
    exact ⟨none, 0, rfl, Nat.le_refl _, RdF.nil⟩
theorem dat_one {own : Nat → Prop} {w : World} {l : List P} (h : Has own w (DatF l)) {p : P} (hp : p ∈ l) : Has own w (RdF (Value.int .u8) p.2.1 p.1.x.flatten) := h.imp fun _ k => k p hp
theorem dat_sub {own : Nat → Prop} {w : World} {l m : List P} (h : Has own w (DatF l)) (hm : ∀ p ∈ m, p ∈ l) : Has own w (DatF m) := h.imp fun _ k p hp => k p (hm p hp)
theorem DatW.sub {l m : List P} (h : DatW l) (hm : ∀ p ∈ m, p ∈ l) : DatW m := fun p hp => h p (hm p hp)
theorem look_sub {E : List TE} {l : List P} (h : Tab E l) (d : Int) : ∀ p ∈ lookE d E, p ∈ l := by
  intro p hp
  rw [h d] at hp
  exact (List.mem_filter.1 hp).1
end D29
theorem isChunk_c (x : Dat) (a0 : Option Addr) (c0 n : Nat) (hn : x.length = n) (own : Nat → Prop) (W : World) (hl : ∀ b, own b → b < W.heap.size) :
    Calls Try.prog 48 ⟨[.slice a0 n c0]⟩ W (Ret W fun v _ => v = .bool (isCh x)) := by
  have hM := Mm.start hl
  unfold isCh
  rw [hn]
  refine f_start Try.func48 rfl Try.ntmps48 rfl rfl ?_; intro a hF
  by_cases h : 1 ≤ n ∧ n ≤ 4096
  · rw [decide_eq_true h]
    (repeat' (first | (with_reducible refine w_seq ?_) | (with_reducible refine c_region ?_) | (with_reducible refine s_nil ?_) | (with_reducible refine q_then_n ?_) | ((with_reducible apply s_pure hF); exact rfl; exact rfl; exact rfl; (first | exact trivial | omega | exact ⟨Int.natCast_nonneg _, Int.ofNat_lt.2 (by assumption)⟩ | decide); clear hF a; intro a hF) | (with_reducible refine w_ret ?_) | ((fail_if_success ((with_reducible refine g_known true hF ?_ ?_); focus exact rfl)); (fail_if_success ((with_reducible refine g_known false hF ?_ ?_); focus exact rfl)); (with_reducible apply g_dec hF); exact rfl; exact rfl; all_goals (clear hF; intro hc hF); all_goals (try (exfalso; omega)))))
    all_goals (apply f_ret Try.results48 hF hM; (repeat (first | exact RL.nil | (apply RL.tmp; exact rfl) | (apply RL.cell; exact rfl; (repeat (first | exact List.mem_cons_self | refine List.mem_cons_of_mem _ ?_)); exact rfl))); refine Ret.mk hM.since ?_; dsimp only [resV])
    all_goals exact congrArg _ (decide_eq_true (by omega))
  · rw [decide_eq_false h]
    (repeat' (first | (with_reducible refine w_seq ?_) | (with_reducible refine c_region ?_) | (with_reducible refine s_nil ?_) | (with_reducible refine q_then_n ?_) | ((with_reducible apply s_pure hF); exact rfl; exact rfl; exact rfl; (first | exact trivial | omega | exact ⟨Int.natCast_nonneg _, Int.ofNat_lt.2 (by assumption)⟩ | decide); clear hF a; intro a hF) | (with_reducible refine w_ret ?_) | ((with_reducible apply s_skip hF); exact rfl; exact rfl; clear hF a; intro a hF) | ((fail_if_success ((with_reducible refine g_known true hF ?_ ?_); focus exact rfl)); (fail_if_success ((with_reducible refine g_known false hF ?_ ?_); focus exact rfl)); (with_reducible apply g_dec hF); exact rfl; exact rfl; all_goals (clear hF; intro hc hF); all_goals (try (exfalso; omega)))))
    all_goals (apply f_ret Try.results48 hF hM; (repeat (first | exact RL.nil | (apply RL.tmp; exact rfl) | (apply RL.cell; exact rfl; (repeat (first | exact List.mem_cons_self | refine List.mem_cons_of_mem _ ?_)); exact rfl))); refine Ret.mk hM.since ?_; dsimp only [resV])
    all_goals exact congrArg _ (decide_eq_false (by omega))
theorem has1_c (x y : P) (hx8 : W8 x.1.x) (hy8 : W8 y.1.x) (hxl : x.1.x.length ≤ 100000) (b : Nat) (own : Nat → Prop) (W : World) (hl : ∀ b, own b → b < W.heap.size) (hb : Has own W (BxF b (itC x) 102)) (h1 : Has own W (RdF (Value.int .u8) x.2.1 x.1.x.flatten)) (h2 : Has own W (RdF (Value.int .u8) y.2.1 y.1.x.flatten)) :
    Calls Try.prog 111 ⟨[.agg ⟨itC y⟩, .pointer (some ⟨b, 0, none⟩)]⟩ W (Ret W fun v _ => v = .bool (decide (x.1.x = y.1.x))) := by
  have hM := (((Mm.start hl).known hb).known h1).known h2
  refine f_start Try.func111 rfl Try.ntmps111 rfl rfl ?_; intro a hF
  unfold itC at *
  (repeat (first | (with_reducible refine w_seq ?_) | (with_reducible refine c_region ?_) | (with_reducible refine s_nil ?_) | ((with_reducible apply s_call (f := 35) hF hM); exact rfl; exact rfl; exact rfl; exact rfl; exact rfl; exact (eqS_c x.1.x y.1.x hx8 hy8 x.2.1 y.2.1 _ _ x.2.2 y.2.2 rfl rfl (by omega) _ _ hM.lt (hM.facts (RdF (Value.int .u8) x.2.1 x.1.x.flatten) (by (repeat (first | exact List.mem_cons_self | refine List.mem_cons_of_mem _ ?_)))) (hM.facts (RdF (Value.int .u8) y.2.1 y.1.x.flatten) (by (repeat (first | exact List.mem_cons_self | refine List.mem_cons_of_mem _ ?_))))); clear hF hM a; rintro v w a rfl - hM hF) | (with_reducible refine q_then_n ?_) | ((with_reducible apply s_pure hF); exact rfl; exact rfl; exact rfl; (first | exact trivial | omega | exact ⟨Int.natCast_nonneg _, Int.ofNat_lt.2 (by assumption)⟩ | decide); clear hF a; intro a hF) | ((with_reducible apply s_load hF hM); exact rfl; exact rfl; (repeat (first | exact List.mem_cons_self | refine List.mem_cons_of_mem _ ?_)); exact rfl; exact rfl; clear hF a; intro a hF) | ((with_reducible apply s_loadK hF hM); exact rfl; exact rfl; (repeat (first | exact List.mem_cons_self | refine List.mem_cons_of_mem _ ?_)); exact rfl; exact rfl; clear hF a; intro a hF) | ((with_reducible apply s_box hF hM); exact rfl; exact rfl; exact rfl; exact rfl; clear hF hM a; intro b w a hM hF) | (with_reducible refine w_ret ?_)))
  (apply f_ret Try.results111 hF hM; (repeat (first | exact RL.nil | (apply RL.tmp; exact rfl) | (apply RL.cell; exact rfl; (repeat (first | exact List.mem_cons_self | refine List.mem_cons_of_mem _ ?_)); exact rfl))); refine Ret.mk hM.since ?_; dsimp only [resV])
set_option maxHeartbeats 1000000 in
theorem hasI_c (x : P) (ps : List P) (hx8 : W8 x.1.x) (hxl : x.1.x.length ≤ 100000) (hps : DatW ps) (hpl : ps.length ≤ 100000) (a0 : Option Addr) (c0 b : Nat) (own : Nat → Prop) (W : World) (hl : ∀ b, own b → b < W.heap.size) (hb : Has own W (BxF b (itC x) 102)) (h1 : Has own W (RdF (Value.int .u8) x.2.1 x.1.x.flatten)) (h2 : Has own W (DatF ps)) (h3 : Has own W (RdF id a0 (cellsP ps))) :
    Calls Try.prog 133 ⟨[.slice a0 ps.length c0, .func (.func 111) #[] #[.pointer (some ⟨b, 0, none⟩)]]⟩ W (Ret W fun v _ => ∃ i : Int, v = .int .i64 i ∧ (0 ≤ i ↔ (ps.any fun p => decide (p.1.x = x.1.x)) = true)) := by
  have hM := ((((Mm.start hl).known hb).known h1).known h2).known h3
  have hw := itC_len ps
  refine f_start Try.func133 rfl Try.ntmps133 rfl rfl ?_; intro a hF
  (repeat (first | (with_reducible refine w_seq ?_) | (with_reducible refine c_region ?_) | (with_reducible refine s_nil ?_) | (with_reducible refine q_then_n ?_) | ((with_reducible apply s_pure hF); exact rfl; exact rfl; exact rfl; (first | exact trivial | omega | exact ⟨Int.natCast_nonneg _, Int.ofNat_lt.2 (by assumption)⟩ | decide); clear hF a; intro a hF) | (with_reducible refine w_block ?_)))
  refine c_loop (m := ps.length) (fun m a w' => ∃ k : Nat, m + k = ps.length ∧ (∀ p ∈ ps.take k, p.1.x ≠ x.1.x) ∧
    Fr 19 [] [(8, .int .i64 k), (7, .int .i64 ps.length), (0, .slice a0 ps.length c0), (1, .func (.func 111) #[] #[.pointer (some ⟨b, 0, none⟩)])] a ∧
    Mm own W [] [] [RdF id a0 (cellsP ps), DatF ps, RdF (Value.int .u8) x.2.1 x.1.x.flatten, BxF b (itC x) 102] w') ⟨0, by omega, by simp, hF.sub (by repeat (first | exact Sub.nil | refine Sub.cons rfl (by first | with_reducible rfl | (refine congrArg (Value.int _) ?_; omega) | exact rfl) ?_)), hM⟩ ?_
  clear hF hM a
  rintro m a w' ⟨k, hm, hno, hF, hM⟩
  by_cases hk : k < ps.length
  · obtain ⟨p, hp⟩ := get_of_lt hk
    have hpm := List.mem_of_getElem? hp
    have hpc : (ps.map itC)[k]? = some [.int .u64 p.1.d, .slice p.2.1 p.1.x.length p.2.2] := by rw [List.getElem?_map, hp]; rfl
    obtain ⟨ad, rfl⟩ : ∃ ad, a0 = some ad := rd_some hM (enc := id) (a := a0) (xs := cellsP ps) (by (repeat (first | exact List.mem_cons_self | refine List.mem_cons_of_mem _ ?_))) (flat_get (q := 0) hw hpc rfl)
    unfold cellsP at hM
    (repeat' (first | (with_reducible refine w_seq ?_) | (with_reducible refine c_region ?_) | (with_reducible refine s_nil ?_) | ((with_reducible apply s_loadE hF hM); exact rfl; exact rfl; (repeat (first | exact List.mem_cons_self | refine List.mem_cons_of_mem _ ?_)); exact rfl; exact rfl; (first | with_reducible assumption | (simp only [Int.toNat_natCast]; with_reducible assumption)); (with_reducible assumption); clear hF a; intro a hF) | (with_reducible refine q_then_n ?_) | ((with_reducible apply s_pure hF); exact rfl; exact rfl; exact rfl; (first | exact trivial | omega | exact ⟨Int.natCast_nonneg _, Int.ofNat_lt.2 (by assumption)⟩ | decide); clear hF a; intro a hF) | (with_reducible refine w_skip ?_) | (with_reducible refine w_block ?_) | ((with_reducible apply c_dec hF); exact rfl; all_goals intro hc; all_goals (try (exfalso; omega)))))
    (((with_reducible apply s_callc (f := 111) hF hM); exact rfl; exact rfl; exact rfl; exact rfl; exact rfl; exact rfl; exact rfl; exact (has1_c x p hx8 (hps p hpm).1 hxl b _ _ hM.lt (hM.facts (BxF b (itC x) 102) (by (repeat (first | exact List.mem_cons_self | refine List.mem_cons_of_mem _ ?_)))) (hM.facts (RdF (Value.int .u8) x.2.1 x.1.x.flatten) (by (repeat (first | exact List.mem_cons_self | refine List.mem_cons_of_mem _ ?_)))) (dat_one (hM.facts (DatF ps) (by (repeat (first | exact List.mem_cons_self | refine List.mem_cons_of_mem _ ?_)))) hpm)); clear hF hM a; rintro v w a rfl - hM hF))
    by_cases he : x.1.x = p.1.x
    · rw [decide_eq_true he] at hF
      (repeat' (first | (with_reducible refine w_seq ?_) | (with_reducible refine c_region ?_) | (with_reducible refine s_nil ?_) | (with_reducible refine q_then_n ?_) | ((with_reducible apply s_pure hF); exact rfl; exact rfl; exact rfl; (first | exact trivial | omega | exact ⟨Int.natCast_nonneg _, Int.ofNat_lt.2 (by assumption)⟩ | decide); clear hF a; intro a hF) | (with_reducible refine w_ret ?_) | (with_reducible refine q_then_r ?_) | (with_reducible refine q_blk_r ?_) | ((with_reducible apply c_true2 hF); exact rfl; (first | with_reducible rfl | (refine congrArg Value.bool ?_; focus (simp; done))))))
      (apply f_ret Try.results133 hF hM; (repeat (first | exact RL.nil | (apply RL.tmp; exact rfl) | (apply RL.cell; exact rfl; (repeat (first | exact List.mem_cons_self | refine List.mem_cons_of_mem _ ?_)); exact rfl))); refine Ret.mk hM.since ?_; dsimp only [resV])
      exact ⟨_, rfl, fun _ => List.any_eq_true.2 ⟨p, hpm, by simp [he]⟩, fun _ => by omega⟩
    · rw [decide_eq_false he] at hF
      (repeat' (first | (with_reducible refine c_region ?_) | (with_reducible refine s_nil ?_) | (with_reducible refine q_then_n ?_) | ((with_reducible apply s_pure hF); exact rfl; exact rfl; exact rfl; (first | exact trivial | omega | exact ⟨Int.natCast_nonneg _, Int.ofNat_lt.2 (by assumption)⟩ | decide); clear hF a; intro a hF) | (with_reducible refine w_skip ?_) | (with_reducible refine q_blk_n ?_) | ((with_reducible apply c_false2 hF); exact rfl; (first | with_reducible rfl | (refine congrArg Value.bool ?_; focus (simp; done))))))
      refine ⟨m - 1, by omega, k + 1, by omega, ?_, hF.sub (by repeat (first | exact Sub.nil | refine Sub.cons rfl (by first | with_reducible rfl | (refine congrArg (Value.int _) ?_; omega) | exact rfl) ?_)), hM⟩
      intro q hq
      rw [List.take_add_one, hp] at hq
      rcases List.mem_append.1 hq with hq | hq
      · exact hno q hq
      · simp at hq
        rw [hq]
        exact fun e => he e.symm
  · rw [List.take_of_length_le (by omega)] at hno
    (repeat' (first | (with_reducible refine w_seq ?_) | (with_reducible refine c_region ?_) | (with_reducible refine s_nil ?_) | (with_reducible refine q_then_n ?_) | ((with_reducible apply s_pure hF); exact rfl; exact rfl; exact rfl; (first | exact trivial | omega | exact ⟨Int.natCast_nonneg _, Int.ofNat_lt.2 (by assumption)⟩ | decide); clear hF a; intro a hF) | (with_reducible refine w_exit ?_) | (with_reducible refine w_ret ?_) | (with_reducible refine q_then_x ?_) | (with_reducible refine q_blk_x ?_) | ((with_reducible apply c_dec hF); exact rfl; all_goals intro hc; all_goals (try (exfalso; omega)))))
    (apply f_ret Try.results133 hF hM; (repeat (first | exact RL.nil | (apply RL.tmp; exact rfl) | (apply RL.cell; exact rfl; (repeat (first | exact List.mem_cons_self | refine List.mem_cons_of_mem _ ?_)); exact rfl))); refine Ret.mk hM.since ?_; dsimp only [resV])
    refine ⟨_, rfl, fun h => by omega, fun h => ?_⟩
    obtain ⟨q, hq, e⟩ := List.any_eq_true.1 h
    exact absurd (by simpa using e) (hno q hq)
theorem hasC_c (x : P) (ps : List P) (hx8 : W8 x.1.x) (hxl : x.1.x.length ≤ 100000) (hps : DatW ps) (hpl : ps.length ≤ 100000) (a0 : Option Addr) (c0 b : Nat) (own : Nat → Prop) (W : World) (hl : ∀ b, own b → b < W.heap.size) (hb : Has own W (BxF b (itC x) 102)) (h1 : Has own W (RdF (Value.int .u8) x.2.1 x.1.x.flatten)) (h2 : Has own W (DatF ps)) (h3 : Has own W (RdF id a0 (cellsP ps))) :
    Calls Try.prog 110 ⟨[.slice a0 ps.length c0, .func (.func 111) #[] #[.pointer (some ⟨b, 0, none⟩)]]⟩ W (Ret W fun v _ => v = .bool (ps.any fun p => decide (p.1.x = x.1.x))) := by
  have hM := ((((Mm.start hl).known hb).known h1).known h2).known h3
  refine f_start Try.func110 rfl Try.ntmps110 rfl rfl ?_; intro a hF
  (repeat (first | (with_reducible refine w_seq ?_) | (with_reducible refine c_region ?_) | (with_reducible refine s_nil ?_) | (with_reducible refine q_then_n ?_) | ((with_reducible apply s_pure hF); exact rfl; exact rfl; exact rfl; (first | exact trivial | omega | exact ⟨Int.natCast_nonneg _, Int.ofNat_lt.2 (by assumption)⟩ | decide); clear hF a; intro a hF)))
  (((with_reducible apply s_call (f := 133) hF hM); exact rfl; exact rfl; exact rfl; exact rfl; exact rfl; exact (hasI_c x ps hx8 hxl hps hpl a0 c0 b _ _ hM.lt (hM.facts (BxF b (itC x) 102) (by (repeat (first | exact List.mem_cons_self | refine List.mem_cons_of_mem _ ?_)))) (hM.facts (RdF (Value.int .u8) x.2.1 x.1.x.flatten) (by (repeat (first | exact List.mem_cons_self | refine List.mem_cons_of_mem _ ?_)))) (hM.facts (DatF ps) (by (repeat (first | exact List.mem_cons_self | refine List.mem_cons_of_mem _ ?_)))) (hM.facts (RdF id a0 (cellsP ps)) (by (repeat (first | exact List.mem_cons_self | refine List.mem_cons_of_mem _ ?_))))); clear hF hM a; rintro v w a ⟨i, rfl, hi⟩ - hM hF))
  (repeat (first | (with_reducible refine s_nil ?_) | (with_reducible refine q_then_n ?_) | ((with_reducible apply s_pure hF); exact rfl; exact rfl; exact rfl; (first | exact trivial | omega | exact ⟨Int.natCast_nonneg _, Int.ofNat_lt.2 (by assumption)⟩ | decide); clear hF a; intro a hF) | (with_reducible refine w_ret ?_)))
  (apply f_ret Try.results110 hF hM; (repeat (first | exact RL.nil | (apply RL.tmp; exact rfl) | (apply RL.cell; exact rfl; (repeat (first | exact List.mem_cons_self | refine List.mem_cons_of_mem _ ?_)); exact rfl))); refine Ret.mk hM.since ?_; dsimp only [resV])
  congr 1
  rw [Bool.eq_iff_iff, decide_eq_true_eq]
  exact hi
set_option maxHeartbeats 1000000 in
theorem has_c (x : P) (E : List TE) (mb : Nat) (hx8 : W8 x.1.x) (hxl : x.1.x.length ≤ 100000) (hps : DatW (lookE x.1.d E)) (hpl : (lookE x.1.d E).length ≤ 100000) (own : Nat → Prop) (W : World) (hl : ∀ b, own b → b < W.heap.size) (hm : Has own W (MpE (Value.int .u64) mb (esE E))) (hT : TabR own W E) (h1 : Has own W (RdF (Value.int .u8) x.2.1 x.1.x.flatten)) (h2 : Has own W (DatF (lookE x.1.d E))) :
    Calls Try.prog 74 ⟨[.map (some mb), .agg ⟨itC x⟩]⟩ W (Ret W fun v _ => v = .bool ((lookE x.1.d E).any fun p => decide (p.1.x = x.1.x))) := by
  obtain ⟨a0, c0, q1, q2, q3⟩ := tabR_look hT x.1.d
  have hM := ((((Mm.start hl).known hm).known h1).known h2).known q3
  refine f_start Try.func74 rfl Try.ntmps74 rfl rfl ?_; intro a hF
  (repeat (first | (with_reducible refine w_seq ?_) | (with_reducible refine c_region ?_) | (with_reducible refine s_nil ?_) | (with_reducible refine q_then_n ?_) | ((with_reducible apply s_pure hF); exact rfl; exact rfl; exact rfl; (first | exact trivial | omega | exact ⟨Int.natCast_nonneg _, Int.ofNat_lt.2 (by assumption)⟩ | decide); clear hF a; intro a hF) | ((with_reducible apply s_load hF hM); exact rfl; exact rfl; (repeat (first | exact List.mem_cons_self | refine List.mem_cons_of_mem _ ?_)); exact rfl; exact rfl; clear hF a; intro a hF) | ((with_reducible apply s_box hF hM); exact rfl; exact rfl; exact rfl; exact rfl; clear hF hM a; intro b w a hM hF)))
  refine s_lookE (ek := Value.int .u64) (z := .slice none 0 0) (x := x.1.d) (es := esE E) (keyOk_int rfl) hF hM rfl rfl rfl rfl (by (repeat (first | exact List.mem_cons_self | refine List.mem_cons_of_mem _ ?_))) rfl trivial (fun _ _ => trivial) ?_
  clear hF a
  intro a hF
  rw [q1] at hF
  generalize b = bx at *
  replace hM := hM.freeze
  (repeat (first | (with_reducible refine s_nil ?_) | ((with_reducible apply s_call (f := 110) hF hM); exact rfl; exact rfl; exact rfl; exact rfl; exact rfl; exact (hasC_c x (lookE x.1.d E) hx8 hxl hps hpl a0 c0 bx _ _ hM.lt (hM.facts (BxF bx (itC x) 102) (by (repeat (first | exact List.mem_cons_self | refine List.mem_cons_of_mem _ ?_)))) (hM.facts (RdF (Value.int .u8) x.2.1 x.1.x.flatten) (by (repeat (first | exact List.mem_cons_self | refine List.mem_cons_of_mem _ ?_)))) (hM.facts (DatF (lookE x.1.d E)) (by (repeat (first | exact List.mem_cons_self | refine List.mem_cons_of_mem _ ?_)))) (hM.facts (RdF id a0 (cellsP (lookE x.1.d E))) (by (repeat (first | exact List.mem_cons_self | refine List.mem_cons_of_mem _ ?_))))); clear hF hM a; rintro v w a rfl - hM hF) | (with_reducible refine q_then_n ?_) | ((with_reducible apply s_pure hF); exact rfl; exact rfl; exact rfl; (first | exact trivial | omega | exact ⟨Int.natCast_nonneg _, Int.ofNat_lt.2 (by assumption)⟩ | decide); clear hF a; intro a hF) | (with_reducible refine w_ret ?_)))
  (apply f_ret Try.results74 hF hM; (repeat (first | exact RL.nil | (apply RL.tmp; exact rfl) | (apply RL.cell; exact rfl; (repeat (first | exact List.mem_cons_self | refine List.mem_cons_of_mem _ ?_)); exact rfl))); refine Ret.mk hM.since ?_; dsimp only [resV])
set_option maxHeartbeats 1000000 in
theorem find_c (E : List TE) (mb : Nat) (d : Int) (own : Nat → Prop) (W : World) (hl : ∀ b, own b → b < W.heap.size) (hm : Has own W (MpE (Value.int .u64) mb (esE E))) (hT : TabR own W E) :
    Calls Try.prog 34 ⟨[.map (some mb), .int .u64 d]⟩ W (Ret W fun v _ => v = match (lookE d E).head? with
      | some p => .tuple #[.slice p.2.1 p.1.x.length p.2.2, .bool true]
      | none => .tuple #[.slice none 0 0, .bool false]) := by
  obtain ⟨a0, c0, q1, q2, q3⟩ := tabR_look hT d
  have hM := ((Mm.start hl).known hm).known q3
  refine f_start Try.func34 rfl Try.ntmps34 rfl rfl ?_; intro a hF
  (repeat (first | (with_reducible refine w_seq ?_) | (with_reducible refine c_region ?_) | (with_reducible refine s_nil ?_) | (with_reducible refine q_then_n ?_) | ((with_reducible apply s_pure hF); exact rfl; exact rfl; exact rfl; (first | exact trivial | omega | exact ⟨Int.natCast_nonneg _, Int.ofNat_lt.2 (by assumption)⟩ | decide); clear hF a; intro a hF)))
  refine s_lookE (ek := Value.int .u64) (z := .slice none 0 0) (x := d) (es := esE E) (keyOk_int rfl) hF hM rfl rfl rfl rfl (by (repeat (first | exact List.mem_cons_self | refine List.mem_cons_of_mem _ ?_))) rfl trivial (fun _ _ => trivial) ?_
  clear hF a
  intro a hF
  rw [q1] at hF
  generalize lookE d E = ps at *
  cases ps with
  | nil =>
    (repeat' (first | (with_reducible refine w_seq ?_) | (with_reducible refine c_region ?_) | (with_reducible refine s_nil ?_) | (with_reducible refine q_then_n ?_) | ((with_reducible apply s_pure hF); exact rfl; exact rfl; exact rfl; (first | exact trivial | omega | exact ⟨Int.natCast_nonneg _, Int.ofNat_lt.2 (by assumption)⟩ | decide); clear hF a; intro a hF) | (with_reducible refine w_skip ?_) | (with_reducible refine w_ret ?_) | ((with_reducible apply c_false2 hF); exact rfl; (first | with_reducible rfl | (refine congrArg Value.bool ?_; focus (simp; done))))))
    (apply f_ret Try.results34 hF hM; (repeat (first | exact RL.nil | (apply RL.tmp; exact rfl) | (apply RL.cell; exact rfl; (repeat (first | exact List.mem_cons_self | refine List.mem_cons_of_mem _ ?_)); exact rfl))); refine Ret.mk hM.since ?_; dsimp only [resV])
    rfl
  | cons p r =>
    obtain ⟨q, hq, hq0⟩ : ∃ q, (p :: r).length = q ∧ 0 < q := ⟨_, rfl, by simp⟩
    rw [hq] at hF
    have hw := itC_len (p :: r)
    have hpc : ((p :: r).map itC)[0]? = some [.int .u64 p.1.d, .slice p.2.1 p.1.x.length p.2.2] := rfl
    obtain ⟨ad, rfl⟩ : ∃ ad, a0 = some ad := rd_some hM (enc := id) (a := a0) (xs := cellsP (p :: r)) (by (repeat (first | exact List.mem_cons_self | refine List.mem_cons_of_mem _ ?_))) (flat_get (q := 0) hw hpc rfl)
    have hx1 : (cellsP (p :: r))[(0 : Int).toNat * 2 + 1]? = some (.slice p.2.1 p.1.x.length p.2.2) := rfl
    (repeat' (first | (with_reducible refine w_seq ?_) | (with_reducible refine c_region ?_) | (with_reducible refine s_nil ?_) | ((with_reducible apply s_fieldA hF); exact rfl; exact rfl; exact rfl; exact rfl; clear hF a; intro a hF) | ((with_reducible apply s_loadP hF hM); exact rfl; exact rfl; (repeat (first | exact List.mem_cons_self | refine List.mem_cons_of_mem _ ?_)); exact rfl; exact rfl; (first | with_reducible assumption | (simp only [Int.toNat_natCast]; with_reducible assumption)); clear hF a; intro a hF) | (with_reducible refine q_then_n ?_) | ((with_reducible apply s_pure hF); exact rfl; exact rfl; exact rfl; (first | exact trivial | omega | exact ⟨Int.natCast_nonneg _, Int.ofNat_lt.2 (by assumption)⟩ | decide); clear hF a; intro a hF) | (with_reducible refine w_ret ?_) | (with_reducible refine q_then_r ?_) | ((with_reducible apply c_dec hF); exact rfl; all_goals intro hc; all_goals (try (exfalso; omega)))))
    (apply f_ret Try.results34 hF hM; (repeat (first | exact RL.nil | (apply RL.tmp; exact rfl) | (apply RL.cell; exact rfl; (repeat (first | exact List.mem_cons_self | refine List.mem_cons_of_mem _ ?_)); exact rfl))); refine Ret.mk hM.since ?_; dsimp only [resV])
    rfl
end Go.Proofs.Ytadfdpkhehdikaa


/- dedup: a chunk is put into the store. -/
namespace Go.Proofs.Ytadfdpkhehdikaa
open Go.RowKit Go.Shelf D29
namespace D29
theorem litC {own : Nat → Prop} {w w0 : World} {bs : List BoxE} {L : List Ent} {Fs : List (World → Prop)} (hM : Mm own w0 bs L Fs w) {b : Nat} {ys : List Value} {T : TypeId} (h : (⟨b, ⟨ys⟩, T⟩ : BoxE) ∈ bs) : ∀ (j : Nat) (u : Value), ys[j]? = some u → w.cell? ((⟨b, 0, none⟩ : Addr).add j) = some u := by
  intro j u hu
  rw [add_lit, (Box.rules (hM.mem.box _ h)).1]
  simpa using hu
theorem rows_get (EA : Ent) (L1 : List Ent) {E1 : List TE} {j : Nat} {e : TE} (h : E1[j]? = some e) : (EA :: (L1 ++ rowsT E1))[L1.length + j + 1]? = some e.en := by
  rw [List.getElem?_cons_succ, List.getElem?_append_right (by omega), Nat.add_sub_cancel_left, rowsT_get, h]
  rfl
theorem rows_set (EA E' : Ent) (L1 : List Ent) (E1 : List TE) (j : Nat) (e : TE) (he : e.en = E') : (EA :: (L1 ++ rowsT E1)).set (L1.length + j + 1) E' = EA :: (L1 ++ rowsT (E1.set j e)) := by
  rw [List.set_cons_succ, List.set_append_right _ _ (by omega), Nat.add_sub_cancel_left, rowsT_set, he]
/-- A store in memory: capacity, items, the slice of the items and its row, the table. -/
abbrev stB (b mb : Nat) (cap : Int) (iv : Value) : BoxE := ⟨b, ⟨[.map (some mb), .int .i64 cap, iv]⟩, 91⟩
end D29
section
variable (sb mb : Nat) (cap : Int) (its : List P) (iv : Value) (eI : Ent) (E : List TE) (x : P) {own : Nat → Prop} {w0 W : World} {bs : List BoxE} {L1 : List Ent} {Fs : List (World → Prop)}
  (hlen : its.length ≤ 100000) (hI : OffR 102 2 iv its.length (cellsP its) eI) (hE : TEOk E) (hTab : Tab E its) (hb0 : w0.heap.size ≤ mb) (hcf : ∀ f ∈ Fs, Nb mb f)
  (hM : Mm own w0 (stB sb mb cap iv :: bs) (eI :: (L1 ++ rowsT E)) (MpE (Value.int .u64) mb (esE E) :: Fs) W)
include hlen hI hE hTab hb0 hcf hM
set_option maxRecDepth 20000 in
set_option maxHeartbeats 2000000 in
theorem put_c : Calls Try.prog 75 ⟨[.pointer (some ⟨sb, 0, none⟩), .agg ⟨itC x⟩]⟩ W (Rtn fun _ w' => ∃ (E' : List TE) (iv' : Value) (eI' : Ent), TEOk E' ∧ Tab E' (its ++ [x]) ∧ OffR 102 2 iv' (its.length + 1) (cellsP (its ++ [x])) eI' ∧
    Mm own w0 (stB sb mb cap iv' :: bs) (eI' :: (L1 ++ rowsT E')) (MpE (Value.int .u64) mb (esE E') :: Fs) w') := by
  have hcx : cellsP [x] = itC x := by simp [cellsP]
  refine f_start Try.func75 rfl Try.ntmps75 rfl rfl ?_; intro a hF
  (repeat (first | (with_reducible refine w_seq ?_) | (with_reducible refine c_region ?_) | (with_reducible refine s_nil ?_) | (with_reducible refine q_then_n ?_) | ((with_reducible apply s_box hF hM); exact rfl; exact rfl; exact rfl; exact rfl; clear hF hM a; intro b w a hM hF)))
  refine c_draw (fun i => Nat.ble 10 i) hM ?_; clear hM; intro w hM
  (first | (refine t_pure (i := 0) hF rfl rfl rfl rfl (by kernel_rfl) hM.sm (fun _ _ _ h => h) ?_ ?_; (first | exact trivial | omega | decide); clear hF a; intro a hF))
  (first | (refine t_pure (i := 1) hF rfl rfl rfl rfl (by kernel_rfl) hM.sm (fun _ _ _ h => h) ?_ ?_; (first | exact trivial | omega | decide); clear hF a; intro a hF))
  (first | (refine t_pure (i := 2) hF rfl rfl rfl rfl (by kernel_rfl) hM.sm (fun _ _ _ h => h) ?_ ?_; (first | exact trivial | omega | decide); clear hF a; intro a hF))
  (first | (refine t_pure (i := 3) hF rfl rfl rfl rfl (by kernel_rfl) hM.sm (fun _ _ _ h => h) ?_ ?_; (first | exact trivial | omega | decide); clear hF a; intro a hF))
  (first | (apply t_load (i := 4) hF rfl rfl rfl; (repeat (first | exact List.mem_cons_self | refine List.mem_cons_of_mem _ ?_)); exact rfl; exact rfl; kernel_rfl; exact hM.sm; exact (fun _ _ _ h => h); clear hF a; intro a hF))
  (first | (apply t_load (i := 5) hF rfl rfl rfl; (repeat (first | exact List.mem_cons_self | refine List.mem_cons_of_mem _ ?_)); exact rfl; exact rfl; kernel_rfl; exact hM.sm; exact (fun _ _ _ h => h); clear hF a; intro a hF))
  refine t_one (i := 6) hF rfl (by kernel_rfl) rfl ?_
  intro K hK
  (refine x_lit hF hM rfl rfl rfl ?_; clear hF hM a; intro bl w a hM hF)
  refine hK _ _ (fun _ => (hM.sm.sub (fun x hx => by repeat (first | exact hx | refine List.mem_cons_of_mem _ ?_)) (fun _ h => by repeat (first | exact h | refine List.mem_cons_of_mem _ ?_)))) ?_; clear hK
  refine t_one (i := 7) hF rfl (by kernel_rfl) rfl ?_
  intro K hK
  (refine e_appO (k := 0) (ys := itC x) (m := its.length) (q := 1) hF (hM.sub (List.sublist_cons_self _ _) (.refl _) (fun _ h => h)) rfl rfl rfl rfl hI rfl (litC hM List.mem_cons_self) (oneL_ok rfl) (by decide) ⟨by omega, by omega⟩ ?_; clear hM; intro vA EA w hRA hM; dsimp only [List.set] at hM; obtain ⟨aA, cA, rfl, -, -⟩ := OffR.shape hM (k := 0) rfl hRA; replace hF := hF.put (d := 11) rfl (.slice aA (its.length + 1) cA); generalize a.put (some 11) _ = a at *)
  refine hK _ _ (fun _ => (hM.sm.sub (fun x hx => by repeat (first | exact hx | refine List.mem_cons_of_mem _ ?_)) (fun _ h => by repeat (first | exact h | refine List.mem_cons_of_mem _ ?_)))) ?_; clear hK
  (first | (refine t_pure (i := 8) hF rfl rfl rfl rfl (by kernel_rfl) (hM.sm.sub (fun x hx => by repeat (first | exact hx | refine List.mem_cons_of_mem _ ?_)) (fun _ h => by repeat (first | exact h | refine List.mem_cons_of_mem _ ?_))) (fun _ _ _ h => h) ?_ ?_; (first | exact trivial | omega | decide); clear hF a; intro a hF))
  (first | (refine t_pure (i := 9) hF rfl rfl rfl rfl (by kernel_rfl) (hM.sm.sub (fun x hx => by repeat (first | exact hx | refine List.mem_cons_of_mem _ ?_)) (fun _ h => by repeat (first | exact h | refine List.mem_cons_of_mem _ ?_))) (fun _ _ _ h => h) ?_ ?_; (first | exact trivial | omega | decide); clear hF a; intro a hF))
  refine t_one (i := 10) hF rfl (by kernel_rfl) rfl ?_
  intro K hK
  (apply x_store hF hM rfl rfl rfl; (repeat (first | exact Upd.z | apply Upd.s)); exact rfl; exact rfl; exact rfl; clear hF hM a; intro w a hM hF)
  refine hK _ _ (fun h => by cases h) ?_; clear hK
  refine t_done (by kernel_rfl) ?_
  generalize b = bx at *
  obtain ⟨E1, j, e, hM1, hE1, hka, hj, hek, hep, hls⟩ := te_add (L1 := EA :: L1) hM hE x.1.d
  replace hM : Mm own w0 _ (EA :: (L1 ++ rowsT E1)) _ _ := hM1
  have hek2 : (kadd x.1.d (.slice none 0 0) (esE E)).2.2 = e.sv := by rw [hka]
  have hRe := hE1 e (List.mem_of_getElem? hj)
  have hgl := rows_get EA L1 hj
  have hpl : e.ps.length ≤ 100000 := by
    rw [hep, hTab]
    exact Nat.le_trans (List.length_filter_le _ _) hlen
  obtain ⟨ae, ce, hae, -, -⟩ := OffR.shape hM hgl hRe
  rw [hae] at hek2 hRe
  have hfin : ∀ (v' : Value) (E' : Ent), OffR 102 2 v' (e.ps.length + 1) (cellsP e.ps ++ itC x) E' → TEOk (E1.set j ⟨x.1.d, v', E', lookE x.1.d E ++ [x]⟩) := by
    intro v' E' hR t ht
    rcases List.mem_or_eq_of_mem_set ht with ht | rfl
    · exact hE1 t ht
    · show OffR _ _ v' (lookE x.1.d E ++ [x]).length (cellsP (lookE x.1.d E ++ [x])) E'
      rw [List.length_append, cellsP_app, hcx, ← hep]
      exact hR
  have hcf2 : ∀ f ∈ Fs, Nb mb f := hcf
  (repeat (first | (with_reducible refine q_then_n ?_)))
  refine c_draw (fun i => Nat.ble 16 i) hM ?_; clear hM; intro w hM
  (first | (refine t_pure (i := 0) hF rfl rfl rfl rfl (by kernel_rfl) hM.sm (fun _ _ _ h => h) ?_ ?_; (first | exact trivial | omega | decide); clear hF a; intro a hF))
  (first | (refine t_pure (i := 1) hF rfl rfl rfl rfl (by kernel_rfl) hM.sm (fun _ _ _ h => h) ?_ ?_; (first | exact trivial | omega | decide); clear hF a; intro a hF))
  (first | (refine t_pure (i := 2) hF rfl rfl rfl rfl (by kernel_rfl) hM.sm (fun _ _ _ h => h) ?_ ?_; (first | exact trivial | omega | decide); clear hF a; intro a hF))
  (first | (apply t_load (i := 3) hF rfl rfl rfl; (repeat (first | exact List.mem_cons_self | refine List.mem_cons_of_mem _ ?_)); exact rfl; exact rfl; kernel_rfl; exact hM.sm; exact (fun _ _ _ h => h); clear hF a; intro a hF))
  (first | (refine t_pure (i := 4) hF rfl rfl rfl rfl (by kernel_rfl) hM.sm (fun _ _ _ h => h) ?_ ?_; (first | exact trivial | omega | decide); clear hF a; intro a hF))
  (first | (apply t_load (i := 5) hF rfl rfl rfl; (repeat (first | exact List.mem_cons_self | refine List.mem_cons_of_mem _ ?_)); exact rfl; exact rfl; kernel_rfl; exact hM.sm; exact (fun _ _ _ h => h); clear hF a; intro a hF))
  (first | (refine t_pure (i := 6) hF rfl rfl rfl rfl (by kernel_rfl) hM.sm (fun _ _ _ h => h) ?_ ?_; (first | exact trivial | omega | decide); clear hF a; intro a hF))
  (first | (refine t_pure (i := 7) hF rfl rfl rfl rfl (by kernel_rfl) hM.sm (fun _ _ _ h => h) ?_ ?_; (first | exact trivial | omega | decide); clear hF a; intro a hF))
  (first | (refine t_pure (i := 8) hF rfl rfl rfl rfl (by kernel_rfl) hM.sm (fun _ _ _ h => h) ?_ ?_; (first | exact trivial | omega | decide); clear hF a; intro a hF))
  (first | (apply t_load (i := 9) hF rfl rfl rfl; (repeat (first | exact List.mem_cons_self | refine List.mem_cons_of_mem _ ?_)); exact rfl; exact rfl; kernel_rfl; exact hM.sm; exact (fun _ _ _ h => h); clear hF a; intro a hF))
  (first | (refine t_pure (i := 10) hF rfl rfl rfl rfl (by kernel_rfl) hM.sm (fun _ _ _ h => h) ?_ ?_; (first | exact trivial | omega | decide); clear hF a; intro a hF))
  (first | (apply t_load (i := 11) hF rfl rfl rfl; (repeat (first | exact List.mem_cons_self | refine List.mem_cons_of_mem _ ?_)); exact rfl; exact rfl; kernel_rfl; exact hM.sm; exact (fun _ _ _ h => h); clear hF a; intro a hF))
  (first | (apply t_load (i := 13) hF rfl rfl rfl; (repeat (first | exact List.mem_cons_self | refine List.mem_cons_of_mem _ ?_)); exact rfl; exact rfl; kernel_rfl; exact hM.sm; exact (fun _ _ _ h => h); clear hF a; intro a hF))
  refine t_two (i := 12) (j := 14) hF rfl rfl (by kernel_rfl) rfl rfl ?_ ?_
  ·
    intro K hK
    (refine upon_value (e_lookupE (ek := Value.int .u64) (z := .slice none 0 0) (keyOk_int rfl) hF hM rfl (x := x.1.d) rfl rfl (by (repeat (first | exact List.mem_cons_self | refine List.mem_cons_of_mem _ ?_))) trivial (fun _ _ => trivial)) ?_; rw [hek2]; replace hF := hF.put (d := 26) rfl (.slice ae e.ps.length ce); generalize a.put (some 26) _ = a at *)
    refine hK _ _ (fun _ => (hM.sm.sub (fun x hx => by repeat (first | exact hx | refine List.mem_cons_of_mem _ ?_)) (fun _ h => by repeat (first | exact h | refine List.mem_cons_of_mem _ ?_)))) ?_; clear hK
    refine t_one (i := 14) hF rfl (by kernel_rfl) rfl ?_
    intro K hK
    (refine x_lit hF hM rfl rfl rfl ?_; clear hF hM a; intro bl w a hM hF)
    refine hK _ _ (fun _ => (hM.sm.sub (fun x hx => by repeat (first | exact hx | refine List.mem_cons_of_mem _ ?_)) (fun _ h => by repeat (first | exact h | refine List.mem_cons_of_mem _ ?_)))) ?_; clear hK
    refine t_one (i := 15) hF rfl (by kernel_rfl) rfl ?_
    intro K hK
    (refine e_appO (k := L1.length + j + 1) (ys := itC x) (m := e.ps.length) (q := 1) hF (hM.sub (List.sublist_cons_self _ _) (.refl _) (fun _ h => h)) rfl rfl rfl hgl hRe rfl (litC hM List.mem_cons_self) (oneL_ok rfl) (by decide) ⟨by omega, by omega⟩ ?_; clear hM; intro vB EB w hRB hM; rw [rows_set EA EB L1 E1 j ⟨x.1.d, vB, EB, lookE x.1.d E ++ [x]⟩ rfl] at hM; replace hF := hF.put (d := 29) rfl vB; generalize a.put (some 29) _ = a at *)
    refine hK _ _ (fun _ => (hM.sm.sub (fun x hx => by repeat (first | exact hx | refine List.mem_cons_of_mem _ ?_)) (fun _ h => by repeat (first | exact h | refine List.mem_cons_of_mem _ ?_)))) ?_; clear hK
    refine t_one (i := 16) hF rfl (by kernel_rfl) rfl ?_
    intro K hK
    (refine e_mapUpdateN (ek := Value.int .u64) (z := .slice none 0 0) (keyOk_int rfl) hF hM rfl rfl rfl rfl trivial (fun _ _ => trivial) hb0 hcf2 ?_; clear hM; intro w hM)
    refine hK _ _ (fun h => by cases h) ?_; clear hK
    refine t_done (by kernel_rfl) ?_
    (repeat (first | fail))
    have hkp : kput x.1.d vB (esE E) = esE (E1.set j ⟨x.1.d, vB, EB, lookE x.1.d E ++ [x]⟩) := by
      rw [kput_add x.1.d vB (.slice none 0 0), hka, esE_set]
    rw [hkp] at hM
    (apply f_ret Try.results75 hF hM; (repeat (first | exact RL.nil | (apply RL.tmp; exact rfl) | (apply RL.cell; exact rfl; (repeat (first | exact List.mem_cons_self | refine List.mem_cons_of_mem _ ?_)); exact rfl))); refine Both.mk ?_; try dsimp only [resV])
    refine ⟨_, .slice aA (its.length + 1) cA, EA, hfin vB EB hRB, tab_put hTab hls x rfl vB EB, ?_, hM.sub (.cons _ (.refl _)) (.refl _) (fun _ h => h)⟩
    rw [cellsP_app, hcx]
    exact hRA
  ·
    intro K hK
    (refine x_lit hF hM rfl rfl rfl ?_; clear hF hM a; intro bl w a hM hF)
    refine hK _ _ (fun _ => (hM.sm.sub (fun x hx => by repeat (first | exact hx | refine List.mem_cons_of_mem _ ?_)) (fun _ h => by repeat (first | exact h | refine List.mem_cons_of_mem _ ?_)))) ?_; clear hK
    refine t_one (i := 12) hF rfl (by kernel_rfl) rfl ?_
    intro K hK
    (refine upon_value (e_lookupE (ek := Value.int .u64) (z := .slice none 0 0) (keyOk_int rfl) hF hM rfl (x := x.1.d) rfl rfl (by (repeat (first | exact List.mem_cons_self | refine List.mem_cons_of_mem _ ?_))) trivial (fun _ _ => trivial)) ?_; rw [hek2]; replace hF := hF.put (d := 26) rfl (.slice ae e.ps.length ce); generalize a.put (some 26) _ = a at *)
    refine hK _ _ (fun _ => (hM.sm.sub (fun x hx => by repeat (first | exact hx | refine List.mem_cons_of_mem _ ?_)) (fun _ h => by repeat (first | exact h | refine List.mem_cons_of_mem _ ?_)))) ?_; clear hK
    refine t_one (i := 15) hF rfl (by kernel_rfl) rfl ?_
    intro K hK
    (refine e_appO (k := L1.length + j + 1) (ys := itC x) (m := e.ps.length) (q := 1) hF (hM.sub (List.sublist_cons_self _ _) (.refl _) (fun _ h => h)) rfl rfl rfl hgl hRe rfl (litC hM List.mem_cons_self) (oneL_ok rfl) (by decide) ⟨by omega, by omega⟩ ?_; clear hM; intro vB EB w hRB hM; rw [rows_set EA EB L1 E1 j ⟨x.1.d, vB, EB, lookE x.1.d E ++ [x]⟩ rfl] at hM; replace hF := hF.put (d := 29) rfl vB; generalize a.put (some 29) _ = a at *)
    refine hK _ _ (fun _ => (hM.sm.sub (fun x hx => by repeat (first | exact hx | refine List.mem_cons_of_mem _ ?_)) (fun _ h => by repeat (first | exact h | refine List.mem_cons_of_mem _ ?_)))) ?_; clear hK
    refine t_one (i := 16) hF rfl (by kernel_rfl) rfl ?_
    intro K hK
    (refine e_mapUpdateN (ek := Value.int .u64) (z := .slice none 0 0) (keyOk_int rfl) hF hM rfl rfl rfl rfl trivial (fun _ _ => trivial) hb0 hcf2 ?_; clear hM; intro w hM)
    refine hK _ _ (fun h => by cases h) ?_; clear hK
    refine t_done (by kernel_rfl) ?_
    (repeat (first | fail))
    have hkp : kput x.1.d vB (esE E) = esE (E1.set j ⟨x.1.d, vB, EB, lookE x.1.d E ++ [x]⟩) := by
      rw [kput_add x.1.d vB (.slice none 0 0), hka, esE_set]
    rw [hkp] at hM
    (apply f_ret Try.results75 hF hM; (repeat (first | exact RL.nil | (apply RL.tmp; exact rfl) | (apply RL.cell; exact rfl; (repeat (first | exact List.mem_cons_self | refine List.mem_cons_of_mem _ ?_)); exact rfl))); refine Both.mk ?_; try dsimp only [resV])
    refine ⟨_, .slice aA (its.length + 1) cA, EA, hfin vB EB hRB, tab_put hTab hls x rfl vB EB, ?_, hM.sub (.cons _ (.refl _)) (.refl _) (fun _ h => h)⟩
    rw [cellsP_app, hcx]
    exact hRA
end
end Go.Proofs.Ytadfdpkhehdikaa

