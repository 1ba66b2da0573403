/- Copies; zeros appended; boxes and rows replaced; bytes as strings. -/
import Derived.Test.YtobflnjbdghnhaaGs
import Derived.Laws.CopyRow
import Derived.Laws.BytesArg
import Derived.Laws.Bits64b
import Derived.Deep.AppendSrc
import Derived.Lib.Bytes
set_option linter.unusedSimpArgs false
set_option linter.unusedVariables false
set_option linter.unusedSectionVars false
namespace Go.Proofs.Ytobflnjbdghnhaa
open Go.RowKit Go.Shelf
section
variable {n : Nat} {ds : List Deferred} {l : List (Nat × Value)} {a : Act} {w w' w0 : World} {own : Nat → Prop} {bs : List BoxE} {L : List Ent} {Fs : List (World → Prop)}
variable {os rest : List Oper} {Q : Exit → Act → World → Prop} {K : Act → World → Prop}
variable {d : Nat} {op : Op} {ty : TypeId} {pos : String} {af : Array Edge} {g : Option (Nat × Bool)}
/-! A box replaced -/
theorem Mem.boxTo (m : Mem w0 bs L w) (j : Nat) {b : Nat} {cs cs' : Array Value} {T T' : TypeId} (hj : bs[j]? = some ⟨b, cs, T⟩) (hb : Box w' b cs' T') (hg : w.grownBy w' (some b)) : Mem w0 (bs.set j ⟨b, cs', T'⟩) L w' := by
  have hmem := List.mem_of_getElem? hj
  have hjl : j < bs.length := by
    rcases Nat.lt_or_ge j bs.length with g | g
    · exact g
    · rw [List.getElem?_eq_none g] at hj; cases hj
  have hbj : bs[j] = ⟨b, cs, T⟩ := by rw [List.getElem?_eq_getElem hjl] at hj; injection hj
  have htwo := List.pairwise_iff_getElem.1 m.two
  have hne : ∀ (k : Nat) (hk : k < bs.length), k ≠ j → bs[k].b ≠ b := by
    intro k hk e
    rcases Nat.lt_or_ge k j with g | g
    · have := htwo k j hk hjl g; rw [hbj] at this; exact this
    · have := htwo j k hjl hk (by omega); rw [hbj] at this; exact fun e => this e.symm
  have hmems : ∀ x ∈ bs.set j ⟨b, cs', T'⟩, x = ⟨b, cs', T'⟩ ∨ (x ∈ bs ∧ x.b ≠ b) := by
    intro x hx
    obtain ⟨k, hk, hxk⟩ := List.getElem_of_mem hx
    rw [List.getElem_set] at hxk
    split at hxk
    · exact .inl hxk.symm
    · rename_i hn
      subst hxk
      have hk' : k < bs.length := by simpa using hk
      exact .inr ⟨List.getElem_mem _, hne k hk' (fun e => hn e.symm)⟩
  refine ⟨Below.grown m.since hg m.since.size (fun k e => by cases e; exact m.new _ hmem), ?_, ?_, ?_, ?_, ?_⟩
  · intro x hx
    rcases hmems x hx with rfl | ⟨h1, h2⟩
    · exact hb
    · exact (m.box x h1).grown hg (fun e => h2 (by injection e))
  · intro x hx
    rcases hmems x hx with rfl | ⟨h1, h2⟩
    · exact m.new ⟨b, cs, T⟩ hmem
    · exact m.new x h1
  · rw [List.pairwise_iff_getElem]
    intro x y hx hy hxy
    have hx' : x < bs.length := by simpa using hx
    have hy' : y < bs.length := by simpa using hy
    rw [List.getElem_set, List.getElem_set]
    by_cases e1 : j = x
    · rw [if_pos e1, if_neg (by omega)]; exact fun e => hne y hy' (by omega) e.symm
    · rw [if_neg e1]
      by_cases e2 : j = y
      · rw [if_pos e2]; exact hne x hx' (by omega)
      · rw [if_neg e2]; exact htwo x y hx' hy' hxy
  · exact m.own.of2 fun x hx k hk => hg.block k (m.own.lt hx k hk).2 (fun e => by injection e with e; exact m.far _ hmem x hx (by rw [hk, e]))
  · intro x hx y hy
    rcases hmems x hx with rfl | ⟨h1, h2⟩
    · exact m.far ⟨b, cs, T⟩ hmem y hy
    · exact m.far x h1 y hy
theorem Mm.boxTo (m : Mm own w0 bs L Fs w) {b : Nat} {cs cs' : Array Value} {T T' : TypeId} {bs' : List BoxE} (hu : Upd bs ⟨b, cs, T⟩ ⟨b, cs', T'⟩ bs') (hb : Box w' b cs' T') (hg : w.grownBy w' (some b)) : Mm own w0 bs' L Fs w' := by
  obtain ⟨k, hk, rfl⟩ := hu.get
  refine ⟨m.mem.boxTo k hk hb hg, m.low, fun f hf => ?_⟩
  have h1 : Has (ownOf own bs L) w' f :=
    (m.facts f hf).step (fun x hx hn => hg.block x hx (fun e => hn (.inr (.inl ⟨_, List.mem_of_getElem? hk, by injection e with e; exact e.symm⟩)))) hg.size
  exact h1.own_eq fun x hx => ownOf_set hk hx
theorem grownBy_setRow (w : World) (g : Nat) (cs : Array Value) : w.grownBy (w.setRow g cs) (some g) :=
  ⟨rfl, rfl, rfl, by simp [World.setRow], fun k _ hk => setRow_other w g k _ (fun e => hk (by rw [e]))⟩
/-! A row's cells replaced -/
theorem splice_take {α : Type} (C cs : List α) (o N : Nat) (h : o + cs.length ≤ N) (hC : N ≤ C.length) : (C.take o ++ cs ++ C.drop (o + cs.length)).take N = (C.take N).take o ++ cs ++ (C.take N).drop (o + cs.length) := by
  have h1 : (C.take o).length = o := by rw [List.length_take]; omega
  rw [List.take_append, List.take_of_length_le (by rw [List.length_append, h1]; omega), List.length_append, h1, List.take_take, Nat.min_eq_left (by omega), List.drop_take]
theorem Mm.rowTo (hM : Mm own w0 bs L Fs w) {k : Nat} {e : TypeId} {size m c gb : Nat} {xs : List Value} (hL : L[k]? = some ⟨e, size, .slice (some ⟨gb, 0, none⟩) m c, m, xs⟩) (o : Nat) (cs : List Value) (h : o + cs.length ≤ m * size) :
    ∃ cur : Array Value, w.heap[gb]? = some (.cells cur e (0, 0)) ∧ o + cs.length ≤ cur.size ∧ Mm own w0 bs (L.set k ⟨e, size, .slice (some ⟨gb, 0, none⟩) m c, m, xs.take o ++ cs ++ xs.drop (o + cs.length)⟩) Fs (w.setRow gb (cur.toList.take o ++ cs ++ cur.toList.drop (o + cs.length)).toArray) := by
  have hown := hM.mem.own.get hL
  obtain ⟨hlen, hr⟩ := hown
  rcases hr with ⟨h', _⟩ | ⟨g', cap', cur, h', h1, h2, h3, h4, h5, h6⟩
  · simp at h'
  · simp only [Value.slice.injEq, Option.some.injEq, Addr.mk.injEq, and_true] at h'
    obtain ⟨rfl, _, rfl⟩ := h'
    simp only at hlen h1 h2 h3 h4 h5 h6
    have hcur : m * size ≤ cur.size := by rw [h5]; exact Nat.mul_le_mul_right _ h3
    refine ⟨cur, h2, by omega, hM.app hL ⟨?_, .inr ⟨gb, c, _, rfl, h1, setRow_heap w gb cur _ e _ h2, h3, h4, ?_, ?_⟩⟩ (grownBy_setRow w gb _) (.inl rfl)⟩
    · simp only [List.length_append, List.length_take, List.length_drop]
      omega
    · rw [← h5]
      simp only [List.size_toArray, List.length_append, List.length_take, List.length_drop, Array.length_toList]
      omega
    · show (cur.toList.take o ++ cs ++ cur.toList.drop (o + cs.length)).take (m * size) = _
      rw [splice_take _ _ _ _ h (by simpa using hcur), h6]
/-- The run of a copy, whatever the elements' size. -/
theorem run_copy_gen {P : Program} (w : World) (dT sT ty elem : TypeId) (size g o dLen dCap : Nat) (a : Addr) (sLen sCap : Nat) (cur : Array Value) (t : TypeId) (cs : List Value)
    (hu : P.underlying dT = some (.slice elem)) (hs : (P.info? elem).map (·.size) = some size)
    (hg : w.heap[g]? = some (.cells cur t (0, 0))) (hn : cs.length = Nat.min sLen dLen * size)
    (hsrc : ∀ j v, cs[j]? = some v → w.cell? (a.add j) = some v) (hfit : o + cs.length ≤ cur.size) (h1 : ∀ v ∈ cs, v.oneCell' = true) :
    (Builtin.copy_ #[dT, sT] ty #[.slice (some ⟨g, o, none⟩) dLen dCap, .slice (some a) sLen sCap]).run P w =
      .ok (goInt (Nat.min sLen dLen)) (w.setRow g (cur.toList.take o ++ cs ++ cur.toList.drop (o + cs.length)).toArray) := by
  have hl := run_loadCells_list (P := P) w a cs hsrc
  have hst := run_storeCells_at P g o t cs 0 cur w hg (by simpa using hfit) h1
  cases hq : P.info? elem with
  | none => simp [hq] at hs
  | some i =>
    have hi : i.size = size := by simpa [hq] using hs
    simp [Builtin.copy_, run_underlying hu, Builtin.lenOf, Builtin.firstCells, sizeOf, typeInfo, hq, hi, ← hn, hl, hst]
theorem run_copy_zero {P : Program} (w : World) (dT sT ty elem : TypeId) (size : Nat) (D S : Option Addr) (dLen dCap sLen sCap : Nat) (hu : P.underlying dT = some (.slice elem)) (hs : (P.info? elem).map (·.size) = some size) (hn : Nat.min sLen dLen = 0) :
    (Builtin.copy_ #[dT, sT] ty #[.slice D dLen dCap, .slice S sLen sCap]).run P w = .ok (goInt 0) w := by
  cases hq : P.info? elem with
  | none => simp [hq] at hs
  | some i =>
    have hl : ∀ (x : Addr), (loadCells x 0).run P w = .ok #[] w := fun x => by simpa using run_loadCells_list (P := P) w x [] (by simp)
    cases D <;> cases S <;> simp [Builtin.copy_, run_underlying hu, Builtin.lenOf, Builtin.firstCells, sizeOf, typeInfo, hq, hn, storeCells, hl]
/-- copy to a slice of a box. -/
theorem e_copyB {α : Type} {enc : α → Value} {t s e T : TypeId} {size bytes b q c m c2 k : Nat} {ao : Option Addr} {ys : List α} {cs cs' : List Value} {bs' : List BoxE} {D X : Operand} {dst : Option Tmp} (hF : Fr n ds l a) (hM : Mm own w0 bs L Fs w) (hD : ev l D = some (.slice (some ⟨b, 0, none⟩) q c)) (hX : ev l X = some (.slice ao m c2)) (hf : RdF enc ao ys ∈ Fs) (he : elO t = some (e, size, bytes)) (h1 : ∀ y, (enc y).oneCell' = true)
    (hu : Upd bs ⟨b, ⟨cs⟩, T⟩ ⟨b, ⟨cs'⟩, T⟩ bs') (hy : ys.length = m * size) (hq : cs.length = q * size) (hk : Nat.min m q = k) (hcs : (ys.take (k * size)).map enc ++ cs.drop (k * size) = cs')
    (kk : ∀ w', Mm own w0 bs' L Fs w' → K (a.put dst (.int .i64 k)) w') : (⟨dst, .call ⟨.builtin .copy, #[D, X], #[t, s]⟩, ty, pos, af, g⟩ : Oper).wp Try.prog a w K Q := by
  obtain ⟨e1, e2, i, z, i1, i2, i3, i4, i5⟩ := elO_ok he
  obtain ⟨kb, hkb, rfl⟩ := hu.get
  have hbox := hM.mem.box _ (List.mem_of_getElem? hkb)
  have hsz : (Try.prog.info? e).map (·.size) = some size := by rw [i1]; simp [i3]
  have hrd := hM.fact hf
  have fin : ∀ w', (Builtin.copy_ #[t, s] ty #[.slice (some ⟨b, 0, none⟩) q c, .slice ao m c2]).run Try.prog w = .ok (goInt k) w' → Mm own w0 (bs.set kb ⟨b, ⟨cs'⟩, T⟩) L Fs w' → (⟨dst, .call ⟨.builtin .copy, #[D, X], #[t, s]⟩, ty, pos, af, g⟩ : Oper).wp Try.prog a w K Q := by
    intro w' hr hm
    unfold Oper.wp execOp
    simp only [resolve, invoke, builtin, Sem.run_bind, Sem.run_pure, Result.andThen_ok, List.map_toArray, List.map_cons, List.map_nil, hF.eval hD, hF.eval hX, hr]
    exact kk _ hm
  rcases Nat.eq_zero_or_pos k with h0 | h0
  · subst h0
    refine fin w (run_copy_zero w t s ty e size _ _ _ _ _ _ e1 hsz hk) (hM.boxTo hu ?_ ⟨rfl, rfl, rfl, Nat.le_refl _, fun _ _ _ => rfl⟩)
    rw [← hcs]
    simpa using hbox
  · have hm0 : 0 < m := by have := Nat.min_le_left m q; rw [show min m q = k from hk] at this; omega
    have hs0 : 0 < size := e2
    have hkm : k * size ≤ ys.length := by rw [hy]; exact Nat.mul_le_mul_right _ (by have := Nat.min_le_left m q; rw [show min m q = k from hk] at this; exact this)
    have hkq : k * size ≤ cs.length := by rw [hq]; exact Nat.mul_le_mul_right _ (by have := Nat.min_le_right m q; rw [show min m q = k from hk] at this; exact this)
    have hyl : 0 < ys.length := by rw [hy]; exact Nat.mul_pos hm0 hs0
    obtain ⟨ab, aoff, rfl, _, _⟩ := hrd 0 _ (List.getElem?_eq_getElem hyl)
    have hlen : ((ys.take (k * size)).map enc).length = k * size := by rw [List.length_map, List.length_take]; omega
    have hr := run_copy_gen w t s ty e size b 0 q c ⟨ab, aoff, none⟩ m c2 ⟨cs⟩ T ((ys.take (k * size)).map enc) e1 hsz hbox (by rw [hlen, hk]) ?_ (by rw [hlen]; simpa using hkq) (by intro v hv; obtain ⟨y, _, rfl⟩ := List.mem_map.1 hv; exact h1 y)
    · rw [hk] at hr
      refine fin _ hr (hM.boxTo hu ?_ (grownBy_setRow _ _ _))
      have hst := setRow_heap w b ⟨cs⟩ (((⟨cs⟩ : Array Value).toList.take 0 ++ (ys.take (k * size)).map enc ++ (⟨cs⟩ : Array Value).toList.drop (0 + ((ys.take (k * size)).map enc).length)).toArray) T (0, 0) hbox
      have e3 : (((⟨cs⟩ : Array Value).toList.take 0 ++ (ys.take (k * size)).map enc ++ (⟨cs⟩ : Array Value).toList.drop (0 + ((ys.take (k * size)).map enc).length)).toArray) = ⟨cs'⟩ := by
        rw [← hcs, hlen]; simp
      rw [e3] at hst
      rw [e3]
      exact hst
    · intro j v hj
      rw [List.getElem?_map, List.getElem?_take] at hj
      split at hj
      · cases hyj : ys[j]? with
        | none => rw [hyj] at hj; simp at hj
        | some y =>
          rw [hyj] at hj
          simp only [Option.map_some, Option.some.injEq] at hj
          subst hj
          obtain ⟨b', off', e4, _, e5⟩ := hrd j y hyj
          simp only [Option.some.injEq, Addr.mk.injEq, and_true] at e4
          obtain ⟨rfl, rfl⟩ := e4
          rw [add_lit]
          exact e5
      · simp at hj
/-- copy into a row. -/
theorem e_copyR {t s e e' : TypeId} {size size' bytes gb off q c m m2 c2 c' j : Nat} {ad : Addr} {cs xs : List Value} {D X : Operand} {dst : Option Tmp} (hF : Fr n ds l a) (hM : Mm own w0 bs L Fs w) (hD : ev l D = some (.slice (some ⟨gb, off, none⟩) q c)) (hX : ev l X = some (.slice (some ad) m2 c2)) (he : elO t = some (e, size, bytes)) (h1 : ∀ v ∈ cs, v.oneCell' = true)
    (hL : Kth L j ⟨e', size', .slice (some ⟨gb, 0, none⟩) m c', m, xs⟩) (hn : cs.length = Nat.min m2 q * size) (hsrc : ∀ i v, cs[i]? = some v → w.cell? (ad.add i) = some v) (hfit : off + cs.length ≤ m * size')
    (kk : ∀ w', Mm own w0 bs (L.set j ⟨e', size', .slice (some ⟨gb, 0, none⟩) m c', m, xs.take off ++ cs ++ xs.drop (off + cs.length)⟩) Fs w' → K (a.put dst (.int .i64 (Nat.min m2 q : Nat))) w') : (⟨dst, .call ⟨.builtin .copy, #[D, X], #[t, s]⟩, ty, pos, af, g⟩ : Oper).wp Try.prog a w K Q := by
  obtain ⟨e1, e2, i, z, i1, i2, i3, i4, i5⟩ := elO_ok he
  have hsz : (Try.prog.info? e).map (·.size) = some size := by rw [i1]; simp [i3]
  obtain ⟨cur, hc1, hc2, hm⟩ := hM.rowTo hL.get off cs hfit
  have hr := run_copy_gen w t s ty e size gb off q c ad m2 c2 cur e' cs e1 hsz hc1 hn hsrc hc2 h1
  unfold Oper.wp execOp
  simp only [resolve, invoke, builtin, Sem.run_bind, Sem.run_pure, Result.andThen_ok, List.map_toArray, List.map_cons, List.map_nil, hF.eval hD, hF.eval hX, hr]
  exact kk _ hm
/-! Bytes as strings -/
theorem e_b2s {src dst' e : TypeId} {X : Operand} {ao : Option Addr} {xs : List Int} {m c : Nat} (hF : Fr n ds l a) (hM : Mm own w0 bs L Fs w) (hX : ev l X = some (.slice ao m c)) (hf : RdF (Value.int .u8) ao xs ∈ Fs) (h1 : tyD src = some (.slice e)) (h2 : tyD e = some (.int .u8)) (h3 : tyD dst' = some .string) (hm : xs.length = m) {dst : Option Tmp} :
    (execOp a.eval ⟨dst, .convert src dst' X, ty, pos, af, g⟩).run Try.prog w = .ok (.value (.string (strOfNums xs))) w := by
  have hrd := hM.fact hf
  have key : (convert src dst' (.slice ao m c)).run Try.prog w = .ok (.string (strOfNums xs)) w := by
    rcases Nat.eq_zero_or_pos m with h0 | h0
    · obtain rfl : xs = [] := List.length_eq_zero_iff.1 (by omega)
      cases ao with
      | none => exact run_convert_bytes_nil w src e (tyD_ok h1) (tyD_ok h2) m c dst' (tyD_ok h3)
      | some ad =>
        subst h0
        rw [run_convert_bytes_string w src dst' e _ 0 c (tyD_ok h1) (tyD_ok h2) (tyD_ok h3), run_bytesToString w ad 0 c [] (by simpa using run_loadCells_list (P := Try.prog) w ad [] (by simp))]
        rfl
    · obtain ⟨b, off, rfl, _, _⟩ := hrd 0 _ (List.getElem?_eq_getElem (by omega))
      refine run_convert_bytes_arg w src e (tyD_ok h1) (tyD_ok h2) b off m c xs hm (fun i hi => ?_) dst' (tyD_ok h3)
      obtain ⟨b', off', e4, _, e5⟩ := hrd i xs[i] (List.getElem?_eq_getElem (by omega))
      simp only [Option.some.injEq, Addr.mk.injEq, and_true] at e4
      obtain ⟨rfl, rfl⟩ := e4
      rw [e5]
      simp [List.getD, List.getElem?_eq_getElem (show i < xs.length by omega)]
  simp only [execOp, hF.eval hX]
  simp [Sem.run_bind, key, Result.andThen]
theorem s_b2s {src dst' e : TypeId} {X : Operand} {ao : Option Addr} {xs : List Int} {m c : Nat} (hF : Fr n ds l a) (hM : Mm own w0 bs L Fs w) (hg : wantO os l g = some true) (hX : ev l X = some (.slice ao m c)) (hf : RdF (Value.int .u8) ao xs ∈ Fs) (h1 : tyD src = some (.slice e)) (h2 : tyD e = some (.int .u8)) (h3 : tyD dst' = some .string) (hd : Nat.blt d n = true) (hm : xs.length = m)
    (kk : ∀ a, Fr n ds ((d, .string (strOfNums xs)) :: l) a → wl ⟨os⟩ Q rest a w) : wl ⟨os⟩ Q (⟨some d, .convert src dst' X, ty, pos, af, g⟩ :: rest) a w :=
  s_op hF hg fun _ hK => upon_value (e_b2s hF hM hX hf h1 h2 h3 hm) (hK _ _ (kk _ (hF.put hd _)))
theorem strOf_inj {xs ys : List Int} (hx : ∀ x ∈ xs, 0 ≤ x ∧ x < 256) (hy : ∀ y ∈ ys, 0 ≤ y ∧ y < 256) : strOfNums xs = strOfNums ys ↔ xs = ys := by
  refine ⟨fun h => ?_, fun h => by rw [h]⟩
  have h2 := congrArg (fun b : ByteArray => b.data.toList) h
  simp only [strOfNums_data] at h2
  clear h
  induction xs generalizing ys with
  | nil => cases ys with
    | nil => rfl
    | cons y ys => simp at h2
  | cons x xs ih => cases ys with
    | nil => simp at h2
    | cons y ys =>
      rw [List.map_cons, List.map_cons, List.cons.injEq] at h2
      have hx0 := hx x (by simp)
      have hy0 := hy y (by simp)
      have e := congrArg UInt8.toNat h2.1
      simp only [UInt8.toNat_ofNat'] at e
      have : x = y := by omega
      rw [this, ih (fun z hz => hx z (List.mem_cons_of_mem _ hz)) (fun z hz => hy z (List.mem_cons_of_mem _ hz)) h2.2]
theorem strOf_beq {xs ys : List Int} (hx : ∀ x ∈ xs, 0 ≤ x ∧ x < 256) (hy : ∀ y ∈ ys, 0 ≤ y ∧ y < 256) : ((strOfNums xs).toList == (strOfNums ys).toList) = decide (xs = ys) := by
  rw [Lib.toList_data, Lib.toList_data]
  by_cases h : xs = ys
  · subst h; simp
  · rw [decide_eq_false h]
    simp only [beq_eq_false_iff_ne, ne_eq]
    intro e
    refine h ((strOf_inj hx hy).1 ?_)
    have : (strOfNums xs).data = (strOfNums ys).data := Array.ext' e
    generalize strOfNums xs = A at *
    generalize strOfNums ys = B at *
    cases A; cases B
    simp only at this
    rw [this]
theorem e_eqS {t t' : TypeId} {X Y : Operand} {xs ys : List Int} (hF : Fr n ds l a) (hX : ev l X = some (.string (strOfNums xs))) (hY : ev l Y = some (.string (strOfNums ys))) (hg : Try.prog.eqGuardType Try.prog.depth t = false) (hx : ∀ x ∈ xs, 0 ≤ x ∧ x < 256) (hy : ∀ y ∈ ys, 0 ≤ y ∧ y < 256) (w : World) {dst : Option Tmp} :
    (execOp a.eval ⟨dst, .binOp .eql t X Y t', ty, pos, af, g⟩).run Try.prog w = .ok (.value (.bool (decide (xs = ys)))) w := by
  simp [execOp, hF.eval hX, hF.eval hY, eqGuard, Sem.run_bind, Result.andThen, hg, binOp, Op.stringOp, strOf_beq hx hy]
theorem s_eqS {t t' : TypeId} {X Y : Operand} {xs ys : List Int} (hF : Fr n ds l a) (hg : wantO os l g = some true) (hX : ev l X = some (.string (strOfNums xs))) (hY : ev l Y = some (.string (strOfNums ys))) (hq : Try.prog.eqGuardType Try.prog.depth t = false) (hd : Nat.blt d n = true) (hx : ∀ x ∈ xs, 0 ≤ x ∧ x < 256) (hy : ∀ y ∈ ys, 0 ≤ y ∧ y < 256)
    (kk : ∀ a, Fr n ds ((d, .bool (decide (xs = ys))) :: l) a → wl ⟨os⟩ Q rest a w) : wl ⟨os⟩ Q (⟨some d, .binOp .eql t X Y t', ty, pos, af, g⟩ :: rest) a w :=
  s_op hF hg fun _ hK => upon_value (e_eqS hF hX hY hq hx hy w) (hK _ _ (kk _ (hF.put hd _)))
end
end Go.Proofs.Ytobflnjbdghnhaa
