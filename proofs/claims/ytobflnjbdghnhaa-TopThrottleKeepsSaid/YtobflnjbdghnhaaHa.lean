/- Fields of elements of slices: their addresses, loads and stores; rows of elements of any size appended. -/
import Derived.Test.YtobflnjbdghnhaaGz
import Derived.Test.YtobflnjbdghnhaaGw
set_option linter.unusedSimpArgs false
set_option linter.unusedVariables false
set_option linter.unusedSectionVars false
namespace Go.Proofs.Ytobflnjbdghnhaa
open Go.RowKit Go.Shelf
section
variable {n : Nat} {ds : List Deferred} {l : List (Nat × Value)} {a : Act} {w w' w0 : World} {own : Nat → Prop} {bs : List BoxE} {L : List Ent} {Fs : List (World → Prop)}
variable {os rest : List Oper} {Q : Exit → Act → World → Prop} {K : Act → World → Prop}
variable {d : Nat} {op : Op} {ty : TypeId} {pos : String} {af : Array Edge} {g : Option (Nat × Bool)}
variable {tail : Nat → Bool} {fuel i : Nat} {listed : Array Bool} {bs0 : List BoxE} {Fs0 : List (World → Prop)}
/-- Where a field lies. -/
def fldO (s : TypeId) (i : Nat) : Option Nat := match tyD s with
  | some (.struct ⟨fs⟩) => match getO fs i with
    | some f => match tyS f.type with
      | some (_ + 1) => some f.offset
      | _ => none
    | none => none
  | _ => none
/-- The address of a part of an element. -/
@[irreducible] def adrP (a : Addr) (j : Int) (m q : Nat) : Addr := (adr a j m).add q
theorem e_fieldA {s : TypeId} {X : Operand} {ad : Addr} {j : Int} {m q : Nat} (hF : Fr n ds l a) (hX : ev l X = some (.pointer (some (adr ad j m)))) (hq : fldO s i = some q) (w : World) {dst : Option Tmp} :
    (execOp a.eval ⟨dst, .fieldAddr s X i, ty, pos, af, g⟩).run Try.prog w = .ok (.value (.pointer (some (adrP ad j m q)))) w := by
  unfold fldO at hq
  split at hq
  · rename_i fs hs
    split at hq
    · rename_i f hf
      split at hq
      · rename_i k hm
        injection hq with hq
        have := fieldAt_ok (a := adr ad j m) hs hf hm w
        simp only [execOp, hF.eval hX]
        rw [Sem.run_bind, this]
        unfold adrP
        rw [hq]
        rfl
      · cases hq
    · cases hq
  · cases hq
theorem s_fieldA {s : TypeId} {X : Operand} {ad : Addr} {j : Int} {m q : Nat} (hF : Fr n ds l a) (hg : wantO os l g = some true) (hX : ev l X = some (.pointer (some (adr ad j m)))) (hq : fldO s i = some q) (hd : Nat.blt d n = true)
    (kk : ∀ a, Fr n ds ((d, .pointer (some (adrP ad j m q))) :: l) a → wl ⟨os⟩ Q rest a w) : wl ⟨os⟩ Q (⟨some d, .fieldAddr s X i, ty, pos, af, g⟩ :: rest) a w :=
  s_op hF hg fun _ hK => upon_value (e_fieldA hF hX hq w) (hK _ _ (kk _ (hF.put hd _)))
theorem t_fieldA {p : Nat} {s : TypeId} {X : Operand} {ad : Addr} {j : Int} {m q : Nat} (hF : Fr n ds l a) (hi : getO os i = some ⟨some d, .fieldAddr s X p, ty, pos, af, g⟩) (hg : wantO os l g = some true) (hX : ev l X = some (.pointer (some (adr ad j m)))) (hq : fldO s p = some q) (hd : Nat.blt d n = true) (hb : takeB os tail listed i = true) (hS : Sm bs0 Fs0 w) (hQ : ∀ c a w, Q (.panic c) (a.put (some d) (.pointer (some (adrP ad j m q)))) w → Q (.panic c) a w)
    (kk : ∀ a, Fr n ds ((d, .pointer (some (adrP ad j m q))) :: l) a → wpAnyT Try.prog .any ⟨os⟩ Q (Sm bs0 Fs0) tail fuel (listed.setIfInBounds i true) a w) : wpAnyT Try.prog .any ⟨os⟩ Q (Sm bs0 Fs0) tail (fuel + 1) listed a w :=
  t_take hi hb hQ (.inl ⟨wantO_ok (o := ⟨some d, .fieldAddr s X p, ty, pos, af, g⟩) hF hg, fun w _ => e_fieldA hF hX hq w⟩) hS (kk _ (hF.put hd _))
theorem x_fieldA {s : TypeId} {X : Operand} {ad : Addr} {j : Int} {m q : Nat} (hF : Fr n ds l a) (hX : ev l X = some (.pointer (some (adr ad j m)))) (hq : fldO s i = some q) (hd : Nat.blt d n = true) (kk : ∀ a, Fr n ds ((d, .pointer (some (adrP ad j m q))) :: l) a → K a w) : (⟨some d, .fieldAddr s X i, ty, pos, af, g⟩ : Oper).wp Try.prog a w K Q :=
  upon_value (e_fieldA hF hX hq w) (kk _ (hF.put hd _))
theorem e_loadP {α : Type} {enc : α → Value} {T : TypeId} {X : Operand} {ad : Addr} {j : Int} {m q : Nat} {xs : List α} {x : α} (hF : Fr n ds l a) (hX : ev l X = some (.pointer (some (adrP ad j m q)))) (hr : Reads enc w (some ad) xs) (hx : xs[j.toNat * m + q]? = some x) (hT : sclO T = some ()) :
    (execOp a.eval ⟨some d, .load T X, ty, pos, af, g⟩).run Try.prog w = .ok (.value (enc x)) w := by
  obtain ⟨b, off, e, hb, hc⟩ := hr _ x hx
  injection e with e
  subst e
  have hadr : adrP ⟨b, off, none⟩ j m q = ⟨b, off + (j.toNat * m + q), none⟩ := by unfold adrP adr; rw [add_lit, add_lit, Nat.add_assoc]
  unfold sclO at hT
  split at hT
  · rename_i i hi
    split at hT
    · rename_i ha
      have hagg := (te_ok hi).agg w
      rw [ha] at hagg
      simp [execOp, hF.eval hX, Instr.loadAt, Instr.sureAddr, Sem.run_bind, loadVar, hadr, hagg, Result.andThen, load, Sem.run, hc]
    · cases hT
  · cases hT
theorem s_loadP {α : Type} {enc : α → Value} {T : TypeId} {X : Operand} {ad : Addr} {j : Int} {m q : Nat} {xs : List α} {x : α} (hF : Fr n ds l a) (hM : Mm own w0 bs L Fs w) (hg : wantO os l g = some true) (hX : ev l X = some (.pointer (some (adrP ad j m q)))) (hr : RdF enc (some ad) xs ∈ Fs) (hT : sclO T = some ()) (hd : Nat.blt d n = true) (hx : xs[j.toNat * m + q]? = some x)
    (k : ∀ a, Fr n ds ((d, enc x) :: l) a → wl ⟨os⟩ Q rest a w) : wl ⟨os⟩ Q (⟨some d, .load T X, ty, pos, af, g⟩ :: rest) a w :=
  s_op hF hg fun _ hK => upon_value (e_loadP hF hX (hM.fact hr) hx hT) (hK _ _ (k _ (hF.put hd _)))
theorem t_loadP {α : Type} {enc : α → Value} {T : TypeId} {X : Operand} {ad : Addr} {z : Int} {m q : Nat} {xs : List α} {x : α} (hF : Fr n ds l a) (hi : getO os i = some ⟨some d, .load T X, ty, pos, af, g⟩) (hg : wantO os l g = some true) (hX : ev l X = some (.pointer (some (adrP ad z m q)))) (hr : RdF enc (some ad) xs ∈ Fs0) (hx : xs[z.toNat * m + q]? = some x) (hT : sclO T = some ()) (hd : Nat.blt d n = true) (hb : takeB os tail listed i = true) (hS : Sm bs0 Fs0 w) (hQ : ∀ c a w, Q (.panic c) (a.put (some d) (enc x)) w → Q (.panic c) a w)
    (k : ∀ a, Fr n ds ((d, enc x) :: l) a → wpAnyT Try.prog .any ⟨os⟩ Q (Sm bs0 Fs0) tail fuel (listed.setIfInBounds i true) a w) : wpAnyT Try.prog .any ⟨os⟩ Q (Sm bs0 Fs0) tail (fuel + 1) listed a w :=
  t_take hi hb hQ (.inl ⟨wantO_ok (o := ⟨some d, .load T X, ty, pos, af, g⟩) hF hg, fun _ h => e_loadP hF hX (h.2 _ hr) hx hT⟩) hS (k _ (hF.put hd _))
/-- A part of an element of a row, stored. -/
theorem s_storeP {T e : TypeId} {size q : Nat} {X Y : Operand} {ad : Addr} {j : Int} {m c k : Nat} {xs vs : List Value} {v : Value} (hF : Fr n ds l a) (hM : Mm own w0 bs L Fs w) (hg : wantO os l g = some true) (hX : ev l X = some (.pointer (some (adrP ad j size q)))) (hL : Kth L k ⟨e, size, .slice (some ad) m c, m, xs⟩) (hY : ev l Y = some v) (hv : cellsO v = some vs)
    (hT : tyS T = some vs.length) (h1 : oneL vs = true) (hz : Nat.ble (q + vs.length) size = true) (hj : j.toNat < m)
    (kk : ∀ w', Mm own w0 bs (L.set k ⟨e, size, .slice (some ad) m c, m, xs.take (j.toNat * size + q) ++ vs ++ xs.drop (j.toNat * size + q + vs.length)⟩) Fs w' → wl ⟨os⟩ Q rest a w') :
    wl ⟨os⟩ Q (⟨none, .store T X Y, ty, pos, af, g⟩ :: rest) a w := by
  refine s_op hF hg fun _ hK => ?_
  obtain ⟨gb, rfl⟩ := row_zero (hM.mem.own.get hL.get)
  have hadr : adrP ⟨gb, 0, none⟩ j size q = ⟨gb, j.toNat * size + q, none⟩ := by
    unfold adrP adr
    rw [add_lit, add_lit, Nat.zero_add]
  rw [hadr] at hX
  have hz2 := Nat.le_of_ble_eq_true hz
  have hfit : j.toNat * size + q + vs.length ≤ m * size := by
    have : (j.toNat + 1) * size ≤ m * size := Nat.mul_le_mul_right _ hj
    rw [Nat.add_mul, Nat.one_mul] at this
    omega
  obtain ⟨cur, hc1, hc2, hm⟩ := hM.rowTo hL.get (j.toNat * size + q) vs hfit
  have hst := run_storeCells_at Try.prog gb (j.toNat * size + q) e vs 0 cur w hc1 (by simpa using hc2) (oneL_ok h1)
  simp only [Nat.add_zero] at hst
  refine upon_skip' (w' := w.setRow gb (cur.toList.take (j.toNat * size + q) ++ vs ++ cur.toList.drop (j.toNat * size + q + vs.length)).toArray) ?_ (hK _ _ (kk _ hm))
  simp only [execOp, Instr.storeAt, Sem.run_bind, hF.eval hX, hF.eval hY, Instr.sureAddr, storeVar, cellsO_ok hv, tyS_run hT, Result.andThen, Sem.run_pure, List.toList_toArray, hst]
  simp [hst, Result.andThen]
/-- append of a slice that is read only, of elements of any size. -/
theorem s_appN {α : Type} {enc : α → Value} {t e : TypeId} {bytes size q : Nat} {S X : Operand} {v : Value} {m k c : Nat} {xs : List Value} {ys : List α} {ao : Option Addr} (hF : Fr n ds l a) (hM : Mm own w0 bs L Fs w) (hg : wantO os l g = some true) (hX : ev l X = some (.slice ao q c)) (hf : RdF enc ao ys ∈ Fs) (hS : ev l S = some v) (he : elO t = some (e, size, bytes)) (hq : ys.length = q * size)
    (hL : Kth L k ⟨e, size, v, m, xs⟩) (h1 : ∀ y, (enc y).oneCell' = true) (hd : Nat.blt d n = true) (hb : (m + q) * bytes ≤ 140737488355328 ∧ m + q ≤ 9223372036854775807)
    (kk : ∀ a' cap w' a, Mm own w0 bs (L.set k ⟨e, size, .slice a' (m + q) cap, m + q, xs ++ ys.map enc⟩) Fs w' → Fr n ds ((d, .slice a' (m + q) cap) :: l) a → wl ⟨os⟩ Q rest a w') :
    wl ⟨os⟩ Q (⟨some d, .call ⟨.builtin .append, #[S, X], #[t, t]⟩, ty, pos, af, g⟩ :: rest) a w := by
  have hrd := hM.fact hf
  rcases Nat.eq_zero_or_pos q with h0 | h0
  · subst h0
    rw [Nat.zero_mul] at hq
    obtain rfl := List.length_eq_zero_iff.1 hq
    obtain ⟨e1, e2, i, z, i1, i2, i3, i4, i5⟩ := elO_ok he
    have hown := hM.mem.own.get hL.get
    obtain ⟨a', cap, rfl, hle⟩ : ∃ a' cap, v = .slice a' m cap ∧ m ≤ cap := by
      rcases hown.2 with ⟨h', h2⟩ | ⟨g', cap', cur, h', _, _, h3, _⟩
      · simp only at h' h2; exact ⟨none, 0, by rw [h', h2], by omega⟩
      · exact ⟨_, _, h', h3⟩
    have hset : L.set k ⟨e, size, .slice a' m cap, m, xs⟩ = L := by
      apply List.ext_getElem?
      intro q
      rw [List.getElem?_set]
      split
      · rename_i hq; subst hq
        split
        · exact hL.get.symm
        · rename_i hn; rw [List.getElem?_eq_none (by omega)]
      · rfl
    refine s_op hF hg fun _ hK => ?_
    have hsrc : Src Try.prog i.size t (.slice ao 0 c) 0 [] w := by
      cases ao with
      | none => exact Src.ofNil w e1 c
      | some ad => exact Src.ofSlice w e1 ad 0 c [] (by simp) (by simp) (by simp)
    have hr := run_append_nothing (P := Try.prog) w t t ty e i e1 i1 a' m cap hle _ hsrc
    unfold Oper.wp execOp
    simp only [resolve, invoke, builtin, Sem.run_bind, Sem.run_pure, Result.andThen_ok, List.map_toArray, List.map_cons, List.map_nil, hF.eval hS, hF.eval hX, List.length_nil, hr]
    exact hK _ _ (kk a' cap w _ (by simpa [hset] using hM) (hF.put hd _))
  · have hlen : 0 < ys.length := by rw [hq]; exact Nat.mul_pos h0 (elO_ok he).2.1
    obtain ⟨b, off, rfl, _, _⟩ := hrd 0 _ (List.getElem?_eq_getElem hlen)
    refine s_op hF hg fun _ hK => e_app hF hM hS hX he hL (ys := ys.map enc) (by simpa using hq) ?_ (by intro u hu; obtain ⟨y, _, rfl⟩ := List.mem_map.1 hu; exact h1 y) h0 hb fun g cap w' h => hK _ _ (kk _ cap w' _ h (hF.put hd _))
    intro j u hu
    rw [List.getElem?_map] at hu
    cases hy : ys[j]? with
    | none => rw [hy] at hu; simp at hu
    | some y =>
      rw [hy] at hu
      simp only [Option.map_some, Option.some.injEq] at hu
      obtain ⟨b', off', e1, _, e2⟩ := hrd j y hy
      simp only [Option.some.injEq, Addr.mk.injEq, and_true] at e1
      obtain ⟨rfl, rfl⟩ := e1
      rw [add_lit, e2, hu]
/-- A row, as a fact. -/
theorem Mm.rowFactN {α : Type} {enc : α → Value} (m : Mm own w0 bs L Fs w) {e : TypeId} {sz : Nat} {a : Option Addr} {n c : Nat} {xs : List α} (h : ⟨e, sz, .slice a n c, n, xs.map enc⟩ ∈ L) : Has own w (RdF enc a xs) := by
  have ho : w.ownsRow w0.heap.size e sz (.slice a n c) n (xs.map enc) := m.mem.own.own _ h
  refine RdF.has (own_readsN ho) ?_
  rintro ad rfl hn
  have h1 := m.mem.own.lt h ad.block rfl
  have := m.low _ hn
  omega
end
end Go.Proofs.Ytobflnjbdghnhaa
