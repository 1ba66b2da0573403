/- Rows of which a part is used: what is behind it is appended to. -/
import Derived.Test.YtobflnjbdghnhaaGu
import Derived.ArgAppend
set_option linter.unusedSimpArgs false
set_option linter.unusedVariables false
set_option linter.unusedSectionVars false
namespace Go.Proofs.Ytobflnjbdghnhaa
open Go.RowKit Go.Shelf
section
variable {n : Nat} {ds : List Deferred} {l : List (Nat × Value)} {a : Act} {w w' w0 : World} {own : Nat → Prop} {bs : List BoxE} {L : List Ent} {Fs : List (World → Prop)}
variable {os rest : List Oper} {Q : Exit → Act → World → Prop} {K : Act → World → Prop}
variable {d : Nat} {op : Op} {ty : TypeId} {pos : String} {af : Array Edge} {g : Option (Nat × Bool)}
/-- A slice that is the end of an owned row. -/
def OffR (e : TypeId) (size : Nat) (v : Value) (m : Nat) (xs : List Value) (E : Ent) : Prop :=
  E.e = e ∧ E.size = size ∧ xs.length = m * size ∧
  ((v = .slice none 0 0 ∧ m = 0 ∧ E.v = .slice none 0 0) ∨ (∃ ad, v = .slice (some ad) 0 0 ∧ m = 0) ∨
   ∃ g off cap pre, v = .slice (some ⟨g, off * size, none⟩) m cap ∧ pre.length = off * size ∧ E.v = .slice (some ⟨g, 0, none⟩) (off + m) (off + cap) ∧ E.n = off + m ∧ E.xs = pre ++ xs)
theorem OffR.plain {e : TypeId} {size : Nat} {v : Value} {m : Nat} {xs : List Value} (hM : Mm own w0 bs L Fs w) (h : (⟨e, size, v, m, xs⟩ : Ent) ∈ L) : OffR e size v m xs ⟨e, size, v, m, xs⟩ := by
  have ho := hM.mem.own.own _ h
  refine ⟨rfl, rfl, ho.1, ?_⟩
  rcases ho.2 with ⟨h1, h2⟩ | ⟨g, cap, cur, h1, _⟩
  · exact .inl ⟨h1, h2, h1⟩
  · refine .inr (.inr ⟨g, 0, cap, [], ?_, by simp, ?_, ?_, rfl⟩)
    · rw [Nat.zero_mul]; exact h1
    · rw [Nat.zero_add, Nat.zero_add]; exact h1
    · exact (Nat.zero_add _).symm
theorem OffR.nil {e : TypeId} {size : Nat} : OffR e size (.slice none 0 0) 0 [] ⟨e, size, .slice none 0 0, 0, []⟩ := ⟨rfl, rfl, by simp, .inl ⟨rfl, rfl, rfl⟩⟩
theorem OffR.shape {e : TypeId} {size : Nat} {v : Value} {m : Nat} {xs : List Value} {E : Ent} (hM : Mm own w0 bs L Fs w) {k : Nat} (hL : L[k]? = some E) (h : OffR e size v m xs E) : ∃ ao c, v = .slice ao m c ∧ m ≤ c ∧ (0 < m → ∃ ad, ao = some ad) := by
  obtain ⟨h1, h2, h3, h4⟩ := h
  rcases h4 with ⟨h, rfl, _⟩ | ⟨ad, h, rfl⟩ | ⟨g, off, cap, pre, h5, h6, h7, h8, h9⟩
  · exact ⟨_, _, h, Nat.le_refl _, fun q => by omega⟩
  · exact ⟨_, _, h, Nat.le_refl _, fun q => by omega⟩
  · refine ⟨_, _, h5, ?_, fun _ => ⟨_, rfl⟩⟩
    rcases (hM.mem.own.get hL).2 with ⟨p1, p2⟩ | ⟨g', cap', cur, p1, p2, p3, p4, _⟩
    · rw [h7] at p1; cases p1
    · rw [h7] at p1
      injection p1 with p1 p5 p6
      omega
/-- The cells of such a slice. -/
theorem OffR.cells {e : TypeId} {size : Nat} {ao : Option Addr} {ad : Addr} {m c : Nat} {xs : List Value} {E : Ent} (hM : Mm own w0 bs L Fs w) {k : Nat} (hL : L[k]? = some E) (h : OffR e size (.slice ao m c) m xs E) (ha : ao = some ad) : ∀ j u, xs[j]? = some u → w.cell? (ad.add j) = some u := by
  subst ha
  obtain ⟨h1, h2, h3, h4⟩ := h
  have he : ∀ j u, m = 0 → xs[j]? = some u → w.cell? (ad.add j) = some u := by
    intro j u h0 hu
    rw [h0, Nat.zero_mul] at h3
    rw [List.eq_nil_of_length_eq_zero h3] at hu
    simp at hu
  rcases h4 with ⟨h, _⟩ | ⟨ad', h, h0⟩ | ⟨g, off, cap, pre, h5, h6, h7, h8, h9⟩
  · cases h
  · exact fun j u => he j u h0
  · intro j u hu
    injection h5 with h5
    injection h5 with h5
    subst h5
    have hc := (hM.mem.own.get hL).cells (g := g) (by rw [h7]; rfl) (off * size + j) u (by rw [h9, List.getElem?_append_right (by omega), h6, Nat.add_sub_cancel_left]; exact hu)
    rw [add_lit] at hc ⊢
    rw [← hc]
    congr 2
    omega
/-- A part of such a slice. -/
theorem OffR.drop {e : TypeId} {size : Nat} {ao : Option Addr} {m c : Nat} {xs : List Value} {E : Ent} (hM : Mm own w0 bs L Fs w) {k : Nat} (hL : L[k]? = some E) (h : OffR e size (.slice ao m c) m xs E) (q : Nat) (hq : q ≤ m) : OffR e size (.slice (sadr ao q c size) (m - q) (c - q)) (m - q) (xs.drop (q * size)) E := by
  obtain ⟨ao', c', e1, hmc, _⟩ := OffR.shape hM hL h
  injection e1 with e1 _ e2
  subst e1
  subst e2
  obtain ⟨h1, h2, h3, h4⟩ := h
  refine ⟨h1, h2, by rw [List.length_drop, h3, Nat.sub_mul], ?_⟩
  rcases h4 with ⟨h, h0, h5⟩ | ⟨ad, h, h0⟩ | ⟨g, off, cap, pre, h5, h6, h7, h8, h9⟩
  · injection h with ha hb hc
    subst ha
    subst hc
    subst h0
    refine .inl ⟨?_, by omega, h5⟩
    unfold sadr
    simp
  · injection h with ha hb hc
    subst ha
    subst hc
    subst h0
    refine .inr (.inl ⟨ad, ?_, by omega⟩)
    obtain rfl : q = 0 := by omega
    unfold sadr
    simp
  · injection h5 with ha hb hc
    subst ha
    subst hc
    by_cases hcq : c = q
    · subst hcq
      refine .inr (.inl ⟨⟨g, off * size, none⟩, ?_, by omega⟩)
      unfold sadr
      rw [if_pos rfl]
      congr 1
      · omega
      · omega
    · refine .inr (.inr ⟨g, off + q, c - q, pre ++ xs.take (q * size), ?_, ?_, ?_, ?_, ?_⟩)
      · unfold sadr
        rw [if_neg hcq, Option.map_some, add_lit, Nat.add_mul]
      · rw [List.length_append, List.length_take, h6, h3, Nat.add_mul]
        have : q * size ≤ m * size := Nat.mul_le_mul_right _ hq
        omega
      · rw [h7]
        congr 1 <;> omega
      · omega
      · rw [h9, List.append_assoc, List.take_append_drop]
theorem run_append_off (t ty e : TypeId) (i : TypeInfo) (z : Value) (size bytes : Nat) (ht : Try.prog.underlying t = some (.slice e)) (hi : Try.prog.info? e = some i) (hz : i.zero = some z)
    (hsize : i.size = size) (hby : i.bytes = bytes) (hzs : z.cells.size = size) (hsz : 0 < size) {v : Value} {m k : Nat} {xs ys : List Value} {E : Ent} {ad : Addr} {q c : Nat} (hM : Mm own w0 bs L Fs w) (hL : L[k]? = some E) (hR : OffR e size v m xs E)
    (hy : ys.length = q * size) (hc : ∀ j u, ys[j]? = some u → w.cell? (ad.add j) = some u) (h1 : ∀ u ∈ ys, u.oneCell' = true) (h0 : 0 < q) (hb : (m + q) * bytes ≤ 140737488355328 ∧ m + q ≤ 9223372036854775807) :
    ∃ v' E' w', (Builtin.append_ #[t, t] ty #[v, .slice (some ad) q c]).run Try.prog w = .ok v' w' ∧ OffR e size v' (m + q) (xs ++ ys) E' ∧ Mm own w0 bs (L.set k E') Fs w' := by
  have hbase := hM.since.size
  have hlen : (xs ++ ys).length = (m + q) * size := by rw [List.length_append, hR.2.2.1, hy, Nat.add_mul]
  have hown := hM.mem.own.get hL
  have hEe := hR.1
  have hEs := hR.2.1
  obtain ⟨Ee, Es, Ev, En, Ex⟩ := E
  simp only at hEe hEs
  subst hEe
  subst hEs
  have fresh : ∀ (v' : Value) (cap' : Nat), v' = .slice (some ⟨w.heap.size, 0, none⟩) (m + q) cap' → ∀ w', w'.ownsRow w0.heap.size Ee Es v' (m + q) (xs ++ ys) → w.grownBy w' none → OffR Ee Es v' (m + q) (xs ++ ys) ⟨Ee, Es, v', m + q, xs ++ ys⟩ ∧ Mm own w0 bs (L.set k ⟨Ee, Es, v', m + q, xs ++ ys⟩) Fs w' := by
    intro v' cap' hv w' ho hg
    refine ⟨⟨rfl, rfl, hlen, .inr (.inr ⟨w.heap.size, 0, cap', [], ?_, by simp, ?_, (Nat.zero_add _).symm, rfl⟩)⟩, hM.app hL ho ⟨hg.os, hg.tape, hg.output, hg.size, fun j hj _ => hg.block j hj (by simp)⟩ (.inr (by rw [hv]; rfl))⟩
    · rw [hv, Nat.zero_mul]
    · show v' = _
      rw [hv, Nat.zero_add, Nat.zero_add]
  have hgrow : ∀ (bA : Addr) (cp : Nat), v = .slice (some bA) m cp → cp < m + q → (∀ j u, xs[j]? = some u → w.cell? (bA.add j) = some u) → ∃ v' E' w', (Builtin.append_ #[t, t] ty #[v, .slice (some ad) q c]).run Try.prog w = .ok v' w' ∧ OffR Ee Es v' (m + q) (xs ++ ys) E' ∧ Mm own w0 bs (L.set k E') Fs w' := by
    intro bA cp hv hg hold
    subst hsize
    subst hby
    have hr := run_append_grow (P := Try.prog) w t ty Ee i z ht hi hz bA m cp xs hR.2.2.1 hold ad q c ys hy hc hg (by omega) (growslice_fits hg hb.1)
    have hge := grownCap_ge w (m + q) cp Ee
    have hcm : grownCap w (m + q) cp Ee ≤ maxLen := grownCap_le_maxLen w (m + q) cp Ee (by unfold maxLen; exact hb.2)
    subst hv
    have hrow : (w.drew.alloc (.cells (xs.toArray ++ ys.toArray ++ Builtin.zeroCells z.cells (grownCap w (m + q) cp Ee - (m + q))) Ee)).ownsRow w0.heap.size Ee i.size (.slice (some ⟨w.heap.size, 0, none⟩) (m + q) (grownCap w (m + q) cp Ee)) (m + q) (xs ++ ys) := by
      refine ⟨hlen, .inr ⟨w.heap.size, _, _, rfl, hbase, heap_alloc_new w.drew _, hge, hcm, ?_, ?_⟩⟩
      · simp only [Array.size_append, List.size_toArray, size_zeroCells, hzs, hR.2.2.1, hy, ← Nat.add_mul]
        congr 1
        omega
      · simp only [Array.toList_append, List.append_assoc]
        rw [← List.append_assoc, ← hlen]
        exact List.take_left
    obtain ⟨f1, f2⟩ := fresh _ _ rfl _ hrow ⟨rfl, rfl, rfl, by simp, fun k hk _ => Below.heap_alloc w.drew _ k hk⟩
    exact ⟨_, _, _, hr, f1, f2⟩
  rcases hR.2.2.2 with ⟨hv, hm0, hEv⟩ | ⟨bA, hv, hm0⟩ | ⟨gb, off, cap, pre, hv, hpre, hEv, hEn, hEx⟩
  · subst hm0
    obtain rfl : xs = [] := List.eq_nil_of_length_eq_zero (by have := hR.2.2.1; simpa using this)
    subst hv
    simp only at hEv
    subst hEv
    rcases hown.2 with ⟨_, p2⟩ | ⟨g', cap', cur, p1, _⟩
    · simp only at p2
      subst p2
      obtain rfl : Ex = [] := List.eq_nil_of_length_eq_zero (by simpa using hown.1)
      obtain ⟨v', w', hr, ho, hg, hn⟩ := run_append_own (P := Try.prog) w w0.heap.size t ty Ee i z Es bytes ht hi hz hsize hby hzs hsz (.slice none 0 0) 0 [] hown ad q c ys hy hc h1 (by unfold maxLen; exact hb.2) hb.1 hbase
      subst hsize
      subst hby
      have hr2 := run_append_nil (P := Try.prog) w t ty Ee i z ht hi hz ad q c ys hy hc (by omega) (by omega) (by have hb := hb.1; simp only [Nat.zero_add] at hb; omega)
      rw [hr2] at hr
      injection hr with hr3 hr4
      have hf := fresh v' (grownCap w q 0 Ee) (by rw [← hr3, Nat.zero_add]) w' ho hg
      exact ⟨v', _, w', by rw [hr2, hr3, hr4], hf.1, hf.2⟩
    · cases p1
  · subst hm0
    exact hgrow bA 0 hv (by omega) (by
      intro j u hu
      obtain rfl : xs = [] := List.eq_nil_of_length_eq_zero (by have := hR.2.2.1; simpa using this)
      simp at hu)
  · have hcells : ∀ j u, xs[j]? = some u → w.cell? ((⟨gb, off * Es, none⟩ : Addr).add j) = some u := by
      subst hv
      exact OffR.cells hM hL hR rfl
    simp only at hEv hEn hEx
    subst hEv
    subst hEn
    subst hEx
    by_cases hroom : m + q ≤ cap
    · rcases hown.2 with ⟨p1, _⟩ | ⟨g', cap', cur, p1, p2, p3, p4, p5, p6, p7⟩
      · cases p1
      · simp only [Value.slice.injEq, Option.some.injEq, Addr.mk.injEq, true_and, and_true] at p1
        obtain ⟨rfl, rfl⟩ := p1
        subst hsize
        have hfit : (off + m) * i.size + ys.length ≤ cur.size := by rw [hy, p6, ← Nat.add_mul]; exact Nat.mul_le_mul_right _ (by omega)
        have hr1 := run_append_room (P := Try.prog) w t ty Ee i ht hi gb (off + m) (off + cap) cur p3 ad q c ys hy hc h1 (by omega) hfit
        have hin : ∀ j, j < ys.length → (w.cell? ⟨gb, off * i.size + m * i.size + j, none⟩).isSome = true ∧ w.frozen? ⟨gb, off * i.size + m * i.size + j, none⟩ = false := by
          intro j hj
          have hlt : off * i.size + m * i.size + j < cur.size := by rw [← Nat.add_mul]; omega
          constructor
          · simp [World.cell?, p3, hlt]
          · simp [World.frozen?, p3]
        have hr2 := run_append_room_cells (P := Try.prog) w t ty Ee i ht hi gb (off * i.size) m cap ad q c ys hy hc h1 hroom (fun j hj => (hin j hj).1) (fun j hj => (hin j hj).2)
        have hr3 := run_append_room_cells (P := Try.prog) w t ty Ee i ht hi gb 0 (off + m) (off + cap) ad q c ys hy hc h1 (by omega) (fun j hj => by rw [Nat.zero_add, Nat.add_mul]; exact (hin j hj).1) (fun j hj => by rw [Nat.zero_add, Nat.add_mul]; exact (hin j hj).2)
        rw [hr1] at hr3
        injection hr3 with _ hw
        rw [show off * i.size + m * i.size = 0 + (off + m) * i.size by rw [Nat.zero_add, Nat.add_mul], ← hw] at hr2
        subst hv
        have hrow : (w.setRow gb (cur.toList.take ((off + m) * i.size) ++ ys ++ cur.toList.drop ((off + m) * i.size + ys.length)).toArray).ownsRow w0.heap.size Ee i.size (.slice (some ⟨gb, 0, none⟩) (off + m + q) (off + cap)) (off + m + q) (pre ++ xs ++ ys) := by
          have e1 : (pre ++ xs ++ ys).length = (off + m + q) * i.size := by
            have := hR.2.2.1
            simp only [List.length_append, hpre, this, hy, Nat.add_mul]
          refine ⟨e1, .inr ⟨gb, off + cap, _, rfl, p2, setRow_heap w gb cur _ Ee _ p3, by omega, p5, ?_, ?_⟩⟩
          · have p6 : cur.size = (off + cap) * i.size := p6
            simp only [List.size_toArray, List.length_append, List.length_take, List.length_drop, Array.length_toList]
            omega
          · have p7 : cur.toList.take ((off + m) * i.size) = pre ++ xs := p7
            rw [p7, ← e1]
            exact List.take_left
        have hM' : Mm own w0 bs (L.set k ⟨Ee, i.size, .slice (some ⟨gb, 0, none⟩) (off + m + q) (off + cap), off + m + q, pre ++ xs ++ ys⟩) Fs (w.setRow gb (cur.toList.take ((off + m) * i.size) ++ ys ++ cur.toList.drop ((off + m) * i.size + ys.length)).toArray) :=
          hM.app hL hrow ⟨rfl, rfl, rfl, by simp, fun k _ hk => setRow_other w gb k _ (fun e => hk (by simp [Value.ownBlock, e]))⟩ (.inl rfl)
        refine ⟨_, ⟨Ee, i.size, .slice (some ⟨gb, 0, none⟩) (off + m + q) (off + cap), off + m + q, pre ++ xs ++ ys⟩, _, hr2, ⟨rfl, rfl, hlen, .inr (.inr ⟨gb, off, cap, pre, rfl, hpre, ?_, ?_, ?_⟩)⟩, hM'⟩
        · show Value.slice _ (off + m + q) _ = _
          rw [Nat.add_assoc]
        · exact Nat.add_assoc _ _ _
        · exact List.append_assoc _ _ _
    · exact hgrow _ _ hv (by omega) hcells
theorem e_appO {t e : TypeId} {size bytes : Nat} {S X : Operand} {v : Value} {m k : Nat} {xs ys : List Value} {E : Ent} {ad : Addr} {q c : Nat} (hF : Fr n ds l a) (hM : Mm own w0 bs L Fs w) (hS : ev l S = some v) (hX : ev l X = some (.slice (some ad) q c)) (he : elO t = some (e, size, bytes))
    (hL : L[k]? = some E) (hR : OffR e size v m xs E) (hy : ys.length = q * size) (hc : ∀ j u, ys[j]? = some u → w.cell? (ad.add j) = some u) (h1 : ∀ u ∈ ys, u.oneCell' = true) (h0 : 0 < q) (hb : (m + q) * bytes ≤ 140737488355328 ∧ m + q ≤ 9223372036854775807)
    (kk : ∀ v' E' w', OffR e size v' (m + q) (xs ++ ys) E' → Mm own w0 bs (L.set k E') Fs w' → K (a.put (some d) v') w') :
    (⟨some d, .call ⟨.builtin .append, #[S, X], #[t, t]⟩, ty, pos, af, g⟩ : Oper).wp Try.prog a w K Q := by
  obtain ⟨e1, e2, i, z, i1, i2, i3, i4, i5⟩ := elO_ok he
  obtain ⟨v', E', w', hr, h2, h3⟩ := run_append_off t ty e i z size bytes e1 i1 i2 i3 i4 i5 e2 hM hL hR hy hc h1 h0 hb
  unfold Oper.wp execOp
  simp only [resolve, invoke, builtin, Sem.run_bind, Sem.run_pure, Result.andThen_ok, List.map_toArray, List.map_cons, List.map_nil, hF.eval hS, hF.eval hX]
  rw [hr]
  exact kk v' E' w' h2 h3
/-- append to the end of a row, of a literal just laid. -/
theorem s_appO {t e T : TypeId} {size bytes : Nat} {S X : Operand} {v : Value} {m : Nat} (k : Nat) {xs ys : List Value} {E : Ent} {b q c : Nat} (hF : Fr n ds l a) (hM : Mm own w0 (⟨b, ⟨ys⟩, T⟩ :: bs) L Fs w) (hR : OffR e size v m xs E) (hg : wantO os l g = some true) (hS : ev l S = some v) (hX : ev l X = some (.slice (some ⟨b, 0, none⟩) q c)) (he : elO t = some (e, size, bytes))
    (hL : Kth L k E) (hy : ys.length = q * size) (h1 : oneL ys = true) (h0 : Nat.blt 0 q = true) (hd : Nat.blt d n = true) (hb : (m + q) * bytes ≤ 140737488355328 ∧ m + q ≤ 9223372036854775807)
    (kk : ∀ v' E' w' a, OffR e size v' (m + q) (xs ++ ys) E' → Mm own w0 bs (L.set k E') Fs w' → Fr n ds ((d, v') :: l) a → wl ⟨os⟩ Q rest a w') :
    wl ⟨os⟩ Q (⟨some d, .call ⟨.builtin .append, #[S, X], #[t, t]⟩, ty, pos, af, g⟩ :: rest) a w := by
  have hbox := hM.mem.box _ List.mem_cons_self
  refine s_op hF hg fun _ hK => e_appO hF (hM.sub (List.sublist_cons_self _ _) (List.Sublist.refl _) (fun _ h => h)) hS hX he hL.get hR hy ?_ (oneL_ok h1) (by simpa using h0) hb fun v' E' w' h2 h3 => hK _ _ (kk v' E' w' _ h2 h3 (hF.put hd _))
  intro j u hu
  rw [add_lit, (Box.rules hbox).1]
  simpa using hu
/-- append to a row of cells that lie anywhere. -/
theorem s_appP {t e : TypeId} {size bytes : Nat} {S X : Operand} {v : Value} {m k : Nat} {xs ys : List Value} {ad : Addr} {q c : Nat} (hF : Fr n ds l a) (hM : Mm own w0 bs L Fs w) (hc : ∀ j u, ys[j]? = some u → w.cell? (ad.add j) = some u) (h1 : ∀ u ∈ ys, u.oneCell' = true) (hg : wantO os l g = some true) (hS : ev l S = some v) (hX : ev l X = some (.slice (some ad) q c)) (he : elO t = some (e, size, bytes))
    (hL : Kth L k ⟨e, size, v, m, xs⟩) (hd : Nat.blt d n = true) (hy : ys.length = q * size) (h0 : 0 < q) (hb : (m + q) * bytes ≤ 140737488355328 ∧ m + q ≤ 9223372036854775807)
    (kk : ∀ g cap w' a, Mm own w0 bs (L.set k ⟨e, size, .slice (some ⟨g, 0, none⟩) (m + q) cap, m + q, xs ++ ys⟩) Fs w' → Fr n ds ((d, .slice (some ⟨g, 0, none⟩) (m + q) cap) :: l) a → wl ⟨os⟩ Q rest a w') :
    wl ⟨os⟩ Q (⟨some d, .call ⟨.builtin .append, #[S, X], #[t, t]⟩, ty, pos, af, g⟩ :: rest) a w :=
  s_op hF hg fun _ hK => e_app hF hM hS hX he hL hy hc h1 h0 hb fun g cap w' h => hK _ _ (kk g cap w' _ h (hF.put hd _))
end
end Go.Proofs.Ytobflnjbdghnhaa
