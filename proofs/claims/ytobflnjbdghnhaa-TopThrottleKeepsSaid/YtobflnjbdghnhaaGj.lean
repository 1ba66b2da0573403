/- Elements of owned rows that are stored into; appends of slices that are known. -/
import Derived.Test.YtobflnjbdghnhaaGi
import Derived.Laws.OwnMore
import Derived.Deep.Upon
set_option linter.unusedSimpArgs false
set_option linter.unusedVariables false
set_option linter.unusedSectionVars false
namespace Go.Proofs.Ytobflnjbdghnhaa
open Go.RowKit Go.Shelf
section
variable {n : Nat} {ds : List Deferred} {l : List (Nat × Value)} {a : Act} {w w0 : World} {own : Nat → Prop} {bs : List BoxE} {L : List Ent} {Fs : List (World → Prop)}
variable {os rest : List Oper} {Q : Exit → Act → World → Prop} {K : Act → World → Prop}
variable {d : Nat} {op : Op} {ty : TypeId} {pos : String} {af : Array Edge} {g : Option (Nat × Bool)}
/-- A cell of an owned row, stored. -/
theorem Mm.rowSet {k : Nat} {e : TypeId} {size m c gb : Nat} {xs : List Value} (hM : Mm own w0 bs L Fs w) (hL : L[k]? = some ⟨e, size, .slice (some ⟨gb, 0, none⟩) m c, m, xs⟩) (j : Nat) (u : Value) :
    Mm own w0 bs (L.set k ⟨e, size, .slice (some ⟨gb, 0, none⟩) m c, m, xs.set j u⟩) Fs (w.setCell ⟨gb, j, none⟩ u) := by
  have h := (hM.mem.own.get hL).stored j u
  exact hM.app hL h.1 h.2 (.inl rfl)
theorem row_zero {base : Nat} {e : TypeId} {size m c : Nat} {ad : Addr} {xs : List Value} (h : w.ownsRow base e size (.slice (some ad) m c) m xs) : ∃ gb, ad = ⟨gb, 0, none⟩ := by
  rcases h.2 with ⟨h', _⟩ | ⟨g', cap', cur, h', _⟩
  · simp at h'
  · simp only [Value.slice.injEq, Option.some.injEq] at h'
    exact ⟨g', h'.1⟩
theorem e_storeR {α : Type} {enc : α → Value} {T : TypeId} {X Y : Operand} {ad : Addr} {j : Int} {xs : List α} {x : α} {e : TypeId} {m c k : Nat} (hF : Fr n ds l a) (hM : Mm own w0 bs L Fs w) (hX : ev l X = some (.pointer (some (adr ad j 1)))) (hL : Kth L k ⟨e, 1, .slice (some ad) m c, m, xs.map enc⟩) (hY : ev l Y = some (enc x))
    (hT : tyS T = some 1) (hc : cellsO (enc x) = some [enc x]) (h1 : (enc x).oneCell' = true) (hj : j.toNat < xs.length) {dst : Option Tmp}
    (kk : ∀ w', Mm own w0 bs (L.set k ⟨e, 1, .slice (some ad) m c, m, (xs.set j.toNat x).map enc⟩) Fs w' → K (a.put dst undef) w') :
    (⟨dst, .store T X Y, ty, pos, af, g⟩ : Oper).wp Try.prog a w K Q := by
  have hown := hM.mem.own.get hL.get
  obtain ⟨gb, rfl⟩ := row_zero hown
  have hadr : adr ⟨gb, 0, none⟩ j 1 = ⟨gb, j.toNat, none⟩ := by
    unfold adr
    rw [add_lit]
    simp
  rw [hadr] at hX
  have hget : w.cell? ⟨gb, j.toNat, none⟩ = some (enc xs[j.toNat]) := by
    obtain ⟨b, off, e1, _, e2⟩ := own_reads hown j.toNat _ (List.getElem?_eq_getElem hj)
    simp only [Option.some.injEq, Addr.mk.injEq, and_true] at e1
    obtain ⟨rfl, rfl⟩ := e1
    simpa using e2
  have hfz := hown.frozenAt j.toNat
  refine upon_skip' (w' := w.setCell ⟨gb, j.toNat, none⟩ (enc x)) ?_ (kk _ (by have := hM.rowSet hL.get j.toNat (enc x); rwa [List.map_set]))
  have hadd : (⟨gb, j.toNat, none⟩ : Addr).add 0 = ⟨gb, j.toNat, none⟩ := by rw [add_lit]; simp
  simp only [execOp, Instr.storeAt, Sem.run_bind, hF.eval hX, hF.eval hY, Instr.sureAddr, storeVar, cellsO_ok hc, tyS_run hT, Result.andThen, Sem.run_pure]
  simp [storeCells, Sem.run_bind, hadd, run_store Try.prog w _ _ _ h1, hget, hfz, Result.andThen]
theorem s_storeR {α : Type} {enc : α → Value} {T : TypeId} {X Y : Operand} {ad : Addr} {j : Int} {xs : List α} {x : α} {e : TypeId} {m c k : Nat} (hF : Fr n ds l a) (hM : Mm own w0 bs L Fs w) (hg : wantO os l g = some true) (hX : ev l X = some (.pointer (some (adr ad j 1)))) (hL : Kth L k ⟨e, 1, .slice (some ad) m c, m, xs.map enc⟩) (hY : ev l Y = some (enc x))
    (hT : tyS T = some 1) (hc : cellsO (enc x) = some [enc x]) (h1 : (enc x).oneCell' = true) (hj : j.toNat < xs.length)
    (kk : ∀ w', Mm own w0 bs (L.set k ⟨e, 1, .slice (some ad) m c, m, (xs.set j.toNat x).map enc⟩) Fs w' → wl ⟨os⟩ Q rest a w') : wl ⟨os⟩ Q (⟨none, .store T X Y, ty, pos, af, g⟩ :: rest) a w :=
  s_op hF hg fun _ hK => e_storeR hF hM hX hL hY hT hc h1 hj fun w' h => hK _ _ (kk w' h)
theorem x_storeR {α : Type} {enc : α → Value} {T : TypeId} {X Y : Operand} {ad : Addr} {j : Int} {xs : List α} {x : α} {e : TypeId} {m c k : Nat} (hF : Fr n ds l a) (hM : Mm own w0 bs L Fs w) (hX : ev l X = some (.pointer (some (adr ad j 1)))) (hL : Kth L k ⟨e, 1, .slice (some ad) m c, m, xs.map enc⟩) (hY : ev l Y = some (enc x))
    (hT : tyS T = some 1) (hc : cellsO (enc x) = some [enc x]) (h1 : (enc x).oneCell' = true) (hj : j.toNat < xs.length)
    (kk : ∀ w' a, Mm own w0 bs (L.set k ⟨e, 1, .slice (some ad) m c, m, (xs.set j.toNat x).map enc⟩) Fs w' → Fr n ds l a → K a w') : (⟨none, .store T X Y, ty, pos, af, g⟩ : Oper).wp Try.prog a w K Q :=
  e_storeR hF hM hX hL hY hT hc h1 hj fun w' h => kk w' _ h hF
/-- append of a slice that can be read. -/
theorem s_appF {α : Type} {enc : α → Value} {t e : TypeId} {bytes : Nat} {S X : Operand} {v : Value} {m k c : Nat} {xs : List Value} {ys : List α} {ao : Option Addr} (hF : Fr n ds l a) (hM : Mm own w0 bs L Fs w) (hg : wantO os l g = some true) (hX : ev l X = some (.slice ao ys.length c)) (hf : RdF enc ao ys ∈ Fs) (hS : ev l S = some v) (he : elO t = some (e, 1, bytes))
    (hL : Kth L k ⟨e, 1, v, m, xs⟩) (h1 : ∀ y, (enc y).oneCell' = true) (hd : Nat.blt d n = true) (hb : (m + ys.length) * bytes ≤ 140737488355328 ∧ m + ys.length ≤ 9223372036854775807)
    (kk : ∀ a' cap w' a, Mm own w0 bs (L.set k ⟨e, 1, .slice a' (m + ys.length) cap, m + ys.length, xs ++ ys.map enc⟩) Fs w' → Fr n ds ((d, .slice a' (m + ys.length) cap) :: l) a → wl ⟨os⟩ Q rest a w') :
    wl ⟨os⟩ Q (⟨some d, .call ⟨.builtin .append, #[S, X], #[t, t]⟩, ty, pos, af, g⟩ :: rest) a w := by
  have hrd := hM.fact hf
  rcases Nat.eq_zero_or_pos ys.length with h0 | h0
  · obtain rfl := List.length_eq_zero_iff.1 h0
    obtain ⟨e1, e2, i, z, i1, i2, i3, i4, i5⟩ := elO_ok he
    have hown := hM.mem.own.get hL.get
    obtain ⟨a', cap, rfl, hle⟩ : ∃ a' cap, v = .slice a' m cap ∧ m ≤ cap := by
      rcases hown.2 with ⟨h', h2⟩ | ⟨g', cap', cur, h', _, _, h3, _⟩
      · simp only at h' h2; exact ⟨none, 0, by rw [h', h2], by omega⟩
      · exact ⟨_, _, h', h3⟩
    have hset : L.set k ⟨e, 1, .slice a' m cap, m, xs⟩ = L := by
      apply List.ext_getElem?
      intro q
      rw [List.getElem?_set]
      split
      · rename_i hq; subst hq
        split
        · exact hL.get.symm
        · rename_i hn; rw [List.getElem?_eq_none (by omega)]
      · rfl
    refine s_op hF hg fun _ hK => ?_
    have hsrc : Src Try.prog i.size t (.slice ao 0 c) 0 [] w := by
      cases ao with
      | none => exact Src.ofNil w e1 c
      | some ad => exact Src.ofSlice w e1 ad 0 c [] (by simp) (by simp) (by simp)
    have hr := run_append_nothing (P := Try.prog) w t t ty e i e1 i1 a' m cap hle _ hsrc
    unfold Oper.wp execOp
    simp only [resolve, invoke, builtin, Sem.run_bind, Sem.run_pure, Result.andThen_ok, List.map_toArray, List.map_cons, List.map_nil, hF.eval hS, hF.eval hX, List.length_nil, hr]
    exact hK _ _ (kk a' cap w _ (by simpa [hset] using hM) (hF.put hd _))
  · obtain ⟨b, off, rfl, _, _⟩ := hrd 0 _ (List.getElem?_eq_getElem h0)
    refine s_op hF hg fun _ hK => e_app hF hM hS hX he hL (ys := ys.map enc) (by simp) ?_ (by intro u hu; obtain ⟨y, _, rfl⟩ := List.mem_map.1 hu; exact h1 y) h0 hb fun g cap w' h => hK _ _ (kk _ cap w' _ h (hF.put hd _))
    intro j u hu
    rw [List.getElem?_map] at hu
    cases hy : ys[j]? with
    | none => rw [hy] at hu; simp at hu
    | some y =>
      rw [hy] at hu
      simp only [Option.map_some, Option.some.injEq] at hu
      obtain ⟨b', off', e1, _, e2⟩ := hrd j y hy
      simp only [Option.some.injEq, Addr.mk.injEq, and_true] at e1
      obtain ⟨rfl, rfl⟩ := e1
      rw [add_lit, e2, hu]
end
end Go.Proofs.Ytobflnjbdghnhaa
