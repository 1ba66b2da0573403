/- Rows of any size that are read from then on; structs of two numbers compared. -/
import Derived.Test.YtobflnjbdghnhaaGu
import Derived.Laws.StructEq
set_option linter.unusedSimpArgs false
set_option linter.unusedVariables false
set_option linter.unusedSectionVars false
namespace Go.Proofs.Ytobflnjbdghnhaa
open Go.RowKit Go.Shelf
section
variable {n : Nat} {ds : List Deferred} {l : List (Nat × Value)} {a : Act} {w w' w0 : World} {own : Nat → Prop} {bs : List BoxE} {L : List Ent} {Fs : List (World → Prop)}
variable {os rest : List Oper} {Q : Exit → Act → World → Prop} {K : Act → World → Prop}
variable {d : Nat} {op : Op} {ty : TypeId} {pos : String} {af : Array Edge} {g : Option (Nat × Bool)}
theorem own_readsN {α : Type} {enc : α → Value} {base : Nat} {e : TypeId} {size k c : Nat} {ao : Option Addr} {xs : List α} (ho : w.ownsRow base e size (.slice ao k c) k (xs.map enc)) : Reads enc w ao xs := by
  intro i x hx
  have hlen := ho.1
  rcases ho.2 with ⟨h1, h2⟩ | ⟨g, cap, cur, h1, h2, h3, h4⟩
  · rw [h2, Nat.zero_mul, List.length_map] at hlen
    have := (List.getElem?_eq_some_iff.1 hx).1
    omega
  · simp only [Value.slice.injEq] at h1
    obtain ⟨rfl, _, rfl⟩ := h1
    have hc := ho.cells (g := g) rfl i (enc x) (by simp [hx])
    rw [add_lit] at hc
    exact ⟨g, 0, rfl, (Array.getElem?_eq_some_iff.1 h3).1, hc⟩
/-- A row that is only read from then on, whatever its elements. -/
theorem Mm.freezeN {α : Type} {enc : α → Value} {e : TypeId} {size : Nat} {ao : Option Addr} {m c : Nat} {xs : List α} (m0 : Mm own w0 bs (⟨e, size, .slice ao m c, m, xs.map enc⟩ :: L) Fs w) : Mm own w0 bs L (RdF enc ao xs :: Fs) w := by
  have hrd := own_readsN (m0.mem.own.own _ List.mem_cons_self)
  refine (m0.sub (.refl _) (List.sublist_cons_self _ _) (fun _ h => h)).addFact (RdF.has hrd ?_)
  rintro ad rfl
  have hob : (Value.slice (some ad) m c).ownBlock = some ad.block := rfl
  rintro (h | ⟨x, hx, hx2⟩ | ⟨y, hy, hy2⟩)
  · have h2 := m0.low _ h
    have h3 := (m0.mem.own.lt List.mem_cons_self _ hob).1
    omega
  · exact m0.mem.far x hx _ List.mem_cons_self (by rw [hob, hx2])
  · have hp := m0.mem.own.apart
    rw [List.pairwise_cons] at hp
    rcases hp.1 y hy with h | h
    · rw [show (Value.slice (some ad) m c).ownBlock = none from h] at hob; cases hob
    · exact h (hob.trans hy2.symm)
/-- An element of a row, stored, whatever its size. -/
theorem e_storeN {T e : TypeId} {size : Nat} {X Y : Operand} {ad : Addr} {j : Int} {m c k : Nat} {xs vs : List Value} {v : Value} {dst : Option Tmp} (hF : Fr n ds l a) (hM : Mm own w0 bs L Fs w) (hX : ev l X = some (.pointer (some (adr ad j size)))) (hL : Kth L k ⟨e, size, .slice (some ad) m c, m, xs⟩) (hY : ev l Y = some v) (hv : cellsO v = some vs)
    (hT : tyS T = some vs.length) (h1 : oneL vs = true) (hz : vs.length = size) (hj : j.toNat < m)
    (kk : ∀ w', Mm own w0 bs (L.set k ⟨e, size, .slice (some ad) m c, m, xs.take (j.toNat * size) ++ vs ++ xs.drop (j.toNat * size + vs.length)⟩) Fs w' → K (a.put dst undef) w') :
    (⟨dst, .store T X Y, ty, pos, af, g⟩ : Oper).wp Try.prog a w K Q := by
  obtain ⟨gb, rfl⟩ := row_zero (hM.mem.own.get hL.get)
  have hadr : adr ⟨gb, 0, none⟩ j size = ⟨gb, j.toNat * size, none⟩ := by
    unfold adr
    rw [add_lit, Nat.zero_add]
  rw [hadr] at hX
  have hfit : j.toNat * size + vs.length ≤ m * size := by
    rw [hz]
    have : (j.toNat + 1) * size ≤ m * size := Nat.mul_le_mul_right _ hj
    rwa [Nat.add_mul, Nat.one_mul] at this
  obtain ⟨cur, hc1, hc2, hm⟩ := hM.rowTo hL.get (j.toNat * size) vs hfit
  have hst := run_storeCells_at Try.prog gb (j.toNat * size) e vs 0 cur w hc1 (by simpa using hc2) (oneL_ok h1)
  simp only [Nat.add_zero] at hst
  refine upon_skip' (w' := w.setRow gb (cur.toList.take (j.toNat * size) ++ vs ++ cur.toList.drop (j.toNat * size + vs.length)).toArray) ?_ (kk _ hm)
  simp only [execOp, Instr.storeAt, Sem.run_bind, hF.eval hX, hF.eval hY, Instr.sureAddr, storeVar, cellsO_ok hv, tyS_run hT, Result.andThen, Sem.run_pure, List.toList_toArray, hst]
  simp [hst, Result.andThen]
theorem s_storeN {T e : TypeId} {size : Nat} {X Y : Operand} {ad : Addr} {j : Int} {m c k : Nat} {xs vs : List Value} {v : Value} {dst : Option Tmp} (hF : Fr n ds l a) (hM : Mm own w0 bs L Fs w) (hg : wantO os l g = some true) (hX : ev l X = some (.pointer (some (adr ad j size)))) (hL : Kth L k ⟨e, size, .slice (some ad) m c, m, xs⟩) (hY : ev l Y = some v) (hv : cellsO v = some vs)
    (hT : tyS T = some vs.length) (h1 : oneL vs = true) (hz : vs.length = size) (hj : j.toNat < m)
    (kk : ∀ w', Mm own w0 bs (L.set k ⟨e, size, .slice (some ad) m c, m, xs.take (j.toNat * size) ++ vs ++ xs.drop (j.toNat * size + vs.length)⟩) Fs w' → wl ⟨os⟩ Q rest a w') :
    wl ⟨os⟩ Q (⟨none, .store T X Y, ty, pos, af, g⟩ :: rest) a w :=
  s_op hF hg fun _ hK => e_storeN hF hM hX hL hY hv hT h1 hz hj fun w' h => hK _ _ (kk w' h)
/-- Structs of two numbers. -/
theorem e_eqE {t t' : TypeId} {X Y : Operand} {k : IntKind} {x0 x1 y0 y1 : Int} {f0 f1 : Field} {op : BinOp} {v : Bool} (hF : Fr n ds l a) (hX : ev l X = some (.agg #[.int k x0, .int k x1])) (hY : ev l Y = some (.agg #[.int k y0, .int k y1])) (ht : tyD t = some (.struct ⟨[f0, f1]⟩)) (hs : Try.prog.stoodInHeld t = false) (hg : Try.prog.eqGuardType Try.prog.depth t = false)
    (h0 : f0.name ≠ "_" ∧ tyD f0.type = some (.int k) ∧ sclO f0.type = some () ∧ f0.offset = 0) (h1 : f1.name ≠ "_" ∧ tyD f1.type = some (.int k) ∧ sclO f1.type = some () ∧ f1.offset = 1) (hv : neqB op (decide (x0 = y0 ∧ x1 = y1)) = some v) (w : World) {dst : Option Tmp} :
    (execOp a.eval ⟨dst, .binOp op t X Y t', ty, pos, af, g⟩).run Try.prog w = .ok (.value (.bool v)) w := by
  have hfs : Try.prog.fieldsOf t = ⟨[f0, f1]⟩ := by unfold Program.fieldsOf; rw [tyD_ok ht]
  have he : (Op.equal t (.agg #[.int k x0, .int k x1]) (.agg #[.int k y0, .int k y1])).run Try.prog w = .ok (decide (x0 = y0 ∧ x1 = y1)) w := by
    unfold Op.equal Op.maxDepth
    rw [show (10000 : Nat) = 9999 + 1 from rfl, run_equalIn_struct w 9999 t _ _ (by rw [hfs]; exact tyD_ok ht) hs, hfs]
    obtain ⟨a1, a2, a3, a4⟩ := h0
    obtain ⟨b1, b2, b3, b4⟩ := h1
    have p1 := part_scl (k := k) (xs := [x0, x1]) (i := 0) a3 rfl w
    have p2 := part_scl (k := k) (xs := [y0, y1]) (i := 0) a3 rfl w
    have p3 := part_scl (k := k) (xs := [x0, x1]) (i := 1) b3 rfl w
    have p4 := part_scl (k := k) (xs := [y0, y1]) (i := 1) b3 rfl w
    simp only [List.map_cons, List.map_nil] at p1 p2 p3 p4
    have q1 := equalIn_int (k := k) (x := x0) (y := y0) a2 9998 w
    have q2 := equalIn_int (k := k) (x := x1) (y := y1) b2 9998 w
    rw [show 9998 + 1 = 9999 from rfl] at q1 q2
    simp only [Op.eqFields, ne_eq, a1, b1, not_false_eq_true, if_true, a4, b4, Sem.run_bind, p1, p2, p3, p4, q1, q2, Result.andThen_ok]
    by_cases e0 : x0 = y0
    · subst e0
      by_cases e1 : x1 = y1
      · subst e1
        simp [Sem.run_bind, p1, p2, p3, p4, q1, q2, Result.andThen]
      · simp [e1, Sem.run_bind, p1, p2, p3, p4, q1, q2, Result.andThen]
    · simp [e0, Sem.run_bind, p1, p2, p3, p4, q1, q2, Result.andThen]
  unfold neqB at hv
  split at hv
  · injection hv with hv; subst hv
    simp [execOp, hF.eval hX, hF.eval hY, eqGuard, Sem.run_bind, Result.andThen, hg, binOp, he]
  · injection hv with hv; subst hv
    simp [execOp, hF.eval hX, hF.eval hY, eqGuard, Sem.run_bind, Result.andThen, hg, binOp, he]
  · cases hv
theorem t_eqE {tail : Nat → Bool} {fuel i : Nat} {listed : Array Bool} {bs0 : List BoxE} {Fs0 : List (World → Prop)} {t t' : TypeId} {X Y : Operand} {k : IntKind} {x0 x1 y0 y1 : Int} {f0 f1 : Field} {op : BinOp} {v : Bool} (hF : Fr n ds l a) (hi : getO os i = some ⟨some d, .binOp op t X Y t', ty, pos, af, g⟩) (hg : wantO os l g = some true) (hX : ev l X = some (.agg #[.int k x0, .int k x1])) (hY : ev l Y = some (.agg #[.int k y0, .int k y1])) (ht : tyD t = some (.struct ⟨[f0, f1]⟩)) (hs : Try.prog.stoodInHeld t = false) (hq : Try.prog.eqGuardType Try.prog.depth t = false)
    (h0 : f0.name ≠ "_" ∧ tyD f0.type = some (.int k) ∧ sclO f0.type = some () ∧ f0.offset = 0) (h1 : f1.name ≠ "_" ∧ tyD f1.type = some (.int k) ∧ sclO f1.type = some () ∧ f1.offset = 1) (hv : neqB op (decide (x0 = y0 ∧ x1 = y1)) = some v) (hd : Nat.blt d n = true) (hb : takeB os tail listed i = true) (hS : Sm bs0 Fs0 w) (hQ : ∀ c a w, Q (.panic c) (a.put (some d) (.bool v)) w → Q (.panic c) a w)
    (kk : ∀ a, Fr n ds ((d, .bool v) :: l) a → wpAnyT Try.prog .any ⟨os⟩ Q (Sm bs0 Fs0) tail fuel (listed.setIfInBounds i true) a w) : wpAnyT Try.prog .any ⟨os⟩ Q (Sm bs0 Fs0) tail (fuel + 1) listed a w :=
  t_take hi hb hQ (.inl ⟨wantO_ok (o := ⟨some d, .binOp op t X Y t', ty, pos, af, g⟩) hF hg, fun w _ => e_eqE hF hX hY ht hs hq h0 h1 hv w⟩) hS (kk _ (hF.put hd _))
end
end Go.Proofs.Ytobflnjbdghnhaa
