/- Arrays of integers: compared, and loaded from slices of arrays. -/
import Derived.Test.YtobflnjbdghnhaaGn
set_option linter.unusedSimpArgs false
set_option linter.unusedVariables false
set_option linter.unusedSectionVars false
namespace Go.Proofs.Ytobflnjbdghnhaa
open Go.RowKit Go.Shelf
theorem part_scl {e : TypeId} {k : IntKind} {xs : List Int} {i : Nat} {x : Int} (h : sclO e = some ()) (hx : xs[i]? = some x) (w : World) : (part e (xs.map (Value.int k)).toArray i).run Try.prog w = .ok (.int k x) w := by
  refine rdV_part ?_ w
  unfold sclO at h
  unfold rdV
  split at h
  · rename_i inf hi
    split at h
    · rename_i ha
      obtain ⟨ag, sz, by', de, ze⟩ := inf
      simp only at ha
      subst ha
      rw [hi]
      simp only
      rw [rdV.at'_eq]
      simp [hx]
    · cases h
  · cases h
theorem equalIn_int {e : TypeId} {k : IntKind} {x y : Int} (h : tyD e = some (.int k)) (d : Nat) (w : World) : (Op.equalIn (d + 1) e (.int k x) (.int k y)).run Try.prog w = .ok (x == y) w := by
  unfold Op.equalIn
  simp only [Sem.run_bind, tyD_run h, Result.andThen]
  simp
theorem eq_loop {e : TypeId} {k : IntKind} {xs ys : List Int} {n d : Nat} (h2 : tyD e = some (.int k)) (hs : sclO e = some ()) (hx : xs.length = n) (hy : ys.length = n) (w : World) : ∀ m i, i + m = n →
    (forIn (List.range' i m) ((none, ()) : Option Bool × Unit) fun (i : Nat) (_ : Option Bool × Unit) => (do
      let a ← part e (xs.map (Value.int k)).toArray (i * 1)
      let b ← part e (ys.map (Value.int k)).toArray (i * 1)
      let c ← Op.equalIn (d + 1) e a b
      if (!c) = true then pure (ForInStep.done (some false, ())) else pure (ForInStep.yield (none, ())) : Sem _)).run Try.prog w = .ok (if xs.drop i = ys.drop i then (none, ()) else (some false, ())) w
  | 0, i, h => by
    rw [List.drop_eq_nil_of_le (by omega), List.drop_eq_nil_of_le (by omega), if_pos rfl]
    simp
  | m + 1, i, h => by
    have hxi := List.getElem?_eq_getElem (l := xs) (i := i) (by omega)
    have hyi := List.getElem?_eq_getElem (l := ys) (i := i) (by omega)
    have p1 := part_scl hs hxi w (k := k)
    have p2 := part_scl hs hyi w (k := k)
    have p3 := equalIn_int (x := xs[i]) (y := ys[i]) h2 d w
    have ih := eq_loop (d := d) h2 hs hx hy w m (i + 1) (by omega)
    have hd : (xs.drop i = ys.drop i) = (xs[i] = ys[i] ∧ xs.drop (i + 1) = ys.drop (i + 1)) := by
      rw [List.drop_eq_getElem_cons (show i < xs.length by omega), List.drop_eq_getElem_cons (show i < ys.length by omega), List.cons.injEq]
    simp only [hd]
    rw [List.range'_succ, List.forIn_cons]
    simp only [Sem.run_bind, Nat.mul_one, p1, p2, p3, Result.andThen]
    by_cases he : xs[i] = ys[i]
    · simp only [he, beq_self_eq_true, Bool.not_true, Bool.false_eq_true, if_false, Sem.run_pure, Result.andThen, true_and]
      simp only [Nat.mul_one] at ih
      rw [ih]
    · have hb : (xs[i] == ys[i]) = false := by simpa using he
      simp [hb, he, Result.andThen]
theorem equal_arr {t e : TypeId} {k : IntKind} {n : Nat} {xs ys : List Int} (h1 : tyD t = some (.array n e)) (h2 : tyD e = some (.int k)) (h3 : tyS e = some 1) (hs : sclO e = some ()) (hx : xs.length = n) (hy : ys.length = n) (w : World) :
    (Op.equal t (.agg (xs.map (Value.int k)).toArray) (.agg (ys.map (Value.int k)).toArray)).run Try.prog w = .ok (decide (xs = ys)) w := by
  unfold Op.equal Op.maxDepth
  rw [show (10000 : Nat) = 9999 + 1 from rfl]
  unfold Op.equalIn
  simp only [Sem.run_bind, tyD_run h1, tyS_run h3, Result.andThen]
  rw [Std.Legacy.Range.forIn_eq_forIn_range']
  have hr : (List.range' [:n].start [:n].size [:n].step) = List.range' 0 n := by simp [Std.Legacy.Range.size]
  rw [hr]
  have := eq_loop (d := 9998) h2 hs hx hy w n 0 (by omega)
  rw [show (9999 : Nat) = 9998 + 1 from rfl]
  rw [this]
  simp only [List.drop_zero, Result.andThen]
  by_cases he : xs = ys
  · simp [he]
  · simp [he]
section
variable {n : Nat} {ds : List Deferred} {l : List (Nat × Value)} {a : Act} {w w0 : World} {own : Nat → Prop} {bs : List BoxE} {L : List Ent} {Fs : List (World → Prop)}
variable {os rest : List Oper} {Q : Exit → Act → World → Prop} {K : Act → World → Prop}
variable {d : Nat} {op : Op} {ty : TypeId} {pos : String} {af : Array Edge} {g : Option (Nat × Bool)}
/-- A type of arrays of integers of one cell: its length and the kind. -/
def arrT (t : TypeId) : Option (Nat × IntKind) := match tyD t with
  | some (.array n e) => match tyD e with
    | some (.int k) => match tyS e, sclO e with
      | some 1, some () => some (n, k)
      | _, _ => none
    | _ => none
  | _ => none
theorem arrT_ok {t : TypeId} {m : Nat} {k : IntKind} (h : arrT t = some (m, k)) : ∃ e, tyD t = some (.array m e) ∧ tyD e = some (.int k) ∧ tyS e = some 1 ∧ sclO e = some () := by
  unfold arrT at h
  split at h
  · rename_i m' e h1
    split at h
    · rename_i k' h2
      split at h
      · rename_i h3 h4
        injection h with h; injection h with h5 h6
        subst h5 h6
        exact ⟨e, h1, h2, h3, h4⟩
      · cases h
    · cases h
  · cases h
def neqB (op : BinOp) (b : Bool) : Option Bool := match op with
  | .eql => some b
  | .neq => some (!b)
  | _ => none
theorem e_eqA {t t' : TypeId} {X Y : Operand} {k : IntKind} {m : Nat} {xs ys : List Int} {op : BinOp} {v : Bool} (hF : Fr n ds l a) (hX : ev l X = some (.agg (xs.map (Value.int k)).toArray)) (hY : ev l Y = some (.agg (ys.map (Value.int k)).toArray)) (ht : arrT t = some (m, k)) (hx : xs.length = m) (hy : ys.length = m) (hg : Try.prog.eqGuardType Try.prog.depth t = false) (hv : neqB op (decide (xs = ys)) = some v) (w : World) {dst : Option Tmp} :
    (execOp a.eval ⟨dst, .binOp op t X Y t', ty, pos, af, g⟩).run Try.prog w = .ok (.value (.bool v)) w := by
  obtain ⟨e, h1, h2, h3, h4⟩ := arrT_ok ht
  have he := equal_arr h1 h2 h3 h4 hx hy w
  unfold neqB at hv
  split at hv
  · injection hv with hv; subst hv
    simp [execOp, hF.eval hX, hF.eval hY, eqGuard, Sem.run_bind, Result.andThen, hg, binOp, he]
  · injection hv with hv; subst hv
    simp [execOp, hF.eval hX, hF.eval hY, eqGuard, Sem.run_bind, Result.andThen, hg, binOp, he]
  · cases hv
theorem s_eqA {t t' : TypeId} {X Y : Operand} {k : IntKind} {m : Nat} {xs ys : List Int} {op : BinOp} {v : Bool} (hF : Fr n ds l a) (hg : wantO os l g = some true) (hX : ev l X = some (.agg (xs.map (Value.int k)).toArray)) (hY : ev l Y = some (.agg (ys.map (Value.int k)).toArray)) (ht : arrT t = some (m, k)) (hq : Try.prog.eqGuardType Try.prog.depth t = false) (hv : neqB op (decide (xs = ys)) = some v) (hd : Nat.blt d n = true) (hx : xs.length = m) (hy : ys.length = m)
    (kk : ∀ a, Fr n ds ((d, .bool v) :: l) a → wl ⟨os⟩ Q rest a w) : wl ⟨os⟩ Q (⟨some d, .binOp op t X Y t', ty, pos, af, g⟩ :: rest) a w :=
  s_op hF hg fun _ hK => upon_value (e_eqA hF hX hY ht hx hy hq hv w) (hK _ _ (kk _ (hF.put hd _)))
theorem t_eqA {tail : Nat → Bool} {fuel i : Nat} {listed : Array Bool} {bs0 : List BoxE} {Fs0 : List (World → Prop)} {t t' : TypeId} {X Y : Operand} {k : IntKind} {m : Nat} {xs ys : List Int} {op : BinOp} {v : Bool} (hF : Fr n ds l a) (hi : getO os i = some ⟨some d, .binOp op t X Y t', ty, pos, af, g⟩) (hg : wantO os l g = some true) (hX : ev l X = some (.agg (xs.map (Value.int k)).toArray)) (hY : ev l Y = some (.agg (ys.map (Value.int k)).toArray)) (ht : arrT t = some (m, k)) (hq : Try.prog.eqGuardType Try.prog.depth t = false) (hv : neqB op (decide (xs = ys)) = some v) (hd : Nat.blt d n = true) (hb : takeB os tail listed i = true) (hx : xs.length = m) (hy : ys.length = m) (hS : Sm bs0 Fs0 w) (hQ : ∀ c a w, Q (.panic c) (a.put (some d) (.bool v)) w → Q (.panic c) a w)
    (kk : ∀ a, Fr n ds ((d, .bool v) :: l) a → wpAnyT Try.prog .any ⟨os⟩ Q (Sm bs0 Fs0) tail fuel (listed.setIfInBounds i true) a w) : wpAnyT Try.prog .any ⟨os⟩ Q (Sm bs0 Fs0) tail (fuel + 1) listed a w :=
  t_take hi hb hQ (.inl ⟨wantO_ok (o := ⟨some d, .binOp op t X Y t', ty, pos, af, g⟩) hF hg, fun w _ => e_eqA hF hX hY ht hx hy hq hv w⟩) hS (kk _ (hF.put hd _))
/-! Loads of arrays that are elements -/
theorem flat_get {α : Type} {m : Nat} : ∀ {ls : List (List α)} {i : Nat} {s : List α} {q : Nat} {x : α}, (∀ y ∈ ls, y.length = m) → ls[i]? = some s → s[q]? = some x → ls.flatten[i * m + q]? = some x
  | [], i, s, q, x, _, h, _ => by simp at h
  | y :: ls, 0, s, q, x, hm, h, hq => by
    simp at h
    subst h
    have hq2 := (List.getElem?_eq_some_iff.1 hq).1
    rw [List.flatten_cons, Nat.zero_mul, Nat.zero_add, List.getElem?_append_left hq2]
    exact hq
  | y :: ls, i + 1, s, q, x, hm, h, hq => by
    have h1 := hm y (by simp)
    have ih := flat_get (ls := ls) (i := i) (fun z hz => hm z (by simp [hz])) (by simpa using h) hq
    rw [List.flatten_cons, List.getElem?_append_right (by rw [h1, Nat.add_mul, Nat.one_mul]; omega), h1]
    rw [show (i + 1) * m + q - m = i * m + q by rw [Nat.add_mul, Nat.one_mul]; omega]
    exact ih
/-- A type that is loaded cell by cell: how many. -/
def aggS (T : TypeId) : Option Nat := match te T with | some i => (match i.agg with | true => some i.size | false => none) | none => none
theorem e_loadS {T : TypeId} {X : Operand} {ad : Addr} {j : Int} {m : Nat} {k : IntKind} {ls : List (List Int)} {s : List Int} (hF : Fr n ds l a) (hX : ev l X = some (.pointer (some (adr ad j m)))) (hr : Reads (Value.int k) w (some ad) ls.flatten) (hT : aggS T = some m) (hx : ls[j.toNat]? = some s) (hw : ∀ y ∈ ls, y.length = m) :
    (execOp a.eval ⟨some d, .load T X, ty, pos, af, g⟩).run Try.prog w = .ok (.value (.agg (s.map (Value.int k)).toArray)) w := by
  have hsl := hw s (List.mem_of_getElem? hx)
  unfold aggS at hT
  split at hT
  · rename_i i hi
    split at hT
    · rename_i ha
      injection hT with hT
      have hagg := (te_ok hi).agg w
      have hsz := (te_ok hi).size w
      rw [ha] at hagg
      rw [hT] at hsz
      have := run_loadCells_list (P := Try.prog) w (adr ad j m) (s.map (Value.int k)) (fun q u hu => by
        rw [List.getElem?_map] at hu
        cases hq : s[q]? with
        | none => rw [hq] at hu; simp at hu
        | some x =>
          rw [hq] at hu
          simp only [Option.map_some, Option.some.injEq] at hu
          subst hu
          obtain ⟨b, off, e, hb, hc⟩ := hr _ x (flat_get hw hx hq)
          injection e with e
          subst e
          have : (adr ⟨b, off, none⟩ j m).add q = ⟨b, off + (j.toNat * m + q), none⟩ := by unfold adr; rw [add_lit, add_lit, Nat.add_assoc]
          rw [this]
          exact hc)
      rw [List.length_map, hsl] at this
      simp [execOp, hF.eval hX, Instr.loadAt, Instr.sureAddr, Sem.run_bind, loadVar, hagg, hsz, this, Result.andThen]
    · cases hT
  · cases hT
theorem s_loadS {T : TypeId} {X : Operand} {ad : Addr} {j : Int} {m : Nat} {k : IntKind} {ls : List (List Int)} {s : List Int} (hF : Fr n ds l a) (hM : Mm own w0 bs L Fs w) (hg : wantO os l g = some true) (hX : ev l X = some (.pointer (some (adr ad j m)))) (hr : RdF (Value.int k) (some ad) ls.flatten ∈ Fs) (hT : aggS T = some m) (hd : Nat.blt d n = true) (hx : ls[j.toNat]? = some s) (hw : ∀ y ∈ ls, y.length = m)
    (kk : ∀ a, Fr n ds ((d, .agg (s.map (Value.int k)).toArray) :: l) a → wl ⟨os⟩ Q rest a w) : wl ⟨os⟩ Q (⟨some d, .load T X, ty, pos, af, g⟩ :: rest) a w :=
  s_op hF hg fun _ hK => upon_value (e_loadS hF hX (hM.fact hr) hT hx hw) (hK _ _ (kk _ (hF.put hd _)))
theorem t_loadS {tail : Nat → Bool} {fuel i : Nat} {listed : Array Bool} {bs0 : List BoxE} {Fs0 : List (World → Prop)} {T : TypeId} {X : Operand} {ad : Addr} {j : Int} {m : Nat} {k : IntKind} {ls : List (List Int)} {s : List Int} (hF : Fr n ds l a) (hi : getO os i = some ⟨some d, .load T X, ty, pos, af, g⟩) (hg : wantO os l g = some true) (hX : ev l X = some (.pointer (some (adr ad j m)))) (hr : RdF (Value.int k) (some ad) ls.flatten ∈ Fs0) (hx : ls[j.toNat]? = some s) (hw : ∀ y ∈ ls, y.length = m) (hT : aggS T = some m) (hd : Nat.blt d n = true) (hb : takeB os tail listed i = true) (hS : Sm bs0 Fs0 w) (hQ : ∀ c a w, Q (.panic c) (a.put (some d) (.agg (s.map (Value.int k)).toArray)) w → Q (.panic c) a w)
    (kk : ∀ a, Fr n ds ((d, .agg (s.map (Value.int k)).toArray) :: l) a → wpAnyT Try.prog .any ⟨os⟩ Q (Sm bs0 Fs0) tail fuel (listed.setIfInBounds i true) a w) : wpAnyT Try.prog .any ⟨os⟩ Q (Sm bs0 Fs0) tail (fuel + 1) listed a w :=
  t_take hi hb hQ (.inl ⟨wantO_ok (o := ⟨some d, .load T X, ty, pos, af, g⟩) hF hg, fun _ h => e_loadS hF hX (h.2 _ hr) hT hx hw⟩) hS (kk _ (hF.put hd _))
end
end Go.Proofs.Ytobflnjbdghnhaa
