/- Texts of this seat, one behind the other: J1 Go Gs Gt Gu J5 Gw Gz Ha J6 J9 Gx Gy Ma Hb Hp Hc J7 J2 Ja Jb J8 Jc Jd Je Jf Jg Jh Ji Jj Jk Aru W0 W1 W2 W3 J4 Jl Jm J3 Jn Jo Jp Jq Jr Js Jt Kc Kd Km T1. -/
import Derived.OrdersIn
import Derived.Laws.CopyRow
import Derived.Laws.BytesArg
import Derived.Laws.Bits64b
import Derived.Deep.AppendSrc
import Derived.Lib.Bytes
import Derived.Laws.StructEq
import Derived.ArgAppend
import Derived.RangeFuncRecord
import Derived.RangeFuncOwn
import Derived.MapKept
import Derived.ChangeSame
import Derived.Test.YtadfdpkhehdikaaQVCa
set_option linter.unusedSimpArgs false
set_option linter.unusedVariables false
set_option linter.unusedSectionVars false
set_option maxRecDepth 3000
/- Layer 29 in plain terms: stores of chunks, and what the functions of the layer answer. -/
namespace Go.Proofs.Ytadfdpkhehdikaa
open Go.RowKit Go.Shelf
namespace D29
/-- One more byte in a digest. -/
def dgs (h b : Int) : Int := bits .xor .u64 h (b % 18446744073709551616) * 1099511628211 % 18446744073709551616
def dgf (h : Int) : Int := bits .xor .u64 h (h / 4294967296)
/-- The digest of bytes. -/
def dgB (l : List Int) : Int := dgf (l.foldl dgs 14695981039346656037)
abbrev Dat := List (List Int)
def dg (x : Dat) : Int := dgB x.flatten
structure Itm where
  d : Int
  x : Dat
deriving DecidableEq
structure St where
  cap : Int
  items : List Itm
structure Tok where
  r : Bool
  d : Int
  x : Dat
def isCh (x : Dat) : Bool := decide (1 ≤ x.length ∧ x.length ≤ 4096)
def hasD (l : List Itm) (x : Dat) : Bool := l.any fun i => decide (i.x = x)
/-- The number of the error of the items behind others. -/
def chkL (pre : List Itm) : List Itm → Int
  | [] => 0
  | i :: r => if !isCh i.x then 3 else if i.d ≠ dg i.x then 22 else if hasD pre i.x then 8 else chkL (pre ++ [i]) r
def check (c : St) : Int := if c.cap < 1 ∨ 4096 < c.cap then 2 else if c.cap < c.items.length then 6 else chkL [] c.items
/-- The items when a chunk is added. -/
def addI (cap : Int) (l : List Itm) (x : Dat) : List Itm :=
  if hasD l x then l else if cap < (l ++ [(⟨dg x, x⟩ : Itm)]).length then (l ++ [(⟨dg x, x⟩ : Itm)]).drop 1 else l ++ [(⟨dg x, x⟩ : Itm)]
def findI (l : List Itm) (d : Int) : Option Dat := (l.find? fun i => decide (i.d = d)).map (·.x)
def tokI (l : List Itm) (x : Dat) : Tok := if findI l (dg x) = some x then ⟨true, dg x, []⟩ else ⟨false, 0, x⟩
def encI (cap : Int) : List Dat → List Itm → List Itm × List Tok
  | [], l => (l, [])
  | x :: r, l => ((encI cap r (addI cap l x)).1, tokI l x :: (encI cap r (addI cap l x)).2)
/-- Correct items: chunks with their digests, no two with the same data. -/
structure Its (l : List Itm) : Prop where
  ch : ∀ i ∈ l, isCh i.x = true
  dg : ∀ i ∈ l, i.d = dg i.x
  nd : l.Pairwise fun i j => i.x ≠ j.x
theorem hasD_iff {l : List Itm} {x : Dat} : hasD l x = true ↔ ∃ i ∈ l, i.x = x := by simp [hasD]
/-- A correct store. -/
structure SOk (c : St) : Prop where
  cap : 1 ≤ c.cap ∧ c.cap ≤ 4096
  len : (c.items.length : Int) ≤ c.cap
  its : Its c.items
theorem Its.add {l : List Itm} (h : Its l) {x : Dat} (hx : isCh x = true) (cap : Int) : Its (addI cap l x) := by
  unfold addI
  cases hh : hasD l x with
  | true => simpa using h
  | false =>
    simp only [Bool.false_eq_true, if_false]
    have h2 : Its (l ++ [⟨D29.dg x, x⟩]) := by
      refine ⟨?_, ?_, ?_⟩
      · intro i hi
        rcases List.mem_append.1 hi with hi | hi
        · exact h.ch i hi
        · rw [List.mem_singleton] at hi; rw [hi]; exact hx
      · intro i hi
        rcases List.mem_append.1 hi with hi | hi
        · exact h.dg i hi
        · rw [List.mem_singleton] at hi; rw [hi]
      · rw [List.pairwise_append]
        refine ⟨h.nd, List.pairwise_singleton _ _, fun i hi j hj => ?_⟩
        rw [List.mem_singleton] at hj
        subst hj
        intro e
        have : hasD l x = true := hasD_iff.2 ⟨i, hi, e⟩
        rw [hh] at this
        cases this
    split
    · exact ⟨fun i hi => h2.ch i (List.mem_of_mem_drop hi), fun i hi => h2.dg i (List.mem_of_mem_drop hi), h2.nd.sublist (List.drop_sublist _ _)⟩
    · exact h2
theorem add_len {cap : Int} {l : List Itm} (h : (l.length : Int) ≤ cap) (x : Dat) : ((addI cap l x).length : Int) ≤ cap := by
  unfold addI
  split
  · exact h
  · split
    · rw [List.length_drop, List.length_append, List.length_singleton]
      omega
    · omega
theorem SOk.add {cap : Int} {l : List Itm} (h : SOk ⟨cap, l⟩) {x : Dat} (hx : isCh x = true) : SOk ⟨cap, addI cap l x⟩ := ⟨h.cap, add_len h.len x, h.its.add hx cap⟩
end D29
end Go.Proofs.Ytadfdpkhehdikaa


/- Arrays of integers: compared, and loaded from slices of arrays. -/
namespace Go.Proofs.Ytadfdpkhehdikaa
open Go.RowKit Go.Shelf
theorem part_scl {e : TypeId} {k : IntKind} {xs : List Int} {i : Nat} {x : Int} (h : sclO e = some ()) (hx : xs[i]? = some x) (w : World) : (part e (xs.map (Value.int k)).toArray i).run Try.prog w = .ok (.int k x) w := by
  refine rdV_part ?_ w
  unfold sclO at h
  unfold rdV
  split at h
  · rename_i inf hi
    split at h
    · rename_i ha
      obtain ⟨ag, sz, by', de, ze⟩ := inf
      simp only at ha
      subst ha
      rw [hi]
      simp only
      rw [rdV.at'_eq]
      simp [hx]
    · cases h
  · cases h
theorem equalIn_int {e : TypeId} {k : IntKind} {x y : Int} (h : tyD e = some (.int k)) (d : Nat) (w : World) : (Op.equalIn (d + 1) e (.int k x) (.int k y)).run Try.prog w = .ok (x == y) w := by
  unfold Op.equalIn
  simp only [Sem.run_bind, tyD_run h, Result.andThen]
  simp
theorem eq_loop {e : TypeId} {k : IntKind} {xs ys : List Int} {n d : Nat} (h2 : tyD e = some (.int k)) (hs : sclO e = some ()) (hx : xs.length = n) (hy : ys.length = n) (w : World) : ∀ m i, i + m = n →
    (forIn (List.range' i m) ((none, ()) : Option Bool × Unit) fun (i : Nat) (_ : Option Bool × Unit) => (do
      let a ← part e (xs.map (Value.int k)).toArray (i * 1)
      let b ← part e (ys.map (Value.int k)).toArray (i * 1)
      let c ← Op.equalIn (d + 1) e a b
      if (!c) = true then pure (ForInStep.done (some false, ())) else pure (ForInStep.yield (none, ())) : Sem _)).run Try.prog w = .ok (if xs.drop i = ys.drop i then (none, ()) else (some false, ())) w
  | 0, i, h => by
    rw [List.drop_eq_nil_of_le (by omega), List.drop_eq_nil_of_le (by omega), if_pos rfl]
    simp
  | m + 1, i, h => by
    have hxi := List.getElem?_eq_getElem (l := xs) (i := i) (by omega)
    have hyi := List.getElem?_eq_getElem (l := ys) (i := i) (by omega)
    have p1 := part_scl hs hxi w (k := k)
    have p2 := part_scl hs hyi w (k := k)
    have p3 := equalIn_int (x := xs[i]) (y := ys[i]) h2 d w
    have ih := eq_loop (d := d) h2 hs hx hy w m (i + 1) (by omega)
    have hd : (xs.drop i = ys.drop i) = (xs[i] = ys[i] ∧ xs.drop (i + 1) = ys.drop (i + 1)) := by
      rw [List.drop_eq_getElem_cons (show i < xs.length by omega), List.drop_eq_getElem_cons (show i < ys.length by omega), List.cons.injEq]
    simp only [hd]
    rw [List.range'_succ, List.forIn_cons]
    simp only [Sem.run_bind, Nat.mul_one, p1, p2, p3, Result.andThen]
    by_cases he : xs[i] = ys[i]
    · simp only [he, beq_self_eq_true, Bool.not_true, Bool.false_eq_true, if_false, Sem.run_pure, Result.andThen, true_and]
      simp only [Nat.mul_one] at ih
      rw [ih]
    · have hb : (xs[i] == ys[i]) = false := by simpa using he
      simp [hb, he, Result.andThen]
theorem equal_arr {t e : TypeId} {k : IntKind} {n : Nat} {xs ys : List Int} (h1 : tyD t = some (.array n e)) (h2 : tyD e = some (.int k)) (h3 : tyS e = some 1) (hs : sclO e = some ()) (hx : xs.length = n) (hy : ys.length = n) (w : World) :
    (Op.equal t (.agg (xs.map (Value.int k)).toArray) (.agg (ys.map (Value.int k)).toArray)).run Try.prog w = .ok (decide (xs = ys)) w := by
  unfold Op.equal Op.maxDepth
  rw [show (10000 : Nat) = 9999 + 1 from rfl]
  unfold Op.equalIn
  simp only [Sem.run_bind, tyD_run h1, tyS_run h3, Result.andThen]
  rw [Std.Legacy.Range.forIn_eq_forIn_range']
  have hr : (List.range' [:n].start [:n].size [:n].step) = List.range' 0 n := by simp [Std.Legacy.Range.size]
  rw [hr]
  have := eq_loop (d := 9998) h2 hs hx hy w n 0 (by omega)
  rw [show (9999 : Nat) = 9998 + 1 from rfl]
  rw [this]
  simp only [List.drop_zero, Result.andThen]
  by_cases he : xs = ys
  · simp [he]
  · simp [he]
section
variable {n : Nat} {ds : List Deferred} {l : List (Nat × Value)} {a : Act} {w w0 : World} {own : Nat → Prop} {bs : List BoxE} {L : List Ent} {Fs : List (World → Prop)}
variable {os rest : List Oper} {Q : Exit → Act → World → Prop} {K : Act → World → Prop}
variable {d : Nat} {op : Op} {ty : TypeId} {pos : String} {af : Array Edge} {g : Option (Nat × Bool)}
/-- A type of arrays of integers of one cell: its length and the kind. -/
def arrT (t : TypeId) : Option (Nat × IntKind) := match tyD t with
  | some (.array n e) => match tyD e with
    | some (.int k) => match tyS e, sclO e with
      | some 1, some () => some (n, k)
      | _, _ => none
    | _ => none
  | _ => none
theorem arrT_ok {t : TypeId} {m : Nat} {k : IntKind} (h : arrT t = some (m, k)) : ∃ e, tyD t = some (.array m e) ∧ tyD e = some (.int k) ∧ tyS e = some 1 ∧ sclO e = some () := by
  unfold arrT at h
  split at h
  · rename_i m' e h1
    split at h
    · rename_i k' h2
      split at h
      · rename_i h3 h4
        injection h with h; injection h with h5 h6
        subst h5 h6
        exact ⟨e, h1, h2, h3, h4⟩
      · cases h
    · cases h
  · cases h
def neqB (op : BinOp) (b : Bool) : Option Bool := match op with
  | .eql => some b
  | .neq => some (!b)
  | _ => none
theorem e_eqA {t t' : TypeId} {X Y : Operand} {k : IntKind} {m : Nat} {xs ys : List Int} {op : BinOp} {v : Bool} (hF : Fr n ds l a) (hX : ev l X = some (.agg (xs.map (Value.int k)).toArray)) (hY : ev l Y = some (.agg (ys.map (Value.int k)).toArray)) (ht : arrT t = some (m, k)) (hx : xs.length = m) (hy : ys.length = m) (hg : Try.prog.eqGuardType Try.prog.depth t = false) (hv : neqB op (decide (xs = ys)) = some v) (w : World) {dst : Option Tmp} :
    (execOp a.eval ⟨dst, .binOp op t X Y t', ty, pos, af, g⟩).run Try.prog w = .ok (.value (.bool v)) w := by
  obtain ⟨e, h1, h2, h3, h4⟩ := arrT_ok ht
  have he := equal_arr h1 h2 h3 h4 hx hy w
  unfold neqB at hv
  split at hv
  · injection hv with hv; subst hv
    simp [execOp, hF.eval hX, hF.eval hY, eqGuard, Sem.run_bind, Result.andThen, hg, binOp, he]
  · injection hv with hv; subst hv
    simp [execOp, hF.eval hX, hF.eval hY, eqGuard, Sem.run_bind, Result.andThen, hg, binOp, he]
  · cases hv
theorem t_eqA {tail : Nat → Bool} {fuel i : Nat} {listed : Array Bool} {bs0 : List BoxE} {Fs0 : List (World → Prop)} {t t' : TypeId} {X Y : Operand} {k : IntKind} {m : Nat} {xs ys : List Int} {op : BinOp} {v : Bool} (hF : Fr n ds l a) (hi : getO os i = some ⟨some d, .binOp op t X Y t', ty, pos, af, g⟩) (hg : wantO os l g = some true) (hX : ev l X = some (.agg (xs.map (Value.int k)).toArray)) (hY : ev l Y = some (.agg (ys.map (Value.int k)).toArray)) (ht : arrT t = some (m, k)) (hq : Try.prog.eqGuardType Try.prog.depth t = false) (hv : neqB op (decide (xs = ys)) = some v) (hd : Nat.blt d n = true) (hb : takeB os tail listed i = true) (hx : xs.length = m) (hy : ys.length = m) (hS : Sm bs0 Fs0 w) (hQ : ∀ c a w, Q (.panic c) (a.put (some d) (.bool v)) w → Q (.panic c) a w)
    (kk : ∀ a, Fr n ds ((d, .bool v) :: l) a → wpAnyT Try.prog .any ⟨os⟩ Q (Sm bs0 Fs0) tail fuel (listed.setIfInBounds i true) a w) : wpAnyT Try.prog .any ⟨os⟩ Q (Sm bs0 Fs0) tail (fuel + 1) listed a w :=
  t_take hi hb hQ (.inl ⟨wantO_ok (o := ⟨some d, .binOp op t X Y t', ty, pos, af, g⟩) hF hg, fun w _ => e_eqA hF hX hY ht hx hy hq hv w⟩) hS (kk _ (hF.put hd _))
/-! Loads of arrays that are elements -/
theorem flat_get {α : Type} {m : Nat} : ∀ {ls : List (List α)} {i : Nat} {s : List α} {q : Nat} {x : α}, (∀ y ∈ ls, y.length = m) → ls[i]? = some s → s[q]? = some x → ls.flatten[i * m + q]? = some x
  | [], i, s, q, x, _, h, _ => by simp at h
  | y :: ls, 0, s, q, x, hm, h, hq => by
    simp at h
    subst h
    have hq2 := (List.getElem?_eq_some_iff.1 hq).1
    rw [List.flatten_cons, Nat.zero_mul, Nat.zero_add, List.getElem?_append_left hq2]
    exact hq
  | y :: ls, i + 1, s, q, x, hm, h, hq => by
    have h1 := hm y (by simp)
    have ih := flat_get (ls := ls) (i := i) (fun z hz => hm z (by simp [hz])) (by simpa using h) hq
    rw [List.flatten_cons, List.getElem?_append_right (by rw [h1, Nat.add_mul, Nat.one_mul]; omega), h1]
    rw [show (i + 1) * m + q - m = i * m + q by rw [Nat.add_mul, Nat.one_mul]; omega]
    exact ih
/-- A type that is loaded cell by cell: how many. -/
def aggS (T : TypeId) : Option Nat := match te T with | some i => (match i.agg with | true => some i.size | false => none) | none => none
theorem e_loadS {T : TypeId} {X : Operand} {ad : Addr} {j : Int} {m : Nat} {k : IntKind} {ls : List (List Int)} {s : List Int} (hF : Fr n ds l a) (hX : ev l X = some (.pointer (some (adr ad j m)))) (hr : Reads (Value.int k) w (some ad) ls.flatten) (hT : aggS T = some m) (hx : ls[j.toNat]? = some s) (hw : ∀ y ∈ ls, y.length = m) :
    (execOp a.eval ⟨some d, .load T X, ty, pos, af, g⟩).run Try.prog w = .ok (.value (.agg (s.map (Value.int k)).toArray)) w := by
  have hsl := hw s (List.mem_of_getElem? hx)
  unfold aggS at hT
  split at hT
  · rename_i i hi
    split at hT
    · rename_i ha
      injection hT with hT
      have hagg := (te_ok hi).agg w
      have hsz := (te_ok hi).size w
      rw [ha] at hagg
      rw [hT] at hsz
      have := run_loadCells_list (P := Try.prog) w (adr ad j m) (s.map (Value.int k)) (fun q u hu => by
        rw [List.getElem?_map] at hu
        cases hq : s[q]? with
        | none => rw [hq] at hu; simp at hu
        | some x =>
          rw [hq] at hu
          simp only [Option.map_some, Option.some.injEq] at hu
          subst hu
          obtain ⟨b, off, e, hb, hc⟩ := hr _ x (flat_get hw hx hq)
          injection e with e
          subst e
          have : (adr ⟨b, off, none⟩ j m).add q = ⟨b, off + (j.toNat * m + q), none⟩ := by unfold adr; rw [add_lit, add_lit, Nat.add_assoc]
          rw [this]
          exact hc)
      rw [List.length_map, hsl] at this
      simp [execOp, hF.eval hX, Instr.loadAt, Instr.sureAddr, Sem.run_bind, loadVar, hagg, hsz, this, Result.andThen]
    · cases hT
  · cases hT
theorem s_loadS {T : TypeId} {X : Operand} {ad : Addr} {j : Int} {m : Nat} {k : IntKind} {ls : List (List Int)} {s : List Int} (hF : Fr n ds l a) (hM : Mm own w0 bs L Fs w) (hg : wantO os l g = some true) (hX : ev l X = some (.pointer (some (adr ad j m)))) (hr : RdF (Value.int k) (some ad) ls.flatten ∈ Fs) (hT : aggS T = some m) (hd : Nat.blt d n = true) (hx : ls[j.toNat]? = some s) (hw : ∀ y ∈ ls, y.length = m)
    (kk : ∀ a, Fr n ds ((d, .agg (s.map (Value.int k)).toArray) :: l) a → wl ⟨os⟩ Q rest a w) : wl ⟨os⟩ Q (⟨some d, .load T X, ty, pos, af, g⟩ :: rest) a w :=
  s_op hF hg fun _ hK => upon_value (e_loadS hF hX (hM.fact hr) hT hx hw) (hK _ _ (kk _ (hF.put hd _)))
theorem t_loadS {tail : Nat → Bool} {fuel i : Nat} {listed : Array Bool} {bs0 : List BoxE} {Fs0 : List (World → Prop)} {T : TypeId} {X : Operand} {ad : Addr} {j : Int} {m : Nat} {k : IntKind} {ls : List (List Int)} {s : List Int} (hF : Fr n ds l a) (hi : getO os i = some ⟨some d, .load T X, ty, pos, af, g⟩) (hg : wantO os l g = some true) (hX : ev l X = some (.pointer (some (adr ad j m)))) (hr : RdF (Value.int k) (some ad) ls.flatten ∈ Fs0) (hx : ls[j.toNat]? = some s) (hw : ∀ y ∈ ls, y.length = m) (hT : aggS T = some m) (hd : Nat.blt d n = true) (hb : takeB os tail listed i = true) (hS : Sm bs0 Fs0 w) (hQ : ∀ c a w, Q (.panic c) (a.put (some d) (.agg (s.map (Value.int k)).toArray)) w → Q (.panic c) a w)
    (kk : ∀ a, Fr n ds ((d, .agg (s.map (Value.int k)).toArray) :: l) a → wpAnyT Try.prog .any ⟨os⟩ Q (Sm bs0 Fs0) tail fuel (listed.setIfInBounds i true) a w) : wpAnyT Try.prog .any ⟨os⟩ Q (Sm bs0 Fs0) tail (fuel + 1) listed a w :=
  t_take hi hb hQ (.inl ⟨wantO_ok (o := ⟨some d, .load T X, ty, pos, af, g⟩) hF hg, fun _ h => e_loadS hF hX (h.2 _ hr) hT hx hw⟩) hS (kk _ (hF.put hd _))
end
end Go.Proofs.Ytadfdpkhehdikaa


/- Calls of yield; ranges over a function whose loop variable is boxed. -/
namespace Go.Proofs.Ytadfdpkhehdikaa
open Go.RowKit Go.Shelf
variable {n : Nat} {ds : List Deferred} {l : List (Nat × Value)} {a : Act} {w w0 : World} {own : Nat → Prop} {bs : List BoxE} {L : List Ent} {Fs : List (World → Prop)}
variable {Q : Exit → Act → World → Prop} {os rest : List Oper}
theorem op_wide {m : Nat} {o : Oper} {a : Act} {w : World} {K : Act → World → Prop} {Q : Exit → Act → World → Prop} (h : o.wp Try.prog a w K Q) : o.wpIn Fence.wide m Try.prog a w K Q := by
  refine ⟨fun _ _ => trivial, ?_⟩
  have he : o.semAt Fence.wide.round a.eval = execOp a.eval o := rfl
  rw [he]
  unfold Oper.wp at h
  generalize (execOp a.eval o).run Try.prog w = r at h ⊢
  cases r with
  | ok x w' =>
    cases x <;> simp only [Oper.upon] at h <;> simp only [Oper.uponIn] <;> first
      | exact h
      | exact ⟨fun hz => by simp [Fence.wide] at hz, callsIn_wide.2 h⟩
      | exact ⟨fun hz => by simp [Fence.wide] at hz, fun c cs _ => let ⟨v, w', r, s⟩ := h c cs; ⟨v, w', r, stepsIn_wide.2 s⟩⟩
      | exact h.elim
  | halt x w' => cases x <;> simp only [Oper.upon] at h <;> simp only [Oper.uponIn] <;> first | exact h | exact h.elim
theorem wl_wide {m : Nat} {ops : Array Oper} {Q : Exit → Act → World → Prop} : ∀ {rest : List Oper} {a : Act} {w : World}, wl ops Q rest a w → wpListIn Fence.wide m Try.prog ops Q rest a w
  | [], _, _, h => h
  | o :: rest, a, w, h => by
    unfold wl at h
    unfold wpListIn
    split
    · rename_i hw
      rw [if_pos hw] at h
      exact op_wide (Oper.wp_mono (fun _ _ h' => wl_wide h') h)
    · rename_i hw
      rw [if_neg hw] at h
      exact ⟨fun _ _ => trivial, wl_wide h⟩
theorem upon_no {o : Oper} {K : Act → World → Prop} {Q Q' : Exit → Act → World → Prop} (hq : ∀ c a w, Q (.panic c) a w → Q' (.panic c) a w) (hq2 : ∀ a w, Q .outgrown a w → Q' .outgrown a w) {a : Act} {w : World} (h : o.wp Try.prog a w K Q) : o.wp Try.prog a w K Q' := by
  unfold Oper.wp at h ⊢
  generalize (execOp a.eval o).run Try.prog w = r at h ⊢
  cases r with
  | ok x w' =>
    cases x <;> simp only [Oper.upon] at h ⊢ <;> first
      | exact h
      | (refine Calls.mono h ?_; intro e w' h; cases e <;> first | exact h | exact hq _ _ _ h | exact (let ⟨a, w, h⟩ := h; ⟨a, w, hq2 _ _ h⟩))
      | exact h.elim
  | halt x w' => cases x <;> simp only [Oper.upon] at h ⊢ <;> first | exact h | exact hq _ _ _ h | exact h.elim
theorem wl_pre {m : Nat} {ops : Array Oper} {Q : Exit → Act → World → Prop} {J : Act → World → Prop} {rest : List Oper} (hJ : ∀ a w, J a w → wpListIn Fence.wide m Try.prog ops Q rest a w) : ∀ {pre : List Oper} {a : Act} {w : World}, wl ops (Exit.then J Q) pre a w → wpListIn Fence.wide m Try.prog ops Q (pre ++ rest) a w
  | [], a, w, h => hJ a w h
  | o :: pre, a, w, h => by
    unfold wl at h
    rw [List.cons_append]
    unfold wpListIn
    split
    · rename_i hw
      rw [if_pos hw] at h
      exact op_wide (upon_no (fun c a w h => h) (fun a w h => h) (Oper.wp_mono (fun _ _ h' => wl_pre hJ h') h))
    · rename_i hw
      rw [if_neg hw] at h
      exact ⟨fun _ _ => trivial, wl_pre hJ h⟩
/-- A call of yield in the middle of a region. -/
theorem c_yield (k m : Nat) {id d : Nat} {X : Operand} {as_ : List Operand} {ts : Array TypeId} {ty : TypeId} {pos : String} {af : Array Edge} (ho : os.drop k = ⟨some d, .call ⟨.value X, ⟨as_⟩, ts⟩, ty, pos, af, none⟩ :: rest) (hd : Nat.blt d n = true)
    (h : wl ⟨os⟩ (Exit.then (fun a w => ∃ l vs lp R, Fr n ds l a ∧ ev l X = some (.func (.yield lp) #[] #[]) ∧ evL l as_ = some vs ∧ YieldAt Fence.wide m Try.prog lp ⟨vs⟩ w R ∧
      ∀ e w', R e w' → ∃ v, e = .returned v ∧ ∀ a', Fr n ds ((d, v) :: l) a' → wl ⟨os⟩ Q rest a' w') Q) (os.take k) a w) : Wk none (Code.region id ⟨os⟩ false) Q a w := by
  refine (wpIn_wide (n := m + 1)).1 (wpIn_region_list ?_)
  have key : wpListIn Fence.wide (m + 1) Try.prog ⟨os⟩ Q (os.take k ++ os.drop k) a w := by
    rw [ho]
    refine wl_pre ?_ h
    rintro a w ⟨l, vs, lp, R, hF, hX, ha, ⟨fn, tmps, assign, body, hy, hR⟩, hk⟩
    unfold wpListIn
    rw [if_pos (by simp [Region.wanted])]
    refine ⟨fun _ _ => trivial, ?_⟩
    have h1 := hF.evalL ha
    have he : (Oper.semAt Fence.wide.round a.eval ⟨some d, .call ⟨.value X, ⟨as_⟩, ts⟩, ty, pos, af, none⟩).run Try.prog w = .ok (.round lp fn tmps assign body) w := by
      have hs : Oper.semAt Fence.wide.round a.eval ⟨some d, .call ⟨.value X, ⟨as_⟩, ts⟩, ty, pos, af, none⟩ = execOp a.eval ⟨some d, .call ⟨.value X, ⟨as_⟩, ts⟩, ty, pos, af, none⟩ := rfl
      rw [hs]
      simp [execOp, resolve, hF.eval hX, Deferred.ofValue, invoke, h1, Sem.run_bind, Result.andThen, hy]
    rw [he, Oper.uponIn_round]
    refine ⟨fun hz => by simp [Fence.wide] at hz, ?_⟩
    refine RoundIn.mono hR ?_
    intro e w' hr
    obtain ⟨v, rfl, hk2⟩ := hk e w' hr
    exact wl_wide (hk2 _ (hF.put hd v))
  rwa [List.take_append_drop] at key
/-- What has the type T, from B on, stays. -/
def KT (B : Nat) (T : TypeId) (w : World) : World → Prop := fun w' => ∀ k cs, B ≤ k → w.heap[k]? = some (.cells cs T (0, 0)) → w'.heap[k]? = some (.cells cs T (0, 0))
theorem KT.refl (B : Nat) (T : TypeId) (w : World) : KT B T w w := fun _ _ _ h => h
theorem KT.trans {B : Nat} {T : TypeId} {x y z : World} (h : KT B T x y) (k : KT B T y z) : KT B T x z := fun i cs hb hi => k i cs hb (h i cs hb hi)
theorem KT.grown {B : Nat} {T : TypeId} {w w' : World} (h : w.grownBy w' none) : KT B T w w' := fun k _ _ hk => (h.block k (Array.getElem?_eq_some_iff.1 hk).1 (by simp)).trans hk
theorem KT.putObj {B : Nat} {T : TypeId} {w : World} {j : Nat} {o : Obj} (o' : Obj) (h : w.heap[j]? = some o) (hc : o.isCells = false) : KT B T w (w.putObj j o') := fun k _ _ hk =>
  (World.putObj_heap_other (fun e => by subst e; rw [hk] at h; injection h with h; subst h; cases hc)).trans hk
theorem Mm.alien (m : Mm own w0 bs L Fs w) {T : TypeId} {k : Nat} {cs : Array Value} (h1 : ∀ x ∈ bs, x.T ≠ T) (h2 : ∀ y ∈ L, y.e ≠ T) (hb : w0.heap.size ≤ k) (hk : w.heap[k]? = some (.cells cs T (0, 0))) : ¬ ownOf own bs L k := by
  rintro (h | ⟨x, hx, rfl⟩ | ⟨y, hy, he⟩)
  · have := m.low k h; omega
  · rw [show w.heap[x.b]? = _ from m.mem.box x hx] at hk
    injection hk with hk
    injection hk with _ hT
    exact h1 x hx hT
  · obtain ⟨_, r⟩ := m.mem.own.own y hy
    rcases r with ⟨r, _⟩ | ⟨g, cap, cur, e1, e2, e3, r⟩
    · rw [r] at he; cases he
    · rw [e1] at he
      injection he with he
      have he : g = k := he
      subst he
      rw [e3] at hk
      injection hk with hk
      injection hk with _ hT
      exact h2 y hy hT
theorem Mm.kt (m : Mm own w0 bs L Fs w) (T : TypeId) (h1 : ∀ x ∈ bs, x.T ≠ T) (h2 : ∀ y ∈ L, y.e ≠ T) : Has (ownOf own bs L) w (KT w0.heap.size T w) := by
  refine ⟨fun b => w0.heap.size ≤ b ∧ ∃ cs, w.heap[b]? = some (.cells cs T (0, 0)), ?_, ?_⟩
  · rintro b ⟨hb, cs, hk⟩
    exact ⟨(Array.getElem?_eq_some_iff.1 hk).1, m.alien h1 h2 hb hk⟩
  · intro w' h _ k cs hb hk
    exact (h k ⟨hb, cs, hk⟩).trans hk
/-! An array as a slice -/
section
variable {d : Nat} {op : Op} {ty : TypeId} {pos : String} {af : Array Edge} {g : Option (Nat × Bool)}
def arrO (t : TypeId) : Option (Nat × Nat) := match tyD t with
  | some (.array m e) => match tyS e with
    | some z => some (m, z)
    | none => none
  | _ => none
theorem arrO_ok {t : TypeId} {m z : Nat} (h : arrO t = some (m, z)) : ∃ e, tyD t = some (.array m e) ∧ tyS e = some z := by
  unfold arrO at h
  split at h
  · rename_i m' e h1
    split at h
    · rename_i z' h2
      injection h with h; injection h with h3 h4
      subst h3 h4
      exact ⟨e, h1, h2⟩
    · cases h
  · cases h
theorem e_arrSl {t : TypeId} {X : Operand} {m z b off : Nat} (hF : Fr n ds l a) (hX : ev l X = some (.pointer (some ⟨b, off, none⟩))) (ht : arrO t = some (m, z)) (w : World) {dst : Option Tmp} :
    (execOp a.eval ⟨dst, .slice t X none none none, ty, pos, af, g⟩).run Try.prog w = .ok (.value (.slice (some ⟨b, off, none⟩) m m)) w := by
  obtain ⟨e, h1, h2⟩ := arrO_ok ht
  simp only [execOp, hF.eval hX, Option.map_none]
  simp [Instr.sliceAt, Instr.sliceBounds, Sem.run_bind, tyD_run h1, tyS_run h2, Result.andThen, Instr.sureAddr, add_lit]
theorem s_arrSl {t : TypeId} {X : Operand} {m z b off : Nat} (hF : Fr n ds l a) (hg : wantO os l g = some true) (hX : ev l X = some (.pointer (some ⟨b, off, none⟩))) (ht : arrO t = some (m, z)) (hd : Nat.blt d n = true)
    (kk : ∀ a, Fr n ds ((d, .slice (some ⟨b, off, none⟩) m m) :: l) a → wl ⟨os⟩ Q rest a w) : wl ⟨os⟩ Q (⟨some d, .slice t X none none none, ty, pos, af, g⟩ :: rest) a w :=
  s_op hF hg fun _ hK => upon_value (e_arrSl hF hX ht w) (hK _ _ (kk _ (hF.put hd _)))
end
/-! Drawn regions in a round -/
theorem any_in {l m : Nat} {ops : Array Oper} {Q : Exit → Act → World → Prop} (hd : ∀ (i : Nat) (o : Oper), ops[i]? = some o → noDefer o = true) (hno : ¬ LetsOut Q) : ∀ (fuel : Nat) (listed : Array Bool) (a : Act) (w : World), wpAny Try.prog .any ops Q fuel listed a w → wpAnyIn (Fence.wide.inRound l) m Try.prog .any ops Q fuel listed a w
  | 0, _, _, _, h => h
  | fuel + 1, listed, a, w, h => by
    refine ⟨h.1, fun i hi => ?_⟩
    have := h.2 i hi
    unfold wpOp at this
    unfold wpOpIn
    split
    · rename_i ho
      rw [ho] at this
      exact any_in hd hno fuel _ a w this
    · rename_i o ho
      rw [ho] at this
      simp only at this
      split
      · rename_i hw
        rw [if_pos hw] at this
        rcases this with h1 | ⟨_, h2⟩
        · exact op_in (hd i o ho) (Oper.wp_mono (fun a w h' => any_in hd hno fuel _ a w h') h1)
        · exact absurd h2 hno
      · rename_i hw
        rw [if_neg hw] at this
        exact ⟨fun _ _ => trivial, any_in hd hno fuel _ _ w this⟩
theorem c_drawR {id l m : Nat} {bs0 : List BoxE} (tail : Nat → Bool) (hd : os.all noDefer = true) (hno : ¬ LetsOut Q) (hs : ∀ x ∈ bs0, x ∈ bs) (hM : Mm own w0 bs L Fs w) (h : ∀ w, Mm own w0 bs L Fs w → wpAnyT Try.prog .any ⟨os⟩ Q (Sm bs0 Fs) tail os.length (Array.replicate os.length false) a w) : Wk (some (l, m)) (Code.region id ⟨os⟩ true) Q a w :=
  wpIn_region_any mixed (any_in (fun i o ho => List.all_eq_true.1 hd o (List.mem_of_getElem? (by simpa using ho))) hno _ _ _ _ (wpAny_of_T _ _ _ _ (by have := h _ hM.drew; simpa using this)))
end Go.Proofs.Ytadfdpkhehdikaa


/- Copies; zeros appended; boxes and rows replaced; bytes as strings. -/
namespace Go.Proofs.Ytadfdpkhehdikaa
open Go.RowKit Go.Shelf
section
variable {n : Nat} {ds : List Deferred} {l : List (Nat × Value)} {a : Act} {w w' w0 : World} {own : Nat → Prop} {bs : List BoxE} {L : List Ent} {Fs : List (World → Prop)}
variable {os rest : List Oper} {Q : Exit → Act → World → Prop} {K : Act → World → Prop}
variable {d : Nat} {op : Op} {ty : TypeId} {pos : String} {af : Array Edge} {g : Option (Nat × Bool)}
theorem grownBy_setRow (w : World) (g : Nat) (cs : Array Value) : w.grownBy (w.setRow g cs) (some g) :=
  ⟨rfl, rfl, rfl, by simp [World.setRow], fun k _ hk => setRow_other w g k _ (fun e => hk (by rw [e]))⟩
/-! A row's cells replaced -/
theorem splice_take {α : Type} (C cs : List α) (o N : Nat) (h : o + cs.length ≤ N) (hC : N ≤ C.length) : (C.take o ++ cs ++ C.drop (o + cs.length)).take N = (C.take N).take o ++ cs ++ (C.take N).drop (o + cs.length) := by
  have h1 : (C.take o).length = o := by rw [List.length_take]; omega
  rw [List.take_append, List.take_of_length_le (by rw [List.length_append, h1]; omega), List.length_append, h1, List.take_take, Nat.min_eq_left (by omega), List.drop_take]
theorem Mm.rowTo (hM : Mm own w0 bs L Fs w) {k : Nat} {e : TypeId} {size m c gb : Nat} {xs : List Value} (hL : L[k]? = some ⟨e, size, .slice (some ⟨gb, 0, none⟩) m c, m, xs⟩) (o : Nat) (cs : List Value) (h : o + cs.length ≤ m * size) :
    ∃ cur : Array Value, w.heap[gb]? = some (.cells cur e (0, 0)) ∧ o + cs.length ≤ cur.size ∧ Mm own w0 bs (L.set k ⟨e, size, .slice (some ⟨gb, 0, none⟩) m c, m, xs.take o ++ cs ++ xs.drop (o + cs.length)⟩) Fs (w.setRow gb (cur.toList.take o ++ cs ++ cur.toList.drop (o + cs.length)).toArray) := by
  have hown := hM.mem.own.get hL
  obtain ⟨hlen, hr⟩ := hown
  rcases hr with ⟨h', _⟩ | ⟨g', cap', cur, h', h1, h2, h3, h4, h5, h6⟩
  · simp at h'
  · simp only [Value.slice.injEq, Option.some.injEq, Addr.mk.injEq, and_true] at h'
    obtain ⟨rfl, _, rfl⟩ := h'
    simp only at hlen h1 h2 h3 h4 h5 h6
    have hcur : m * size ≤ cur.size := by rw [h5]; exact Nat.mul_le_mul_right _ h3
    refine ⟨cur, h2, by omega, hM.app hL ⟨?_, .inr ⟨gb, c, _, rfl, h1, setRow_heap w gb cur _ e _ h2, h3, h4, ?_, ?_⟩⟩ (grownBy_setRow w gb _) (.inl rfl)⟩
    · simp only [List.length_append, List.length_take, List.length_drop]
      omega
    · rw [← h5]
      simp only [List.size_toArray, List.length_append, List.length_take, List.length_drop, Array.length_toList]
      omega
    · show (cur.toList.take o ++ cs ++ cur.toList.drop (o + cs.length)).take (m * size) = _
      rw [splice_take _ _ _ _ h (by simpa using hcur), h6]
/-- The run of a copy, whatever the elements' size. -/
theorem run_copy_gen {P : Program} (w : World) (dT sT ty elem : TypeId) (size g o dLen dCap : Nat) (a : Addr) (sLen sCap : Nat) (cur : Array Value) (t : TypeId) (cs : List Value)
    (hu : P.underlying dT = some (.slice elem)) (hs : (P.info? elem).map (·.size) = some size)
    (hg : w.heap[g]? = some (.cells cur t (0, 0))) (hn : cs.length = Nat.min sLen dLen * size)
    (hsrc : ∀ j v, cs[j]? = some v → w.cell? (a.add j) = some v) (hfit : o + cs.length ≤ cur.size) (h1 : ∀ v ∈ cs, v.oneCell' = true) :
    (Builtin.copy_ #[dT, sT] ty #[.slice (some ⟨g, o, none⟩) dLen dCap, .slice (some a) sLen sCap]).run P w =
      .ok (goInt (Nat.min sLen dLen)) (w.setRow g (cur.toList.take o ++ cs ++ cur.toList.drop (o + cs.length)).toArray) := by
  have hl := run_loadCells_list (P := P) w a cs hsrc
  have hst := run_storeCells_at P g o t cs 0 cur w hg (by simpa using hfit) h1
  cases hq : P.info? elem with
  | none => simp [hq] at hs
  | some i =>
    have hi : i.size = size := by simpa [hq] using hs
    simp [Builtin.copy_, run_underlying hu, Builtin.lenOf, Builtin.firstCells, sizeOf, typeInfo, hq, hi, ← hn, hl, hst]
/-- copy into a row. -/
theorem e_copyR {t s e e' : TypeId} {size size' bytes gb off q c m m2 c2 c' j : Nat} {ad : Addr} {cs xs : List Value} {D X : Operand} {dst : Option Tmp} (hF : Fr n ds l a) (hM : Mm own w0 bs L Fs w) (hD : ev l D = some (.slice (some ⟨gb, off, none⟩) q c)) (hX : ev l X = some (.slice (some ad) m2 c2)) (he : elO t = some (e, size, bytes)) (h1 : ∀ v ∈ cs, v.oneCell' = true)
    (hL : Kth L j ⟨e', size', .slice (some ⟨gb, 0, none⟩) m c', m, xs⟩) (hn : cs.length = Nat.min m2 q * size) (hsrc : ∀ i v, cs[i]? = some v → w.cell? (ad.add i) = some v) (hfit : off + cs.length ≤ m * size')
    (kk : ∀ w', Mm own w0 bs (L.set j ⟨e', size', .slice (some ⟨gb, 0, none⟩) m c', m, xs.take off ++ cs ++ xs.drop (off + cs.length)⟩) Fs w' → K (a.put dst (.int .i64 (Nat.min m2 q : Nat))) w') : (⟨dst, .call ⟨.builtin .copy, #[D, X], #[t, s]⟩, ty, pos, af, g⟩ : Oper).wp Try.prog a w K Q := by
  obtain ⟨e1, e2, i, z, i1, i2, i3, i4, i5⟩ := elO_ok he
  have hsz : (Try.prog.info? e).map (·.size) = some size := by rw [i1]; simp [i3]
  obtain ⟨cur, hc1, hc2, hm⟩ := hM.rowTo hL.get off cs hfit
  have hr := run_copy_gen w t s ty e size gb off q c ad m2 c2 cur e' cs e1 hsz hc1 hn hsrc hc2 h1
  unfold Oper.wp execOp
  simp only [resolve, invoke, builtin, Sem.run_bind, Sem.run_pure, Result.andThen_ok, List.map_toArray, List.map_cons, List.map_nil, hF.eval hD, hF.eval hX, hr]
  exact kk _ hm
/-! Bytes as strings -/
theorem e_b2s {src dst' e : TypeId} {X : Operand} {ao : Option Addr} {xs : List Int} {m c : Nat} (hF : Fr n ds l a) (hM : Mm own w0 bs L Fs w) (hX : ev l X = some (.slice ao m c)) (hf : RdF (Value.int .u8) ao xs ∈ Fs) (h1 : tyD src = some (.slice e)) (h2 : tyD e = some (.int .u8)) (h3 : tyD dst' = some .string) (hm : xs.length = m) {dst : Option Tmp} :
    (execOp a.eval ⟨dst, .convert src dst' X, ty, pos, af, g⟩).run Try.prog w = .ok (.value (.string (strOfNums xs))) w := by
  have hrd := hM.fact hf
  have key : (convert src dst' (.slice ao m c)).run Try.prog w = .ok (.string (strOfNums xs)) w := by
    rcases Nat.eq_zero_or_pos m with h0 | h0
    · obtain rfl : xs = [] := List.length_eq_zero_iff.1 (by omega)
      cases ao with
      | none => exact run_convert_bytes_nil w src e (tyD_ok h1) (tyD_ok h2) m c dst' (tyD_ok h3)
      | some ad =>
        subst h0
        rw [run_convert_bytes_string w src dst' e _ 0 c (tyD_ok h1) (tyD_ok h2) (tyD_ok h3), run_bytesToString w ad 0 c [] (by simpa using run_loadCells_list (P := Try.prog) w ad [] (by simp))]
        rfl
    · obtain ⟨b, off, rfl, _, _⟩ := hrd 0 _ (List.getElem?_eq_getElem (by omega))
      refine run_convert_bytes_arg w src e (tyD_ok h1) (tyD_ok h2) b off m c xs hm (fun i hi => ?_) dst' (tyD_ok h3)
      obtain ⟨b', off', e4, _, e5⟩ := hrd i xs[i] (List.getElem?_eq_getElem (by omega))
      simp only [Option.some.injEq, Addr.mk.injEq, and_true] at e4
      obtain ⟨rfl, rfl⟩ := e4
      rw [e5]
      simp [List.getD, List.getElem?_eq_getElem (show i < xs.length by omega)]
  simp only [execOp, hF.eval hX]
  simp [Sem.run_bind, key, Result.andThen]
theorem s_b2s {src dst' e : TypeId} {X : Operand} {ao : Option Addr} {xs : List Int} {m c : Nat} (hF : Fr n ds l a) (hM : Mm own w0 bs L Fs w) (hg : wantO os l g = some true) (hX : ev l X = some (.slice ao m c)) (hf : RdF (Value.int .u8) ao xs ∈ Fs) (h1 : tyD src = some (.slice e)) (h2 : tyD e = some (.int .u8)) (h3 : tyD dst' = some .string) (hd : Nat.blt d n = true) (hm : xs.length = m)
    (kk : ∀ a, Fr n ds ((d, .string (strOfNums xs)) :: l) a → wl ⟨os⟩ Q rest a w) : wl ⟨os⟩ Q (⟨some d, .convert src dst' X, ty, pos, af, g⟩ :: rest) a w :=
  s_op hF hg fun _ hK => upon_value (e_b2s hF hM hX hf h1 h2 h3 hm) (hK _ _ (kk _ (hF.put hd _)))
theorem strOf_inj {xs ys : List Int} (hx : ∀ x ∈ xs, 0 ≤ x ∧ x < 256) (hy : ∀ y ∈ ys, 0 ≤ y ∧ y < 256) : strOfNums xs = strOfNums ys ↔ xs = ys := by
  refine ⟨fun h => ?_, fun h => by rw [h]⟩
  have h2 := congrArg (fun b : ByteArray => b.data.toList) h
  simp only [strOfNums_data] at h2
  clear h
  induction xs generalizing ys with
  | nil => cases ys with
    | nil => rfl
    | cons y ys => simp at h2
  | cons x xs ih => cases ys with
    | nil => simp at h2
    | cons y ys =>
      rw [List.map_cons, List.map_cons, List.cons.injEq] at h2
      have hx0 := hx x (by simp)
      have hy0 := hy y (by simp)
      have e := congrArg UInt8.toNat h2.1
      simp only [UInt8.toNat_ofNat'] at e
      have : x = y := by omega
      rw [this, ih (fun z hz => hx z (List.mem_cons_of_mem _ hz)) (fun z hz => hy z (List.mem_cons_of_mem _ hz)) h2.2]
theorem strOf_beq {xs ys : List Int} (hx : ∀ x ∈ xs, 0 ≤ x ∧ x < 256) (hy : ∀ y ∈ ys, 0 ≤ y ∧ y < 256) : ((strOfNums xs).toList == (strOfNums ys).toList) = decide (xs = ys) := by
  rw [Lib.toList_data, Lib.toList_data]
  by_cases h : xs = ys
  · subst h; simp
  · rw [decide_eq_false h]
    simp only [beq_eq_false_iff_ne, ne_eq]
    intro e
    refine h ((strOf_inj hx hy).1 ?_)
    have : (strOfNums xs).data = (strOfNums ys).data := Array.ext' e
    generalize strOfNums xs = A at *
    generalize strOfNums ys = B at *
    cases A; cases B
    simp only at this
    rw [this]
theorem e_eqS {t t' : TypeId} {X Y : Operand} {xs ys : List Int} (hF : Fr n ds l a) (hX : ev l X = some (.string (strOfNums xs))) (hY : ev l Y = some (.string (strOfNums ys))) (hg : Try.prog.eqGuardType Try.prog.depth t = false) (hx : ∀ x ∈ xs, 0 ≤ x ∧ x < 256) (hy : ∀ y ∈ ys, 0 ≤ y ∧ y < 256) (w : World) {dst : Option Tmp} :
    (execOp a.eval ⟨dst, .binOp .eql t X Y t', ty, pos, af, g⟩).run Try.prog w = .ok (.value (.bool (decide (xs = ys)))) w := by
  simp [execOp, hF.eval hX, hF.eval hY, eqGuard, Sem.run_bind, Result.andThen, hg, binOp, Op.stringOp, strOf_beq hx hy]
theorem s_eqS {t t' : TypeId} {X Y : Operand} {xs ys : List Int} (hF : Fr n ds l a) (hg : wantO os l g = some true) (hX : ev l X = some (.string (strOfNums xs))) (hY : ev l Y = some (.string (strOfNums ys))) (hq : Try.prog.eqGuardType Try.prog.depth t = false) (hd : Nat.blt d n = true) (hx : ∀ x ∈ xs, 0 ≤ x ∧ x < 256) (hy : ∀ y ∈ ys, 0 ≤ y ∧ y < 256)
    (kk : ∀ a, Fr n ds ((d, .bool (decide (xs = ys))) :: l) a → wl ⟨os⟩ Q rest a w) : wl ⟨os⟩ Q (⟨some d, .binOp .eql t X Y t', ty, pos, af, g⟩ :: rest) a w :=
  s_op hF hg fun _ hK => upon_value (e_eqS hF hX hY hq hx hy w) (hK _ _ (kk _ (hF.put hd _)))
end
end Go.Proofs.Ytadfdpkhehdikaa


/- Zeros appended; a row that is read from then on; high bits. -/
namespace Go.Proofs.Ytadfdpkhehdikaa
open Go.RowKit Go.Shelf
section
variable {n : Nat} {ds : List Deferred} {l : List (Nat × Value)} {a : Act} {w w' w0 : World} {own : Nat → Prop} {bs : List BoxE} {L : List Ent} {Fs : List (World → Prop)}
variable {os rest : List Oper} {Q : Exit → Act → World → Prop} {K : Act → World → Prop}
variable {d : Nat} {op : Op} {ty : TypeId} {pos : String} {af : Array Edge} {g : Option (Nat × Bool)}
theorem run_append_make {P : Program} (w : World) (base : Nat) (t tx ty e : TypeId) (i : TypeInfo) (z : Value) (size bytes : Nat) (ht : P.underlying t = some (.slice e)) (htx : P.underlying tx = some (.int .i64)) (hi : P.info? e = some i) (hz : i.zero = some z)
    (hsize : i.size = size) (hby : i.bytes = bytes) (hzs : z.cells.size = size) (hsz : 0 < size)
    (v : Value) (n : Nat) (xs : List Value) (hown : w.ownsRow base e size v n xs) (m : Nat) (hm : 0 < m) (h1 : ∀ u ∈ z.cells.toList, u.oneCell' = true)
    (h63 : n + m ≤ maxLen) (hbytes : (n + m) * bytes ≤ 140737488355328) (hbase : base ≤ w.heap.size) :
    ∃ gb c w', (Builtin.append_ #[t, tx] ty #[v, .int .i64 m]).run P w = .ok (.slice (some ⟨gb, 0, none⟩) (n + m) c) w' ∧ w'.ownsRow base e size (.slice (some ⟨gb, 0, none⟩) (n + m) c) (n + m) (xs ++ zerosL z.cells.toList m) ∧ w.grownBy w' v.ownBlock ∧ (v.ownBlock = some gb ∨ gb = w.heap.size) := by
  subst hsize
  subst hby
  have hsmall : n + m ≤ 9223372036854775807 := by simp only [maxLen] at h63; omega
  have hmw : IntKind.i64.wrap (m : Int) = m := by rw [IntKind.wrap_i64]; omega
  have hm0 : ¬ (m : Int) < 0 := by omega
  have hmb : m * i.bytes ≤ 140737488355328 := Nat.le_trans (Nat.mul_le_mul_right _ (by omega)) hbytes
  have hmb2 : ¬ 281474976710656 < (m : Int) * (i.bytes : Int) := by
    have : ((m * i.bytes : Nat) : Int) = (m : Int) * (i.bytes : Int) := Int.natCast_mul _ _
    omega
  have hms : ¬ m * i.size = 0 := Nat.mul_ne_zero (by omega) (by omega)
  have hmn : m ≠ 0 := by omega
  have hsn : i.size ≠ 0 := by omega
  have hzl : (zerosL z.cells.toList m).length = m * i.size := by rw [zerosL_len]; simp [hzs]
  have hzc : Builtin.zeroCells z.cells m = (zerosL z.cells.toList m).toArray := zeros_eq (size := z.cells.size) rfl
  have hlen : (xs ++ zerosL z.cells.toList m).length = (n + m) * i.size := by rw [List.length_append, hown.1, hzl, Nat.add_mul]
  have hone : ∀ u ∈ zerosL z.cells.toList m, u.oneCell' = true := by
    clear hzl hzc hlen hmb hmb2 hms hmn hm hmw hm0 h63 hbytes hsmall
    induction m with
    | zero => intro u hu; simp [zerosL] at hu
    | succ m ih =>
      intro u hu
      rw [zerosL] at hu
      rcases List.mem_append.1 hu with hu | hu
      · exact h1 u hu
      · exact ih u hu
  have grown : ∀ (old : Nat), old < n + m → ∀ (row : Option Nat),
      (w.drew.alloc (.cells (xs.toArray ++ (zerosL z.cells.toList m).toArray ++ Builtin.zeroCells z.cells (grownCap w (n + m) old e - (n + m))) e)).ownsRow base e i.size
        (.slice (some ⟨w.heap.size, 0, none⟩) (n + m) (grownCap w (n + m) old e)) (n + m) (xs ++ zerosL z.cells.toList m) ∧
      w.grownBy (w.drew.alloc (.cells (xs.toArray ++ (zerosL z.cells.toList m).toArray ++ Builtin.zeroCells z.cells (grownCap w (n + m) old e - (n + m))) e)) row := by
    intro old ho row
    have hge := grownCap_ge w (n + m) old e
    have hcm : grownCap w (n + m) old e ≤ maxLen := grownCap_le_maxLen w (n + m) old e h63
    refine ⟨⟨hlen, .inr ⟨w.heap.size, _, _, rfl, hbase, heap_alloc_new w.drew _, hge, hcm, ?_, ?_⟩⟩, ⟨rfl, rfl, rfl, by simp, fun k hk _ => Below.heap_alloc w.drew _ k hk⟩⟩
    · simp only [Array.size_append, List.size_toArray, size_zeroCells, hzs, hown.1, hzl, ← Nat.add_mul]
      congr 1
      omega
    · simp only [Array.toList_append, List.append_assoc]
      rw [← List.append_assoc, ← hlen]
      exact List.take_left
  rcases hown.2 with ⟨rfl, rfl⟩ | ⟨g, cap, cur, rfl, hbg, hg, hnc, hcm, hcs, htake⟩
  · have hx : xs = [] := List.eq_nil_of_length_eq_zero (by simpa using hown.1)
    subst hx
    have hgr := grown 0 (by omega) (Value.ownBlock (.slice none 0 0))
    simp only [Nat.zero_add, List.nil_append, Array.empty_append] at hgr ⊢
    refine ⟨_, _, _, ?_, hgr.1, hgr.2, .inr rfl⟩
    have h63' : ¬ (9223372036854775807 < (m : Int)) := by omega
    have h48' : ¬ (281474976710656 < Builtin.nextslicecap m 0 * i.bytes) := by rw [nextslicecap_zero hm]; omega
    simp [Builtin.append_, run_underlying ht, run_underlying htx, sizeOf, typeInfo, zeroValue, hi, hz, Builtin.lenOf, hmn, hms, hmw, hm0, hmb2, h63', h48', Question.forced, run_firstCells_none, newRow, grownCap, asInt, asIntOf, hzc]
  · by_cases hroom : n + m ≤ cap
    · have hfit : n * i.size + (zerosL z.cells.toList m).length ≤ cur.size := by rw [hzl, hcs, ← Nat.add_mul]; exact Nat.mul_le_mul_right _ hroom
      refine ⟨g, cap, w.setRow g (cur.toList.take (n * i.size) ++ zerosL z.cells.toList m ++ cur.toList.drop (n * i.size + (zerosL z.cells.toList m).length)).toArray, ?_, ⟨hlen, .inr ⟨g, cap, _, rfl, hbg, setRow_heap w g cur _ e _ hg, hroom, hcm, ?_, ?_⟩⟩, ⟨rfl, rfl, rfl, by simp, fun k _ hk => setRow_other w g k _ (fun e => hk (by simp [Value.ownBlock, e]))⟩, .inl rfl⟩
      · have hst := run_storeCells_at P g (n * i.size) e (zerosL z.cells.toList m) 0 cur w hg (by simpa using hfit) hone
        simp only [Nat.add_zero] at hst
        simp [Builtin.append_, run_underlying ht, run_underlying htx, sizeOf, typeInfo, zeroValue, hi, hz, Builtin.lenOf, hmn, hms, hmw, hm0, hmb2, hroom, asInt, asIntOf, hzc, Addr.add_lit, hst]
      · simp only [List.size_toArray, List.length_append, List.length_take, List.length_drop, Array.length_toList]
        omega
      · rw [htake, ← hlen]
        exact List.take_left
    · have holds : ∀ j u, xs[j]? = some u → w.cell? ((⟨g, 0, none⟩ : Addr).add j) = some u := hown.cells (g := g) rfl
      have hgr := grown cap (by omega) (Value.ownBlock (.slice (some ⟨g, 0, none⟩) n cap))
      refine ⟨_, _, _, ?_, hgr.1, hgr.2, .inr rfl⟩
      have h63' : ¬ (9223372036854775807 < ((n : Int) + (m : Int))) := by omega
      have h48' : ¬ (281474976710656 < Builtin.nextslicecap (n + m) cap * i.bytes) := by have : Builtin.nextslicecap (n + m) cap * i.bytes ≤ 281474976710656 := growslice_fits (by omega) hbytes; omega
      have hfo := run_firstCells_some (P := P) w.drew i.size n ⟨g, 0, none⟩ n cap xs hown.1 (by simpa using holds)
      simp [Builtin.append_, run_underlying ht, run_underlying htx, sizeOf, typeInfo, zeroValue, hi, hz, Builtin.lenOf, hmn, hms, hmw, hm0, hmb2, hroom, h63', h48', Question.forced, hfo, newRow, grownCap, asInt, asIntOf, hzc]
      congr 2
      apply Array.ext'
      simp [List.append_assoc]
def intT (t : TypeId) : Bool := match tyD t with
  | some (.int .i64) => true
  | _ => false
theorem intT_ok {t : TypeId} (h : intT t = true) : Try.prog.underlying t = some (.int .i64) := by
  unfold intT at h
  split at h
  · rename_i h1; exact tyD_ok h1
  · cases h
/-- append of a slice that is just made: of zeros. -/
theorem e_appZ {t tx e : TypeId} {size bytes : Nat} {S X : Operand} {v : Value} {m k q : Nat} {xs zs : List Value} (hF : Fr n ds l a) (hM : Mm own w0 bs L Fs w) (hS : ev l S = some v) (hX : ev l X = some (.int .i64 (q : Nat))) (he : elO t = some (e, size, bytes)) (htx : intT tx = true) (hz : (match te e with | some i => cellsO i.zero | none => none) = some zs) (h1 : oneL zs = true)
    (hL : Kth L k ⟨e, size, v, m, xs⟩) (h0 : 0 < q) (hb : (m + q) * bytes ≤ 140737488355328 ∧ m + q ≤ 9223372036854775807)
    (kk : ∀ g cap w', Mm own w0 bs (L.set k ⟨e, size, .slice (some ⟨g, 0, none⟩) (m + q) cap, m + q, xs ++ zerosL zs q⟩) Fs w' → K (a.put (some d) (.slice (some ⟨g, 0, none⟩) (m + q) cap)) w') :
    (⟨some d, .call ⟨.builtin .append, #[S, X], #[t, tx]⟩, ty, pos, af, g⟩ : Oper).wp Try.prog a w K Q := by
  obtain ⟨e1, e2, i, z, i1, i2, i3, i4, i5⟩ := elO_ok he
  have hzz : z.cells = ⟨zs⟩ := by
    split at hz
    · rename_i i' hi'
      obtain ⟨j, j1, j2, j3, j4⟩ := (te_ok hi').info
      rw [i1] at j1
      injection j1 with j1
      subst j1
      rw [i2] at j2
      injection j2 with j2
      subst j2
      exact cellsO_ok hz
    · cases hz
  obtain ⟨gb, c, w', hr, h2, h3, h4⟩ := run_append_make (P := Try.prog) w w0.heap.size t tx ty e i z size bytes e1 (intT_ok htx) i1 i2 i3 i4 i5 e2 v m xs (hM.mem.own.get hL.get) q h0 (by rw [hzz]; exact oneL_ok h1) (by unfold maxLen; exact hb.2) hb.1 hM.since.size
  rw [hzz] at h2
  unfold Oper.wp execOp
  simp only [resolve, invoke, builtin, Sem.run_bind, Sem.run_pure, Result.andThen_ok, List.map_toArray, List.map_cons, List.map_nil, hF.eval hS, hF.eval hX, hr]
  refine kk gb c w' (hM.app hL.get h2 h3 ?_)
  rcases h4 with h4 | h4
  · exact .inl h4.symm
  · exact .inr (by simp [Value.ownBlock, h4])
theorem s_appZ {t tx e : TypeId} {size bytes : Nat} {S X : Operand} {v : Value} {m k q : Nat} {xs zs : List Value} (hF : Fr n ds l a) (hM : Mm own w0 bs L Fs w) (hg : wantO os l g = some true) (hS : ev l S = some v) (hX : ev l X = some (.int .i64 (q : Nat))) (he : elO t = some (e, size, bytes)) (htx : intT tx = true) (hz : (match te e with | some i => cellsO i.zero | none => none) = some zs) (h1 : oneL zs = true)
    (hL : Kth L k ⟨e, size, v, m, xs⟩) (hd : Nat.blt d n = true) (h0 : 0 < q) (hb : (m + q) * bytes ≤ 140737488355328 ∧ m + q ≤ 9223372036854775807)
    (kk : ∀ g cap w' a, Mm own w0 bs (L.set k ⟨e, size, .slice (some ⟨g, 0, none⟩) (m + q) cap, m + q, xs ++ zerosL zs q⟩) Fs w' → Fr n ds ((d, .slice (some ⟨g, 0, none⟩) (m + q) cap) :: l) a → wl ⟨os⟩ Q rest a w') :
    wl ⟨os⟩ Q (⟨some d, .call ⟨.builtin .append, #[S, X], #[t, tx]⟩, ty, pos, af, g⟩ :: rest) a w :=
  s_op hF hg fun _ hK => e_appZ hF hM hS hX he htx hz h1 hL h0 hb fun g cap w' h => hK _ _ (kk g cap w' _ h (hF.put hd _))
/-- A slice made, whatever its elements. -/
theorem s_makeZ {t e : TypeId} {size bytes : Nat} {zs : List Value} {X Y : Operand} {kl kc : IntKind} {zl zc : Int} (c : Nat) (hF : Fr n ds l a) (hM : Mm own w0 bs L Fs w) (hg : wantO os l g = some true) (hX : ev l X = some (.int kl zl)) (hY : ev l Y = some (.int kc zc)) (he : elO t = some (e, size, bytes)) (hz : (match te e with | some i => cellsO i.zero | none => none) = some zs) (hd : Nat.blt d n = true) (hl : zl = (c : Int)) (hc : zc = (c : Int)) (hb : (bytes : Int) * (c : Int) ≤ 281474976710656 ∧ (c : Int) ≤ 9223372036854775807)
    (k : ∀ b w' a, Mm own w0 bs (⟨e, size, .slice (some ⟨b, 0, none⟩) c c, c, zerosL zs c⟩ :: L) Fs w' → Fr n ds ((d, .slice (some ⟨b, 0, none⟩) c c) :: l) a → wl ⟨os⟩ Q rest a w') : wl ⟨os⟩ Q (⟨some d, .makeSlice t X Y, ty, pos, af, g⟩ :: rest) a w := by
  subst hl
  subst hc
  obtain ⟨e1, e2, i, z, i1, i2, i3, i4, i5⟩ := elO_ok he
  have hzz : z.cells = ⟨zs⟩ := by
    split at hz
    · rename_i i' hi'
      obtain ⟨j, j1, j2, j3, j4⟩ := (te_ok hi').info
      rw [i1] at j1
      injection j1 with j1
      subst j1
      rw [i2] at j2
      injection j2 with j2
      subst j2
      exact cellsO_ok hz
    · cases hz
  have hr := run_make (P := Try.prog) w t e i z e1 i1 i2 kl kc (c : Int) (c : Int) (by omega) (Int.le_refl _) (by rw [i4]; exact hb.1) hb.2
  have hmz : madeCells z.cells (c * i.size) = (zerosL zs c).toArray := by
    have := zeros_eq (z := z.cells) (size := i.size) (len := c) (by rw [i5, i3])
    rw [hzz] at this ⊢
    exact this
  rw [Int.toNat_natCast, hmz] at hr
  refine s_op hF hg fun _ hK => upon_value (v := .slice (some ⟨w.heap.size, 0, none⟩) c c) (w' := w.alloc (.cells (zerosL zs c).toArray e)) ?_ (hK _ _ (k _ _ _ ((hM.box ⟨zerosL zs c⟩ e).boxRow size c ?_ ?_) (hF.put hd _)))
  · simp [execOp, hF.eval hX, hF.eval hY, hr, Sem.run_bind, Result.andThen]
  · rw [zerosL_len]
    have : zs.length = size := by rw [hzz] at i5; simpa using i5
    rw [this]
  · unfold maxLen; omega
/-- A row that is only read from then on. -/
theorem Mm.freezeRow {α : Type} {enc : α → Value} {e : TypeId} {ao : Option Addr} {m c : Nat} {xs : List α} (m0 : Mm own w0 bs (⟨e, 1, .slice ao m c, m, xs.map enc⟩ :: L) Fs w) : Mm own w0 bs L (RdF enc ao xs :: Fs) w := by
  have hrd := own_reads (m0.mem.own.own _ List.mem_cons_self)
  refine (m0.sub (.refl _) (List.sublist_cons_self _ _) (fun _ h => h)).addFact (RdF.has hrd ?_)
  rintro ad rfl
  have hob : (Value.slice (some ad) m c).ownBlock = some ad.block := rfl
  rintro (h | ⟨x, hx, hx2⟩ | ⟨y, hy, hy2⟩)
  · have h2 := m0.low _ h
    have h3 := (m0.mem.own.lt List.mem_cons_self _ hob).1
    omega
  · exact m0.mem.far x hx _ List.mem_cons_self (by rw [hob, hx2])
  · have hp := m0.mem.own.apart
    rw [List.pairwise_cons] at hp
    rcases hp.1 y hy with h | h
    · rw [show (Value.slice (some ad) m c).ownBlock = none from h] at hob; cases hob
    · exact h (hob.trans hy2.symm)
/-- The high half of a number that has none. -/
theorem s_and32 {t t' : TypeId} {X Y : Operand} {x : Int} (hF : Fr n ds l a) (hg : wantO os l g = some true) (hX : ev l X = some (.int .u64 x)) (hY : ev l Y = some (.int .u64 4294967295)) (hd : Nat.blt d n = true) (h : 0 ≤ x ∧ x < 4294967296)
    (kk : ∀ a, Fr n ds ((d, .int .u64 x) :: l) a → wl ⟨os⟩ Q rest a w) : wl ⟨os⟩ Q (⟨some d, .binOp .and t X Y t', ty, pos, af, g⟩ :: rest) a w :=
  s_op hF hg fun _ hK => upon_value (e_bits hF hX hY (.inl rfl) (by
    obtain ⟨m, rfl⟩ : ∃ m : Nat, x = m := ⟨x.toNat, by omega⟩
    have h2 := bits_and_u64_nat m 4294967295 (by omega) (by omega)
    have e : m &&& 4294967295 = m % 4294967296 := Nat.and_two_pow_sub_one_eq_mod m 32
    rw [e] at h2
    have h3 : bits .and .u64 (m : Int) 4294967295 = ((m % 4294967296 : Nat) : Int) := h2
    rw [h3]
    omega) w) (hK _ _ (kk _ (hF.put hd _)))
theorem s_shr32 {t t' : TypeId} {X Y : Operand} {k yk : IntKind} {x : Int} (hF : Fr n ds l a) (hg : wantO os l g = some true) (hX : ev l X = some (.int k x)) (hY : ev l Y = some (.int yk 32)) (hd : Nat.blt d n = true) (hk : Nat.ble 32 k.bits = true) (h : 0 ≤ x ∧ x < 4294967296)
    (kk : ∀ a, Fr n ds ((d, .int k 0) :: l) a → wl ⟨os⟩ Q rest a w) : wl ⟨os⟩ Q (⟨some d, .binOp .shr t X Y t', ty, pos, af, g⟩ :: rest) a w := by
  refine s_op hF hg fun _ hK => upon_value (v := .int k 0) ?_ (hK _ _ (kk _ (hF.put hd _)))
  have hb : min 32 k.bits = 32 := Nat.min_eq_left (Nat.le_of_ble_eq_true hk)
  have hd0 : x / 4294967296 = 0 := Int.ediv_eq_zero_of_lt h.1 h.2
  simp only [execOp, hF.eval hX, hF.eval hY, Sem.run_bind, eqGuard_int, Result.andThen]
  simp [binOp, Op.shift, hb, Result.andThen, Int.fdiv_eq_ediv, hd0]
end
end Go.Proofs.Ytadfdpkhehdikaa


/- Bits of words; loads of elements of many cells. -/
namespace Go.Proofs.Ytadfdpkhehdikaa
open Go.RowKit Go.Shelf
section
variable {n : Nat} {ds : List Deferred} {l : List (Nat × Value)} {a : Act} {w w0 : World} {own : Nat → Prop} {bs : List BoxE} {L : List Ent} {Fs : List (World → Prop)}
variable {os rest : List Oper} {Q : Exit → Act → World → Prop} {K : Act → World → Prop}
variable {d : Nat} {op : Op} {ty : TypeId} {pos : String} {af : Array Edge} {g : Option (Nat × Bool)}
theorem e_xorU {t t' : TypeId} {X Y : Operand} {k : IntKind} {x y : Int} (hF : Fr n ds l a) (hX : ev l X = some (.int k x)) (hY : ev l Y = some (.int k y)) (w : World) {dst : Option Tmp} :
    (execOp a.eval ⟨dst, .binOp .xor t X Y t', ty, pos, af, g⟩).run Try.prog w = .ok (.value (.int k (bits .xor k x y))) w := by
  simp only [execOp, hF.eval hX, hF.eval hY, Sem.run_bind, eqGuard_int, Result.andThen]
  simp [binOp, intBits_xor]
theorem s_xorU {t t' : TypeId} {X Y : Operand} {k : IntKind} {x y : Int} (hF : Fr n ds l a) (hg : wantO os l g = some true) (hX : ev l X = some (.int k x)) (hY : ev l Y = some (.int k y)) (hd : Nat.blt d n = true)
    (kk : ∀ a, Fr n ds ((d, .int k (bits .xor k x y)) :: l) a → wl ⟨os⟩ Q rest a w) : wl ⟨os⟩ Q (⟨some d, .binOp .xor t X Y t', ty, pos, af, g⟩ :: rest) a w :=
  s_op hF hg fun _ hK => upon_value (e_xorU hF hX hY w) (hK _ _ (kk _ (hF.put hd _)))
theorem e_loadE {T : TypeId} {X : Operand} {ad : Addr} {j : Int} {m : Nat} {ls : List (List Value)} {s : List Value} (hF : Fr n ds l a) (hX : ev l X = some (.pointer (some (adr ad j m)))) (hr : Reads id w (some ad) ls.flatten) (hT : aggS T = some m) (hx : ls[j.toNat]? = some s) (hw : ∀ y ∈ ls, y.length = m) :
    (execOp a.eval ⟨some d, .load T X, ty, pos, af, g⟩).run Try.prog w = .ok (.value (.agg s.toArray)) w := by
  have hsl := hw s (List.mem_of_getElem? hx)
  unfold aggS at hT
  split at hT
  · rename_i i hi
    split at hT
    · rename_i ha
      injection hT with hT
      have hagg := (te_ok hi).agg w
      have hsz := (te_ok hi).size w
      rw [ha] at hagg
      rw [hT] at hsz
      have := run_loadCells_list (P := Try.prog) w (adr ad j m) s (fun q u hu => by
        obtain ⟨b, off, e, hb, hc⟩ := hr _ u (flat_get hw hx hu)
        injection e with e
        subst e
        have : (adr ⟨b, off, none⟩ j m).add q = ⟨b, off + (j.toNat * m + q), none⟩ := by unfold adr; rw [add_lit, add_lit, Nat.add_assoc]
        rw [this]
        exact hc)
      rw [hsl] at this
      simp [execOp, hF.eval hX, Instr.loadAt, Instr.sureAddr, Sem.run_bind, loadVar, hagg, hsz, this, Result.andThen]
    · cases hT
  · cases hT
theorem s_loadE {T : TypeId} {X : Operand} {ad : Addr} {j : Int} {m : Nat} {ls : List (List Value)} {s : List Value} (hF : Fr n ds l a) (hM : Mm own w0 bs L Fs w) (hg : wantO os l g = some true) (hX : ev l X = some (.pointer (some (adr ad j m)))) (hr : RdF id (some ad) ls.flatten ∈ Fs) (hT : aggS T = some m) (hd : Nat.blt d n = true) (hx : ls[j.toNat]? = some s) (hw : ∀ y ∈ ls, y.length = m)
    (kk : ∀ a, Fr n ds ((d, .agg s.toArray) :: l) a → wl ⟨os⟩ Q rest a w) : wl ⟨os⟩ Q (⟨some d, .load T X, ty, pos, af, g⟩ :: rest) a w :=
  s_op hF hg fun _ hK => upon_value (e_loadE hF hX (hM.fact hr) hT hx hw) (hK _ _ (kk _ (hF.put hd _)))
end
end Go.Proofs.Ytadfdpkhehdikaa


/- Rows of any size that are read from then on; structs of two numbers compared. -/
namespace Go.Proofs.Ytadfdpkhehdikaa
open Go.RowKit Go.Shelf
section
variable {n : Nat} {ds : List Deferred} {l : List (Nat × Value)} {a : Act} {w w' w0 : World} {own : Nat → Prop} {bs : List BoxE} {L : List Ent} {Fs : List (World → Prop)}
variable {os rest : List Oper} {Q : Exit → Act → World → Prop} {K : Act → World → Prop}
variable {d : Nat} {op : Op} {ty : TypeId} {pos : String} {af : Array Edge} {g : Option (Nat × Bool)}
theorem own_readsN {α : Type} {enc : α → Value} {base : Nat} {e : TypeId} {size k c : Nat} {ao : Option Addr} {xs : List α} (ho : w.ownsRow base e size (.slice ao k c) k (xs.map enc)) : Reads enc w ao xs := by
  intro i x hx
  have hlen := ho.1
  rcases ho.2 with ⟨h1, h2⟩ | ⟨g, cap, cur, h1, h2, h3, h4⟩
  · rw [h2, Nat.zero_mul, List.length_map] at hlen
    have := (List.getElem?_eq_some_iff.1 hx).1
    omega
  · simp only [Value.slice.injEq] at h1
    obtain ⟨rfl, _, rfl⟩ := h1
    have hc := ho.cells (g := g) rfl i (enc x) (by simp [hx])
    rw [add_lit] at hc
    exact ⟨g, 0, rfl, (Array.getElem?_eq_some_iff.1 h3).1, hc⟩
/-- A row that is only read from then on, whatever its elements. -/
theorem Mm.freezeN {α : Type} {enc : α → Value} {e : TypeId} {size : Nat} {ao : Option Addr} {m c : Nat} {xs : List α} (m0 : Mm own w0 bs (⟨e, size, .slice ao m c, m, xs.map enc⟩ :: L) Fs w) : Mm own w0 bs L (RdF enc ao xs :: Fs) w := by
  have hrd := own_readsN (m0.mem.own.own _ List.mem_cons_self)
  refine (m0.sub (.refl _) (List.sublist_cons_self _ _) (fun _ h => h)).addFact (RdF.has hrd ?_)
  rintro ad rfl
  have hob : (Value.slice (some ad) m c).ownBlock = some ad.block := rfl
  rintro (h | ⟨x, hx, hx2⟩ | ⟨y, hy, hy2⟩)
  · have h2 := m0.low _ h
    have h3 := (m0.mem.own.lt List.mem_cons_self _ hob).1
    omega
  · exact m0.mem.far x hx _ List.mem_cons_self (by rw [hob, hx2])
  · have hp := m0.mem.own.apart
    rw [List.pairwise_cons] at hp
    rcases hp.1 y hy with h | h
    · rw [show (Value.slice (some ad) m c).ownBlock = none from h] at hob; cases hob
    · exact h (hob.trans hy2.symm)
end
end Go.Proofs.Ytadfdpkhehdikaa


/- Rows of which a part is used: what is behind it is appended to. -/
namespace Go.Proofs.Ytadfdpkhehdikaa
open Go.RowKit Go.Shelf
section
variable {n : Nat} {ds : List Deferred} {l : List (Nat × Value)} {a : Act} {w w' w0 : World} {own : Nat → Prop} {bs : List BoxE} {L : List Ent} {Fs : List (World → Prop)}
variable {os rest : List Oper} {Q : Exit → Act → World → Prop} {K : Act → World → Prop}
variable {d : Nat} {op : Op} {ty : TypeId} {pos : String} {af : Array Edge} {g : Option (Nat × Bool)}
/-- A slice that is the end of an owned row. -/
def OffR (e : TypeId) (size : Nat) (v : Value) (m : Nat) (xs : List Value) (E : Ent) : Prop :=
  E.e = e ∧ E.size = size ∧ xs.length = m * size ∧
  ((v = .slice none 0 0 ∧ m = 0 ∧ E.v = .slice none 0 0) ∨ (∃ ad, v = .slice (some ad) 0 0 ∧ m = 0) ∨
   ∃ g off cap pre, v = .slice (some ⟨g, off * size, none⟩) m cap ∧ pre.length = off * size ∧ E.v = .slice (some ⟨g, 0, none⟩) (off + m) (off + cap) ∧ E.n = off + m ∧ E.xs = pre ++ xs)
theorem OffR.plain {e : TypeId} {size : Nat} {v : Value} {m : Nat} {xs : List Value} (hM : Mm own w0 bs L Fs w) (h : (⟨e, size, v, m, xs⟩ : Ent) ∈ L) : OffR e size v m xs ⟨e, size, v, m, xs⟩ := by
  have ho := hM.mem.own.own _ h
  refine ⟨rfl, rfl, ho.1, ?_⟩
  rcases ho.2 with ⟨h1, h2⟩ | ⟨g, cap, cur, h1, _⟩
  · exact .inl ⟨h1, h2, h1⟩
  · refine .inr (.inr ⟨g, 0, cap, [], ?_, by simp, ?_, ?_, rfl⟩)
    · rw [Nat.zero_mul]; exact h1
    · rw [Nat.zero_add, Nat.zero_add]; exact h1
    · exact (Nat.zero_add _).symm
theorem OffR.nil {e : TypeId} {size : Nat} : OffR e size (.slice none 0 0) 0 [] ⟨e, size, .slice none 0 0, 0, []⟩ := ⟨rfl, rfl, by simp, .inl ⟨rfl, rfl, rfl⟩⟩
theorem OffR.shape {e : TypeId} {size : Nat} {v : Value} {m : Nat} {xs : List Value} {E : Ent} (hM : Mm own w0 bs L Fs w) {k : Nat} (hL : L[k]? = some E) (h : OffR e size v m xs E) : ∃ ao c, v = .slice ao m c ∧ m ≤ c ∧ (0 < m → ∃ ad, ao = some ad) := by
  obtain ⟨h1, h2, h3, h4⟩ := h
  rcases h4 with ⟨h, rfl, _⟩ | ⟨ad, h, rfl⟩ | ⟨g, off, cap, pre, h5, h6, h7, h8, h9⟩
  · exact ⟨_, _, h, Nat.le_refl _, fun q => by omega⟩
  · exact ⟨_, _, h, Nat.le_refl _, fun q => by omega⟩
  · refine ⟨_, _, h5, ?_, fun _ => ⟨_, rfl⟩⟩
    rcases (hM.mem.own.get hL).2 with ⟨p1, p2⟩ | ⟨g', cap', cur, p1, p2, p3, p4, _⟩
    · rw [h7] at p1; cases p1
    · rw [h7] at p1
      injection p1 with p1 p5 p6
      omega
/-- The cells of such a slice. -/
theorem OffR.cells {e : TypeId} {size : Nat} {ao : Option Addr} {ad : Addr} {m c : Nat} {xs : List Value} {E : Ent} (hM : Mm own w0 bs L Fs w) {k : Nat} (hL : L[k]? = some E) (h : OffR e size (.slice ao m c) m xs E) (ha : ao = some ad) : ∀ j u, xs[j]? = some u → w.cell? (ad.add j) = some u := by
  subst ha
  obtain ⟨h1, h2, h3, h4⟩ := h
  have he : ∀ j u, m = 0 → xs[j]? = some u → w.cell? (ad.add j) = some u := by
    intro j u h0 hu
    rw [h0, Nat.zero_mul] at h3
    rw [List.eq_nil_of_length_eq_zero h3] at hu
    simp at hu
  rcases h4 with ⟨h, _⟩ | ⟨ad', h, h0⟩ | ⟨g, off, cap, pre, h5, h6, h7, h8, h9⟩
  · cases h
  · exact fun j u => he j u h0
  · intro j u hu
    injection h5 with h5
    injection h5 with h5
    subst h5
    have hc := (hM.mem.own.get hL).cells (g := g) (by rw [h7]; rfl) (off * size + j) u (by rw [h9, List.getElem?_append_right (by omega), h6, Nat.add_sub_cancel_left]; exact hu)
    rw [add_lit] at hc ⊢
    rw [← hc]
    congr 2
    omega
/-- A part of such a slice. -/
theorem OffR.drop {e : TypeId} {size : Nat} {ao : Option Addr} {m c : Nat} {xs : List Value} {E : Ent} (hM : Mm own w0 bs L Fs w) {k : Nat} (hL : L[k]? = some E) (h : OffR e size (.slice ao m c) m xs E) (q : Nat) (hq : q ≤ m) : OffR e size (.slice (sadr ao q c size) (m - q) (c - q)) (m - q) (xs.drop (q * size)) E := by
  obtain ⟨ao', c', e1, hmc, _⟩ := OffR.shape hM hL h
  injection e1 with e1 _ e2
  subst e1
  subst e2
  obtain ⟨h1, h2, h3, h4⟩ := h
  refine ⟨h1, h2, by rw [List.length_drop, h3, Nat.sub_mul], ?_⟩
  rcases h4 with ⟨h, h0, h5⟩ | ⟨ad, h, h0⟩ | ⟨g, off, cap, pre, h5, h6, h7, h8, h9⟩
  · injection h with ha hb hc
    subst ha
    subst hc
    subst h0
    refine .inl ⟨?_, by omega, h5⟩
    unfold sadr
    simp
  · injection h with ha hb hc
    subst ha
    subst hc
    subst h0
    refine .inr (.inl ⟨ad, ?_, by omega⟩)
    obtain rfl : q = 0 := by omega
    unfold sadr
    simp
  · injection h5 with ha hb hc
    subst ha
    subst hc
    by_cases hcq : c = q
    · subst hcq
      refine .inr (.inl ⟨⟨g, off * size, none⟩, ?_, by omega⟩)
      unfold sadr
      rw [if_pos rfl]
      congr 1
      · omega
      · omega
    · refine .inr (.inr ⟨g, off + q, c - q, pre ++ xs.take (q * size), ?_, ?_, ?_, ?_, ?_⟩)
      · unfold sadr
        rw [if_neg hcq, Option.map_some, add_lit, Nat.add_mul]
      · rw [List.length_append, List.length_take, h6, h3, Nat.add_mul]
        have : q * size ≤ m * size := Nat.mul_le_mul_right _ hq
        omega
      · rw [h7]
        congr 1 <;> omega
      · omega
      · rw [h9, List.append_assoc, List.take_append_drop]
theorem run_append_off (t ty e : TypeId) (i : TypeInfo) (z : Value) (size bytes : Nat) (ht : Try.prog.underlying t = some (.slice e)) (hi : Try.prog.info? e = some i) (hz : i.zero = some z)
    (hsize : i.size = size) (hby : i.bytes = bytes) (hzs : z.cells.size = size) (hsz : 0 < size) {v : Value} {m k : Nat} {xs ys : List Value} {E : Ent} {ad : Addr} {q c : Nat} (hM : Mm own w0 bs L Fs w) (hL : L[k]? = some E) (hR : OffR e size v m xs E)
    (hy : ys.length = q * size) (hc : ∀ j u, ys[j]? = some u → w.cell? (ad.add j) = some u) (h1 : ∀ u ∈ ys, u.oneCell' = true) (h0 : 0 < q) (hb : (m + q) * bytes ≤ 140737488355328 ∧ m + q ≤ 9223372036854775807) :
    ∃ v' E' w', (Builtin.append_ #[t, t] ty #[v, .slice (some ad) q c]).run Try.prog w = .ok v' w' ∧ OffR e size v' (m + q) (xs ++ ys) E' ∧ Mm own w0 bs (L.set k E') Fs w' := by
  have hbase := hM.since.size
  have hlen : (xs ++ ys).length = (m + q) * size := by rw [List.length_append, hR.2.2.1, hy, Nat.add_mul]
  have hown := hM.mem.own.get hL
  have hEe := hR.1
  have hEs := hR.2.1
  obtain ⟨Ee, Es, Ev, En, Ex⟩ := E
  simp only at hEe hEs
  subst hEe
  subst hEs
  have fresh : ∀ (v' : Value) (cap' : Nat), v' = .slice (some ⟨w.heap.size, 0, none⟩) (m + q) cap' → ∀ w', w'.ownsRow w0.heap.size Ee Es v' (m + q) (xs ++ ys) → w.grownBy w' none → OffR Ee Es v' (m + q) (xs ++ ys) ⟨Ee, Es, v', m + q, xs ++ ys⟩ ∧ Mm own w0 bs (L.set k ⟨Ee, Es, v', m + q, xs ++ ys⟩) Fs w' := by
    intro v' cap' hv w' ho hg
    refine ⟨⟨rfl, rfl, hlen, .inr (.inr ⟨w.heap.size, 0, cap', [], ?_, by simp, ?_, (Nat.zero_add _).symm, rfl⟩)⟩, hM.app hL ho ⟨hg.os, hg.tape, hg.output, hg.size, fun j hj _ => hg.block j hj (by simp)⟩ (.inr (by rw [hv]; rfl))⟩
    · rw [hv, Nat.zero_mul]
    · show v' = _
      rw [hv, Nat.zero_add, Nat.zero_add]
  have hgrow : ∀ (bA : Addr) (cp : Nat), v = .slice (some bA) m cp → cp < m + q → (∀ j u, xs[j]? = some u → w.cell? (bA.add j) = some u) → ∃ v' E' w', (Builtin.append_ #[t, t] ty #[v, .slice (some ad) q c]).run Try.prog w = .ok v' w' ∧ OffR Ee Es v' (m + q) (xs ++ ys) E' ∧ Mm own w0 bs (L.set k E') Fs w' := by
    intro bA cp hv hg hold
    subst hsize
    subst hby
    have hr := run_append_grow (P := Try.prog) w t ty Ee i z ht hi hz bA m cp xs hR.2.2.1 hold ad q c ys hy hc hg (by omega) (growslice_fits hg hb.1)
    have hge := grownCap_ge w (m + q) cp Ee
    have hcm : grownCap w (m + q) cp Ee ≤ maxLen := grownCap_le_maxLen w (m + q) cp Ee (by unfold maxLen; exact hb.2)
    subst hv
    have hrow : (w.drew.alloc (.cells (xs.toArray ++ ys.toArray ++ Builtin.zeroCells z.cells (grownCap w (m + q) cp Ee - (m + q))) Ee)).ownsRow w0.heap.size Ee i.size (.slice (some ⟨w.heap.size, 0, none⟩) (m + q) (grownCap w (m + q) cp Ee)) (m + q) (xs ++ ys) := by
      refine ⟨hlen, .inr ⟨w.heap.size, _, _, rfl, hbase, heap_alloc_new w.drew _, hge, hcm, ?_, ?_⟩⟩
      · simp only [Array.size_append, List.size_toArray, size_zeroCells, hzs, hR.2.2.1, hy, ← Nat.add_mul]
        congr 1
        omega
      · simp only [Array.toList_append, List.append_assoc]
        rw [← List.append_assoc, ← hlen]
        exact List.take_left
    obtain ⟨f1, f2⟩ := fresh _ _ rfl _ hrow ⟨rfl, rfl, rfl, by simp, fun k hk _ => Below.heap_alloc w.drew _ k hk⟩
    exact ⟨_, _, _, hr, f1, f2⟩
  rcases hR.2.2.2 with ⟨hv, hm0, hEv⟩ | ⟨bA, hv, hm0⟩ | ⟨gb, off, cap, pre, hv, hpre, hEv, hEn, hEx⟩
  · subst hm0
    obtain rfl : xs = [] := List.eq_nil_of_length_eq_zero (by have := hR.2.2.1; simpa using this)
    subst hv
    simp only at hEv
    subst hEv
    rcases hown.2 with ⟨_, p2⟩ | ⟨g', cap', cur, p1, _⟩
    · simp only at p2
      subst p2
      obtain rfl : Ex = [] := List.eq_nil_of_length_eq_zero (by simpa using hown.1)
      obtain ⟨v', w', hr, ho, hg, hn⟩ := run_append_own (P := Try.prog) w w0.heap.size t ty Ee i z Es bytes ht hi hz hsize hby hzs hsz (.slice none 0 0) 0 [] hown ad q c ys hy hc h1 (by unfold maxLen; exact hb.2) hb.1 hbase
      subst hsize
      subst hby
      have hr2 := run_append_nil (P := Try.prog) w t ty Ee i z ht hi hz ad q c ys hy hc (by omega) (by omega) (by have hb := hb.1; simp only [Nat.zero_add] at hb; omega)
      rw [hr2] at hr
      injection hr with hr3 hr4
      have hf := fresh v' (grownCap w q 0 Ee) (by rw [← hr3, Nat.zero_add]) w' ho hg
      exact ⟨v', _, w', by rw [hr2, hr3, hr4], hf.1, hf.2⟩
    · cases p1
  · subst hm0
    exact hgrow bA 0 hv (by omega) (by
      intro j u hu
      obtain rfl : xs = [] := List.eq_nil_of_length_eq_zero (by have := hR.2.2.1; simpa using this)
      simp at hu)
  · have hcells : ∀ j u, xs[j]? = some u → w.cell? ((⟨gb, off * Es, none⟩ : Addr).add j) = some u := by
      subst hv
      exact OffR.cells hM hL hR rfl
    simp only at hEv hEn hEx
    subst hEv
    subst hEn
    subst hEx
    by_cases hroom : m + q ≤ cap
    · rcases hown.2 with ⟨p1, _⟩ | ⟨g', cap', cur, p1, p2, p3, p4, p5, p6, p7⟩
      · cases p1
      · simp only [Value.slice.injEq, Option.some.injEq, Addr.mk.injEq, true_and, and_true] at p1
        obtain ⟨rfl, rfl⟩ := p1
        subst hsize
        have hfit : (off + m) * i.size + ys.length ≤ cur.size := by rw [hy, p6, ← Nat.add_mul]; exact Nat.mul_le_mul_right _ (by omega)
        have hr1 := run_append_room (P := Try.prog) w t ty Ee i ht hi gb (off + m) (off + cap) cur p3 ad q c ys hy hc h1 (by omega) hfit
        have hin : ∀ j, j < ys.length → (w.cell? ⟨gb, off * i.size + m * i.size + j, none⟩).isSome = true ∧ w.frozen? ⟨gb, off * i.size + m * i.size + j, none⟩ = false := by
          intro j hj
          have hlt : off * i.size + m * i.size + j < cur.size := by rw [← Nat.add_mul]; omega
          constructor
          · simp [World.cell?, p3, hlt]
          · simp [World.frozen?, p3]
        have hr2 := run_append_room_cells (P := Try.prog) w t ty Ee i ht hi gb (off * i.size) m cap ad q c ys hy hc h1 hroom (fun j hj => (hin j hj).1) (fun j hj => (hin j hj).2)
        have hr3 := run_append_room_cells (P := Try.prog) w t ty Ee i ht hi gb 0 (off + m) (off + cap) ad q c ys hy hc h1 (by omega) (fun j hj => by rw [Nat.zero_add, Nat.add_mul]; exact (hin j hj).1) (fun j hj => by rw [Nat.zero_add, Nat.add_mul]; exact (hin j hj).2)
        rw [hr1] at hr3
        injection hr3 with _ hw
        rw [show off * i.size + m * i.size = 0 + (off + m) * i.size by rw [Nat.zero_add, Nat.add_mul], ← hw] at hr2
        subst hv
        have hrow : (w.setRow gb (cur.toList.take ((off + m) * i.size) ++ ys ++ cur.toList.drop ((off + m) * i.size + ys.length)).toArray).ownsRow w0.heap.size Ee i.size (.slice (some ⟨gb, 0, none⟩) (off + m + q) (off + cap)) (off + m + q) (pre ++ xs ++ ys) := by
          have e1 : (pre ++ xs ++ ys).length = (off + m + q) * i.size := by
            have := hR.2.2.1
            simp only [List.length_append, hpre, this, hy, Nat.add_mul]
          refine ⟨e1, .inr ⟨gb, off + cap, _, rfl, p2, setRow_heap w gb cur _ Ee _ p3, by omega, p5, ?_, ?_⟩⟩
          · have p6 : cur.size = (off + cap) * i.size := p6
            simp only [List.size_toArray, List.length_append, List.length_take, List.length_drop, Array.length_toList]
            omega
          · have p7 : cur.toList.take ((off + m) * i.size) = pre ++ xs := p7
            rw [p7, ← e1]
            exact List.take_left
        have hM' : Mm own w0 bs (L.set k ⟨Ee, i.size, .slice (some ⟨gb, 0, none⟩) (off + m + q) (off + cap), off + m + q, pre ++ xs ++ ys⟩) Fs (w.setRow gb (cur.toList.take ((off + m) * i.size) ++ ys ++ cur.toList.drop ((off + m) * i.size + ys.length)).toArray) :=
          hM.app hL hrow ⟨rfl, rfl, rfl, by simp, fun k _ hk => setRow_other w gb k _ (fun e => hk (by simp [Value.ownBlock, e]))⟩ (.inl rfl)
        refine ⟨_, ⟨Ee, i.size, .slice (some ⟨gb, 0, none⟩) (off + m + q) (off + cap), off + m + q, pre ++ xs ++ ys⟩, _, hr2, ⟨rfl, rfl, hlen, .inr (.inr ⟨gb, off, cap, pre, rfl, hpre, ?_, ?_, ?_⟩)⟩, hM'⟩
        · show Value.slice _ (off + m + q) _ = _
          rw [Nat.add_assoc]
        · exact Nat.add_assoc _ _ _
        · exact List.append_assoc _ _ _
    · exact hgrow _ _ hv (by omega) hcells
theorem e_appO {t e : TypeId} {size bytes : Nat} {S X : Operand} {v : Value} {m k : Nat} {xs ys : List Value} {E : Ent} {ad : Addr} {q c : Nat} (hF : Fr n ds l a) (hM : Mm own w0 bs L Fs w) (hS : ev l S = some v) (hX : ev l X = some (.slice (some ad) q c)) (he : elO t = some (e, size, bytes))
    (hL : L[k]? = some E) (hR : OffR e size v m xs E) (hy : ys.length = q * size) (hc : ∀ j u, ys[j]? = some u → w.cell? (ad.add j) = some u) (h1 : ∀ u ∈ ys, u.oneCell' = true) (h0 : 0 < q) (hb : (m + q) * bytes ≤ 140737488355328 ∧ m + q ≤ 9223372036854775807)
    (kk : ∀ v' E' w', OffR e size v' (m + q) (xs ++ ys) E' → Mm own w0 bs (L.set k E') Fs w' → K (a.put (some d) v') w') :
    (⟨some d, .call ⟨.builtin .append, #[S, X], #[t, t]⟩, ty, pos, af, g⟩ : Oper).wp Try.prog a w K Q := by
  obtain ⟨e1, e2, i, z, i1, i2, i3, i4, i5⟩ := elO_ok he
  obtain ⟨v', E', w', hr, h2, h3⟩ := run_append_off t ty e i z size bytes e1 i1 i2 i3 i4 i5 e2 hM hL hR hy hc h1 h0 hb
  unfold Oper.wp execOp
  simp only [resolve, invoke, builtin, Sem.run_bind, Sem.run_pure, Result.andThen_ok, List.map_toArray, List.map_cons, List.map_nil, hF.eval hS, hF.eval hX]
  rw [hr]
  exact kk v' E' w' h2 h3
/-- append to the end of a row, of a literal just laid. -/
theorem s_appO {t e T : TypeId} {size bytes : Nat} {S X : Operand} {v : Value} {m : Nat} (k : Nat) {xs ys : List Value} {E : Ent} {b q c : Nat} (hF : Fr n ds l a) (hM : Mm own w0 (⟨b, ⟨ys⟩, T⟩ :: bs) L Fs w) (hR : OffR e size v m xs E) (hg : wantO os l g = some true) (hS : ev l S = some v) (hX : ev l X = some (.slice (some ⟨b, 0, none⟩) q c)) (he : elO t = some (e, size, bytes))
    (hL : Kth L k E) (hy : ys.length = q * size) (h1 : oneL ys = true) (h0 : Nat.blt 0 q = true) (hd : Nat.blt d n = true) (hb : (m + q) * bytes ≤ 140737488355328 ∧ m + q ≤ 9223372036854775807)
    (kk : ∀ v' E' w' a, OffR e size v' (m + q) (xs ++ ys) E' → Mm own w0 bs (L.set k E') Fs w' → Fr n ds ((d, v') :: l) a → wl ⟨os⟩ Q rest a w') :
    wl ⟨os⟩ Q (⟨some d, .call ⟨.builtin .append, #[S, X], #[t, t]⟩, ty, pos, af, g⟩ :: rest) a w := by
  have hbox := hM.mem.box _ List.mem_cons_self
  refine s_op hF hg fun _ hK => e_appO hF (hM.sub (List.sublist_cons_self _ _) (List.Sublist.refl _) (fun _ h => h)) hS hX he hL.get hR hy ?_ (oneL_ok h1) (by simpa using h0) hb fun v' E' w' h2 h3 => hK _ _ (kk v' E' w' _ h2 h3 (hF.put hd _))
  intro j u hu
  rw [add_lit, (Box.rules hbox).1]
  simpa using hu
end
end Go.Proofs.Ytadfdpkhehdikaa


/- Fields of elements of slices: their addresses, loads and stores; rows of elements of any size appended. -/
namespace Go.Proofs.Ytadfdpkhehdikaa
open Go.RowKit Go.Shelf
section
variable {n : Nat} {ds : List Deferred} {l : List (Nat × Value)} {a : Act} {w w' w0 : World} {own : Nat → Prop} {bs : List BoxE} {L : List Ent} {Fs : List (World → Prop)}
variable {os rest : List Oper} {Q : Exit → Act → World → Prop} {K : Act → World → Prop}
variable {d : Nat} {op : Op} {ty : TypeId} {pos : String} {af : Array Edge} {g : Option (Nat × Bool)}
variable {tail : Nat → Bool} {fuel i : Nat} {listed : Array Bool} {bs0 : List BoxE} {Fs0 : List (World → Prop)}
/-- Where a field lies. -/
def fldO (s : TypeId) (i : Nat) : Option Nat := match tyD s with
  | some (.struct ⟨fs⟩) => match getO fs i with
    | some f => match tyS f.type with
      | some (_ + 1) => some f.offset
      | _ => none
    | none => none
  | _ => none
/-- The address of a part of an element. -/
@[irreducible] def adrP (a : Addr) (j : Int) (m q : Nat) : Addr := (adr a j m).add q
theorem e_fieldA {s : TypeId} {X : Operand} {ad : Addr} {j : Int} {m q : Nat} (hF : Fr n ds l a) (hX : ev l X = some (.pointer (some (adr ad j m)))) (hq : fldO s i = some q) (w : World) {dst : Option Tmp} :
    (execOp a.eval ⟨dst, .fieldAddr s X i, ty, pos, af, g⟩).run Try.prog w = .ok (.value (.pointer (some (adrP ad j m q)))) w := by
  unfold fldO at hq
  split at hq
  · rename_i fs hs
    split at hq
    · rename_i f hf
      split at hq
      · rename_i k hm
        injection hq with hq
        have := fieldAt_ok (a := adr ad j m) hs hf hm w
        simp only [execOp, hF.eval hX]
        rw [Sem.run_bind, this]
        unfold adrP
        rw [hq]
        rfl
      · cases hq
    · cases hq
  · cases hq
theorem s_fieldA {s : TypeId} {X : Operand} {ad : Addr} {j : Int} {m q : Nat} (hF : Fr n ds l a) (hg : wantO os l g = some true) (hX : ev l X = some (.pointer (some (adr ad j m)))) (hq : fldO s i = some q) (hd : Nat.blt d n = true)
    (kk : ∀ a, Fr n ds ((d, .pointer (some (adrP ad j m q))) :: l) a → wl ⟨os⟩ Q rest a w) : wl ⟨os⟩ Q (⟨some d, .fieldAddr s X i, ty, pos, af, g⟩ :: rest) a w :=
  s_op hF hg fun _ hK => upon_value (e_fieldA hF hX hq w) (hK _ _ (kk _ (hF.put hd _)))
theorem t_fieldA {p : Nat} {s : TypeId} {X : Operand} {ad : Addr} {j : Int} {m q : Nat} (hF : Fr n ds l a) (hi : getO os i = some ⟨some d, .fieldAddr s X p, ty, pos, af, g⟩) (hg : wantO os l g = some true) (hX : ev l X = some (.pointer (some (adr ad j m)))) (hq : fldO s p = some q) (hd : Nat.blt d n = true) (hb : takeB os tail listed i = true) (hS : Sm bs0 Fs0 w) (hQ : ∀ c a w, Q (.panic c) (a.put (some d) (.pointer (some (adrP ad j m q)))) w → Q (.panic c) a w)
    (kk : ∀ a, Fr n ds ((d, .pointer (some (adrP ad j m q))) :: l) a → wpAnyT Try.prog .any ⟨os⟩ Q (Sm bs0 Fs0) tail fuel (listed.setIfInBounds i true) a w) : wpAnyT Try.prog .any ⟨os⟩ Q (Sm bs0 Fs0) tail (fuel + 1) listed a w :=
  t_take hi hb hQ (.inl ⟨wantO_ok (o := ⟨some d, .fieldAddr s X p, ty, pos, af, g⟩) hF hg, fun w _ => e_fieldA hF hX hq w⟩) hS (kk _ (hF.put hd _))
theorem e_loadP {α : Type} {enc : α → Value} {T : TypeId} {X : Operand} {ad : Addr} {j : Int} {m q : Nat} {xs : List α} {x : α} (hF : Fr n ds l a) (hX : ev l X = some (.pointer (some (adrP ad j m q)))) (hr : Reads enc w (some ad) xs) (hx : xs[j.toNat * m + q]? = some x) (hT : sclO T = some ()) :
    (execOp a.eval ⟨some d, .load T X, ty, pos, af, g⟩).run Try.prog w = .ok (.value (enc x)) w := by
  obtain ⟨b, off, e, hb, hc⟩ := hr _ x hx
  injection e with e
  subst e
  have hadr : adrP ⟨b, off, none⟩ j m q = ⟨b, off + (j.toNat * m + q), none⟩ := by unfold adrP adr; rw [add_lit, add_lit, Nat.add_assoc]
  unfold sclO at hT
  split at hT
  · rename_i i hi
    split at hT
    · rename_i ha
      have hagg := (te_ok hi).agg w
      rw [ha] at hagg
      simp [execOp, hF.eval hX, Instr.loadAt, Instr.sureAddr, Sem.run_bind, loadVar, hadr, hagg, Result.andThen, load, Sem.run, hc]
    · cases hT
  · cases hT
theorem s_loadP {α : Type} {enc : α → Value} {T : TypeId} {X : Operand} {ad : Addr} {j : Int} {m q : Nat} {xs : List α} {x : α} (hF : Fr n ds l a) (hM : Mm own w0 bs L Fs w) (hg : wantO os l g = some true) (hX : ev l X = some (.pointer (some (adrP ad j m q)))) (hr : RdF enc (some ad) xs ∈ Fs) (hT : sclO T = some ()) (hd : Nat.blt d n = true) (hx : xs[j.toNat * m + q]? = some x)
    (k : ∀ a, Fr n ds ((d, enc x) :: l) a → wl ⟨os⟩ Q rest a w) : wl ⟨os⟩ Q (⟨some d, .load T X, ty, pos, af, g⟩ :: rest) a w :=
  s_op hF hg fun _ hK => upon_value (e_loadP hF hX (hM.fact hr) hx hT) (hK _ _ (k _ (hF.put hd _)))
theorem t_loadP {α : Type} {enc : α → Value} {T : TypeId} {X : Operand} {ad : Addr} {z : Int} {m q : Nat} {xs : List α} {x : α} (hF : Fr n ds l a) (hi : getO os i = some ⟨some d, .load T X, ty, pos, af, g⟩) (hg : wantO os l g = some true) (hX : ev l X = some (.pointer (some (adrP ad z m q)))) (hr : RdF enc (some ad) xs ∈ Fs0) (hx : xs[z.toNat * m + q]? = some x) (hT : sclO T = some ()) (hd : Nat.blt d n = true) (hb : takeB os tail listed i = true) (hS : Sm bs0 Fs0 w) (hQ : ∀ c a w, Q (.panic c) (a.put (some d) (enc x)) w → Q (.panic c) a w)
    (k : ∀ a, Fr n ds ((d, enc x) :: l) a → wpAnyT Try.prog .any ⟨os⟩ Q (Sm bs0 Fs0) tail fuel (listed.setIfInBounds i true) a w) : wpAnyT Try.prog .any ⟨os⟩ Q (Sm bs0 Fs0) tail (fuel + 1) listed a w :=
  t_take hi hb hQ (.inl ⟨wantO_ok (o := ⟨some d, .load T X, ty, pos, af, g⟩) hF hg, fun _ h => e_loadP hF hX (h.2 _ hr) hx hT⟩) hS (k _ (hF.put hd _))
/-- A row, as a fact. -/
theorem Mm.rowFactN {α : Type} {enc : α → Value} (m : Mm own w0 bs L Fs w) {e : TypeId} {sz : Nat} {a : Option Addr} {n c : Nat} {xs : List α} (h : ⟨e, sz, .slice a n c, n, xs.map enc⟩ ∈ L) : Has own w (RdF enc a xs) := by
  have ho : w.ownsRow w0.heap.size e sz (.slice a n c) n (xs.map enc) := m.mem.own.own _ h
  refine RdF.has (own_readsN ho) ?_
  rintro ad rfl hn
  have h1 := m.mem.own.lt h ad.block rfl
  have := m.low _ hn
  omega
end
end Go.Proofs.Ytadfdpkhehdikaa


/- Layer 29: sectors are copied and compared. -/
namespace Go.Proofs.Ytadfdpkhehdikaa
open Go.RowKit Go.Shelf
namespace D29
def W8 (l : Dat) : Prop := ∀ y ∈ l, y.length = 8
theorem len8 {s : List Int} (h : s.length = 8) : ∃ a b c d e f g i, s = [a, b, c, d, e, f, g, i] := by
  match s, h with
  | [a, b, c, d, e, f, g, i], _ => exact ⟨a, b, c, d, e, f, g, i, rfl⟩
theorem flat_len : ∀ {D : Dat}, W8 D → D.flatten.length = D.length * 8
  | [], _ => rfl
  | s :: D, h => by
    rw [List.flatten_cons, List.length_append, h s (by simp), flat_len (fun y hy => h y (List.mem_cons_of_mem _ hy)), List.length_cons, Nat.succ_mul]
    omega
theorem W8.drop {l : Dat} (h : W8 l) (i : Nat) : W8 (l.drop i) := fun y hy => h y (List.mem_of_mem_drop hy)
theorem W8.take {l : Dat} (h : W8 l) (i : Nat) : W8 (l.take i) := fun y hy => h y (List.mem_of_mem_take hy)
end D29
open D29
section
variable {own : Nat → Prop} {W : World}
set_option maxRecDepth 20000 in
theorem SameS_c (l m : Dat) (hl8 : W8 l) (hm8 : W8 m) (a1 a2 : Option Addr) (q1 q2 c1 c2 : Nat) (h1 : l.length = q1) (h2 : m.length = q2) (hq : q1 ≤ 1000000) (own : Nat → Prop) (W : World) (hl : ∀ b, own b → b < W.heap.size) (hv1 : Has own W (RdF (Value.int .u8) a1 l.flatten)) (hv2 : Has own W (RdF (Value.int .u8) a2 m.flatten)) :
    Calls Try.prog 11 ⟨[.slice a1 q1 c1, .slice a2 q2 c2]⟩ W (Ret W fun v _ => v = .bool (decide (l = m))) := by
  subst h1 h2
  have hM := ((Mm.start hl).known hv1).known hv2
  have hw1 : ∀ y ∈ l, y.length = 8 := hl8
  have hw2 : ∀ y ∈ m, y.length = 8 := hm8
  refine f_start Try.func11 rfl Try.ntmps11 rfl rfl ?_; intro a hF
  (repeat' (first | (with_reducible refine w_seq ?_) | (with_reducible refine c_region ?_) | (with_reducible refine s_nil ?_) | (with_reducible refine q_then_n ?_) | ((with_reducible apply s_pure hF); exact rfl; exact rfl; exact rfl; (first | exact trivial | omega | exact ⟨Int.natCast_nonneg _, Int.ofNat_lt.2 (by assumption)⟩ | decide); clear hF a; intro a hF) | (with_reducible refine w_skip ?_) | (with_reducible refine w_block ?_) | (with_reducible refine w_ret ?_) | (with_reducible refine q_then_r ?_) | ((with_reducible apply c_dec hF); exact rfl; all_goals intro hc; all_goals (try (exfalso; omega)))))
  · rw [show decide (l = m) = false from decide_eq_false (fun e => by subst e; omega)]
    (apply f_ret Try.results11 hF hM; (repeat (first | exact RL.nil | (apply RL.tmp; exact rfl) | (apply RL.cell; exact rfl; (repeat (first | exact List.mem_cons_self | refine List.mem_cons_of_mem _ ?_)); exact rfl))); refine Ret.mk hM.since ?_; dsimp only [resV])
  have hlm : l.length = m.length := by omega
  refine c_loop (m := l.length) (fun mm a w' => ∃ i : Nat, mm + i = l.length ∧ l.take i = m.take i ∧ Fr 26 [] [(5, .int .i64 i), (0, .slice a1 l.length c1), (1, .slice a2 m.length c2)] a ∧ Mm own W [] [] [RdF (Value.int .u8) a2 m.flatten, RdF (Value.int .u8) a1 l.flatten] w') ⟨0, by omega, rfl, hF.sub (by repeat (first | exact Sub.nil | refine Sub.cons rfl (by first | with_reducible rfl | (refine congrArg (Value.int _) ?_; omega) | exact rfl) ?_)), hM⟩ ?_
  clear hF hM a
  rintro mm a w' ⟨i, hmi, hlt, hF, hM⟩
  by_cases hi : i < l.length
  · obtain ⟨s, hs⟩ := get_of_lt hi
    obtain ⟨t, ht⟩ := get_of_lt (l := m) (i := i) (by omega)
    have hs8 := hw1 s (List.mem_of_getElem? hs)
    have ht8 := hw2 t (List.mem_of_getElem? ht)
    obtain ⟨ad1, rfl⟩ : ∃ ad, a1 = some ad := rd_some hM (by (repeat (first | exact List.mem_cons_self | refine List.mem_cons_of_mem _ ?_))) (flat_get (q := 0) hl8 hs (List.getElem?_eq_getElem (by omega)))
    obtain ⟨ad2, rfl⟩ : ∃ ad, a2 = some ad := rd_some hM (enc := Value.int .u8) (a := a2) (xs := m.flatten) (by (repeat (first | exact List.mem_cons_self | refine List.mem_cons_of_mem _ ?_))) (flat_get (q := 0) hm8 ht (List.getElem?_eq_getElem (by omega)))
    have hst : (l.take (i + 1) = m.take (i + 1)) ↔ s = t := by
      rw [List.take_add_one, List.take_add_one, hs, ht, hlt]
      simp
    (repeat' (first | (with_reducible refine w_seq ?_) | (with_reducible refine c_region ?_) | (with_reducible refine s_nil ?_) | (with_reducible refine q_then_n ?_) | ((with_reducible apply s_pure hF); exact rfl; exact rfl; exact rfl; (first | exact trivial | omega | exact ⟨Int.natCast_nonneg _, Int.ofNat_lt.2 (by assumption)⟩ | decide); clear hF a; intro a hF) | (with_reducible refine w_skip ?_) | (with_reducible refine w_block ?_) | ((with_reducible apply c_dec hF); exact rfl; all_goals intro hc; all_goals (try (exfalso; omega)))))
    refine c_draw (fun i => Nat.ble 9 i) hM ?_; clear hM; intro w hM
    (first | (refine t_pure (i := 0) hF rfl rfl rfl rfl (by kernel_rfl) hM.sm (fun _ _ _ h => h) ?_ ?_; (first | exact trivial | omega | decide); clear hF a; intro a hF))
    (first | (refine t_pure (i := 1) hF rfl rfl rfl rfl (by kernel_rfl) hM.sm (fun _ _ _ h => h) ?_ ?_; (first | exact trivial | omega | decide); clear hF a; intro a hF))
    (first | (refine t_pure (i := 2) hF rfl rfl rfl rfl (by kernel_rfl) hM.sm (fun _ _ _ h => h) ?_ ?_; (first | exact trivial | omega | decide); clear hF a; intro a hF))
    (first | (apply t_loadS (i := 3) hF rfl rfl rfl; (repeat (first | exact List.mem_cons_self | refine List.mem_cons_of_mem _ ?_)); (first | with_reducible assumption | (simp only [Int.toNat_natCast]; with_reducible assumption)); (with_reducible assumption); exact rfl; exact rfl; kernel_rfl; exact hM.sm; exact (fun _ _ _ h => h); clear hF a; intro a hF))
    (first | (refine t_pure (i := 4) hF rfl rfl rfl rfl (by kernel_rfl) hM.sm (fun _ _ _ h => h) ?_ ?_; (first | exact trivial | omega | decide); clear hF a; intro a hF))
    (first | (refine t_pure (i := 5) hF rfl rfl rfl rfl (by kernel_rfl) hM.sm (fun _ _ _ h => h) ?_ ?_; (first | exact trivial | omega | decide); clear hF a; intro a hF))
    (first | (refine t_pure (i := 6) hF rfl rfl rfl rfl (by kernel_rfl) hM.sm (fun _ _ _ h => h) ?_ ?_; (first | exact trivial | omega | decide); clear hF a; intro a hF))
    (first | (apply t_loadS (i := 7) hF rfl rfl rfl; (repeat (first | exact List.mem_cons_self | refine List.mem_cons_of_mem _ ?_)); (first | with_reducible assumption | (simp only [Int.toNat_natCast]; with_reducible assumption)); (with_reducible assumption); exact rfl; exact rfl; kernel_rfl; exact hM.sm; exact (fun _ _ _ h => h); clear hF a; intro a hF))
    (first | (apply t_eqA (i := 8) hF rfl rfl rfl rfl rfl; kernel_rfl; exact rfl; exact rfl; kernel_rfl; (first | with_reducible assumption | rfl); (first | with_reducible assumption | rfl); exact hM.sm; exact (fun _ _ _ h => h); clear hF a; intro a hF))
    refine t_done (by kernel_rfl) ?_
    (repeat' (first | (with_reducible refine w_seq ?_) | (with_reducible refine c_region ?_) | (with_reducible refine s_nil ?_) | (with_reducible refine q_then_n ?_) | ((with_reducible apply s_pure hF); exact rfl; exact rfl; exact rfl; (first | exact trivial | omega | exact ⟨Int.natCast_nonneg _, Int.ofNat_lt.2 (by assumption)⟩ | decide); clear hF a; intro a hF) | (with_reducible refine w_skip ?_) | (with_reducible refine w_ret ?_) | (with_reducible refine q_then_r ?_) | (with_reducible refine q_blk_n ?_) | (with_reducible refine q_blk_r ?_) | ((with_reducible apply c_ndec hF); exact rfl; all_goals intro hc; all_goals (try (exfalso; omega)))))
    · rw [show decide (l = m) = false from decide_eq_false (fun e => by subst e; rw [hs] at ht; injection ht with ht; contradiction)]
      (apply f_ret Try.results11 hF hM; (repeat (first | exact RL.nil | (apply RL.tmp; exact rfl) | (apply RL.cell; exact rfl; (repeat (first | exact List.mem_cons_self | refine List.mem_cons_of_mem _ ?_)); exact rfl))); refine Ret.mk hM.since ?_; dsimp only [resV])
    · exact ⟨mm - 1, by omega, i + 1, by omega, hst.2 (by assumption), hF.sub (by repeat (first | exact Sub.nil | refine Sub.cons rfl (by first | with_reducible rfl | (refine congrArg (Value.int _) ?_; omega) | exact rfl) ?_)), hM⟩
  · rw [List.take_of_length_le (by omega), List.take_of_length_le (by omega)] at hlt
    rw [decide_eq_true hlt]
    (repeat' (first | (with_reducible refine w_seq ?_) | (with_reducible refine c_region ?_) | (with_reducible refine s_nil ?_) | (with_reducible refine q_then_n ?_) | ((with_reducible apply s_pure hF); exact rfl; exact rfl; exact rfl; (first | exact trivial | omega | exact ⟨Int.natCast_nonneg _, Int.ofNat_lt.2 (by assumption)⟩ | decide); clear hF a; intro a hF) | (with_reducible refine w_exit ?_) | (with_reducible refine w_ret ?_) | (with_reducible refine q_then_x ?_) | (with_reducible refine q_blk_x ?_) | ((with_reducible apply c_dec hF); exact rfl; all_goals intro hc; all_goals (try (exfalso; omega)))))
    (apply f_ret Try.results11 hF hM; (repeat (first | exact RL.nil | (apply RL.tmp; exact rfl) | (apply RL.cell; exact rfl; (repeat (first | exact List.mem_cons_self | refine List.mem_cons_of_mem _ ?_)); exact rfl))); refine Ret.mk hM.since ?_; dsimp only [resV])
end
end Go.Proofs.Ytadfdpkhehdikaa


/- Maps that a call has made. -/
namespace Go.Proofs.Ytadfdpkhehdikaa
open Go.RowKit Go.Shelf
section
variable {n : Nat} {ds : List Deferred} {l : List (Nat × Value)} {a : Act} {w w' w0 : World} {own : Nat → Prop} {bs : List BoxE} {L : List Ent} {Fs : List (World → Prop)}
variable {os rest : List Oper} {Q : Exit → Act → World → Prop} {K : Act → World → Prop}
variable {d : Nat} {op : Op} {ty : TypeId} {pos : String} {af : Array Edge} {g : Option (Nat × Bool)}
/-- A block that holds a map. -/
def MpF (b : Nat) (es : List MapEntry) (c : Nat) : World → Prop := fun w => w.heap[b]? = some (.map es.toArray c)
/-- A fact that does not look at maps. -/
def Cf (f : World → Prop) : Prop := ∀ (w : World) (b : Nat) (es : Array MapEntry) (c : Nat) (o : Obj), w.heap[b]? = some (.map es c) → f w → f (w.putObj b o)
theorem cell_put {w : World} {b : Nat} {es : Array MapEntry} {c : Nat} {o : Obj} {ad : Addr} {v : Value} (h : w.heap[b]? = some (.map es c)) (hc : w.cell? ad = some v) : (w.putObj b o).cell? ad = some v := by
  refine (World.cell?_of_block (World.putObj_heap_other ?_)).trans hc
  intro e
  unfold World.cell? at hc
  rw [e, h] at hc
  simp at hc
theorem Cf.rd {α : Type} {enc : α → Value} {ao : Option Addr} {xs : List α} : Cf (RdF enc ao xs) := by
  intro w b es c o h hr i x hx
  obtain ⟨b', off, e, hb, hc⟩ := hr i x hx
  exact ⟨b', off, e, by rw [World.putObj_size]; exact hb, cell_put h hc⟩
theorem Cf.bx {b : Nat} {cs : List Value} {T : TypeId} : Cf (BxF b cs T) := by
  intro w b' es c o h hb
  refine Box.of_block hb (World.putObj_heap_other ?_)
  intro e
  subst e
  rw [show w.heap[b]? = _ from hb] at h
  cases h
theorem Mm.notOwn (m : Mm own w0 bs L Fs w) {b : Nat} {o : Obj} (hb : w0.heap.size ≤ b) (hk : w.heap[b]? = some o) (hc : o.isCells = false) : ¬ ownOf own bs L b := by
  rintro (h | ⟨x, hx, rfl⟩ | ⟨y, hy, he⟩)
  · have := m.low b h; omega
  · rw [show w.heap[x.b]? = _ from m.mem.box x hx] at hk
    injection hk with hk; subst hk; cases hc
  · obtain ⟨_, r⟩ := m.mem.own.own y hy
    rcases r with ⟨r, _⟩ | ⟨g, cap, cur, e1, e2, e3, r⟩
    · rw [r] at he; cases he
    · rw [e1] at he
      injection he with he
      have he : g = b := he
      subst he
      rw [e3] at hk
      injection hk with hk; subst hk; cases hc
theorem put_put {w : World} {b : Nat} {o o2 : Obj} (h : w.heap[b]? = some o2) : (w.putObj b o).putObj b o2 = w := by
  unfold World.putObj
  have : (w.heap.setIfInBounds b o).setIfInBounds b o2 = w.heap := by
    apply Array.ext_getElem?
    intro i
    rw [Array.getElem?_setIfInBounds]
    by_cases e : b = i
    · subst e
      rw [if_pos rfl]
      have := (Array.getElem?_eq_some_iff.1 h).1
      simp [this, h]
      rw [Array.getElem?_eq_getElem this] at h
      injection h with h
      exact h.symm
    · rw [if_neg e, Array.getElem?_setIfInBounds, if_neg e]
  simp only [this]
/-- A map changed. -/
theorem Mm.mapTo (m : Mm own w0 bs L Fs w) {b : Nat} {es : Array MapEntry} {c : Nat} (hb : w0.heap.size ≤ b) (hk : w.heap[b]? = some (.map es c)) (hcf : ∀ f ∈ Fs, Cf f) (es' : List MapEntry) (c' : Nat) : Mm own w0 bs L (MpF b es' c' :: Fs) (w.putObj b (.map es'.toArray c')) := by
  have hno := m.notOwn hb hk rfl
  have hlt := (Array.getElem?_eq_some_iff.1 hk).1
  have m' : Mm own w0 bs L [] (w.putObj b (.map es'.toArray c')) := m.turn (grownBy_putObj' w b _) (fun r e => by cases e; exact ⟨hb, _, hk, rfl⟩)
  refine ⟨m'.mem, m'.low, fun f hf => ?_⟩
  rcases List.mem_cons.1 hf with rfl | hf
  · refine ⟨fun x => x = b, fun x hx => ⟨by subst hx; rw [World.putObj_size]; exact hlt, by subst hx; exact hno⟩, fun w2 h2 _ => (h2 b rfl).trans (World.putObj_heap_same hlt)⟩
  · obtain ⟨S, s1, s2⟩ := m.facts f hf
    refine ⟨fun x => S x ∧ x ≠ b, fun x hx => ⟨by rw [World.putObj_size]; exact (s1 x hx.1).1, (s1 x hx.1).2⟩, fun w2 h2 hz => ?_⟩
    rw [World.putObj_size] at hz
    have hb2 : w2.heap[b]? = some w2.heap[b] := Array.getElem?_eq_getElem (by omega)
    have h3 : f (w2.putObj b (.map es c)) := by
      refine s2 _ (fun x hx => ?_) (by rw [World.putObj_size]; exact hz)
      by_cases e : x = b
      · subst e; rw [World.putObj_heap_same (by omega), hk]
      · rw [World.putObj_heap_other e, h2 x ⟨hx, e⟩, World.putObj_heap_other e]
    have h4 := hcf f hf _ b es c w2.heap[b] (World.putObj_heap_same (by omega)) h3
    rw [put_put hb2] at h4
    exact h4
/-! Keys -/
def ent {α : Type} (ek : α → Value) (p : α × Value × Nat) : MapEntry := ⟨ek p.1, p.2.1, p.2.2⟩
def pfind {α : Type} [DecidableEq α] (x : α) : List (α × Value × Nat) → Nat → Option (Nat × Value)
  | [], _ => none
  | p :: r, i => if x = p.1 then some (i, p.2.1) else pfind x r (i + 1)
structure KeyOk {α : Type} [DecidableEq α] (kt : TypeId) (ek : α → Value) (A : α → Prop) : Prop where
  check : ∀ b x w, A x → (Instr.checkKey b 10000 kt (ek x)).run Try.prog w = .ok () w
  find : ∀ x ps w, A x → (∀ p ∈ ps, A p.1) → (Instr.findKey kt (ek x) (ps.map (ent ek))).run Try.prog w = .ok (pfind x ps 0) w
  same : ∀ x, A x → Instr.sameBits 10000 (ek x) (ek x) = true
theorem sameBits_ints {k : IntKind} (m : Nat) (xs : List Int) : Instr.sameBits (m + 2) (.agg (xs.map (Value.int k)).toArray) (.agg (xs.map (Value.int k)).toArray) = true := by
  rw [Instr.sameBits]
  simp only [beq_self_eq_true, Bool.true_and]
  rw [List.all_eq_true]
  rintro ⟨u, v⟩ h
  have key : ∀ (l : List Value), (u, v) ∈ l.zip l → u = v := by
    intro l
    induction l with
    | nil => intro h; simp at h
    | cons x l ih =>
      intro h
      rw [List.zip_cons_cons] at h
      rcases List.mem_cons.1 h with e | h
      · injection e with e1 e2; rw [e1, e2]
      · exact ih h
  have e := key _ h
  subst e
  have hm := (List.of_mem_zip h).1
  obtain ⟨x, _, rfl⟩ := List.mem_map.1 hm
  rw [Instr.sameBits]
  simp
theorem check_arr {kt e : TypeId} {k : IntKind} {m : Nat} (h1 : tyD kt = some (.array m e)) (h2 : tyD e = some (.int k)) (h3 : tyS e = some 1) (hs : sclO e = some ()) (b : Bool) (xs : List Int) (hx : xs.length = m) (w : World) : (Instr.checkKey b 10000 kt (.agg (xs.map (Value.int k)).toArray)).run Try.prog w = .ok () w := by
  rw [show (10000 : Nat) = 9998 + 1 + 1 from rfl, Instr.checkKey]
  simp only [Sem.run_bind, tyD_run h1, Result.andThen]
  rw [Std.Legacy.Range.forIn_eq_forIn_range']
  have hr : (List.range' [:m].start [:m].size [:m].step) = List.range' 0 m := by simp [Std.Legacy.Range.size]
  rw [hr]
  have key : ∀ q i, i + q = m → (forIn (List.range' i q) PUnit.unit fun (i : Nat) (_ : PUnit) => (do
      let s ← sizeOf e
      let v ← part e (xs.map (Value.int k)).toArray (i * s)
      Instr.checkKey b (9998 + 1) e v
      pure (ForInStep.yield PUnit.unit) : Sem _)).run Try.prog w = .ok PUnit.unit w := by
    intro q
    induction q with
    | zero => intro i _; simp
    | succ q ih =>
      intro i hi
      have p1 := part_scl (k := k) hs (List.getElem?_eq_getElem (l := xs) (i := i) (by omega)) w
      have p2 : (Instr.checkKey b (9998 + 1) e (.int k xs[i])).run Try.prog w = .ok () w := by
        rw [Instr.checkKey]
        simp only [Sem.run_bind, tyD_run h2, Result.andThen]
        rfl
      rw [List.range'_succ, List.forIn_cons]
      simp only [Sem.run_bind, tyS_run h3, Result.andThen, Nat.mul_one, p1, p2, Sem.run_pure]
      exact ih (i + 1) (by omega)
  rw [key m 0 (by omega)]
  rfl
theorem findAsk_arr {kt e : TypeId} {k : IntKind} {m : Nat} (h1 : tyD kt = some (.array m e)) (h2 : tyD e = some (.int k)) (h3 : tyS e = some 1) (hs : sclO e = some ()) (xs : List Int) (hx : xs.length = m) (w : World) : ∀ (ps : List (List Int × Value × Nat)) (i : Nat), (∀ p ∈ ps, p.1.length = m) →
    (Instr.findAsking kt (.agg (xs.map (Value.int k)).toArray) (ps.map (ent fun ys : List Int => .agg (ys.map (Value.int k)).toArray)) i).run Try.prog w = .ok (pfind xs ps i) w
  | [], i, _ => by simp [Instr.findAsking, pfind]
  | p :: ps, i, h => by
    have ih := findAsk_arr h1 h2 h3 hs xs hx w ps (i + 1) fun q hq => h q (by simp [hq])
    have he := equal_arr (k := k) h1 h2 h3 hs hx (h p (by simp)) w
    rw [List.map_cons, Instr.findAsking, pfind]
    simp only [ent, Sem.run_bind, he, Result.andThen]
    by_cases hxp : xs = p.1
    · simp [hxp]
    · simp only [hxp, decide_false, Bool.false_eq_true, if_false]
      exact ih
theorem keyOk_arr {kt e : TypeId} {k : IntKind} {m : Nat} (h1 : tyD kt = some (.array m e)) (h2 : tyD e = some (.int k)) (h3 : tyS e = some 1) (hs : sclO e = some ()) : KeyOk (α := List Int) kt (fun ys : List Int => .agg (ys.map (Value.int k)).toArray) (fun ys => ys.length = m) := by
  refine ⟨fun b x w hx => check_arr h1 h2 h3 hs b x hx w, fun x ps w hx hps => ?_, fun x _ => sameBits_ints 9998 x⟩
  have hf := findAsk_arr h1 h2 h3 hs x hx w ps 0 hps
  unfold Instr.findKey
  simp only [Sem.run_bind, tyD_run h1, Result.andThen]
  cases ps with
  | nil => simp [Instr.findNow, pfind]
  | cons p ps => exact hf
/-! Rules -/
def plk {α : Type} [DecidableEq α] (x : α) (ps : List (α × Value × Nat)) (z : Value) : Value × Bool := match pfind x ps 0 with
  | some (_, v) => (v, true)
  | none => (z, false)
def mapTy (t : TypeId) : Option (TypeId × Value) := match tyD t with
  | some (.map k e) => match te e with
    | some i => some (k, i.zero)
    | none => none
  | _ => none
theorem mapTy_ok {t k : TypeId} {z : Value} (h : mapTy t = some (k, z)) : ∃ e, tyD t = some (.map k e) ∧ ∀ w, (zeroValue e).run Try.prog w = .ok z w := by
  unfold mapTy at h
  split at h
  · rename_i k' e h1
    split at h
    · rename_i i hi
      injection h with h; injection h with h2 h3
      subst h2 h3
      exact ⟨e, h1, (te_ok hi).zero⟩
    · cases h
  · cases h
section
variable {α : Type} [DecidableEq α] {kt xT : TypeId} {ek : α → Value} {A : α → Prop} {z : Value} {b : Nat} {ps : List (α × Value × Nat)} {c : Nat} {x : α} {X I Y : Operand}
theorem run_lookup (hK : KeyOk kt ek A) (ht : mapTy xT = some (kt, z)) (hb : MpF b (ps.map (ent ek)) c w) (hx : A x) (hps : ∀ p ∈ ps, A p.1) (ok : Bool) :
    (Instr.lookup xT (.map (some b)) (ek x) ok).run Try.prog w = .ok (if ok then .tuple #[(plk x ps z).1, .bool (plk x ps z).2] else (plk x ps z).1) w := by
  obtain ⟨e, h1, h2⟩ := mapTy_ok ht
  have h3 := hK.check (ps.map (ent ek)).toArray.isEmpty x w hx
  have h4 := hK.find x ps w hx hps
  unfold Instr.lookup
  simp only [Sem.run_bind, tyD_run h1, Result.andThen, MapKept.run_getObj_map hb, Sem.run_pure, h3, h4]
  unfold plk
  cases hp : pfind x ps 0 with
  | none => simp only [Sem.run_bind, h2 w, Result.andThen, Sem.run_pure]
  | some q => simp only [Sem.run_bind, Result.andThen, Sem.run_pure]
end
/-- A map made. -/
theorem s_makeMap {t : TypeId} (hF : Fr n ds l a) (hM : Mm own w0 bs L Fs w) (hg : wantO os l g = some true) (hd : Nat.blt d n = true)
    (k : ∀ b w' a, w0.heap.size ≤ b → Mm own w0 bs L (MpF b [] 0 :: Fs) w' → Fr n ds ((d, .map (some b)) :: l) a → wl ⟨os⟩ Q rest a w') : wl ⟨os⟩ Q (⟨some d, .makeMap t none, ty, pos, af, g⟩ :: rest) a w := by
  have hs : Since w (w.alloc (.map #[] 0)) := (Since.refl w).alloc _
  have hM' := hM.keep hs
  have hk : (w.alloc (.map #[] 0)).heap[w.heap.size]? = some (.map #[] 0) := heap_alloc_new w _
  have hz := hM.since.size
  refine s_op hF hg fun _ hK => upon_value (v := .map (some w.heap.size)) (w' := w.alloc (.map #[] 0)) ?_ (hK _ _ (k w.heap.size _ _ hz (hM'.addFact ?_) (hF.put hd _)))
  · simp [execOp, Instr.makeMap, Sem.run_bind, newObj, Sem.run, Result.andThen]
  · have hno := hM'.notOwn hz hk rfl
    refine ⟨fun x => x = w.heap.size, fun x hx => ⟨by subst hx; simp, by subst hx; exact hno⟩, fun w2 h2 _ => (h2 _ rfl).trans hk⟩
/-! Arrays out of slices -/
theorem s_s2a {T : TypeId} {X : Operand} {m z len c : Nat} {ao : Option Addr} (hF : Fr n ds l a) (hg : wantO os l g = some true) (hX : ev l X = some (.slice ao len c)) (ht : arrO T = some (m, z)) (hd : Nat.blt d n = true) (hm : m ≤ len)
    (kk : ∀ a, Fr n ds ((d, .pointer ao) :: l) a → wl ⟨os⟩ Q rest a w) : wl ⟨os⟩ Q (⟨some d, .sliceToArrayPointer T X, ty, pos, af, g⟩ :: rest) a w := by
  obtain ⟨e, h1, h2⟩ := arrO_ok ht
  refine s_op hF hg fun _ hK => upon_value (v := .pointer ao) ?_ (hK _ _ (kk _ (hF.put hd _)))
  simp [execOp, hF.eval hX, Instr.arrayAt, Sem.run_bind, tyD_run h1, Result.andThen, show ¬ len < m by omega]
/-- An array of numbers loaded from where a list lies. -/
theorem s_loadA {T : TypeId} {X : Operand} {ad : Addr} {m : Nat} {k : IntKind} {xs s : List Int} (hF : Fr n ds l a) (hM : Mm own w0 bs L Fs w) (hg : wantO os l g = some true) (hX : ev l X = some (.pointer (some ad))) (hr : RdF (Value.int k) (some ad) xs ∈ Fs) (hT : aggS T = some m) (hd : Nat.blt d n = true) (hs : xs.take m = s) (hm : m ≤ xs.length)
    (kk : ∀ a, Fr n ds ((d, .agg (s.map (Value.int k)).toArray) :: l) a → wl ⟨os⟩ Q rest a w) : wl ⟨os⟩ Q (⟨some d, .load T X, ty, pos, af, g⟩ :: rest) a w := by
  subst hs
  have hrd := hM.fact hr
  unfold aggS at hT
  split at hT
  · rename_i i hi
    split at hT
    · rename_i ha
      injection hT with hT
      have hagg := (te_ok hi).agg w
      have hsz := (te_ok hi).size w
      rw [ha] at hagg
      rw [hT] at hsz
      have := run_loadCells_list (P := Try.prog) w ad ((xs.take m).map (Value.int k)) (fun q u hu => by
        rw [List.getElem?_map, List.getElem?_take] at hu
        split at hu
        · cases hq : xs[q]? with
          | none => rw [hq] at hu; simp at hu
          | some x =>
            rw [hq] at hu
            simp only [Option.map_some, Option.some.injEq] at hu
            subst hu
            obtain ⟨b, off, e, hb, hc⟩ := hrd q x hq
            injection e with e
            subst e
            rw [add_lit]
            exact hc
        · simp at hu)
      rw [List.length_map, List.length_take, Nat.min_eq_left hm] at this
      refine s_op hF hg fun _ hK => upon_value (v := .agg ((xs.take m).map (Value.int k)).toArray) ?_ (hK _ _ (kk _ (hF.put hd _)))
      simp [execOp, hF.eval hX, Instr.loadAt, Instr.sureAddr, Sem.run_bind, loadVar, hagg, hsz, this, Result.andThen]
    · cases hT
  · cases hT
end
end Go.Proofs.Ytadfdpkhehdikaa


/- Maps: entries found or laid, then stored. -/
namespace Go.Proofs.Ytadfdpkhehdikaa
open Go.RowKit Go.Shelf
section
variable {n : Nat} {ds : List Deferred} {l : List (Nat × Value)} {a : Act} {w w' w0 : World} {own : Nat → Prop} {bs : List BoxE} {L : List Ent} {Fs : List (World → Prop)}
variable {os rest : List Oper} {Q : Exit → Act → World → Prop} {K : Act → World → Prop}
variable {d : Nat} {op : Op} {ty : TypeId} {pos : String} {af : Array Edge} {g : Option (Nat × Bool)}
theorem ownOf_perm {own : Nat → Prop} {bs : List BoxE} {L L' : List Ent} (h : L'.Perm L) {b : Nat} (hb : ownOf own bs L' b) : ownOf own bs L b := by
  rcases hb with h1 | h1 | ⟨y, hy, e⟩
  · exact .inl h1
  · exact .inr (.inl h1)
  · exact .inr (.inr ⟨y, h.mem_iff.1 hy, e⟩)
/-- The order of rows does not matter. -/
theorem Mm.permL (m : Mm own w0 bs L Fs w) {L' : List Ent} (h : L'.Perm L) : Mm own w0 bs L' Fs w := by
  refine ⟨⟨m.mem.since, m.mem.box, m.mem.new, m.mem.two, ⟨fun x hx => m.mem.own.own x (h.mem_iff.1 hx), ?_⟩, fun x hx y hy => m.mem.far x hx y (h.mem_iff.1 hy)⟩, m.low, fun f hf => (m.facts f hf).own_eq fun b hb => ownOf_perm h hb⟩
  refine (h.pairwise_iff ?_).2 m.mem.own.apart
  intro x y hxy
  by_cases e : y.v.ownBlock = none
  · exact .inl e
  · rcases hxy with q | q
    · exact .inr fun e2 => e (e2.trans q)
    · exact .inr fun e2 => q e2.symm
theorem c_drawF {id : Nat} {bs0 : List BoxE} {Fs0 : List (World → Prop)} (tail : Nat → Bool) (hs : ∀ x ∈ bs0, x ∈ bs) (hf : ∀ f ∈ Fs0, f ∈ Fs) (hM : Mm own w0 bs L Fs w) (h : ∀ w, Mm own w0 bs L Fs w → wpAnyT Try.prog .any ⟨os⟩ Q (Sm bs0 Fs0) tail os.length (Array.replicate os.length false) a w) : Wk none (Code.region id ⟨os⟩ true) Q a w :=
  wp_region_T (Sm bs0 Fs0) tail mixed (hM.drew.sm.sub hs hf) (fun hS => h _ hM.drew)
variable {α : Type} [DecidableEq α]
/-- Entries with their stamps. -/
def stamp (es : List (α × Value)) : List (α × Value × Nat) := es.mapIdx fun i e => (e.1, e.2, i)
/-- A block that holds a map with these keys and values. -/
def MpE (ek : α → Value) (b : Nat) (es : List (α × Value)) : World → Prop := MpF b ((stamp es).map (ent ek)) es.length
def kfind (x : α) : List (α × Value) → Nat → Option Nat
  | [], _ => none
  | e :: r, i => if x = e.1 then some i else kfind x r (i + 1)
/-- Where the entry of a key is, when it is laid if it lacks. -/
def kadd (x : α) (z : Value) (es : List (α × Value)) : List (α × Value) × Nat × Value := match kfind x es 0 with
  | some i => (es, i, ((es[i]?).map (·.2)).getD z)
  | none => (es ++ [(x, z)], es.length, z)
theorem kfind_lt {x : α} : ∀ {es : List (α × Value)} {i j : Nat}, kfind x es i = some j → i ≤ j ∧ ∃ v, es[j - i]? = some (x, v)
  | [], _, _, h => by cases h
  | e :: r, i, j, h => by
    rw [kfind] at h
    split at h
    · rename_i hx
      injection h with h
      subst h
      exact ⟨Nat.le_refl _, e.2, by rw [Nat.sub_self, List.getElem?_cons_zero, hx]⟩
    · obtain ⟨h1, v, h2⟩ := kfind_lt h
      refine ⟨by omega, v, ?_⟩
      rw [show j - i = (j - (i + 1)) + 1 by omega, List.getElem?_cons_succ]
      exact h2
theorem stamp_get (es : List (α × Value)) (i : Nat) : (stamp es)[i]? = (es[i]?).map fun e => (e.1, e.2, i) := by simp [stamp, List.getElem?_mapIdx]
theorem pfind_idx {x : α} : ∀ (ps : List (α × Value × Nat)) (es : List (α × Value)) (i : Nat), ps.map (fun p => (p.1, p.2.1)) = es → pfind x ps i = (kfind x es i).map fun j => (j, ((es[j - i]?).map (·.2)).getD undef)
  | [], _, i, h => by subst h; simp [pfind, kfind]
  | p :: ps, es, i, h => by
    subst h
    rw [pfind, List.map_cons, kfind]
    by_cases e : x = p.1
    · simp [e]
    · rw [if_neg e, if_neg e, pfind_idx ps _ (i + 1) rfl]
      cases hk : kfind x (ps.map fun p => (p.1, p.2.1)) (i + 1) with
      | none => rfl
      | some j =>
        have := (kfind_lt hk).1
        simp only [Option.map_some, Option.some.injEq, Prod.mk.injEq, true_and]
        rw [show j - i = (j - (i + 1)) + 1 by omega, List.getElem?_cons_succ]
theorem stamp_keys (es : List (α × Value)) : (stamp es).map (fun p => (p.1, p.2.1)) = es := by
  apply List.ext_getElem?
  intro i
  rw [List.getElem?_map, stamp_get]
  cases es[i]? <;> simp
theorem pfind_stamp (x : α) (es : List (α × Value)) : pfind x (stamp es) 0 = (kfind x es 0).map fun j => (j, ((es[j]?).map (·.2)).getD undef) := pfind_idx _ _ 0 (stamp_keys es)
section
variable {kt xT : TypeId} {ek : α → Value} {A : α → Prop} {z : Value} {b : Nat} {es : List (α × Value)} {x : α} {X I Y : Operand}
theorem stamp_ok (hes : ∀ e ∈ es, A e.1) : ∀ p ∈ stamp es, A p.1 := by
  intro p hp
  obtain ⟨i, hi⟩ := List.mem_iff_getElem?.1 hp
  rw [stamp_get] at hi
  cases he : es[i]? with
  | none => rw [he] at hi; cases hi
  | some e =>
    rw [he] at hi
    injection hi with hi
    subst hi
    exact hes e (List.mem_of_getElem? he)
theorem run_mapEntry (hK : KeyOk kt ek A) (ht : mapTy xT = some (kt, z)) (hb : MpE ek b es w) (hx : A x) (hes : ∀ e ∈ es, A e.1) :
    (Instr.mapEntry xT (.map (some b)) (ek x)).run Try.prog w = .ok (.tuple #[(kadd x z es).2.2, goInt (kadd x z es).2.1]) (w.putObj b (.map (((stamp (kadd x z es).1).map (ent ek)).toArray) (kadd x z es).1.length)) := by
  obtain ⟨e, h1, h2⟩ := mapTy_ok ht
  have h3 := hK.check false x w hx
  have h4 := hK.find x (stamp es) w hx (stamp_ok hes)
  have h5 := hK.same x hx
  rw [pfind_stamp] at h4
  unfold Instr.mapEntry
  have hb' : w.heap[b]? = some (.map ((stamp es).map (ent ek)).toArray es.length) := hb
  simp only [Sem.run_bind, tyD_run h1, Result.andThen, MapKept.run_getObj_map hb', h3, h4]
  unfold kadd
  cases hp : kfind x es 0 with
  | none =>
    simp only [Option.map_none, Sem.run_bind, h2 w, Result.andThen, MapKept.run_setObj_map _ hb', Sem.run_pure]
    have : ((stamp es).map (ent ek)).toArray.push { key := ek x, val := z, born := es.length } = ((stamp (es ++ [(x, z)])).map (ent ek)).toArray := by
      apply Array.ext'
      simp [stamp, ent]
    rw [this]
    simp [World.putObj]
  | some i =>
    obtain ⟨_, v, hv⟩ := kfind_lt hp
    rw [Nat.sub_zero] at hv
    have hkey : ((((stamp es).map (ent ek)).toArray[i]?).map (·.key)).getD (ek x) = ek x := by simp [stamp_get, hv, ent]
    have hborn : ((((stamp es).map (ent ek)).toArray[i]?).map (·.born)).getD 0 = i := by simp [stamp_get, hv, ent]
    have hmod : (((stamp es).map (ent ek)).toArray.modify i fun e => { e with key := ek x }) = ((stamp es).map (ent ek)).toArray := by
      apply Array.ext'
      simp only [Array.toList_modify]
      apply List.ext_getElem?
      intro j
      simp only [List.getElem?_map, List.getElem?_modify, stamp_get]
      by_cases e : i = j
      · subst e
        simp [hv, ent]
      · simp [e]
    simp only [Option.map_some, hkey, Instr.keyThatStays, h5, if_true, Sem.run_bind, Sem.run_pure, Result.andThen, MapKept.run_setObj_map _ hb', hmod, hv, Option.getD_some, hborn]
    have hb2 : ((Option.map ((fun x => (x.born : Int)) ∘ ent ek) (stamp es)[i]?).getD 0) = (i : Int) := by simp [stamp_get, hv, ent]
    simp [World.putObj, hv, hb2]
theorem run_entryStore (hb : MpE ek b es w) {i : Nat} {u v : Value} (hi : es[i]? = some (x, u)) :
    (Instr.entryStore xT (.map (some b)) (goInt i) v).run Try.prog w = .ok () (w.putObj b (.map (((stamp (es.set i (x, v))).map (ent ek)).toArray) (es.set i (x, v)).length)) := by
  have hb' : w.heap[b]? = some (.map ((stamp es).map (ent ek)).toArray es.length) := hb
  have hil := (List.getElem?_eq_some_iff.1 hi).1
  have hfind : ((stamp es).map (ent ek)).toArray.findIdx? (fun e => (e.born : Int) == (i : Int)) = some i := by
    rw [List.findIdx?_toArray, List.findIdx?_eq_some_iff_getElem]
    refine ⟨by simp [stamp]; omega, ?_, ?_⟩
    · simp [stamp, ent]
    · intro j hj
      simp [stamp, ent]
      omega
  have hmod : (((stamp es).map (ent ek)).toArray.modify i fun e => { e with val := v }) = ((stamp (es.set i (x, v))).map (ent ek)).toArray := by
    apply Array.ext'
    simp only [Array.toList_modify]
    apply List.ext_getElem?
    intro j
    simp only [List.getElem?_map, List.getElem?_modify, stamp_get, List.getElem?_set]
    by_cases e : i = j
    · subst e
      simp only [hi, if_true, hil, Option.map_some]
      simp [ent]
    · simp [e]
  unfold Instr.entryStore
  simp only [Sem.run_bind, Sem.run_pure, MapKept.run_getObj_map hb', Result.andThen, asInt, asIntOf, goInt, hfind, MapKept.run_setObj_map _ hb', hmod, List.length_set]
  simp [World.putObj, Sem.run_bind, Result.andThen, hfind, MapKept.run_setObj_map _ hb', hmod]
theorem e_mapEntry (hK : KeyOk kt ek A) (hF : Fr n ds l a) (hM : Mm own w0 bs L (MpE ek b es :: Fs) w) (hX : ev l X = some (.map (some b))) (hI : ev l I = some (ek x)) (ht : mapTy xT = some (kt, z)) (hx : A x) (hes : ∀ e ∈ es, A e.1) (hb0 : w0.heap.size ≤ b) (hcf : ∀ f ∈ Fs, Cf f) (hd : Nat.blt d n = true)
    (k : ∀ w' a, Mm own w0 bs L (MpE ek b (kadd x z es).1 :: Fs) w' → Fr n ds ((d, .tuple #[(kadd x z es).2.2, goInt (kadd x z es).2.1]) :: l) a → K a w') : (⟨some d, .mapEntry xT X I, ty, pos, af, g⟩ : Oper).wp Try.prog a w K Q := by
  have hb := hM.fact (f := MpE ek b es) List.mem_cons_self
  refine upon_value (v := .tuple #[(kadd x z es).2.2, goInt (kadd x z es).2.1]) ?_ (k _ _ ((hM.sub (.refl _) (.refl _) (fun f hf => List.mem_cons_of_mem _ hf)).mapTo hb0 hb hcf _ _) (hF.put hd _))
  have := run_mapEntry hK ht hb hx hes
  simp [execOp, hF.eval hX, hF.eval hI, Sem.run_bind, this, Result.andThen]
theorem e_entryStore {i : Nat} {u v : Value} (hF : Fr n ds l a) (hM : Mm own w0 bs L (MpE ek b es :: Fs) w) (hX : ev l X = some (.map (some b))) (hI : ev l I = some (goInt i)) (hY : ev l Y = some v) (hi : es[i]? = some (x, u)) (hb0 : w0.heap.size ≤ b) (hcf : ∀ f ∈ Fs, Cf f)
    (k : ∀ w', Mm own w0 bs L (MpE ek b (es.set i (x, v)) :: Fs) w' → K (a.put none undef) w') : (⟨none, .entryStore xT X I Y, ty, pos, af, g⟩ : Oper).wp Try.prog a w K Q := by
  have hb := hM.fact (f := MpE ek b es) List.mem_cons_self
  refine upon_skip' (w' := w.putObj b (.map (((stamp (es.set i (x, v))).map (ent ek)).toArray) (es.set i (x, v)).length)) ?_ (k _ ((hM.sub (.refl _) (.refl _) (fun f hf => List.mem_cons_of_mem _ hf)).mapTo hb0 hb hcf _ _))
  have := run_entryStore (xT := xT) hb (v := v) hi
  simp [execOp, hF.eval hX, hF.eval hI, hF.eval hY, Sem.run_bind, this, Result.andThen]
theorem plk_stamp (x : α) (z : Value) (es : List (α × Value)) : (plk x (stamp es) z).1 = (kadd x z es).2.2 ∧ (plk x (stamp es) z).2 = (kfind x es 0).isSome := by
  unfold plk kadd
  rw [pfind_stamp]
  cases h : kfind x es 0 with
  | none => simp
  | some i =>
    obtain ⟨_, v, h2⟩ := kfind_lt h
    rw [Nat.sub_zero] at h2
    simp [h2]
theorem e_lookupE (hK : KeyOk kt ek A) (hF : Fr n ds l a) (hM : Mm own w0 bs L Fs w) (hX : ev l X = some (.map (some b))) (hI : ev l I = some (ek x)) (ht : mapTy xT = some (kt, z)) (hb : MpE ek b es ∈ Fs) (hx : A x) (hes : ∀ e ∈ es, A e.1) :
    (execOp a.eval ⟨some d, .lookup xT X I false, ty, pos, af, g⟩).run Try.prog w = .ok (.value (kadd x z es).2.2) w := by
  have := run_lookup hK ht (hM.fact hb) hx (stamp_ok hes) false
  rw [← (plk_stamp x z es).1]
  simp [execOp, hF.eval hX, hF.eval hI, Sem.run_bind, this, Result.andThen]
end
/-- An empty map is made. -/
theorem s_makeMapE {α : Type} {ek : α → Value} {t : TypeId} (hF : Fr n ds l a) (hM : Mm own w0 bs L Fs w) (hg : wantO os l g = some true) (hd : Nat.blt d n = true)
    (k : ∀ b w' a, w0.heap.size ≤ b → Mm own w0 bs L (MpE ek b [] :: Fs) w' → Fr n ds ((d, .map (some b)) :: l) a → wl ⟨os⟩ Q rest a w') : wl ⟨os⟩ Q (⟨some d, .makeMap t none, ty, pos, af, g⟩ :: rest) a w :=
  s_makeMap hF hM hg hd fun b w' a h1 h2 h3 => k b w' a h1 h2 h3
end
end Go.Proofs.Ytadfdpkhehdikaa


/- throttle: the small functions. -/
namespace Go.Proofs.Ytadfdpkhehdikaa
open Go.RowKit Go.Shelf
/-- Marks, as the program's memory holds them. -/
abbrev Mk := List (Int × Int)
def mks (ms : Mk) : List (List Int) := ms.map fun m => [m.1, m.2]
def tot (ms : Mk) : Int := match ms.getLast? with | some m => m.2 | none => 0
def opn (cf : Int) : Mk → Nat
  | [] => 0
  | m :: r => if cf < m.2 then 0 else opn cf r + 1
end Go.Proofs.Ytadfdpkhehdikaa


/- throttle: what it computes, and its law. -/
namespace Go.Proofs.Ytadfdpkhehdikaa
/-- A throttle. -/
structure Th where
  O : Int
  R : Int
  T : Int
  B : Int
  ms : Mk
def Th.conf (s : Th) : Int := tot s.ms - s.B
def chain (T : Int) : Int × Int → Mk → Prop
  | _, [] => True
  | p, m :: r => p.1 < m.1 ∧ m.1 ≤ T ∧ p.2 < m.2 ∧ m.2 ≤ 1073741824 ∧ chain T m r
structure Th.Ok (s : Th) : Prop where
  hO : 1 ≤ s.O ∧ s.O ≤ 1073741824
  hR : 1 ≤ s.R ∧ s.R ≤ 4096
  hT : 0 ≤ s.T ∧ s.T ≤ 1073741824
  hB : 0 ≤ s.B ∧ s.B ≤ tot s.ms
  hn : s.ms.length ≤ 4096
  hc : chain s.T (-1, 0) s.ms
  ho : 1 < s.ms.length → opn s.conf s.ms = 0
theorem chain_mono {T T' : Int} (h : T ≤ T') : ∀ {ms : Mk} {p : Int × Int}, chain T p ms → chain T' p ms
  | [], _, _ => trivial
  | m :: r, p, hc => ⟨hc.1, Int.le_trans hc.2.1 h, hc.2.2.1, hc.2.2.2.1, chain_mono h hc.2.2.2.2⟩
/-! The operations -/
def Th.prog (s : Th) (now c : Int) : Th := { s with T := now, B := tot s.ms - c, ms := s.ms.drop (min (opn c s.ms) (s.ms.length - 1)) }
def Th.same (s : Th) : Bool := match s.ms[s.ms.length - 1]? with | some m => decide (m.1 = s.T) | none => false
theorem Th.Ok.at {s : Th} (h : s.Ok) {now : Int} (h1 : s.T ≤ now) (h2 : now ≤ 1073741824) : Th.Ok { s with T := now } :=
  ⟨h.hO, h.hR, ⟨Int.le_trans h.hT.1 h1, h2⟩, h.hB, h.hn, chain_mono h1 h.hc, h.ho⟩
/-! The run -/
structure Ru where
  s : Th
  q : List Int
  old : Int
  free : Bool
  c : Int
/-- What holds of a throttle behind tick now. -/
structure Kept (O R now : Int) (s : Th) : Prop where
  eO : s.O = O
  eR : s.R = R
  ok : s.Ok
  T : s.T = max 0 now
  B : s.B ≤ R * O
  young : ∀ m ∈ s.ms, s.conf < m.2 → m.2 - s.conf ≤ R * (O - (now - m.1))
/-- Room that is left for more writes. -/
structure Room (N : Nat) (s : Th) (q : List Int) : Prop where
  small : ∀ n ∈ q, 1 ≤ n ∧ n ≤ 60
  tot : tot s.ms + 60 * q.length ≤ 60 * N
  len : s.ms.length + q.length ≤ N
/-- What holds of a run behind k ticks. -/
structure RInv (O R : Int) (ws : List Int) (k : Nat) (u : Ru) : Prop where
  kept : Kept O R (k - 1) u.s
  room : Room (min k ws.length) u.s u.q
  c : u.c = u.s.conf
  old : 0 ≤ u.old ∧ u.old ≤ O
end Go.Proofs.Ytadfdpkhehdikaa


/- throttle: checks, and what moves the time. -/
namespace Go.Proofs.Ytadfdpkhehdikaa
open Go.RowKit Go.Shelf
section
variable {n : Nat} {ds : List Deferred} {l : List (Nat × Value)} {a : Act} {w w' w0 : World} {own : Nat → Prop} {bs : List BoxE} {L : List Ent} {Fs : List (World → Prop)}
/-- The end of a row, as a fact for the caller. -/
theorem OffR.fact {α : Type} {enc : α → Value} {e : TypeId} {size : Nat} {ao : Option Addr} {m c : Nat} {xs : List α} {E : Ent} (hM : Mm own w0 bs L Fs w) {k : Nat} (hL : L[k]? = some E) (h : OffR e size (.slice ao m c) m (xs.map enc) E) : Has own w (RdF enc ao xs) := by
  have hcell := fun ad => OffR.cells (ad := ad) hM hL h
  obtain ⟨h1, h2, h3, h4⟩ := h
  rcases h4 with ⟨h, h0, _⟩ | ⟨ad', h, h0⟩ | ⟨g, off, cap, pre, h5, h6, h7, h8, h9⟩
  · rw [h0, Nat.zero_mul, List.length_map] at h3
    rw [List.eq_nil_of_length_eq_zero h3]
    exact RdF.nil
  · rw [h0, Nat.zero_mul, List.length_map] at h3
    rw [List.eq_nil_of_length_eq_zero h3]
    exact RdF.nil
  · injection h5 with h5
    subst h5
    have hown := hM.mem.own.lt (List.mem_of_getElem? hL) g (by rw [h7]; rfl)
    refine RdF.has ?_ ?_
    · intro i x hx
      refine ⟨g, off * size, rfl, hown.2, ?_⟩
      have := hcell _ rfl i (enc x) (by rw [List.getElem?_map, hx]; rfl)
      rw [add_lit] at this
      exact this
    · intro ad e hn
      injection e with e
      subst e
      have h1 : g < w0.heap.size := hM.low _ hn
      have h2 : w0.heap.size ≤ g := hown.1
      omega
end
end Go.Proofs.Ytadfdpkhehdikaa


/- Layer 29: items in memory, and the table of the chunks by their digests. -/
namespace Go.Proofs.Ytadfdpkhehdikaa
open Go.RowKit Go.Shelf
namespace D29
/-- An item, where its data lie, and how many places these have. -/
abbrev P := Itm × Option Addr × Nat
abbrev itC (p : P) : List Value := [.int .u64 p.1.d, .slice p.2.1 p.1.x.length p.2.2]
def cellsP (l : List P) : List Value := (l.map itC).flatten
/-- The data of all items can be read. -/
def DatF (l : List P) : World → Prop := fun w => ∀ p ∈ l, RdF (Value.int .u8) p.2.1 p.1.x.flatten w
/-- Data have sectors of 8 bytes, and lie in their places. -/
def DatW (l : List P) : Prop := ∀ p ∈ l, W8 p.1.x ∧ p.1.x.length ≤ p.2.2 ∧ ∀ s ∈ p.1.x, ∀ b ∈ s, 0 ≤ b ∧ b < 256
/-- An entry of the table: digest, slice, the row in which it lies, the items. -/
structure TE where
  k : Int
  sv : Value
  en : Ent
  ps : List P
def esE (E : List TE) : List (Int × Value) := E.map fun e => (e.k, e.sv)
def rowsT (E : List TE) : List Ent := E.map fun e => e.en
def lookE (k : Int) : List TE → List P
  | [] => []
  | e :: r => if k = e.k then e.ps else lookE k r
def TEOk (E : List TE) : Prop := ∀ e ∈ E, OffR 102 2 e.sv e.ps.length (cellsP e.ps) e.en
end D29
end Go.Proofs.Ytadfdpkhehdikaa


/- Layer 29: the chunks of a list. -/
namespace Go.Proofs.Ytadfdpkhehdikaa
namespace D29
def part (n : Nat) (l : Dat) (k : Nat) : Dat := (l.drop (k * n)).take n
def parts (n : Nat) (l : Dat) : List Dat := (List.range ((l.length + n - 1) / n)).map (part n l)
end D29
end Go.Proofs.Ytadfdpkhehdikaa


/- Layer 29: the table holds the items by their digests. -/
namespace Go.Proofs.Ytadfdpkhehdikaa
open Go.RowKit Go.Shelf
namespace D29
def Tab (E : List TE) (l : List P) : Prop := ∀ k, lookE k E = l.filter fun p => decide (p.1.d = k)
def ims (l : List P) : List Itm := l.map (·.1)
end D29
end Go.Proofs.Ytadfdpkhehdikaa


/- Facts that stay when blocks that hold no cells turn: ranges over functions, and maps, in one memory. -/
namespace Go.Proofs.Ytadfdpkhehdikaa
open Go.RowKit Go.Shelf
section
variable {n : Nat} {ds : List Deferred} {l : List (Nat × Value)} {a : Act} {w w' w0 : World} {own : Nat → Prop} {bs : List BoxE} {L : List Ent} {Fs : List (World → Prop)}
variable {os rest : List Oper} {Q : Exit → Act → World → Prop} {K : Act → World → Prop}
variable {d : Nat} {op : Op} {ty : TypeId} {pos : String} {af : Array Edge} {g : Option (Nat × Bool)}
/-- A fact that does not look at a block, while it holds no cells. -/
def Nb (b : Nat) (f : World → Prop) : Prop := ∀ (w : World) (o o' : Obj), w.heap[b]? = some o → o.isCells = false → f w → f (w.putObj b o')
theorem cell_putN {w : World} {b : Nat} {o o' : Obj} {ad : Addr} {v : Value} (h : w.heap[b]? = some o) (hn : o.isCells = false) (hc : w.cell? ad = some v) : (w.putObj b o').cell? ad = some v := by
  refine (World.cell?_of_block (World.putObj_heap_other ?_)).trans hc
  intro e
  unfold World.cell? at hc
  rw [e, h] at hc
  cases o <;> first | (cases hn; done) | (simp at hc; done)
theorem Nb.rd {b : Nat} {α : Type} {enc : α → Value} {ao : Option Addr} {xs : List α} : Nb b (RdF enc ao xs) := by
  intro w o o' h hn hr i x hx
  obtain ⟨b', off, e, hb, hc⟩ := hr i x hx
  exact ⟨b', off, e, by rw [World.putObj_size]; exact hb, cell_putN h hn hc⟩
theorem Nb.bx {b b' : Nat} {cs : List Value} {T : TypeId} : Nb b (BxF b' cs T) := by
  intro w o o' h hn hb
  refine Box.of_block hb (World.putObj_heap_other ?_)
  intro e
  subst e
  rw [show w.heap[b']? = _ from hb] at h
  injection h with h
  subst h
  cases hn
theorem Nb.keeps {b B : Nat} {W : World} (h : b < B) : Nb b (KeepsFrom B W) := by
  rintro w o o' _ _ hk
  refine ⟨by rw [World.putObj_size]; exact hk.1, fun k ob h1 h2 h3 => ?_⟩
  rw [World.putObj_heap_other (by omega)]
  exact hk.2 k ob h1 h2 h3
theorem Nb.kt {b B : Nat} {T : TypeId} {W : World} : Nb b (KT B T W) := by
  intro w o o' h hn hk k cs hb hw
  have h1 := hk k cs hb hw
  refine (World.putObj_heap_other ?_).trans h1
  intro e
  subst e
  rw [h] at h1
  injection h1 with h1
  subst h1
  cases hn
theorem Nb.and {b : Nat} {f g : World → Prop} (h : Nb b f) (k : Nb b g) : Nb b fun w => f w ∧ g w := fun w o o' h1 h2 h3 => ⟨h w o o' h1 h2 h3.1, k w o o' h1 h2 h3.2⟩
theorem Nb.all {b : Nat} {α : Type} {f : α → World → Prop} (h : ∀ x, Nb b (f x)) : Nb b fun w => ∀ x, f x w := fun w o o' h1 h2 h3 x => h x w o o' h1 h2 (h3 x)
/-- A block that holds no cells turns: boxes, rows, and facts that do not look at it. -/
theorem Mm.turnN {W W' : World} {row : Option Nat} (m : Mm own w0 bs L Fs W) (hg : W.grownBy W' row) (hr : ∀ r, row = some r → w0.heap.size ≤ r ∧ ∃ o : Obj, W.heap[r]? = some o ∧ o.isCells = false) (hf : ∀ r, row = some r → ∀ f ∈ Fs, Nb r f) : Mm own w0 bs L Fs W' := by
  have m' := m.turn hg hr
  refine ⟨m'.mem, m'.low, fun f hff => ?_⟩
  obtain ⟨S, s1, s2⟩ := m.facts f hff
  cases row with
  | none =>
    refine ⟨S, fun x hx => ⟨Nat.lt_of_lt_of_le (s1 x hx).1 hg.size, (s1 x hx).2⟩, fun w2 h2 hz => s2 w2 (fun x hx => ?_) (Nat.le_trans hg.size hz)⟩
    rw [h2 x hx, hg.block x (s1 x hx).1 (by simp)]
  | some r =>
    obtain ⟨_, o, ho, hn⟩ := hr r rfl
    have hlt := (Array.getElem?_eq_some_iff.1 ho).1
    have hsz := hg.size
    refine ⟨fun x => S x ∧ x ≠ r, fun x hx => ⟨Nat.lt_of_lt_of_le (s1 x hx.1).1 hg.size, (s1 x hx.1).2⟩, fun w2 h2 hz => ?_⟩
    have hb2 : w2.heap[r]? = some w2.heap[r] := Array.getElem?_eq_getElem (by omega)
    have h3 : f (w2.putObj r o) := by
      refine s2 _ (fun x hx => ?_) (by rw [World.putObj_size]; omega)
      by_cases e : x = r
      · subst e; rw [World.putObj_heap_same (by omega), ho]
      · rw [World.putObj_heap_other e, h2 x ⟨hx, e⟩, hg.block x (s1 x hx).1 (by simpa using e)]
    have h4 := hf r rfl f hff _ o w2.heap[r] (World.putObj_heap_same (by omega)) hn h3
    rw [put_put hb2] at h4
    exact h4
end
section
variable {n : Nat} {ds : List Deferred} {l : List (Nat × Value)} {a : Act} {w : World} {os : List Oper} {Q : Exit → Act → World → Prop} {tail : Nat → Bool} {fuel i j k : Nat} {listed : Array Bool} {bs0 : List BoxE} {Fs0 : List (World → Prop)}
theorem t_three {o u v : Oper} (hF : Fr n ds l a) (hi : getO os i = some o) (hj : getO os j = some u) (hk : getO os k = some v) (hr : Region.ready .any ⟨os⟩ listed = [i, j, k]) (hg : wantO os l o.guard = some true) (hg' : wantO os l u.guard = some true) (hg2 : wantO os l v.guard = some true)
    (h : ∀ K : Act → World → Prop, (∀ a' w', (tail i = false → Sm bs0 Fs0 w') → wpAnyT Try.prog .any ⟨os⟩ Q (Sm bs0 Fs0) tail fuel (listed.setIfInBounds i true) a' w' → K a' w') → o.wp Try.prog a w K Q)
    (h' : ∀ K : Act → World → Prop, (∀ a' w', (tail j = false → Sm bs0 Fs0 w') → wpAnyT Try.prog .any ⟨os⟩ Q (Sm bs0 Fs0) tail fuel (listed.setIfInBounds j true) a' w' → K a' w') → u.wp Try.prog a w K Q)
    (h2 : ∀ K : Act → World → Prop, (∀ a' w', (tail k = false → Sm bs0 Fs0 w') → wpAnyT Try.prog .any ⟨os⟩ Q (Sm bs0 Fs0) tail fuel (listed.setIfInBounds k true) a' w' → K a' w') → v.wp Try.prog a w K Q) : wpAnyT Try.prog .any ⟨os⟩ Q (Sm bs0 Fs0) tail (fuel + 1) listed a w := by
  have ei : (⟨os⟩ : Array Oper)[i]? = some o := by rw [← hi, getO_eq]; simp
  have ej : (⟨os⟩ : Array Oper)[j]? = some u := by rw [← hj, getO_eq]; simp
  have ek : (⟨os⟩ : Array Oper)[k]? = some v := by rw [← hk, getO_eq]; simp
  have wi := wantO_ok hF hg
  have wj := wantO_ok hF hg'
  have wk := wantO_ok hF hg2
  refine wpAnyT_all hr (by simp) fun q hq => ?_
  rw [List.mem_cons, List.mem_cons, List.mem_singleton] at hq
  rcases hq with rfl | rfl | rfl
  · unfold wpOp
    simp only [ei, wi, if_true]
    exact .inl (h _ fun a' w' h1 h2 => ⟨h1, h2⟩)
  · unfold wpOp
    simp only [ej, wj, if_true]
    exact .inl (h' _ fun a' w' h1 h2 => ⟨h1, h2⟩)
  · unfold wpOp
    simp only [ek, wk, if_true]
    exact .inl (h2 _ fun a' w' h1 h2 => ⟨h1, h2⟩)
end
end Go.Proofs.Ytadfdpkhehdikaa


/- dedup: chunks, tokens, what the table finds. -/
namespace Go.Proofs.Ytadfdpkhehdikaa
open Go.RowKit Go.Shelf D29
namespace D29
theorem dat_one {own : Nat → Prop} {w : World} {l : List P} (h : Has own w (DatF l)) {p : P} (hp : p ∈ l) : Has own w (RdF (Value.int .u8) p.2.1 p.1.x.flatten) := h.imp fun _ k => k p hp
theorem DatW.sub {l m : List P} (h : DatW l) (hm : ∀ p ∈ m, p ∈ l) : DatW m := fun p hp => h p (hm p hp)
end D29
end Go.Proofs.Ytadfdpkhehdikaa


/- dedup: a chunk is put into the store. -/
namespace Go.Proofs.Ytadfdpkhehdikaa
open Go.RowKit Go.Shelf D29
namespace D29
/-- A store in memory: capacity, items, the slice of the items and its row, the table. -/
abbrev stB (b mb : Nat) (cap : Int) (iv : Value) : BoxE := ⟨b, ⟨[.map (some mb), .int .i64 cap, iv]⟩, 91⟩
end D29
section
variable (sb mb : Nat) (cap : Int) (its : List P) (iv : Value) (eI : Ent) (E : List TE) (x : P) {own : Nat → Prop} {w0 W : World} {bs : List BoxE} {L1 : List Ent} {Fs : List (World → Prop)}
  (hlen : its.length ≤ 100000) (hI : OffR 102 2 iv its.length (cellsP its) eI) (hE : TEOk E) (hTab : Tab E its) (hb0 : w0.heap.size ≤ mb) (hcf : ∀ f ∈ Fs, Nb mb f)
  (hM : Mm own w0 (stB sb mb cap iv :: bs) (eI :: (L1 ++ rowsT E)) (MpE (Value.int .u64) mb (esE E) :: Fs) W)
include hlen hI hE hTab hb0 hcf hM
end
end Go.Proofs.Ytadfdpkhehdikaa


/- dedup: a chunk is added to a store that is changed. -/
namespace Go.Proofs.Ytadfdpkhehdikaa
open Go.RowKit Go.Shelf D29
namespace D29
/-- Items in memory with their table. -/
structure StI (its : List P) (iv : Value) (eI : Ent) (E : List TE) : Prop where
  row : OffR 102 2 iv its.length (cellsP its) eI
  tE : TEOk E
  tab : Tab E its
  dw : DatW its
  dg : ∀ p ∈ its, p.1.d = dg p.1.x
end D29
section
variable (sb mb : Nat) (cap : Int) (its : List P) (iv : Value) (eI : Ent) (E : List TE) {own : Nat → Prop} {w0 W : World} {bs : List BoxE} {L1 : List Ent} {Fs : List (World → Prop)}
  (hcap : 1 ≤ cap ∧ cap ≤ 4096) (hlen : (its.length : Int) ≤ cap) (hS : StI its iv eI E) (hb0 : w0.heap.size ≤ mb) (hcf : ∀ f ∈ Fs, Nb mb f)
  (x : Dat) (hx8 : W8 x) (hxb : ∀ s ∈ x, ∀ b ∈ s, 0 ≤ b ∧ b < 256) (hxl : x.length ≤ 4096) (ax : Option Addr) (cx n : Nat) (hn : x.length = n)
  (hM : Mm own w0 (stB sb mb cap iv :: bs) (eI :: (L1 ++ rowsT E)) (MpE (Value.int .u64) mb (esE E) :: RdF (Value.int .u8) ax x.flatten :: DatF its :: Fs) W)
include hcap hlen hS hb0 hcf hx8 hxb hxl hn hM
end
end Go.Proofs.Ytadfdpkhehdikaa


/- dedup: Find, Add. -/
namespace Go.Proofs.Ytadfdpkhehdikaa
open Go.RowKit Go.Shelf D29
namespace D29
end D29
namespace D29
theorem OffR.freeze {α : Type} {enc : α → Value} {own : Nat → Prop} {w w0 : World} {bs : List BoxE} {L : List Ent} {Fs : List (World → Prop)} {e : TypeId} {size : Nat} {ao : Option Addr} {m c : Nat} {xs : List α} {E : Ent} (m0 : Mm own w0 bs (E :: L) Fs w) (h : OffR e size (.slice ao m c) m (xs.map enc) E) : Mm own w0 bs L (RdF enc ao xs :: Fs) w := by
  have hcell := fun ad => OffR.cells (k := 0) (ad := ad) m0 rfl h
  have m1 : Mm own w0 bs L Fs w := m0.sub (.refl _) (List.sublist_cons_self _ _) (fun _ h => h)
  obtain ⟨h1, h2, h3, h4⟩ := h
  rcases h4 with ⟨h, h0, _⟩ | ⟨ad', h, h0⟩ | ⟨g, off, cap, pre, h5, h6, h7, h8, h9⟩
  · rw [h0, Nat.zero_mul, List.length_map] at h3
    rw [List.eq_nil_of_length_eq_zero h3]
    exact m1.addFact RdF.nil
  · rw [h0, Nat.zero_mul, List.length_map] at h3
    rw [List.eq_nil_of_length_eq_zero h3]
    exact m1.addFact RdF.nil
  · injection h5 with h5
    subst h5
    have hob : E.v.ownBlock = some g := by rw [h7]; rfl
    have hown := m0.mem.own.lt List.mem_cons_self g hob
    refine m1.addFact (RdF.has ?_ ?_)
    · intro i x hx
      refine ⟨g, off * size, rfl, hown.2, ?_⟩
      have := hcell _ rfl i (enc x) (by rw [List.getElem?_map, hx]; rfl)
      rw [add_lit] at this
      exact this
    · intro ad e
      injection e with e
      subst e
      rintro (h | ⟨x, hx, hx2⟩ | ⟨y, hy, hy2⟩)
      · have h2 : g < w0.heap.size := m0.low _ h
        omega
      · exact m0.mem.far x hx _ List.mem_cons_self (by rw [hob, hx2])
      · have hp := m0.mem.own.apart
        rw [List.pairwise_cons] at hp
        rcases hp.1 y hy with h | h
        · rw [show E.v.ownBlock = none from h] at hob; cases hob
        · exact h (hob.trans hy2.symm)
end D29
end Go.Proofs.Ytadfdpkhehdikaa


/- slices.Chunk at sectors: the function that it returns calls yield with one part after another. -/
namespace Go.Proofs.Ytadfdpkhehdikaa
open Go.RowKit Go.Shelf D29
section
variable {n : Nat} {ds : List Deferred} {l : List (Nat × Value)} {a : Act} {w : World} {os rest : List Oper} {Q : Exit → Act → World → Prop} {d : Nat} {ty : TypeId} {pos : String} {af : Array Edge} {g : Option (Nat × Bool)}
/-- A part of a slice with a bound for its capacity. -/
theorem s_slice3 {t e : TypeId} {nn : Nat} {X LO HI MX : Operand} {a0 : Option Addr} {len cap : Nat} {k1 k2 k3 : IntKind} {lo hi mx : Int} (hF : Fr n ds l a) (hg : wantO os l g = some true) (hX : ev l X = some (.slice a0 len cap)) (h1 : ev l LO = some (.int k1 lo)) (h2 : ev l HI = some (.int k2 hi)) (h3 : ev l MX = some (.int k3 mx)) (ht : tyD t = some (.slice e)) (hs : tyS e = some nn) (hd : Nat.blt d n = true) (hb : 0 ≤ lo ∧ lo ≤ hi ∧ hi ≤ mx ∧ mx ≤ (cap : Int))
    (kk : ∀ a, Fr n ds ((d, .slice (sadr a0 lo.toNat mx.toNat nn) (hi.toNat - lo.toNat) (mx.toNat - lo.toNat)) :: l) a → wl ⟨os⟩ Q rest a w) : wl ⟨os⟩ Q (⟨some d, .slice t X (some LO) (some HI) (some MX), ty, pos, af, g⟩ :: rest) a w :=
  s_op hF hg fun _ hK => upon_value (v := .slice (sadr a0 lo.toNat mx.toNat nn) (hi.toNat - lo.toNat) (mx.toNat - lo.toNat)) (by
    obtain ⟨p1, p2, p3, p4⟩ := hb
    have e1 : lo ≤ max hi 0 := by omega
    have e2 : hi ≤ max mx 0 := by omega
    have e3 : 0 ≤ hi := by omega
    have e4 : 0 ≤ mx := by omega
    simp only [execOp, Option.map_some, hF.eval hX, hF.eval h1, hF.eval h2, hF.eval h3]
    simp [Instr.sliceAt, Instr.slice, Instr.sliceBounds, Instr.sliceBound, Sem.run_bind, tyD_run ht, tyS_run hs, Result.andThen, asIntOf, sadr, p1, p2, p3, p4, e1, e2, e3, e4]) (hK _ _ (kk _ (hF.put hd _)))
end
namespace D29
/-- What a round keeps for the sequence of parts. -/
def Kc (W0 A B : World) : Prop := Below W0.heap.size A B ∧ KT W0.heap.size 3 A B ∧ KT W0.heap.size 33 A B
theorem Kc.refl {W0 A : World} : Kc W0 A A := ⟨Below.refl _ _, KT.refl _ _ _, KT.refl _ _ _⟩
theorem Kc.trans {W0 A B C : World} (h : Kc W0 A B) (k : Kc W0 B C) : Kc W0 A C := ⟨h.1.trans k.1, h.2.1.trans k.2.1, h.2.2.trans k.2.2⟩
end D29
end Go.Proofs.Ytadfdpkhehdikaa


/- dedup: Encode. -/
namespace Go.Proofs.Ytadfdpkhehdikaa
open Go.RowKit Go.Shelf D29
namespace D29
/-- A token, where its data lie, and how many places these have. -/
abbrev TP := Tok × Option Addr × Nat
def tP (l : List TP) : List P := l.map fun t => (⟨t.1.d, t.1.x⟩, t.2)
def tms (l : List TP) : List Tok := l.map (·.1)
/-- What Encode keeps. -/
structure EncS (cp : Int) (l0 : List Itm) (xs : List Dat) (its : List P) (iv : Value) (eI : Ent) (E : List TE) (ts : List TP) : Prop where
  im : ims its = (encI cp xs l0).1
  tm : tms ts = (encI cp xs l0).2
  tw : DatW (tP ts)
  st : StI its iv eI E
  ln : (its.length : Int) ≤ cp
  ch : ∀ q ∈ its, q.1.x.length ≤ 4096
theorem f_retMN {n : Nat} {l : List (Nat × Value)} {a : Act} {w w0 : World} {own : Nat → Prop} {bs : List BoxE} {L : List Ent} {Fs : List (World → Prop)} {fn : Func} {rs : List ResultVar} {vs : List Value} {R : Ending → World → Prop} {D : Nat} (Fs' : List (World → Prop)) (hr : fn.results = ⟨rs⟩) (hF : Fr n (markL D) l a) (hM : Mm own w0 bs L Fs w) (hD : DefF D ∈ Fs) (hD0 : w0.heap.size ≤ D) (hs : ∀ f ∈ Fs', f ∈ Fs) (hn : ∀ f ∈ Fs', Nb D f) (hv : RL l bs rs vs) (hR : ∀ w', Mm own w0 bs L Fs' w' → R (.returned (resV vs)) w') : bodyPostM Fence.wide 9 Try.prog fn R .ret a w := by
  have hK := hM.fact hD
  have hM' : Mm own w0 bs L Fs' (w.putObj D (.deferred none)) := (hM.sub (.refl _) (.refl _) hs).turnN (grownBy_putObj' w D (.deferred none)) (fun r e => by cases e; exact ⟨hD0, _, hK, rfl⟩) (fun r e f hf => by cases e; exact hn f hf)
  have hres := f_res (fn := fn) hr hF hM' hv
  show LeavesInM _ _ _ _ _ _ a.defers _ _
  rw [hF.defs]
  refine ⟨by simp, .inl ⟨D, _, rfl, run_takeDeferred hK, ?_⟩⟩
  exact ⟨_, hres, hR _ hM'⟩
end D29
end Go.Proofs.Ytadfdpkhehdikaa


/- Arguments of the rows of layer 29: sectors, stores, tokens, streams. -/
namespace Go.Proofs.Ytadfdpkhehdikaa
open Go.RowKit Go.Shelf Go.ChangeShapes Go.WideShapes Go.ChangeAt D29
namespace D29
theorem DatF.all {own : Nat → Prop} {w : World} : ∀ {l : List P}, (∀ p ∈ l, Has own w (RdF (Value.int .u8) p.2.1 p.1.x.flatten)) → Has own w (DatF l)
  | [], _ => Has.pure fun _ p hp => by simp at hp
  | p :: l, h => ((h p List.mem_cons_self).and (DatF.all fun q hq => h q (List.mem_cons_of_mem _ hq))).imp fun w h q hq => by
    rcases List.mem_cons.1 hq with rfl | hq
    · exact h.1
    · exact h.2 q hq
/-- Bytes of data. -/
def By8 (x : Dat) : Prop := ∀ s ∈ x, ∀ b ∈ s, 0 ≤ b ∧ b < 256
/-- Sectors, where they lie, and how many places they have. -/
abbrev SP := Dat × Option Addr × Nat
def encSP (p : SP) : Value := .slice p.2.1 p.1.length p.2.2
end D29
section
variable {H : Type} {enc : TypeId × Value → H} {w : World} {r : Reach} {b0 base : Nat} {spare : Nat → Bool} {held : Bool}
theorem u8_wf {x : Int} (h : (Lit.int .u8 x).wf = true) : 0 ≤ x ∧ x < 256 := by have := Go.bounds_u8 h; omega
theorem of_secs {n : Nat} {c : Value} {y : DataW H × List MemPlace} (h : DataW.trod enc Try.prog w 0 (fun _ => true) held n 33 [c] = some y) :
    ∃ q : SP, c = encSP q ∧ (W8 q.1 ∧ q.1.length ≤ q.2.2 ∧ By8 q.1) ∧ q.2.2 ≤ maxLen ∧ Has (fun _ => False) w (RdF (Value.int .u8) q.2.1 q.1.flatten) := by
  obtain ⟨a, cap, ls, h1, h2, h3, h4, h5⟩ := of_arrs Try.underlying33 Try.underlying83 Try.underlying5 (by kernel_rfl) (by kernel_rfl) h
  exact ⟨(ls, a, cap), h1, ⟨fun s hs => (h4 s hs).1, h2, fun s hs x hx => u8_wf ((h4 s hs).2 x hx)⟩, h3, Has.reads h5⟩
end
end Go.Proofs.Ytadfdpkhehdikaa


/- slices.Clone of a byte string. -/
namespace Go.Proofs.Ytadfdpkhehdikaa
open Go.RowKit Go.Shelf
set_option maxRecDepth 20000 in
theorem cloneB_c (a0 : Option Addr) (c0 : Nat) (xs : List Int) (own : Nat → Prop) (W : World) (hl : ∀ b, own b → b < W.heap.size) (hv : Has own W (RdF (Value.int .u8) a0 xs)) (hb : xs.length ≤ 10000000000) :
    Calls Try.prog 68 ⟨[.slice a0 xs.length c0]⟩ W (Ret W fun v w' => ∃ a' c', v = .slice a' xs.length c' ∧ Owns w' W.heap.size [⟨5, 1, .slice a' xs.length c', xs.length, xs.map (Value.int .u8)⟩]) := by
  have hM := (Mm.start hl).known hv
  cases a0 with
  | none =>
    obtain rfl : xs = [] := by
      cases xs with
      | nil => rfl
      | cons x r => obtain ⟨ad, h⟩ := rd_some hM (by (repeat (first | exact List.mem_cons_self | refine List.mem_cons_of_mem _ ?_))) (k := 0) (x := x) rfl; cases h
    refine f_start Try.func68 rfl Try.ntmps68 rfl rfl ?_; intro a hF
    (repeat' (first | (with_reducible refine w_seq ?_) | (with_reducible refine c_region ?_) | (with_reducible refine s_nil ?_) | ((with_reducible apply s_eqn hF); exact rfl; exact rfl; exact rfl; exact rfl; exact rfl; exact rfl; clear hF a; intro a hF) | (with_reducible refine q_then_n ?_) | ((with_reducible apply s_pure hF); exact rfl; exact rfl; exact rfl; (first | exact trivial | omega | exact ⟨Int.natCast_nonneg _, Int.ofNat_lt.2 (by assumption)⟩ | decide); clear hF a; intro a hF) | (with_reducible refine w_ret ?_) | (with_reducible refine q_then_r ?_) | ((with_reducible apply c_true2 hF); exact rfl; (first | with_reducible rfl | (refine congrArg Value.bool ?_; focus (simp; done))))))
    (apply f_ret Try.results68 hF hM; (repeat (first | exact RL.nil | (apply RL.tmp; exact rfl) | (apply RL.cell; exact rfl; (repeat (first | exact List.mem_cons_self | refine List.mem_cons_of_mem _ ?_)); exact rfl))); refine Ret.mk hM.since ?_; dsimp only [resV])
    exact ⟨none, 0, rfl, (Owns.nil _ _).cons _ _⟩
  | some ad =>
    refine f_start Try.func68 rfl Try.ntmps68 rfl rfl ?_; intro a hF
    (repeat' (first | (with_reducible refine w_seq ?_) | (with_reducible refine c_region ?_) | (with_reducible refine s_nil ?_) | ((with_reducible apply s_eqn hF); exact rfl; exact rfl; exact rfl; exact rfl; exact rfl; exact rfl; clear hF a; intro a hF) | ((with_reducible apply s_appF hF hM); exact rfl; exact rfl; (repeat (first | exact List.mem_cons_self | refine List.mem_cons_of_mem _ ?_)); exact rfl; exact rfl; (repeat (first | exact Kth.z | apply Kth.s)); (intro _; exact rfl); exact rfl; omega; clear hF hM a; intro g cap w a hM hF; dsimp only [List.set] at hM) | ((with_reducible apply s_lit0 hF hM); exact rfl; exact rfl; exact rfl; exact rfl; clear hF hM a; intro bl w a hM hF) | (with_reducible refine q_then_n ?_) | ((with_reducible apply s_pure hF); exact rfl; exact rfl; exact rfl; (first | exact trivial | omega | exact ⟨Int.natCast_nonneg _, Int.ofNat_lt.2 (by assumption)⟩ | decide); clear hF a; intro a hF) | (with_reducible refine w_skip ?_) | (with_reducible refine w_ret ?_) | ((with_reducible apply c_false2 hF); exact rfl; (first | with_reducible rfl | (refine congrArg Value.bool ?_; focus (simp; done))))))
    (apply f_ret Try.results68 hF hM; (repeat (first | exact RL.nil | (apply RL.tmp; exact rfl) | (apply RL.cell; exact rfl; (repeat (first | exact List.mem_cons_self | refine List.mem_cons_of_mem _ ?_)); exact rfl))); refine Ret.mk hM.since ?_; dsimp only [resV])
    simp only [Nat.zero_add, List.nil_append] at hM ⊢
    exact ⟨_, _, rfl, hM.mem.own⟩
end Go.Proofs.Ytadfdpkhehdikaa


/- wire: numbers. -/
namespace Go.Proofs.Ytadfdpkhehdikaa
open Go.RowKit Go.Shelf
/-- The bytes of a number. -/
def puts (n : Nat) : List Int := if n < 128 then [(n : Int)] else ((n % 128 + 128 : Nat) : Int) :: puts (n / 128)
termination_by n
decreasing_by omega
theorem puts_lt {n : Nat} (h : n < 128) : puts n = [(n : Int)] := by rw [puts, if_pos h]
theorem puts_ge {n : Nat} (h : ¬ n < 128) : puts n = ((n % 128 + 128 : Nat) : Int) :: puts (n / 128) := by rw [puts, if_neg h]
theorem puts_len : ∀ (k n : Nat), n < 128 ^ (k + 1) → (puts n).length ≤ k + 1
  | 0, n, h => by rw [puts_lt (by omega)]; simp
  | k + 1, n, h => by
    by_cases g : n < 128
    · rw [puts_lt g]; simp
    · rw [puts_ge g]
      have := puts_len k (n / 128) (by rw [Nat.pow_succ] at h; omega)
      simp
      omega
set_option maxRecDepth 20000 in
/-- putInt: appends in place. -/
theorem putInt_m (n : Nat) (hn : n ≤ 9007199254740991) {own : Nat → Prop} {w0 W : World} {bs : List BoxE} {L : List Ent} {Fs : List (World → Prop)} (hM : Mm own w0 bs L Fs W) {k m : Nat} {v : Value} {xs : List Value} (hL : Kth L k ⟨5, 1, v, m, xs⟩) (hm : m ≤ 100000000000) :
    Calls Try.prog 93 ⟨[v, .int .i64 n]⟩ W (Rtn fun u w' => ∃ a' cap, u = .slice a' (m + (puts n).length) cap ∧ Mm own w0 bs (L.set k ⟨5, 1, .slice a' (m + (puts n).length) cap, m + (puts n).length, xs ++ (puts n).map (Value.int .u8)⟩) Fs w') := by
  refine f_start Try.func93 rfl Try.ntmps93 rfl rfl ?_; intro a hF
  (repeat' (first | (with_reducible refine w_seq ?_) | (with_reducible refine c_region ?_) | (with_reducible refine s_nil ?_) | (with_reducible refine q_then_n ?_) | ((with_reducible apply s_pure hF); exact rfl; exact rfl; exact rfl; (first | exact trivial | omega | exact ⟨Int.natCast_nonneg _, Int.ofNat_lt.2 (by assumption)⟩ | decide); clear hF a; intro a hF) | (with_reducible refine w_skip ?_) | (with_reducible refine w_block ?_) | ((with_reducible apply c_dec hF); exact rfl; all_goals intro hc; all_goals (try (exfalso; omega)))))
  refine c_loop (m := n) (fun mm a w' => ∃ (x q : Nat) (done : List Int) (v' : Value) (xs' : List Value), x = mm ∧ x ≤ n ∧ done.length = q ∧ q ≤ n ∧ puts n = done ++ puts x ∧ xs' = xs ++ done.map (Value.int .u8) ∧
    Fr 27 [] [(0, v'), (1, .int .i64 x)] a ∧ Mm own w0 bs (L.set k ⟨5, 1, v', m + q, xs'⟩) Fs w') ⟨n, 0, [], v, xs, rfl, Nat.le_refl _, rfl, by omega, rfl, by simp, hF.sub (by repeat (first | exact Sub.nil | refine Sub.cons rfl (by first | with_reducible rfl | (refine congrArg (Value.int _) ?_; omega) | exact rfl) ?_)), by
      have : L.set k ⟨5, 1, v, m + 0, xs⟩ = L := by
        apply List.ext_getElem?
        intro j
        rw [List.getElem?_set]
        split
        · rename_i e
          subst e
          rw [if_pos hL.lt]
          exact hL.get.symm
        · rfl
      rw [this]
      exact hM⟩ ?_
  clear hF hM a
  rintro mm a w' ⟨x, q, done, v', xs', rfl, hxn, hdl, hqn, hpu, hxs, hF, hM⟩
  have hL' := hL.set (y := ⟨5, 1, v', m + q, xs'⟩)
  have hq2 : (puts n).length ≤ 8 := puts_len 7 n (by omega)
  have hq3 : q ≤ 8 := by rw [hpu, List.length_append] at hq2; omega
  by_cases hx : x < 128
  · rw [puts_lt hx] at hpu
    (repeat' (first | (with_reducible refine w_seq ?_) | (with_reducible refine c_region ?_) | (with_reducible refine s_nil ?_) | ((with_reducible apply s_app hF hM); exact rfl; exact rfl; exact rfl; exact rfl; (with_reducible assumption); exact rfl; exact rfl; exact rfl; exact rfl; omega; clear hF hM a; intro g cap w a hM hF) | (with_reducible refine q_then_n ?_) | ((with_reducible apply s_pure hF); exact rfl; exact rfl; exact rfl; (first | exact trivial | omega | exact ⟨Int.natCast_nonneg _, Int.ofNat_lt.2 (by assumption)⟩ | decide); clear hF a; intro a hF) | ((with_reducible apply s_lit hF hM); exact rfl; exact rfl; exact rfl; exact rfl; clear hF hM a; intro bl w a hM hF) | (with_reducible refine w_exit ?_) | (with_reducible refine w_ret ?_) | (with_reducible refine q_then_x ?_) | (with_reducible refine q_blk_x ?_) | ((with_reducible apply c_dec hF); exact rfl; all_goals intro hc; all_goals (try (exfalso; omega)))))
    rw [show (x : Int) % 256 = x by omega] at hM
    (apply f_ret Try.results93 hF hM; (repeat (first | exact RL.nil | (apply RL.tmp; exact rfl) | (apply RL.cell; exact rfl; (repeat (first | exact List.mem_cons_self | refine List.mem_cons_of_mem _ ?_)); exact rfl))); refine Both.mk ?_; try dsimp only [resV])
    rw [List.set_set] at hM
    have e1 : (puts n).length = q + 1 := by rw [hpu]; simp [hdl]
    have e2 : xs ++ (puts n).map (Value.int .u8) = xs' ++ [.int .u8 x] := by rw [hpu, hxs]; simp
    refine ⟨some ⟨g, 0, none⟩, cap, by rw [e1]; rfl, ?_⟩
    rw [e1, e2]
    exact hM
  · rw [puts_ge hx] at hpu
    (repeat' (first | (with_reducible refine w_seq ?_) | (with_reducible refine c_region ?_) | (with_reducible refine s_nil ?_) | ((with_reducible apply s_or128 hF); exact rfl; exact rfl; exact rfl; exact rfl; omega; clear hF a; intro a hF) | ((with_reducible apply s_app hF hM); exact rfl; exact rfl; exact rfl; exact rfl; (with_reducible assumption); exact rfl; exact rfl; exact rfl; exact rfl; omega; clear hF hM a; intro g cap w a hM hF) | (with_reducible refine q_then_n ?_) | ((with_reducible apply s_pure hF); exact rfl; exact rfl; exact rfl; (first | exact trivial | omega | exact ⟨Int.natCast_nonneg _, Int.ofNat_lt.2 (by assumption)⟩ | decide); clear hF a; intro a hF) | ((with_reducible apply s_lit hF hM); exact rfl; exact rfl; exact rfl; exact rfl; clear hF hM a; intro bl w a hM hF) | (with_reducible refine w_skip ?_) | (with_reducible refine w_block ?_) | (with_reducible refine q_blk_n ?_) | ((with_reducible apply c_dec hF); exact rfl; all_goals intro hc; all_goals (try (exfalso; omega)))))
    rw [show (x : Int) % 128 % 256 + 128 = ((x % 128 + 128 : Nat) : Int) by omega, List.set_set] at hM
    exact ⟨x / 128, by omega, x / 128, q + 1, done ++ [((x % 128 + 128 : Nat) : Int)], .slice (some ⟨g, 0, none⟩) (m + q + 1) cap, xs' ++ [.int .u8 ((x % 128 + 128 : Nat) : Int)], rfl, by omega, by simp [hdl], by omega, by rw [hpu]; simp, by rw [hxs]; simp, hF.sub (by repeat (first | exact Sub.nil | refine Sub.cons rfl (by first | with_reducible rfl | (refine congrArg (Value.int _) ?_; omega) | exact rfl) ?_)), hM⟩
end Go.Proofs.Ytadfdpkhehdikaa


/- wire: PutInt, and numbers that are read. -/
namespace Go.Proofs.Ytadfdpkhehdikaa
open Go.RowKit Go.Shelf
set_option maxRecDepth 20000 in
theorem PutInt_c (n : Nat) (hn : n ≤ 9007199254740991) (a0 : Option Addr) (c0 : Nat) (ys : List Int) (own : Nat → Prop) (W : World) (hl : ∀ b, own b → b < W.heap.size) (hv : Has own W (RdF (Value.int .u8) a0 ys)) (hb : ys.length ≤ 10000000000) :
    Calls Try.prog 55 ⟨[.slice a0 ys.length c0, .int .i64 n]⟩ W (Ret W fun v w' => ∃ a' c', v = .slice a' (ys.length + (puts n).length) c' ∧ Owns w' W.heap.size [⟨5, 1, .slice a' (ys.length + (puts n).length) c', ys.length + (puts n).length, (ys ++ puts n).map (Value.int .u8)⟩]) := by
  have hM := (Mm.start hl).known hv
  refine f_start Try.func55 rfl Try.ntmps55 rfl rfl ?_; intro a hF
  (repeat (first | (with_reducible refine w_seq ?_) | (with_reducible refine c_region ?_) | (with_reducible refine s_nil ?_) | ((with_reducible apply s_callO (f := 68) hF); exact rfl; exact rfl; exact rfl; exact rfl; exact rfl; exact (cloneB_c _ _ _ _ _ hM.lt (hM.facts _ (by (repeat (first | exact List.mem_cons_self | refine List.mem_cons_of_mem _ ?_)))) hb); clear hF a; rintro v wn a ⟨a1, c1, rfl, hO⟩ hS hF; replace hM := hM.addRows hS hO; clear hS hO; dsimp only [List.cons_append, List.nil_append] at hM) | ((with_reducible apply s_callM (f := 93) hF); exact rfl; exact rfl; exact rfl; exact rfl; exact rfl; exact (putInt_m n hn hM .z (by omega)); clear hF hM a; rintro v w a ⟨a2, c2, rfl, hM⟩ hF) | (with_reducible refine q_then_n ?_) | ((with_reducible apply s_pure hF); exact rfl; exact rfl; exact rfl; (first | exact trivial | omega | exact ⟨Int.natCast_nonneg _, Int.ofNat_lt.2 (by assumption)⟩ | decide); clear hF a; intro a hF) | (with_reducible refine w_ret ?_)))
  (apply f_ret Try.results55 hF hM; (repeat (first | exact RL.nil | (apply RL.tmp; exact rfl) | (apply RL.cell; exact rfl; (repeat (first | exact List.mem_cons_self | refine List.mem_cons_of_mem _ ?_)); exact rfl))); refine Ret.mk hM.since ?_; dsimp only [resV])
  rw [List.map_append]
  exact ⟨a2, c2, rfl, hM.mem.own⟩
theorem PutInt_z (n : Nat) (q : Int) (hq : q = n) (hn : n ≤ 9007199254740991) (a0 : Option Addr) (c0 : Nat) (ys : List Int) (m : Nat) (hm : ys.length = m) (own : Nat → Prop) (W : World) (hl : ∀ b, own b → b < W.heap.size) (hv : Has own W (RdF (Value.int .u8) a0 ys)) (hb : m ≤ 10000000000) :
    Calls Try.prog 55 ⟨[.slice a0 m c0, .int .i64 q]⟩ W (Ret W fun v w' => ∃ a' c', v = .slice a' (m + (puts n).length) c' ∧ Owns w' W.heap.size [⟨5, 1, .slice a' (m + (puts n).length) c', m + (puts n).length, (ys ++ puts n).map (Value.int .u8)⟩]) := by
  subst hq hm
  exact PutInt_c n hn a0 c0 ys own W hl hv hb
/-- What number reads: the number, the error, and how many bytes. -/
def rdN (xs : List Int) : Nat → Nat → Int → Int × Int × Nat
  | 0, _, _ => (0, 3, 0)
  | f + 1, i, n => match xs[i]? with
    | none => (0, 10, 0)
    | some b => if 128 ≤ b then rdN xs f (i + 1) (n + b % 128 * 128 ^ i) else if (b = 0 ∧ 0 < i) ∨ 9007199254740991 < n + b % 128 * 128 ^ i then (0, 3, 0) else (n + b % 128 * 128 ^ i, 0, i + 1)
def rdNum (xs : List Int) : Int × Int × Nat := rdN xs 8 0 0
theorem pow7 : ∀ i : Fin 8, (2 : Int) ^ (7 * i.val) = 128 ^ i.val ∧ (0 : Int) < 128 ^ i.val ∧ (128 : Int) ^ i.val ≤ 562949953421312 := by decide
theorem pow7s : ∀ i : Fin 8, (128 : Int) ^ (i.val + 1) = 128 ^ i.val * 128 := by decide
end Go.Proofs.Ytadfdpkhehdikaa


/- wire: numbers that are read. -/
namespace Go.Proofs.Ytadfdpkhehdikaa
open Go.RowKit Go.Shelf
theorem rdN_none {xs : List Int} {f i : Nat} {n : Int} (h : xs[i]? = none) : rdN xs (f + 1) i n = (0, 10, 0) := by rw [rdN, h]
theorem rdN_some {xs : List Int} {f i : Nat} {n b : Int} (h : xs[i]? = some b) : rdN xs (f + 1) i n = if 128 ≤ b then rdN xs f (i + 1) (n + b % 128 * 128 ^ i) else if (b = 0 ∧ 0 < i) ∨ 9007199254740991 < n + b % 128 * 128 ^ i then (0, 3, 0) else (n + b % 128 * 128 ^ i, 0, i + 1) := by rw [rdN, h]
/-- The rest of a slice. -/
theorem RdF.drop {α : Type} {enc : α → Value} {own : Nat → Prop} {w : World} {ad : Addr} {xs : List α} (h : Has own w (RdF enc (some ad) xs)) (k m : Nat) (hm : xs.length ≤ m) : Has own w (RdF enc (sadr (some ad) k m 1) (xs.drop k)) := by
  refine h.imp fun w h j x hx => ?_
  rw [List.getElem?_drop] at hx
  have hlt := (List.getElem?_eq_some_iff.1 hx).1
  obtain ⟨b, off, e, hb, hc⟩ := h (k + j) x hx
  injection e with e
  subst e
  refine ⟨b, off + k, ?_, hb, ?_⟩
  · unfold sadr
    rw [if_neg (by omega)]
    simp [add_lit]
  · rw [Nat.add_assoc]
    exact hc
theorem dup0 {own : Nat → Prop} {w w0 : World} {bs : List BoxE} {L : List Ent} {Fs : List (World → Prop)} {f : World → Prop} (hM : Mm own w0 bs L (f :: Fs) w) : Mm own w0 bs L (f :: f :: Fs) w :=
  hM.sub (.refl _) (.refl _) fun g hg => by
    rcases List.mem_cons.1 hg with rfl | hg
    · exact List.mem_cons_self
    · exact hg
theorem mul_bdP {x y a b : Int} (hx : 0 ≤ x ∧ x ≤ a) (hy : 0 ≤ y ∧ y ≤ b) : 0 ≤ x * y ∧ x * y ≤ a * b :=
  ⟨Int.mul_nonneg hx.1 hy.1, Int.mul_le_mul hx.2 hy.2 hy.1 (by omega)⟩
set_option maxRecDepth 20000 in
theorem number_m (xs : List Int) (hxb : ∀ x ∈ xs, 0 ≤ x ∧ x < 256) (hlen : xs.length ≤ 1000000) (a0 : Option Addr) (c0 : Nat) (hc0 : xs.length ≤ c0) {own : Nat → Prop} {w0 W : World} {bs : List BoxE} {L : List Ent} {Fs : List (World → Prop)} {b : Nat} {T : TypeId} (hM : Mm own w0 (⟨b, ⟨[.slice a0 xs.length c0]⟩, T⟩ :: bs) L (RdF (Value.int .u8) a0 xs :: Fs) W) :
    Calls Try.prog 100 ⟨[.pointer (some ⟨b, 0, none⟩)]⟩ W (Rtn fun u w' => u = .tuple #[.int .i64 (rdNum xs).1, .int .i64 (rdNum xs).2.1] ∧ ∃ a' c', xs.length - (rdNum xs).2.2 ≤ c' ∧ Mm own w0 (⟨b, ⟨[.slice a' (xs.length - (rdNum xs).2.2) c']⟩, T⟩ :: bs) L (RdF (Value.int .u8) a' (xs.drop (rdNum xs).2.2) :: RdF (Value.int .u8) a0 xs :: Fs) w') := by
  refine f_start Try.func100 rfl Try.ntmps100 rfl rfl ?_; intro a hF
  (repeat' (first | (with_reducible refine w_seq ?_) | (with_reducible refine c_region ?_) | (with_reducible refine s_nil ?_) | (with_reducible refine q_then_n ?_) | ((with_reducible apply s_pure hF); exact rfl; exact rfl; exact rfl; (first | exact trivial | omega | exact ⟨Int.natCast_nonneg _, Int.ofNat_lt.2 (by assumption)⟩ | decide); clear hF a; intro a hF) | (with_reducible refine w_block ?_)))
  refine c_loop (m := 8) (fun m a w' => ∃ (i : Nat) (n : Int), m + i = 8 ∧ rdNum xs = rdN xs m i n ∧ 0 ≤ n ∧ n < 128 ^ i ∧
    Fr 57 [] [(7, .int .i64 i), (4, .int .i64 n), (0, .pointer (some ⟨b, 0, none⟩))] a ∧
    Mm own w0 (⟨b, ⟨[.slice a0 xs.length c0]⟩, T⟩ :: bs) L (RdF (Value.int .u8) a0 xs :: Fs) w') ⟨0, 0, by omega, rfl, by omega, by simp, hF.sub (by repeat (first | exact Sub.nil | refine Sub.cons rfl (by first | with_reducible rfl | (refine congrArg (Value.int _) ?_; omega) | exact rfl) ?_)), hM⟩ ?_
  clear hF hM a
  rintro m a w' ⟨i, n, hmi, hrd, hn0, hn1, hF, hM⟩
  by_cases hi : i < 8
  case neg =>
    obtain rfl : m = 0 := by omega
    have hr : rdNum xs = (0, 3, 0) := hrd
    rw [hr]
    (repeat' (first | (with_reducible refine w_seq ?_) | (with_reducible refine c_region ?_) | (with_reducible refine s_nil ?_) | (with_reducible refine q_then_n ?_) | ((with_reducible apply s_pure hF); exact rfl; exact rfl; exact rfl; (first | exact trivial | omega | exact ⟨Int.natCast_nonneg _, Int.ofNat_lt.2 (by assumption)⟩ | decide); clear hF a; intro a hF) | (with_reducible refine w_exit ?_) | (with_reducible refine w_ret ?_) | (with_reducible refine q_then_x ?_) | (with_reducible refine q_blk_x ?_) | ((with_reducible apply c_dec hF); exact rfl; all_goals intro hc; all_goals (try (exfalso; omega)))))
    (apply f_ret Try.results100 hF hM; (repeat (first | exact RL.nil | (apply RL.tmp; exact rfl) | (apply RL.cell; exact rfl; (repeat (first | exact List.mem_cons_self | refine List.mem_cons_of_mem _ ?_)); exact rfl))); refine Both.mk ?_; try dsimp only [resV])
    refine ⟨rfl, a0, c0, by simp only [Nat.sub_zero]; exact hc0, ?_⟩
    simp only [List.drop_zero, Nat.sub_zero]
    exact dup0 hM
  obtain ⟨m, rfl⟩ : ∃ k, m = k + 1 := ⟨m - 1, by omega⟩
  obtain ⟨p1, p2, p3⟩ := pow7 ⟨i, hi⟩
  have p4 := pow7s ⟨i, hi⟩
  simp only at p1 p2 p3 p4
  by_cases hin : i < xs.length
  case neg =>
    have hr : rdNum xs = (0, 10, 0) := by rw [hrd]; exact rdN_none (List.getElem?_eq_none (by omega))
    rw [hr]
    (repeat' (first | (with_reducible refine w_seq ?_) | (with_reducible refine c_region ?_) | (with_reducible refine s_nil ?_) | (with_reducible refine q_then_n ?_) | ((with_reducible apply s_pure hF); exact rfl; exact rfl; exact rfl; (first | exact trivial | omega | exact ⟨Int.natCast_nonneg _, Int.ofNat_lt.2 (by assumption)⟩ | decide); clear hF a; intro a hF) | ((with_reducible apply s_load hF hM); exact rfl; exact rfl; (repeat (first | exact List.mem_cons_self | refine List.mem_cons_of_mem _ ?_)); exact rfl; exact rfl; clear hF a; intro a hF) | (with_reducible refine w_skip ?_) | (with_reducible refine w_block ?_) | (with_reducible refine w_ret ?_) | (with_reducible refine q_then_r ?_) | (with_reducible refine q_blk_r ?_) | ((with_reducible apply c_dec hF); exact rfl; all_goals intro hc; all_goals (try (exfalso; omega)))))
    (apply f_ret Try.results100 hF hM; (repeat (first | exact RL.nil | (apply RL.tmp; exact rfl) | (apply RL.cell; exact rfl; (repeat (first | exact List.mem_cons_self | refine List.mem_cons_of_mem _ ?_)); exact rfl))); refine Both.mk ?_; try dsimp only [resV])
    refine ⟨rfl, a0, c0, by simp only [Nat.sub_zero]; exact hc0, ?_⟩
    simp only [List.drop_zero, Nat.sub_zero]
    exact dup0 hM
  obtain ⟨y, hy⟩ := get_of_lt hin
  obtain ⟨ad, rfl⟩ := rd_some hM (by (repeat (first | exact List.mem_cons_self | refine List.mem_cons_of_mem _ ?_))) hy
  have hyb := hxb y (List.mem_of_getElem? hy)
  have hr := hrd.trans (rdN_some hy)
  obtain ⟨P, hP⟩ : ∃ P, (128 : Int) ^ i = P := ⟨_, rfl⟩
  rw [hP] at p1 p2 p3 p4 hn1 hr
  have hmb := mul_bdP (show 0 ≤ y % 128 ∧ y % 128 ≤ 127 by omega) (show 0 ≤ P ∧ P ≤ 562949953421312 by omega)
  have hsh : 0 ≤ 7 * (i : Int) ∧ 7 * (i : Int) ≤ 62 ∧ y % 128 * 2 ^ (7 * (i : Int)).toNat = y % 128 * P ∧ 0 ≤ y % 128 * P ∧ y % 128 * P < 9223372036854775808 := by
    refine ⟨by omega, by omega, ?_, hmb.1, by omega⟩
    rw [show (7 * (i : Int)).toNat = 7 * i by omega, p1]
  have hj : Join n (y % 128 * P) := by
    refine ⟨7 * i, by omega, hn0, by rw [p1]; exact hn1, hmb.1, ?_, by omega⟩
    rw [p1, Int.mul_emod_left]
  obtain ⟨Z, hZ⟩ : ∃ Z, y % 128 * P = Z := ⟨_, rfl⟩
  rw [hZ] at hr hmb hsh hj
  by_cases hbig : 128 ≤ y
  · rw [if_pos hbig] at hr
    have hbd : n + Z < 128 ^ (i + 1) := by
      rw [p4, ← hZ]
      have : y % 128 * P ≤ 127 * P := Int.mul_le_mul_of_nonneg_right (by omega) (by omega)
      omega
    (repeat' (first | (with_reducible refine w_seq ?_) | (with_reducible refine c_region ?_) | (with_reducible refine s_nil ?_) | ((with_reducible apply s_and127 hF); exact rfl; exact rfl; exact rfl; exact rfl; omega; clear hF a; intro a hF) | ((with_reducible apply s_and128 hF); exact rfl; exact rfl; exact rfl; exact rfl; omega; clear hF a; intro a hF) | ((with_reducible apply s_join hF); exact rfl; exact rfl; exact rfl; exact rfl; (with_reducible assumption); clear hF a; intro a hF) | ((with_reducible apply s_shl hF); exact rfl; exact rfl; exact rfl; exact rfl; (with_reducible assumption); clear hF a; intro a hF) | (with_reducible refine q_then_n ?_) | ((with_reducible apply s_pure hF); exact rfl; exact rfl; exact rfl; (first | exact trivial | omega | exact ⟨Int.natCast_nonneg _, Int.ofNat_lt.2 (by assumption)⟩ | decide); clear hF a; intro a hF) | ((with_reducible apply s_load hF hM); exact rfl; exact rfl; (repeat (first | exact List.mem_cons_self | refine List.mem_cons_of_mem _ ?_)); exact rfl; exact rfl; clear hF a; intro a hF) | ((with_reducible apply s_loadF hF hM); exact rfl; exact rfl; (repeat (first | exact List.mem_cons_self | refine List.mem_cons_of_mem _ ?_)); exact rfl; exact rfl; (first | with_reducible assumption | (simp only [Int.toNat_natCast]; with_reducible assumption)); clear hF a; intro a hF) | (with_reducible refine w_skip ?_) | (with_reducible refine w_block ?_) | (with_reducible refine w_exit ?_) | (with_reducible refine q_then_x ?_) | (with_reducible refine q_blk_x ?_) | ((with_reducible apply c_dec hF); exact rfl; all_goals intro hc; all_goals (try (exfalso; omega)))))
    exact ⟨m, by omega, i + 1, n + Z, by omega, hr, by omega, hbd, hF.sub (by repeat (first | exact Sub.nil | refine Sub.cons rfl (by first | with_reducible rfl | (refine congrArg (Value.int _) ?_; omega) | exact rfl) ?_)), hM⟩
  rw [if_neg hbig] at hr
  by_cases hbad : (y = 0 ∧ 0 < i) ∨ 9007199254740991 < n + Z
  · rw [if_pos hbad] at hr
    rw [hr]
    (repeat' (first | (with_reducible refine w_seq ?_) | (with_reducible refine c_region ?_) | (with_reducible refine s_nil ?_) | ((with_reducible apply s_and127 hF); exact rfl; exact rfl; exact rfl; exact rfl; omega; clear hF a; intro a hF) | ((with_reducible apply s_and128 hF); exact rfl; exact rfl; exact rfl; exact rfl; omega; clear hF a; intro a hF) | ((with_reducible apply s_join hF); exact rfl; exact rfl; exact rfl; exact rfl; (with_reducible assumption); clear hF a; intro a hF) | ((with_reducible apply s_shl hF); exact rfl; exact rfl; exact rfl; exact rfl; (with_reducible assumption); clear hF a; intro a hF) | (with_reducible refine q_then_n ?_) | ((with_reducible apply s_pure hF); exact rfl; exact rfl; exact rfl; (first | exact trivial | omega | exact ⟨Int.natCast_nonneg _, Int.ofNat_lt.2 (by assumption)⟩ | decide); clear hF a; intro a hF) | ((with_reducible apply s_load hF hM); exact rfl; exact rfl; (repeat (first | exact List.mem_cons_self | refine List.mem_cons_of_mem _ ?_)); exact rfl; exact rfl; clear hF a; intro a hF) | ((with_reducible apply s_loadF hF hM); exact rfl; exact rfl; (repeat (first | exact List.mem_cons_self | refine List.mem_cons_of_mem _ ?_)); exact rfl; exact rfl; (first | with_reducible assumption | (simp only [Int.toNat_natCast]; with_reducible assumption)); clear hF a; intro a hF) | (with_reducible refine w_skip ?_) | (with_reducible refine w_block ?_) | (with_reducible refine w_ret ?_) | (with_reducible refine q_then_r ?_) | (with_reducible refine q_blk_r ?_) | ((with_reducible apply c_true2 hF); exact rfl; (first | with_reducible rfl | (refine congrArg Value.bool ?_; focus (simp; done)))) | ((with_reducible apply s_skip hF); exact rfl; exact rfl; clear hF a; intro a hF) | ((fail_if_success ((with_reducible refine g_known true hF ?_ ?_); focus exact rfl)); (fail_if_success ((with_reducible refine g_known false hF ?_ ?_); focus exact rfl)); (with_reducible apply g_dec hF); exact rfl; exact rfl; all_goals (clear hF; intro hc hF); all_goals (try (exfalso; omega))) | ((with_reducible apply c_dec hF); exact rfl; all_goals intro hc; all_goals (try (exfalso; omega)))))
    all_goals
      (apply f_ret Try.results100 hF hM; (repeat (first | exact RL.nil | (apply RL.tmp; exact rfl) | (apply RL.cell; exact rfl; (repeat (first | exact List.mem_cons_self | refine List.mem_cons_of_mem _ ?_)); exact rfl))); refine Both.mk ?_; try dsimp only [resV])
      refine ⟨rfl, some ad, c0, by simp only [Nat.sub_zero]; exact hc0, ?_⟩
      simp only [List.drop_zero, Nat.sub_zero]
      exact dup0 hM
  · rw [if_neg hbad] at hr
    rw [hr]
    (repeat' (first | (with_reducible refine w_seq ?_) | (with_reducible refine c_region ?_) | (with_reducible refine s_nil ?_) | ((with_reducible apply s_and127 hF); exact rfl; exact rfl; exact rfl; exact rfl; omega; clear hF a; intro a hF) | ((with_reducible apply s_and128 hF); exact rfl; exact rfl; exact rfl; exact rfl; omega; clear hF a; intro a hF) | ((with_reducible apply s_join hF); exact rfl; exact rfl; exact rfl; exact rfl; (with_reducible assumption); clear hF a; intro a hF) | ((with_reducible apply s_shl hF); exact rfl; exact rfl; exact rfl; exact rfl; (with_reducible assumption); clear hF a; intro a hF) | (with_reducible refine q_then_n ?_) | ((with_reducible apply s_pure hF); exact rfl; exact rfl; exact rfl; (first | exact trivial | omega | exact ⟨Int.natCast_nonneg _, Int.ofNat_lt.2 (by assumption)⟩ | decide); clear hF a; intro a hF) | ((with_reducible apply s_load hF hM); exact rfl; exact rfl; (repeat (first | exact List.mem_cons_self | refine List.mem_cons_of_mem _ ?_)); exact rfl; exact rfl; clear hF a; intro a hF) | ((with_reducible apply s_loadF hF hM); exact rfl; exact rfl; (repeat (first | exact List.mem_cons_self | refine List.mem_cons_of_mem _ ?_)); exact rfl; exact rfl; (first | with_reducible assumption | (simp only [Int.toNat_natCast]; with_reducible assumption)); clear hF a; intro a hF) | ((with_reducible apply s_store hF hM); exact rfl; exact rfl; exact rfl; exact rfl; (repeat (first | exact Upd.z | apply Upd.s)); exact rfl; exact rfl; exact rfl; clear hM; intro w hM) | (with_reducible refine w_skip ?_) | (with_reducible refine w_block ?_) | (with_reducible refine w_ret ?_) | (with_reducible refine q_then_r ?_) | (with_reducible refine q_blk_r ?_) | ((with_reducible apply s_skip hF); exact rfl; exact rfl; clear hF a; intro a hF) | ((fail_if_success ((with_reducible refine g_known true hF ?_ ?_); focus exact rfl)); (fail_if_success ((with_reducible refine g_known false hF ?_ ?_); focus exact rfl)); (with_reducible apply g_dec hF); exact rfl; exact rfl; all_goals (clear hF; intro hc hF); all_goals (try (exfalso; omega))) | ((with_reducible apply c_dec hF); exact rfl; all_goals intro hc; all_goals (try (exfalso; omega)))))
    all_goals
      rw [show ((i : Int) + 1).toNat = i + 1 by omega, Int.toNat_natCast] at hM
      (apply f_ret Try.results100 hF hM; (repeat (first | exact RL.nil | (apply RL.tmp; exact rfl) | (apply RL.cell; exact rfl; (repeat (first | exact List.mem_cons_self | refine List.mem_cons_of_mem _ ?_)); exact rfl))); refine Both.mk ?_; try dsimp only [resV])
      exact ⟨rfl, sadr (some ad) (i + 1) c0 1, c0 - (i + 1), (by show xs.length - (i + 1) ≤ c0 - (i + 1); omega), hM.addFact (RdF.drop (hM.facts (RdF (Value.int .u8) (some ad) xs) List.mem_cons_self) (i + 1) c0 hc0)⟩
theorem rdN_err : ∀ (f i : Nat) (n : Int) (xs : List Int), (rdN xs f i n).2.1 ≠ 0 → (rdN xs f i n).1 = 0 ∧ (rdN xs f i n).2.2 = 0
  | 0, _, _, _, _ => ⟨rfl, rfl⟩
  | f + 1, i, n, xs, h => by
    rw [rdN] at h ⊢
    split
    · exact ⟨rfl, rfl⟩
    · rename_i b hb
      rw [hb] at h
      simp only at h
      split at h
      · rename_i h1
        rw [if_pos h1]
        exact rdN_err f (i + 1) _ xs h
      · rename_i h1
        rw [if_neg h1]
        split at h
        · rename_i h2
          rw [if_pos h2]
          exact ⟨rfl, rfl⟩
        · exact absurd rfl h
theorem cloneB_z (a0 : Option Addr) (c0 : Nat) (xs : List Int) (n : Nat) (hn : xs.length = n) (own : Nat → Prop) (W : World) (hl : ∀ b, own b → b < W.heap.size) (hv : Has own W (RdF (Value.int .u8) a0 xs)) (hb : xs.length ≤ 10000000000) :
    Calls Try.prog 68 ⟨[.slice a0 n c0]⟩ W (Ret W fun v w' => ∃ a' c', v = .slice a' n c' ∧ Owns w' W.heap.size [⟨5, 1, .slice a' n c', n, xs.map (Value.int .u8)⟩]) := by
  subst hn
  exact cloneB_c a0 c0 xs own W hl hv hb
/-- What Int answers: the number, a copy of the rest, the error. -/
def IntR (own : Nat → Prop) (xs : List Int) (b0 : Nat) (v : Value) (w : World) : Prop := ∃ a' n' c', v = .tuple #[.int .i64 (rdNum xs).1, .slice a' n' c', .int .i64 (rdNum xs).2.1] ∧
  (((rdNum xs).2.1 ≠ 0 ∧ a' = none ∧ n' = 0 ∧ c' = 0) ∨ ((rdNum xs).2.1 = 0 ∧ n' = (xs.drop (rdNum xs).2.2).length ∧ Owns w b0 [⟨5, 1, .slice a' n' c', n', (xs.drop (rdNum xs).2.2).map (Value.int .u8)⟩]))
set_option maxRecDepth 20000 in
theorem read_c (xs : List Int) (hxb : ∀ x ∈ xs, 0 ≤ x ∧ x < 256) (hlen : xs.length ≤ 1000000) (a0 : Option Addr) (c0 : Nat) (hc0 : xs.length ≤ c0) (own : Nat → Prop) (W : World) (hl : ∀ b, own b → b < W.heap.size) (hv : Has own W (RdF (Value.int .u8) a0 xs)) :
    Calls Try.prog 99 ⟨[.slice a0 xs.length c0, .func (.func 100) #[] #[]]⟩ W (Ret W (IntR own xs W.heap.size)) := by
  have hM := (Mm.start hl).known hv
  refine f_start Try.func99 rfl Try.ntmps99 rfl rfl ?_; intro a hF
  have hbl : (xs.drop (rdNum xs).2.2).length ≤ 10000000000 := by simp; omega
  by_cases he : (rdNum xs).2.1 = 0
  · (repeat' (first | (with_reducible refine w_seq ?_) | (with_reducible refine c_region ?_) | (with_reducible refine s_nil ?_) | ((with_reducible apply s_callM (f := 100) hF); exact rfl; exact rfl; exact rfl; exact rfl; exact rfl; exact (number_m xs hxb hlen a0 c0 hc0 hM); clear hF hM a; rintro v w a ⟨rfl, a1, c1, hcq, hM⟩ hF) | ((with_reducible apply s_callO (f := 68) hF); exact rfl; exact rfl; exact rfl; exact rfl; exact rfl; exact (cloneB_z a1 c1 (xs.drop (rdNum xs).2.2) _ (by simp) _ _ hM.lt (hM.facts _ (by (repeat (first | exact List.mem_cons_self | refine List.mem_cons_of_mem _ ?_)))) hbl); clear hF a; rintro v wn a ⟨a2, c2, rfl, hO⟩ hS hF; replace hM := hM.addRows hS hO; clear hS hO; dsimp only [List.cons_append, List.nil_append] at hM) | (with_reducible refine q_then_n ?_) | ((with_reducible apply s_pure hF); exact rfl; exact rfl; exact rfl; (first | exact trivial | omega | exact ⟨Int.natCast_nonneg _, Int.ofNat_lt.2 (by assumption)⟩ | decide); clear hF a; intro a hF) | ((with_reducible apply s_load hF hM); exact rfl; exact rfl; (repeat (first | exact List.mem_cons_self | refine List.mem_cons_of_mem _ ?_)); exact rfl; exact rfl; clear hF a; intro a hF) | ((with_reducible apply s_box hF hM); exact rfl; exact rfl; exact rfl; exact rfl; clear hF hM a; intro b w a hM hF) | (with_reducible refine w_skip ?_) | (with_reducible refine w_ret ?_) | ((with_reducible apply c_dec hF); exact rfl; all_goals intro hc; all_goals (try (exfalso; omega)))))
    (apply f_ret Try.results99 hF hM; (repeat (first | exact RL.nil | (apply RL.tmp; exact rfl) | (apply RL.cell; exact rfl; (repeat (first | exact List.mem_cons_self | refine List.mem_cons_of_mem _ ?_)); exact rfl))); refine Ret.mk hM.since ?_; dsimp only [resV])
    have hO2 := hM.mem.own
    refine ⟨a2, _, c2, by rw [he], .inr ⟨he, by simp, ?_⟩⟩
    exact hO2
  · (repeat' (first | (with_reducible refine w_seq ?_) | (with_reducible refine c_region ?_) | (with_reducible refine s_nil ?_) | ((with_reducible apply s_callM (f := 100) hF); exact rfl; exact rfl; exact rfl; exact rfl; exact rfl; exact (number_m xs hxb hlen a0 c0 hc0 hM); clear hF hM a; rintro v w a ⟨rfl, a1, c1, hcq, hM⟩ hF) | (with_reducible refine q_then_n ?_) | ((with_reducible apply s_pure hF); exact rfl; exact rfl; exact rfl; (first | exact trivial | omega | exact ⟨Int.natCast_nonneg _, Int.ofNat_lt.2 (by assumption)⟩ | decide); clear hF a; intro a hF) | ((with_reducible apply s_box hF hM); exact rfl; exact rfl; exact rfl; exact rfl; clear hF hM a; intro b w a hM hF) | (with_reducible refine w_ret ?_) | (with_reducible refine q_then_r ?_) | ((with_reducible apply c_dec hF); exact rfl; all_goals intro hc; all_goals (try (exfalso; omega)))))
    (apply f_ret Try.results99 hF hM; (repeat (first | exact RL.nil | (apply RL.tmp; exact rfl) | (apply RL.cell; exact rfl; (repeat (first | exact List.mem_cons_self | refine List.mem_cons_of_mem _ ?_)); exact rfl))); refine Ret.mk hM.since ?_; dsimp only [resV])
    exact ⟨none, 0, 0, by rw [show (rdNum xs).1 = 0 from (rdN_err 8 0 0 xs he).1], .inl ⟨he, rfl, rfl, rfl⟩⟩
section
variable (xs : List Int) (hxb : ∀ x ∈ xs, 0 ≤ x ∧ x < 256) (hlen : xs.length ≤ 1000000) (a0 : Option Addr) (c0 : Nat) (hc0 : xs.length ≤ c0) (own : Nat → Prop) (W : World) (hl : ∀ b, own b → b < W.heap.size) (hv : Has own W (RdF (Value.int .u8) a0 xs))
include hxb hlen hc0 hl hv
theorem read_ok (he : (rdNum xs).2.1 = 0) : Calls Try.prog 99 ⟨[.slice a0 xs.length c0, .func (.func 100) #[] #[]]⟩ W (Ret W fun v w' => ∃ a' c', v = .tuple #[.int .i64 (rdNum xs).1, .slice a' (xs.drop (rdNum xs).2.2).length c', .int .i64 0] ∧ Owns w' W.heap.size [⟨5, 1, .slice a' (xs.drop (rdNum xs).2.2).length c', (xs.drop (rdNum xs).2.2).length, (xs.drop (rdNum xs).2.2).map (Value.int .u8)⟩]) := by
  refine (read_c xs hxb hlen a0 c0 hc0 own W hl hv).mono ?_
  rintro e w' ⟨v, rfl, hs, a', n', c', rfl, h⟩
  rcases h with ⟨h, _⟩ | ⟨_, rfl, hO⟩
  · exact absurd he h
  · exact ⟨_, rfl, hs, a', c', by rw [he], hO⟩
theorem read_err (he : (rdNum xs).2.1 ≠ 0) : Calls Try.prog 99 ⟨[.slice a0 xs.length c0, .func (.func 100) #[] #[]]⟩ W (Ret W fun v _ => v = .tuple #[.int .i64 0, .slice none 0 0, .int .i64 (rdNum xs).2.1]) := by
  refine (read_c xs hxb hlen a0 c0 hc0 own W hl hv).mono ?_
  rintro e w' ⟨v, rfl, hs, a', n', c', rfl, h⟩
  rcases h with ⟨_, rfl, rfl, rfl⟩ | ⟨h, _⟩
  · exact ⟨_, rfl, hs, by rw [show (rdNum xs).1 = 0 from (rdN_err 8 0 0 xs he).1]⟩
  · exact absurd h he
theorem Int_ok (he : (rdNum xs).2.1 = 0) : Calls Try.prog 64 ⟨[.slice a0 xs.length c0]⟩ W (Ret W fun v w' => ∃ a' c', v = .tuple #[.int .i64 (rdNum xs).1, .slice a' (xs.drop (rdNum xs).2.2).length c', .int .i64 0] ∧ Owns w' W.heap.size [⟨5, 1, .slice a' (xs.drop (rdNum xs).2.2).length c', (xs.drop (rdNum xs).2.2).length, (xs.drop (rdNum xs).2.2).map (Value.int .u8)⟩]) := by
  have hM := (Mm.start hl).known hv
  refine f_start Try.func64 rfl Try.ntmps64 rfl rfl ?_; intro a hF
  (repeat (first | (with_reducible refine w_seq ?_) | (with_reducible refine c_region ?_) | (with_reducible refine s_nil ?_) | ((with_reducible apply s_callO (f := 99) hF); exact rfl; exact rfl; exact rfl; exact rfl; exact rfl; exact (read_ok xs hxb hlen a0 c0 hc0 _ _ hM.lt (hM.facts _ (by (repeat (first | exact List.mem_cons_self | refine List.mem_cons_of_mem _ ?_)))) he); clear hF a; rintro v wn a ⟨a1, c1, rfl, hO⟩ hS hF; replace hM := hM.addRows hS hO; clear hS hO; dsimp only [List.cons_append, List.nil_append] at hM) | (with_reducible refine q_then_n ?_) | ((with_reducible apply s_pure hF); exact rfl; exact rfl; exact rfl; (first | exact trivial | omega | exact ⟨Int.natCast_nonneg _, Int.ofNat_lt.2 (by assumption)⟩ | decide); clear hF a; intro a hF) | (with_reducible refine w_ret ?_)))
  (apply f_ret Try.results64 hF hM; (repeat (first | exact RL.nil | (apply RL.tmp; exact rfl) | (apply RL.cell; exact rfl; (repeat (first | exact List.mem_cons_self | refine List.mem_cons_of_mem _ ?_)); exact rfl))); refine Ret.mk hM.since ?_; dsimp only [resV])
  exact ⟨a1, c1, rfl, hM.mem.own⟩
theorem Int_err (he : (rdNum xs).2.1 ≠ 0) : Calls Try.prog 64 ⟨[.slice a0 xs.length c0]⟩ W (Ret W fun v _ => v = .tuple #[.int .i64 0, .slice none 0 0, .int .i64 (rdNum xs).2.1]) := by
  have hM := (Mm.start hl).known hv
  refine f_start Try.func64 rfl Try.ntmps64 rfl rfl ?_; intro a hF
  (repeat (first | (with_reducible refine w_seq ?_) | (with_reducible refine c_region ?_) | (with_reducible refine s_nil ?_) | ((with_reducible apply s_call (f := 99) hF hM); exact rfl; exact rfl; exact rfl; exact rfl; exact rfl; exact (read_err xs hxb hlen a0 c0 hc0 _ _ hM.lt (hM.facts _ (by (repeat (first | exact List.mem_cons_self | refine List.mem_cons_of_mem _ ?_)))) he); clear hF hM a; rintro v w a rfl - hM hF) | (with_reducible refine q_then_n ?_) | ((with_reducible apply s_pure hF); exact rfl; exact rfl; exact rfl; (first | exact trivial | omega | exact ⟨Int.natCast_nonneg _, Int.ofNat_lt.2 (by assumption)⟩ | decide); clear hF a; intro a hF) | (with_reducible refine w_ret ?_)))
  (apply f_ret Try.results64 hF hM; (repeat (first | exact RL.nil | (apply RL.tmp; exact rfl) | (apply RL.cell; exact rfl; (repeat (first | exact List.mem_cons_self | refine List.mem_cons_of_mem _ ?_)); exact rfl))); refine Ret.mk hM.since ?_; dsimp only [resV])
end
end Go.Proofs.Ytadfdpkhehdikaa


/- Plain laws of layer 29: tokens in bytes. -/
namespace Go.Proofs.Ytadfdpkhehdikaa
namespace D29
/-- Numbers that are put are read. -/
theorem rdN_puts (n : Nat) : ∀ (i f : Nat) (acc : Int) (xs ys : List Int), xs.drop i = puts n ++ ys → (puts n).length ≤ f → 0 ≤ acc → acc + n * 128 ^ i ≤ 9007199254740991 → (n = 0 → i = 0) → rdN xs f i acc = (acc + n * 128 ^ i, 0, i + (puts n).length) := by
  induction n using Nat.strongRecOn with
  | _ n ih =>
    intro i f acc xs ys hd hf ha hb h0
    have get0 : ∀ (b : Int) (r : List Int), puts n = b :: r → xs[i]? = some b := by
      intro b r e
      have : (xs.drop i)[0]? = some b := by rw [hd, e]; rfl
      rw [List.getElem?_drop] at this
      exact this
    by_cases h : n < 128
    · have e := puts_lt h
      rw [e] at hf ⊢
      simp only [List.length_cons, List.length_nil] at hf ⊢
      obtain ⟨f, rfl⟩ : ∃ k, f = k + 1 := ⟨f - 1, by omega⟩
      rw [rdN_some (get0 _ _ e), if_neg (by omega), if_neg]
      · rw [show ((n : Int)) % 128 = n by omega]
      · rw [show ((n : Int)) % 128 = n by omega]
        rintro (⟨h1, h2⟩ | h1)
        · have := h0 (by omega); omega
        · omega
    · have e := puts_ge h
      rw [e] at hf ⊢
      simp only [List.length_cons] at hf ⊢
      obtain ⟨f, rfl⟩ : ∃ k, f = k + 1 := ⟨f - 1, by omega⟩
      rw [rdN_some (get0 _ _ e), if_pos (by omega)]
      have hm : ((n % 128 + 128 : Nat) : Int) % 128 = ((n % 128 : Nat) : Int) := by omega
      rw [hm]
      have hp : (0 : Int) ≤ 128 ^ i := Int.pow_nonneg (by decide)
      have hq : ((n % 128 : Nat) : Int) * 128 ^ i + ((n / 128 : Nat) : Int) * 128 ^ (i + 1) = (n : Int) * 128 ^ i := by
        rw [Int.pow_succ, Int.mul_comm (128 ^ i) 128, ← Int.mul_assoc, ← Int.add_mul]
        congr 1
        omega
      have := ih (n / 128) (by omega) (i + 1) f (acc + ((n % 128 : Nat) : Int) * 128 ^ i) xs ys (by
        have h2 : xs.drop (i + 1) = (xs.drop i).drop 1 := by rw [List.drop_drop]
        rw [h2, hd, e]
        rfl) (by omega) (Int.add_nonneg ha (Int.mul_nonneg (by omega) hp)) (by rw [Int.add_assoc, hq]; exact hb) (fun h => by omega)
      rw [this, Int.add_assoc, hq]
      congr 2
      omega
theorem rdNum_puts {n : Nat} (hn : n ≤ 9007199254740991) (ys : List Int) : rdNum (puts n ++ ys) = ((n : Int), 0, (puts n).length) := by
  have := rdN_puts n 0 8 0 (puts n ++ ys) ys (by simp) (puts_len 7 n (by omega)) (by omega) (by omega) (fun _ => rfl)
  unfold rdNum
  rw [this]
  simp
/-- Sectors that are read. -/
def rdSec : Nat → List Int → Except Int (Dat × List Int)
  | 0, xs => .ok ([], xs)
  | k + 1, xs => if xs.length < 8 then .error 10 else match rdSec k (xs.drop 8) with
    | .error e => .error e
    | .ok (l, ys) => .ok (xs.take 8 :: l, ys)
def rdSecs (xs : List Int) : Except Int (Dat × List Int) := if (rdNum xs).2.1 ≠ 0 then .error (rdNum xs).2.1 else if 65536 < (rdNum xs).1 then .error 5 else rdSec (rdNum xs).1.toNat (xs.drop (rdNum xs).2.2)
theorem rdSec_flat : ∀ {x : Dat} (_ : ∀ s ∈ x, s.length = 8) (ys : List Int), rdSec x.length (x.flatten ++ ys) = .ok (x, ys)
  | [], _, ys => rfl
  | s :: r, h, ys => by
    have hs := h s List.mem_cons_self
    rw [List.length_cons, rdSec, List.flatten_cons, List.append_assoc]
    rw [if_neg (by rw [List.length_append]; omega), List.drop_left' hs, List.take_left' hs, rdSec_flat (fun y hy => h y (List.mem_cons_of_mem _ hy))]
theorem rdSecs_put {x : Dat} (h : ∀ s ∈ x, s.length = 8) (hl : x.length ≤ 65536) (ys : List Int) : rdSecs (puts x.length ++ (x.flatten ++ ys)) = .ok (x, ys) := by
  have e := rdNum_puts (n := x.length) (by omega) (x.flatten ++ ys)
  unfold rdSecs
  rw [e]
  simp only [ne_eq, not_true_eq_false, if_false]
  rw [if_neg (by omega), Int.toNat_natCast, List.drop_left]
  exact rdSec_flat h ys
end D29
end Go.Proofs.Ytadfdpkhehdikaa


/- dedup: correct, Decode. -/
namespace Go.Proofs.Ytadfdpkhehdikaa
open Go.RowKit Go.Shelf D29
namespace D29
theorem rd_cells {own : Nat → Prop} {w : World} {α : Type} {enc : α → Value} {ad : Addr} {ys : List α} (h : Has own w (RdF enc (some ad) ys)) : ∀ (j : Nat) (u : Value), (ys.map enc)[j]? = some u → w.cell? (ad.add j) = some u := by
  intro j u hu
  rw [List.getElem?_map] at hu
  cases hy : ys[j]? with
  | none => rw [hy] at hu; cases hu
  | some y =>
    rw [hy] at hu
    injection hu with hu
    obtain ⟨b, off, e, hb, hc⟩ := h.get j y hy
    injection e with e
    subst e
    rw [add_lit, hc, hu]
/-- What Decode keeps. -/
structure DecS (cp : Int) (its : List P) (iv : Value) (eI : Ent) (E : List TE) (o : Dat) (k : Nat) : Prop where
  it : Its (ims its)
  st : StI its iv eI E
  ln : (its.length : Int) ≤ cp
  o8 : W8 o
  ob : ∀ s ∈ o, ∀ b ∈ s, 0 ≤ b ∧ b < 256
  ol : o.length ≤ k * 4096
end D29
end Go.Proofs.Ytadfdpkhehdikaa


/- slices: searches with a function in tokens, chunks and lists of sectors; searches in words. -/
namespace Go.Proofs.Ytadfdpkhehdikaa
open Go.RowKit Go.Shelf D29
namespace D29
/-- The first place at which something holds; -1 if there is none. -/
def IdxOf {α : Type} (q : α → Bool) (l : List α) (i : Int) : Prop := (i = -1 ∧ ∀ x ∈ l, q x = false) ∨ ∃ (k : Nat) (x : α), i = k ∧ l[k]? = some x ∧ q x = true ∧ ∀ y ∈ l.take k, q y = false
theorem IdxOf.any {α : Type} {q : α → Bool} {l : List α} {i : Int} (h : IdxOf q l i) : decide (0 ≤ i) = l.any q := by
  rw [Bool.eq_iff_iff, decide_eq_true_eq, List.any_eq_true]
  rcases h with ⟨rfl, h⟩ | ⟨k, x, rfl, h1, h2, h3⟩
  · constructor
    · intro h; omega
    · rintro ⟨x, hx, e⟩; rw [h x hx] at e; cases e
  · exact ⟨fun _ => ⟨x, List.mem_of_getElem? h1, h2⟩, fun _ => by omega⟩
theorem IdxOf.none {α : Type} {q : α → Bool} {l : List α} (h : ∀ x ∈ l, q x = false) : IdxOf q l (-1) := .inl ⟨rfl, h⟩
theorem IdxOf.some {α : Type} {q : α → Bool} {l : List α} {k : Nat} {x : α} (h1 : l[k]? = some x) (h2 : q x = true) (h3 : ∀ y ∈ l.take k, q y = false) : IdxOf q l k := .inr ⟨k, x, rfl, h1, h2, h3⟩
theorem pre_succ {α : Type} {q : α → Bool} {l : List α} {k : Nat} {x : α} (h : ∀ y ∈ l.take k, q y = false) (h1 : l[k]? = some x) (h2 : q x = false) : ∀ y ∈ l.take (k + 1), q y = false := by
  intro y hy
  rw [List.take_add_one, h1] at hy
  rcases List.mem_append.1 hy with hy | hy
  · exact h y hy
  · simp at hy; rw [hy]; exact h2
end D29
end Go.Proofs.Ytadfdpkhehdikaa


/- Plain law of layer 29: what is missing, when it is supplied, lets the other side decode. -/
namespace Go.Proofs.Ytadfdpkhehdikaa
namespace D29
/-- The data that are supplied for a digest: those of the first chunk that is right. -/
def supF (f : List Itm) (d : Int) : Option Dat := (f.find? fun i => decide (i.d = d) && (isCh i.x && decide (dg i.x = i.d))).map (·.x)
/-- A token that stands for a chunk. -/
def Stands (t : Tok) (x : Dat) : Prop := isCh x = true ∧ ((t.r = true ∧ t.d = dg x ∧ t.x = []) ∨ (t.r = false ∧ t.d = 0 ∧ t.x = x))
/-- Tokens that stand for chunks. -/
inductive StL : List Tok → List Dat → Prop
  | nil : StL [] []
  | cons {t x ts xs} : Stands t x → StL ts xs → StL (t :: ts) (x :: xs)
end D29
end Go.Proofs.Ytadfdpkhehdikaa


/- dedup: the digests of tokens, Missing. -/
namespace Go.Proofs.Ytadfdpkhehdikaa
open Go.RowKit Go.Shelf D29
namespace D29
/-- What a round keeps for the sequence of digests. -/
def Kd (W0 A B : World) : Prop := Below W0.heap.size A B ∧ KT W0.heap.size 34 A B
theorem Kd.refl {W0 A : World} : Kd W0 A A := ⟨Below.refl _ _, KT.refl _ _ _⟩
theorem Kd.trans {W0 A B C : World} (h : Kd W0 A B) (k : Kd W0 B C) : Kd W0 A C := ⟨h.1.trans k.1, h.2.trans k.2⟩
end D29
end Go.Proofs.Ytadfdpkhehdikaa


/- dedup: Missing. -/
namespace Go.Proofs.Ytadfdpkhehdikaa
open Go.RowKit Go.Shelf D29
namespace D29
theorem _root_.Go.Proofs.Ytadfdpkhehdikaa.Mm.rowsEq {own : Nat → Prop} {w0 w : World} {bs : List BoxE} {L L' : List Ent} {Fs : List (World → Prop)} (hM : Mm own w0 bs L Fs w) (h : L = L') : Mm own w0 bs L' Fs w := h ▸ hM
end D29
end Go.Proofs.Ytadfdpkhehdikaa


/- dedup: Supply. -/
namespace Go.Proofs.Ytadfdpkhehdikaa
open Go.RowKit Go.Shelf D29
namespace D29
def fM (d : Int) (M : List P) : Option P := M.find? fun p => decide (p.1.d = d)
def SupM (M : List P) (l : List Itm) : Prop := ∀ d, (fM d M).map (·.1.x) = supF l d
theorem SupM.none {M : List P} {l : List Itm} (h : SupM M l) {d : Int} (hd : fM d M = none) : supF l d = none := by rw [← h d, hd]; rfl
theorem SupM.some {M : List P} {l : List Itm} (h : SupM M l) {d : Int} {p : P} (hd : fM d M = some p) : supF l d = some p.1.x := by rw [← h d, hd]; rfl
end D29
end Go.Proofs.Ytadfdpkhehdikaa


/- The reference of layer 29: digests, searches, copies. -/
namespace Go.Proofs.Ytadfdpkhehdikaa
open Go.RowKit Go.Shelf D29
namespace D29
theorem take_snoc {α : Type} {l : List α} {k : Nat} {x : α} (h : l[k]? = some x) : l.take (k + 1) = l.take k ++ [x] := by rw [List.take_add_one, h]; rfl
end D29
end Go.Proofs.Ytadfdpkhehdikaa


/- The reference of layer 29: Check, Add, Find. -/
namespace Go.Proofs.Ytadfdpkhehdikaa
open Go.RowKit Go.Shelf D29
namespace D29
theorem sadr_zero (a : Option Addr) (m s : Nat) : sadr a 0 m s = a := by
  unfold sadr
  split
  · rfl
  · cases a with
    | none => rfl
    | some a => rw [Nat.zero_mul]; rfl
end D29
section
variable (cp : Int) (ps : List P) (a0 : Option Addr) (c0 n : Nat) (hn : ps.length = n) (hlen : n ≤ 100000) (hDW : DatW ps) (hpx : ∀ p ∈ ps, p.1.x.length ≤ 100000) (hc0 : n ≤ c0)
  (own : Nat → Prop) (W : World) (hl : ∀ b, own b → b < W.heap.size) (h1 : Has own W (RdF id a0 (cellsP ps))) (h2 : Has own W (DatF ps))
include hn hlen hDW hpx hc0 hl h1 h2
end
end Go.Proofs.Ytadfdpkhehdikaa


/- wire: lists of numbers. -/
namespace Go.Proofs.Ytadfdpkhehdikaa
open Go.RowKit Go.Shelf
/-- The bytes of a list. -/
def putsL (l : List Int) : List Int := puts l.length ++ (l.map fun x => puts x.toNat).flatten
/-- A list that is read. -/
def rdList : Nat → List Int → Except Int (List Int × List Int)
  | 0, xs => .ok ([], xs)
  | k + 1, xs => if (rdNum xs).2.1 ≠ 0 then .error (rdNum xs).2.1 else match rdList k (xs.drop (rdNum xs).2.2) with
    | .error e => .error e
    | .ok (l, ys) => .ok ((rdNum xs).1 :: l, ys)
def rdInts (xs : List Int) : Except Int (List Int × List Int) := if (rdNum xs).2.1 ≠ 0 then .error (rdNum xs).2.1 else if 65536 < (rdNum xs).1 then .error 5 else rdList (rdNum xs).1.toNat (xs.drop (rdNum xs).2.2)
/-- What a list gives whose first numbers are read. -/
def rdPre (done : List Int) (r : Except Int (List Int × List Int)) : Except Int (List Int × List Int) := match r with
  | .error e => .error e
  | .ok (l, ys) => .ok (done ++ l, ys)
theorem rdPre_nil (r : Except Int (List Int × List Int)) : rdPre [] r = r := by cases r <;> rfl
theorem rdList_err {k : Nat} {xs : List Int} (h : (rdNum xs).2.1 ≠ 0) : rdList (k + 1) xs = .error (rdNum xs).2.1 := by rw [rdList, if_pos h]
theorem rdList_step {k : Nat} {xs : List Int} (h : (rdNum xs).2.1 = 0) (done : List Int) : rdPre done (rdList (k + 1) xs) = rdPre (done ++ [(rdNum xs).1]) (rdList k (xs.drop (rdNum xs).2.2)) := by
  rw [rdList, if_neg (by omega)]
  cases rdList k (xs.drop (rdNum xs).2.2) with
  | error e => rfl
  | ok p => obtain ⟨l, ys⟩ := p; simp [rdPre]
theorem rdN_nn : ∀ (f i : Nat) (n : Int) (xs : List Int), (∀ x ∈ xs, 0 ≤ x ∧ x < 256) → 0 ≤ n → 0 ≤ (rdN xs f i n).1 ∧ (rdN xs f i n).1 ≤ 9007199254740991
  | 0, _, _, _, _, _ => by rw [rdN]; exact ⟨by decide, by decide⟩
  | f + 1, i, n, xs, hb, hn => by
    rw [rdN]
    split
    · exact ⟨by decide, by decide⟩
    · rename_i b hx
      have hbb := hb b (List.mem_of_getElem? hx)
      have hp : (0 : Int) ≤ b % 128 * 128 ^ i := Int.mul_nonneg (by omega) (Int.pow_nonneg (by decide))
      split
      · exact rdN_nn f (i + 1) _ xs hb (by omega)
      · split
        · exact ⟨by decide, by decide⟩
        · rename_i h
          exact ⟨by show 0 ≤ n + _; omega, by show n + _ ≤ _; omega⟩
theorem rdNum_nn {xs : List Int} (hb : ∀ x ∈ xs, 0 ≤ x ∧ x < 256) : 0 ≤ (rdNum xs).1 ∧ (rdNum xs).1 ≤ 9007199254740991 := rdN_nn 8 0 0 xs hb (Int.le_refl _)
section
variable (xs : List Int) (hxb : ∀ x ∈ xs, 0 ≤ x ∧ x < 256) (hlen : xs.length ≤ 1000000) (a0 : Option Addr) (c0 : Nat) (hc0 : xs.length ≤ c0) {own : Nat → Prop} {w0 W : World} {bs : List BoxE} {L : List Ent} {Fs : List (World → Prop)} {b : Nat} {T : TypeId} (hM : Mm own w0 (⟨b, ⟨[.slice a0 xs.length c0]⟩, T⟩ :: bs) L (RdF (Value.int .u8) a0 xs :: Fs) W)
include hxb hlen hc0 hM
set_option maxRecDepth 20000 in
theorem length_m : Calls Try.prog 142 ⟨[.pointer (some ⟨b, 0, none⟩)]⟩ W (Rtn fun u w' => u = .tuple #[.int .i64 (rdNum xs).1, .int .i64 (if (rdNum xs).2.1 ≠ 0 then (rdNum xs).2.1 else if 65536 < (rdNum xs).1 then 5 else 0)] ∧ ∃ a' c', xs.length - (rdNum xs).2.2 ≤ c' ∧ Mm own w0 (⟨b, ⟨[.slice a' (xs.length - (rdNum xs).2.2) c']⟩, T⟩ :: bs) L (RdF (Value.int .u8) a' (xs.drop (rdNum xs).2.2) :: RdF (Value.int .u8) a0 xs :: Fs) w') := by
  obtain ⟨r, hr⟩ : ∃ r, rdNum xs = r := ⟨_, rfl⟩
  have hN := number_m xs hxb hlen a0 c0 hc0 hM
  rw [hr] at hN ⊢
  obtain ⟨n, e, u⟩ := r
  dsimp only at hN ⊢
  refine f_start Try.func142 rfl Try.ntmps142 rfl rfl ?_; intro a hF
  by_cases he : e = 0
  · by_cases hn : 65536 < n
    · (repeat' (first | (with_reducible refine w_seq ?_) | (with_reducible refine c_region ?_) | (with_reducible refine s_nil ?_) | ((with_reducible apply s_callM (f := 100) hF); exact rfl; exact rfl; exact rfl; exact rfl; exact rfl; exact (hN); clear hF hM a; rintro v w a ⟨rfl, a1, c1, hcq, hM⟩ hF) | (with_reducible refine q_then_n ?_) | ((with_reducible apply s_pure hF); exact rfl; exact rfl; exact rfl; (first | exact trivial | omega | exact ⟨Int.natCast_nonneg _, Int.ofNat_lt.2 (by assumption)⟩ | decide); clear hF a; intro a hF) | (with_reducible refine w_ret ?_) | ((fail_if_success ((with_reducible refine g_known true hF ?_ ?_); focus exact rfl)); (fail_if_success ((with_reducible refine g_known false hF ?_ ?_); focus exact rfl)); (with_reducible apply g_dec hF); exact rfl; exact rfl; all_goals (clear hF; intro hc hF); all_goals (try (exfalso; omega))) | ((with_reducible apply c_dec hF); exact rfl; all_goals intro hc; all_goals (try (exfalso; omega)))))
      (apply f_ret Try.results142 hF hM; (repeat (first | exact RL.nil | (apply RL.tmp; exact rfl) | (apply RL.cell; exact rfl; (repeat (first | exact List.mem_cons_self | refine List.mem_cons_of_mem _ ?_)); exact rfl))); refine Both.mk ?_; try dsimp only [resV])
      rw [if_neg (by omega), if_pos hn]
      exact ⟨rfl, a1, c1, hcq, hM⟩
    · (repeat' (first | (with_reducible refine w_seq ?_) | (with_reducible refine c_region ?_) | (with_reducible refine s_nil ?_) | ((with_reducible apply s_callM (f := 100) hF); exact rfl; exact rfl; exact rfl; exact rfl; exact rfl; exact (hN); clear hF hM a; rintro v w a ⟨rfl, a1, c1, hcq, hM⟩ hF) | (with_reducible refine q_then_n ?_) | ((with_reducible apply s_pure hF); exact rfl; exact rfl; exact rfl; (first | exact trivial | omega | exact ⟨Int.natCast_nonneg _, Int.ofNat_lt.2 (by assumption)⟩ | decide); clear hF a; intro a hF) | (with_reducible refine w_skip ?_) | (with_reducible refine w_ret ?_) | ((fail_if_success ((with_reducible refine g_known true hF ?_ ?_); focus exact rfl)); (fail_if_success ((with_reducible refine g_known false hF ?_ ?_); focus exact rfl)); (with_reducible apply g_dec hF); exact rfl; exact rfl; all_goals (clear hF; intro hc hF); all_goals (try (exfalso; omega))) | ((with_reducible apply c_dec hF); exact rfl; all_goals intro hc; all_goals (try (exfalso; omega)))))
      (apply f_ret Try.results142 hF hM; (repeat (first | exact RL.nil | (apply RL.tmp; exact rfl) | (apply RL.cell; exact rfl; (repeat (first | exact List.mem_cons_self | refine List.mem_cons_of_mem _ ?_)); exact rfl))); refine Both.mk ?_; try dsimp only [resV])
      rw [if_neg (by omega), if_neg hn, he]
      exact ⟨rfl, a1, c1, hcq, hM⟩
  · (repeat' (first | (with_reducible refine w_seq ?_) | (with_reducible refine c_region ?_) | (with_reducible refine s_nil ?_) | ((with_reducible apply s_callM (f := 100) hF); exact rfl; exact rfl; exact rfl; exact rfl; exact rfl; exact (hN); clear hF hM a; rintro v w a ⟨rfl, a1, c1, hcq, hM⟩ hF) | (with_reducible refine q_then_n ?_) | ((with_reducible apply s_pure hF); exact rfl; exact rfl; exact rfl; (first | exact trivial | omega | exact ⟨Int.natCast_nonneg _, Int.ofNat_lt.2 (by assumption)⟩ | decide); clear hF a; intro a hF) | (with_reducible refine w_skip ?_) | (with_reducible refine w_ret ?_) | ((with_reducible apply c_false2 hF); exact rfl; (first | with_reducible rfl | (refine congrArg Value.bool ?_; focus (simp; done)))) | ((with_reducible apply s_skip hF); exact rfl; exact rfl; clear hF a; intro a hF) | ((fail_if_success ((with_reducible refine g_known true hF ?_ ?_); focus exact rfl)); (fail_if_success ((with_reducible refine g_known false hF ?_ ?_); focus exact rfl)); (with_reducible apply g_dec hF); exact rfl; exact rfl; all_goals (clear hF; intro hc hF); all_goals (try (exfalso; omega)))))
    (apply f_ret Try.results142 hF hM; (repeat (first | exact RL.nil | (apply RL.tmp; exact rfl) | (apply RL.cell; exact rfl; (repeat (first | exact List.mem_cons_self | refine List.mem_cons_of_mem _ ?_)); exact rfl))); refine Both.mk ?_; try dsimp only [resV])
    rw [if_pos he]
    exact ⟨rfl, a1, c1, hcq, hM⟩
set_option maxRecDepth 20000 in
set_option maxHeartbeats 1000000 in
theorem list_m : Calls Try.prog 128 ⟨[.pointer (some ⟨b, 0, none⟩), .func (.func 100) #[] #[]]⟩ W (Rtn fun u w' => match rdInts xs with
    | .error e => u = .tuple #[.slice none 0 0, .int .i64 e] ∧ e ≠ 0 ∧ ∃ cs' L' Fs', Mm own w0 (⟨b, cs', T⟩ :: bs) L' Fs' w'
    | .ok (l, ys) => ∃ a1 c1 a2 c2, u = .tuple #[.slice a1 l.length c1, .int .i64 0] ∧ ys.length ≤ c2 ∧ l.length ≤ 65536 ∧ (∀ y ∈ ys, 0 ≤ y ∧ y < 256) ∧ ys.length ≤ xs.length ∧ Mm own w0 (⟨b, ⟨[.slice a2 ys.length c2]⟩, T⟩ :: bs) (⟨3, 1, .slice a1 l.length c1, l.length, l.map (Value.int .i64)⟩ :: L) [RdF (Value.int .u8) a2 ys] w') := by
  refine f_start Try.func128 rfl Try.ntmps128 rfl rfl ?_; intro a hF
  obtain ⟨r, hr⟩ : ∃ r, rdNum xs = r := ⟨_, rfl⟩
  have hnn := rdNum_nn hxb
  have hL := length_m xs hxb hlen a0 c0 hc0 hM
  unfold rdInts
  rw [hr] at hL hnn ⊢
  obtain ⟨n, e, u⟩ := r
  dsimp only at hL hnn ⊢
  by_cases he : e = 0
  case neg =>
    rw [if_pos he]
    rw [if_pos he] at hL
    (repeat' (first | (with_reducible refine w_seq ?_) | (with_reducible refine c_region ?_) | (with_reducible refine s_nil ?_) | ((with_reducible apply s_callM (f := 142) hF); exact rfl; exact rfl; exact rfl; exact rfl; exact rfl; exact (hL); clear hF hM a; rintro v w a ⟨rfl, a1, c1, hcq, hM⟩ hF) | (with_reducible refine q_then_n ?_) | ((with_reducible apply s_pure hF); exact rfl; exact rfl; exact rfl; (first | exact trivial | omega | exact ⟨Int.natCast_nonneg _, Int.ofNat_lt.2 (by assumption)⟩ | decide); clear hF a; intro a hF) | (with_reducible refine w_ret ?_) | (with_reducible refine q_then_r ?_) | ((with_reducible apply c_dec hF); exact rfl; all_goals intro hc; all_goals (try (exfalso; omega)))))
    (apply f_ret Try.results128 hF hM; (repeat (first | exact RL.nil | (apply RL.tmp; exact rfl) | (apply RL.cell; exact rfl; (repeat (first | exact List.mem_cons_self | refine List.mem_cons_of_mem _ ?_)); exact rfl))); refine Both.mk ?_; try dsimp only [resV])
    exact ⟨rfl, he, _, _, _, hM⟩
  subst he
  rw [if_neg (by omega)]
  rw [if_neg (by omega)] at hL
  by_cases hn : 65536 < n
  case pos =>
    rw [if_pos hn]
    rw [if_pos hn] at hL
    (repeat' (first | (with_reducible refine w_seq ?_) | (with_reducible refine c_region ?_) | (with_reducible refine s_nil ?_) | ((with_reducible apply s_callM (f := 142) hF); exact rfl; exact rfl; exact rfl; exact rfl; exact rfl; exact (hL); clear hF hM a; rintro v w a ⟨rfl, a1, c1, hcq, hM⟩ hF) | (with_reducible refine q_then_n ?_) | ((with_reducible apply s_pure hF); exact rfl; exact rfl; exact rfl; (first | exact trivial | omega | exact ⟨Int.natCast_nonneg _, Int.ofNat_lt.2 (by assumption)⟩ | decide); clear hF a; intro a hF) | (with_reducible refine w_ret ?_) | (with_reducible refine q_then_r ?_) | ((with_reducible apply c_true2 hF); exact rfl; (first | with_reducible rfl | (refine congrArg Value.bool ?_; focus (simp; done))))))
    (apply f_ret Try.results128 hF hM; (repeat (first | exact RL.nil | (apply RL.tmp; exact rfl) | (apply RL.cell; exact rfl; (repeat (first | exact List.mem_cons_self | refine List.mem_cons_of_mem _ ?_)); exact rfl))); refine Both.mk ?_; try dsimp only [resV])
    exact ⟨rfl, by decide, _, _, _, hM⟩
  rw [if_neg hn]
  rw [if_neg hn] at hL
  obtain ⟨k, hk⟩ : ∃ k : Nat, n = k := ⟨n.toNat, by omega⟩
  subst hk
  rw [Int.toNat_natCast]
  (repeat' (first | (with_reducible refine w_seq ?_) | (with_reducible refine c_region ?_) | (with_reducible refine s_nil ?_) | ((with_reducible apply s_callM (f := 142) hF); exact rfl; exact rfl; exact rfl; exact rfl; exact rfl; exact (hL); clear hF hM a; rintro v w a ⟨rfl, a1, c1, hcq, hM⟩ hF) | (with_reducible refine q_then_n ?_) | ((with_reducible apply s_pure hF); exact rfl; exact rfl; exact rfl; (first | exact trivial | omega | exact ⟨Int.natCast_nonneg _, Int.ofNat_lt.2 (by assumption)⟩ | decide); clear hF a; intro a hF) | (with_reducible refine w_skip ?_) | (with_reducible refine w_block ?_) | ((with_reducible apply c_false2 hF); exact rfl; (first | with_reducible rfl | (refine congrArg Value.bool ?_; focus (simp; done))))))
  have hys0 : (xs.drop u).length = xs.length - u := List.length_drop
  rw [← hys0] at hM hcq
  replace hM := hM.nilRow 3 1
  have hyl0 : (xs.drop u).length ≤ xs.length := by omega
  have hyb0 : ∀ y ∈ xs.drop u, 0 ≤ y ∧ y < 256 := fun y hy => hxb y (List.mem_of_mem_drop hy)
  generalize xs.drop u = zs at *
  refine c_loop (m := k) (fun m a w' => ∃ (i : Nat) (ys done : List Int) (a2 : Option Addr) (c2 : Nat) (rv : Value), m + i = k ∧ rdList k zs = rdPre done (rdList m ys) ∧ done.length = i ∧ ys.length ≤ c2 ∧ ys.length ≤ xs.length ∧ (∀ y ∈ ys, 0 ≤ y ∧ y < 256) ∧
    Fr 37 [] [(20, .int .i64 i), (19, .int .i64 k), (8, rv), (0, .pointer (some ⟨b, 0, none⟩)), (1, .func (.func 100) #[] #[])] a ∧
    Mm own w0 (⟨b, ⟨[.slice a2 ys.length c2]⟩, T⟩ :: bs) (⟨3, 1, rv, i, done.map (Value.int .i64)⟩ :: L) [RdF (Value.int .u8) a2 ys] w')
    ⟨0, zs, [], a1, c1, _, by omega, (rdPre_nil _).symm, rfl, hcq, hyl0, hyb0, hF.sub (by repeat (first | exact Sub.nil | refine Sub.cons rfl (by first | with_reducible rfl | (refine congrArg (Value.int _) ?_; omega) | exact rfl) ?_)), hM.sub (.refl _) (.refl _) (by intro f hf; simp only [List.mem_cons, List.not_mem_nil, or_false] at hf; (repeat (rcases hf with rfl | hf; · (repeat (first | exact List.mem_cons_self | refine List.mem_cons_of_mem _ ?_)))); first | (subst hf; (repeat (first | exact List.mem_cons_self | refine List.mem_cons_of_mem _ ?_)); done) | (repeat (first | exact hf | refine List.mem_cons_of_mem _ ?_)))⟩ ?_
  clear hF hM a
  rintro m a w' ⟨i, ys, done, a2, c2, rv, hm, hrd, hdl, hyc, hyl, hyb, hF, hM⟩
  by_cases hi : i < k
  · obtain ⟨m, rfl⟩ : ∃ q, m = q + 1 := ⟨m - 1, by omega⟩
    have hN := number_m ys hyb (by omega) a2 c2 hyc hM
    have hyn := rdNum_nn hyb
    by_cases hye : (rdNum ys).2.1 = 0
    · rw [rdList_step hye] at hrd
      rw [hye] at hN
      generalize (rdNum ys).1 = q1 at *
      have hdr : (ys.drop (rdNum ys).2.2).length = ys.length - (rdNum ys).2.2 := List.length_drop
      have hyb2 : ∀ y ∈ ys.drop (rdNum ys).2.2, 0 ≤ y ∧ y < 256 := fun y hy => hyb y (List.mem_of_mem_drop hy)
      rw [← hdr] at hN
      generalize ys.drop (rdNum ys).2.2 = ys2 at *
      generalize (rdNum ys).2.2 = u2 at *
      (repeat' (first | (with_reducible refine w_seq ?_) | (with_reducible refine c_region ?_) | (with_reducible refine s_nil ?_) | ((with_reducible apply s_callcM (f := 100) hF); exact rfl; exact rfl; exact rfl; exact rfl; exact rfl; exact rfl; exact rfl; exact (hN); clear hF hM a; rintro v w a ⟨rfl, a3, c3, hcq3, hM⟩ hF) | (with_reducible refine q_then_n ?_) | ((with_reducible apply s_pure hF); exact rfl; exact rfl; exact rfl; (first | exact trivial | omega | exact ⟨Int.natCast_nonneg _, Int.ofNat_lt.2 (by assumption)⟩ | decide); clear hF a; intro a hF) | ((with_reducible apply s_lit hF hM); exact rfl; exact rfl; exact rfl; exact rfl; clear hF hM a; intro bl w a hM hF) | ((with_reducible apply s_app hF hM); exact rfl; exact rfl; exact rfl; exact rfl; (repeat (first | exact Kth.z | apply Kth.s)); exact rfl; exact rfl; exact rfl; exact rfl; omega; clear hF hM a; intro g cap w a hM hF; dsimp only [List.set] at hM) | (with_reducible refine w_skip ?_) | (with_reducible refine w_block ?_) | (with_reducible refine q_blk_n ?_) | ((with_reducible apply c_false2 hF); exact rfl; (first | with_reducible rfl | (refine congrArg Value.bool ?_; focus (simp; done)))) | ((with_reducible apply c_dec hF); exact rfl; all_goals intro hc; all_goals (try (exfalso; omega)))))
      have e1 : (done ++ [q1]).map (Value.int .i64) = done.map (Value.int .i64) ++ [.int .i64 q1] := by rw [List.map_append]; rfl
      refine ⟨m, by omega, i + 1, ys2, done ++ [q1], a3, c3, _, by omega, hrd, by simp [hdl], hcq3, by omega, hyb2, hF.sub (by repeat (first | exact Sub.nil | refine Sub.cons rfl (by first | with_reducible rfl | (refine congrArg (Value.int _) ?_; omega) | exact rfl) ?_)), ?_⟩
      rw [e1]
      exact hM.sub (.refl _) (.refl _) (by intro f hf; simp only [List.mem_cons, List.not_mem_nil, or_false] at hf; (repeat (rcases hf with rfl | hf; · (repeat (first | exact List.mem_cons_self | refine List.mem_cons_of_mem _ ?_)))); first | (subst hf; (repeat (first | exact List.mem_cons_self | refine List.mem_cons_of_mem _ ?_)); done) | (repeat (first | exact hf | refine List.mem_cons_of_mem _ ?_)))
    · rw [rdList_err hye] at hrd
      rw [hrd]
      generalize (rdNum ys).2.1 = e1 at *
      generalize (rdNum ys).1 = q1 at *
      (repeat' (first | (with_reducible refine w_seq ?_) | (with_reducible refine c_region ?_) | (with_reducible refine s_nil ?_) | ((with_reducible apply s_callcM (f := 100) hF); exact rfl; exact rfl; exact rfl; exact rfl; exact rfl; exact rfl; exact rfl; exact (hN); clear hF hM a; rintro v w a ⟨rfl, a3, c3, hcq3, hM⟩ hF) | (with_reducible refine q_then_n ?_) | ((with_reducible apply s_pure hF); exact rfl; exact rfl; exact rfl; (first | exact trivial | omega | exact ⟨Int.natCast_nonneg _, Int.ofNat_lt.2 (by assumption)⟩ | decide); clear hF a; intro a hF) | (with_reducible refine w_skip ?_) | (with_reducible refine w_block ?_) | (with_reducible refine w_ret ?_) | (with_reducible refine q_then_r ?_) | (with_reducible refine q_blk_r ?_) | ((with_reducible apply c_dec hF); exact rfl; all_goals intro hc; all_goals (try (exfalso; omega)))))
      (apply f_ret Try.results128 hF hM; (repeat (first | exact RL.nil | (apply RL.tmp; exact rfl) | (apply RL.cell; exact rfl; (repeat (first | exact List.mem_cons_self | refine List.mem_cons_of_mem _ ?_)); exact rfl))); refine Both.mk ?_; try dsimp only [resV])
      exact ⟨rfl, hye, _, _, _, hM⟩
  · obtain rfl : i = k := by omega
    obtain rfl : m = 0 := by omega
    rw [hrd]
    obtain ⟨a', c', rfl, hcap, _⟩ := OffR.shape hM (k := 0) rfl (OffR.plain hM List.mem_cons_self)
    (repeat' (first | (with_reducible refine w_seq ?_) | (with_reducible refine c_region ?_) | (with_reducible refine s_nil ?_) | (with_reducible refine q_then_n ?_) | ((with_reducible apply s_pure hF); exact rfl; exact rfl; exact rfl; (first | exact trivial | omega | exact ⟨Int.natCast_nonneg _, Int.ofNat_lt.2 (by assumption)⟩ | decide); clear hF a; intro a hF) | (with_reducible refine w_exit ?_) | (with_reducible refine w_ret ?_) | (with_reducible refine q_then_x ?_) | (with_reducible refine q_blk_x ?_) | ((with_reducible apply c_false2 hF); exact rfl; (first | with_reducible rfl | (refine congrArg Value.bool ?_; focus (simp; done))))))
    (apply f_ret Try.results128 hF hM; (repeat (first | exact RL.nil | (apply RL.tmp; exact rfl) | (apply RL.cell; exact rfl; (repeat (first | exact List.mem_cons_self | refine List.mem_cons_of_mem _ ?_)); exact rfl))); refine Both.mk ?_; try dsimp only [resV])
    subst hdl
    refine ⟨a', c', a2, c2, ?_, hyc, ?_, hyb, hyl, ?_⟩
    · simp
    · simp; omega
    · simpa using hM
end
end Go.Proofs.Ytadfdpkhehdikaa


/- wire: PutInts, Ints. -/
namespace Go.Proofs.Ytadfdpkhehdikaa
open Go.RowKit Go.Shelf
/-- A row that was handed over, as a fact. -/
theorem Owns.fact {α : Type} {enc : α → Value} {own : Nat → Prop} {w : World} {base : Nat} {e : TypeId} {a : Option Addr} {n c : Nat} {xs : List α} (hO : Owns w base [⟨e, 1, .slice a n c, n, xs.map enc⟩]) (hl : ∀ b, own b → b < base) : Has own w (RdF enc a xs) ∧ n ≤ c := by
  have ho : w.ownsRow base e 1 (.slice a n c) n (xs.map enc) := hO.own _ List.mem_cons_self
  refine ⟨RdF.has (own_reads ho) ?_, ?_⟩
  · rintro ad rfl hn
    have h1 := (hO.lt List.mem_cons_self ad.block rfl).1
    have := hl _ hn
    omega
  · rcases ho.2 with ⟨h1, h2⟩ | ⟨g, cap, cur, h1, _, _, h3, _⟩
    · omega
    · injection h1 with _ _ h1
      omega
theorem row_capC {own : Nat → Prop} {w w0 : World} {bs : List BoxE} {L : List Ent} {Fs : List (World → Prop)} {e : TypeId} {size k c : Nat} {ao : Option Addr} {xs : List Value} (hM : Mm own w0 bs L Fs w) {i : Nat} (h : L[i]? = some ⟨e, size, .slice ao k c, k, xs⟩) : k ≤ c := by
  obtain ⟨ao', c', e1, h1, _⟩ := OffR.shape hM h (OffR.plain hM (List.mem_of_getElem? h))
  injection e1 with e1 _ e2
  subst e1 e2
  exact h1
section
variable (xs : List Int) (hxb : ∀ x ∈ xs, 0 ≤ x ∧ x < 256) (hlen : xs.length ≤ 1000000) (a0 : Option Addr) (c0 : Nat) (hc0 : xs.length ≤ c0)
include hxb hlen hc0
section
variable {own : Nat → Prop} {w0 W : World} {bs : List BoxE} {L : List Ent} {Fs : List (World → Prop)} {b : Nat} {T : TypeId} (hM : Mm own w0 (⟨b, ⟨[.slice a0 xs.length c0]⟩, T⟩ :: bs) L (RdF (Value.int .u8) a0 xs :: Fs) W)
include hM
set_option maxRecDepth 20000 in
theorem ints1_ok {l ys : List Int} (h : rdInts xs = .ok (l, ys)) : Calls Try.prog 127 ⟨[.pointer (some ⟨b, 0, none⟩)]⟩ W (Rtn fun u w' => ∃ a1 c1 a2 c2, u = .tuple #[.slice a1 l.length c1, .int .i64 0] ∧ ys.length ≤ c2 ∧ l.length ≤ 65536 ∧ (∀ y ∈ ys, 0 ≤ y ∧ y < 256) ∧ ys.length ≤ xs.length ∧ Mm own w0 (⟨b, ⟨[.slice a2 ys.length c2]⟩, T⟩ :: bs) (⟨3, 1, .slice a1 l.length c1, l.length, l.map (Value.int .i64)⟩ :: L) [RdF (Value.int .u8) a2 ys] w') := by
  have hL := list_m xs hxb hlen a0 c0 hc0 hM
  rw [h] at hL
  refine f_start Try.func127 rfl Try.ntmps127 rfl rfl ?_; intro a hF
  (repeat' (first | (with_reducible refine w_seq ?_) | (with_reducible refine c_region ?_) | (with_reducible refine s_nil ?_) | ((with_reducible apply s_callM (f := 128) hF); exact rfl; exact rfl; exact rfl; exact rfl; exact rfl; exact (hL); clear hF hM a; rintro v w a ⟨a1, c1, a2, c2, rfl, h1, h2, h3, h4, hM⟩ hF) | (with_reducible refine q_then_n ?_) | ((with_reducible apply s_pure hF); exact rfl; exact rfl; exact rfl; (first | exact trivial | omega | exact ⟨Int.natCast_nonneg _, Int.ofNat_lt.2 (by assumption)⟩ | decide); clear hF a; intro a hF) | (with_reducible refine w_ret ?_)))
  (apply f_ret Try.results127 hF hM; (repeat (first | exact RL.nil | (apply RL.tmp; exact rfl) | (apply RL.cell; exact rfl; (repeat (first | exact List.mem_cons_self | refine List.mem_cons_of_mem _ ?_)); exact rfl))); refine Both.mk ?_; try dsimp only [resV])
  exact ⟨a1, c1, a2, c2, rfl, h1, h2, h3, h4, hM⟩
end
variable (own : Nat → Prop) (W : World) (hl : ∀ b, own b → b < W.heap.size) (hv : Has own W (RdF (Value.int .u8) a0 xs))
include hl hv
set_option maxRecDepth 20000 in
theorem Ints_ok {l ys : List Int} (h : rdInts xs = .ok (l, ys)) : Calls Try.prog 108 ⟨[.slice a0 xs.length c0]⟩ W (Ret W fun v w' => ∃ a1 c1 a2 c2, v = .tuple #[.slice a1 l.length c1, .slice a2 ys.length c2, .int .i64 0] ∧ Has own w' (RdF (Value.int .i64) a1 l) ∧ Has own w' (RdF (Value.int .u8) a2 ys) ∧ l.length ≤ c1 ∧ ys.length ≤ c2 ∧ l.length ≤ 65536 ∧ (∀ y ∈ ys, 0 ≤ y ∧ y < 256) ∧ ys.length ≤ xs.length) := by
  have hR : ∀ (own : Nat → Prop) (W : World) (_ : ∀ b, own b → b < W.heap.size) (_ : Has own W (RdF (Value.int .u8) a0 xs)), Calls Try.prog 126 ⟨[.slice a0 xs.length c0, .func (.func 127) #[] #[]]⟩ W (Ret W fun v w' => ∃ a1 c1 a2 c2, v = .tuple #[.slice a1 l.length c1, .slice a2 ys.length c2, .int .i64 0] ∧ Has own w' (RdF (Value.int .i64) a1 l) ∧ Has own w' (RdF (Value.int .u8) a2 ys) ∧ l.length ≤ c1 ∧ ys.length ≤ c2 ∧ l.length ≤ 65536 ∧ (∀ y ∈ ys, 0 ≤ y ∧ y < 256) ∧ ys.length ≤ xs.length) := by
    intro own W hl hv
    have hM := (Mm.start hl).known hv
    refine f_start Try.func126 rfl Try.ntmps126 rfl rfl ?_; intro a hF
    (repeat' (first | (with_reducible refine w_seq ?_) | (with_reducible refine c_region ?_) | (with_reducible refine s_nil ?_) | ((with_reducible apply s_callcM (f := 127) hF); exact rfl; exact rfl; exact rfl; exact rfl; exact rfl; exact rfl; exact rfl; exact (ints1_ok xs hxb hlen a0 c0 hc0 hM h); clear hF hM a; rintro v w a ⟨a1, c1, a2, c2, rfl, h1, h2, h3, h4, hM⟩ hF) | ((with_reducible apply s_callO (f := 68) hF); exact rfl; exact rfl; exact rfl; exact rfl; exact rfl; exact (cloneB_z a2 c2 ys _ rfl _ _ hM.lt (hM.facts _ (by (repeat (first | exact List.mem_cons_self | refine List.mem_cons_of_mem _ ?_)))) (by omega)); clear hF a; rintro v wn a ⟨a3, c3, rfl, hO⟩ hS hF; replace hM := hM.addRows hS hO; clear hS hO; dsimp only [List.cons_append, List.nil_append] at hM) | (with_reducible refine q_then_n ?_) | ((with_reducible apply s_pure hF); exact rfl; exact rfl; exact rfl; (first | exact trivial | omega | exact ⟨Int.natCast_nonneg _, Int.ofNat_lt.2 (by assumption)⟩ | decide); clear hF a; intro a hF) | ((with_reducible apply s_load hF hM); exact rfl; exact rfl; (repeat (first | exact List.mem_cons_self | refine List.mem_cons_of_mem _ ?_)); exact rfl; exact rfl; clear hF a; intro a hF) | ((with_reducible apply s_box hF hM); exact rfl; exact rfl; exact rfl; exact rfl; clear hF hM a; intro b w a hM hF) | (with_reducible refine w_skip ?_) | (with_reducible refine w_ret ?_) | ((with_reducible apply c_false2 hF); exact rfl; (first | with_reducible rfl | (refine congrArg Value.bool ?_; focus (simp; done))))))
    (apply f_ret Try.results126 hF hM; (repeat (first | exact RL.nil | (apply RL.tmp; exact rfl) | (apply RL.cell; exact rfl; (repeat (first | exact List.mem_cons_self | refine List.mem_cons_of_mem _ ?_)); exact rfl))); refine Ret.mk hM.since ?_; dsimp only [resV])
    exact ⟨a1, c1, a3, c3, rfl, hM.rowFact (List.mem_cons_of_mem _ List.mem_cons_self), hM.rowFact List.mem_cons_self, row_capC hM (i := 1) rfl, row_capC hM (i := 0) rfl, h2, h3, h4⟩
  have hM := (Mm.start hl).known hv
  refine f_start Try.func108 rfl Try.ntmps108 rfl rfl ?_; intro a hF
  (repeat' (first | (with_reducible refine w_seq ?_) | (with_reducible refine c_region ?_) | (with_reducible refine s_nil ?_) | ((with_reducible apply s_call (f := 126) hF hM); exact rfl; exact rfl; exact rfl; exact rfl; exact rfl; exact (hR _ _ hM.lt (hM.facts _ (by (repeat (first | exact List.mem_cons_self | refine List.mem_cons_of_mem _ ?_))))); clear hF hM a; rintro v w a ⟨a1, c1, a2, c2, rfl, h1, h2, h3⟩ - hM hF) | (with_reducible refine q_then_n ?_) | ((with_reducible apply s_pure hF); exact rfl; exact rfl; exact rfl; (first | exact trivial | omega | exact ⟨Int.natCast_nonneg _, Int.ofNat_lt.2 (by assumption)⟩ | decide); clear hF a; intro a hF) | (with_reducible refine w_ret ?_)))
  (apply f_ret Try.results108 hF hM; (repeat (first | exact RL.nil | (apply RL.tmp; exact rfl) | (apply RL.cell; exact rfl; (repeat (first | exact List.mem_cons_self | refine List.mem_cons_of_mem _ ?_)); exact rfl))); refine Ret.mk hM.since ?_; dsimp only [resV])
  exact ⟨a1, c1, a2, c2, rfl, h1.own_eq (fun _ h => .inl h), h2.own_eq (fun _ h => .inl h), h3⟩
end
theorem take_snoc' {l : List Int} {k : Nat} {x : Int} (h : l[k]? = some x) : l.take (k + 1) = l.take k ++ [x] := by
  rw [List.take_add_one, h]; rfl
theorem putsL_step {l : List Int} {k : Nat} {x : Int} (h : l[k]? = some x) : ((l.take (k + 1)).map fun x => puts x.toNat).flatten = ((l.take k).map fun x => puts x.toNat).flatten ++ puts x.toNat := by
  rw [take_snoc' h]
  simp
theorem puts_len8 {n : Nat} (h : n ≤ 9007199254740991) : (puts n).length ≤ 8 := puts_len 7 n (by omega)
theorem flat_len8 : ∀ {l : List Int} (_ : ∀ x ∈ l, 0 ≤ x ∧ x ≤ 9007199254740991), ((l.map fun x => puts x.toNat).flatten).length ≤ 8 * l.length
  | [], _ => by simp
  | x :: l, h => by
    have h1 := puts_len8 (n := x.toNat) (by have := h x List.mem_cons_self; omega)
    have h2 := flat_len8 (l := l) fun y hy => h y (List.mem_cons_of_mem _ hy)
    simp only [List.map_cons, List.flatten_cons, List.length_append, List.length_cons]
    omega
set_option maxRecDepth 20000 in
set_option maxHeartbeats 1000000 in
theorem PutInts_c (l : List Int) (hb : ∀ x ∈ l, 0 ≤ x ∧ x ≤ 9007199254740991) (hl6 : l.length ≤ 1000000) (ys : List Int) (hy : ys.length ≤ 1000000000) (a0 a1 : Option Addr) (m c0 c1 : Nat) (hm : ys.length = m) (own : Nat → Prop) (W : World) (hl : ∀ b, own b → b < W.heap.size) (hv : Has own W (RdF (Value.int .u8) a0 ys)) (hu : Has own W (RdF (Value.int .i64) a1 l)) :
    Calls Try.prog 57 ⟨[.slice a0 m c0, .slice a1 l.length c1]⟩ W (Ret W fun v w' => ∃ a' c', v = .slice a' (m + (putsL l).length) c' ∧ Has own w' (RdF (Value.int .u8) a' (ys ++ putsL l)) ∧ m + (putsL l).length ≤ c') := by
  have hP : ∀ {own : Nat → Prop} {w0 W : World} {L : List Ent} (v : Value) (_ : Mm own w0 [] (⟨5, 1, v, m, ys.map (Value.int .u8)⟩ :: L) [RdF (Value.int .i64) a1 l, RdF (Value.int .u8) a0 ys] W), Calls Try.prog 96 ⟨[v, .slice a1 l.length c1, .func (.func 93) #[] #[]]⟩ W (Rtn fun u w' => ∃ a' c', u = .slice a' (m + (putsL l).length) c' ∧ Mm own w0 [] (⟨5, 1, .slice a' (m + (putsL l).length) c', m + (putsL l).length, (ys ++ putsL l).map (Value.int .u8)⟩ :: L) [RdF (Value.int .i64) a1 l, RdF (Value.int .u8) a0 ys] w') := by
    clear hl hv hu own W
    intro own w0 W L v hM
    have hp0 := puts_len8 (n := l.length) (by omega)
    refine f_start Try.func96 rfl Try.ntmps96 rfl rfl ?_; intro a hF
    (repeat' (first | (with_reducible refine w_seq ?_) | (with_reducible refine c_region ?_) | (with_reducible refine s_nil ?_) | ((with_reducible apply s_callM (f := 93) hF); exact rfl; exact rfl; exact rfl; exact rfl; exact rfl; exact (putInt_m l.length (by omega) hM .z (by omega)); clear hF hM a; rintro v w a ⟨a2, c2, rfl, hM⟩ hF; dsimp only [List.set] at hM) | (with_reducible refine q_then_n ?_) | ((with_reducible apply s_pure hF); exact rfl; exact rfl; exact rfl; (first | exact trivial | omega | exact ⟨Int.natCast_nonneg _, Int.ofNat_lt.2 (by assumption)⟩ | decide); clear hF a; intro a hF) | (with_reducible refine w_block ?_)))
    refine c_loop (m := l.length) (fun z a w' => ∃ (k : Nat) (q : Nat) (a2 : Option Addr) (c2 : Nat), z + k = l.length ∧ q = (puts l.length ++ ((l.take k).map fun x => puts x.toNat).flatten).length ∧ q ≤ 8 + 8 * k ∧
      Fr 25 [] [(15, .int .i64 k), (14, .int .i64 l.length), (13, .slice a1 l.length c1), (0, .slice a2 (m + q) c2), (2, .func (.func 93) #[] #[])] a ∧
      Mm own w0 [] (⟨5, 1, .slice a2 (m + q) c2, m + q, (ys ++ (puts l.length ++ ((l.take k).map fun x => puts x.toNat).flatten)).map (Value.int .u8)⟩ :: L) [RdF (Value.int .i64) a1 l, RdF (Value.int .u8) a0 ys] w')
      ⟨0, (puts l.length).length, a2, c2, by omega, by simp, by omega, hF.sub (by repeat (first | exact Sub.nil | refine Sub.cons rfl (by first | with_reducible rfl | (refine congrArg (Value.int _) ?_; omega) | exact rfl) ?_)), by simpa using hM⟩ ?_
    clear hF hM a
    rintro z a w' ⟨k, q, a2, c2, hz, hq, hq8, hF, hM⟩
    by_cases hk : k < l.length
    · obtain ⟨x, hx⟩ := get_of_lt hk
      obtain ⟨ad, rfl⟩ := rd_some hM (a := a1) (by (repeat (first | exact List.mem_cons_self | refine List.mem_cons_of_mem _ ?_))) hx
      have hxb := hb x (List.mem_of_getElem? hx)
      have hp := puts_len8 (n := x.toNat) (by omega)
      obtain ⟨xn, hxn⟩ : ∃ xn : Nat, x = xn := ⟨x.toNat, by omega⟩
      subst hxn
      (repeat' (first | (with_reducible refine w_seq ?_) | (with_reducible refine c_region ?_) | (with_reducible refine s_nil ?_) | ((with_reducible apply s_callcM (f := 93) hF); exact rfl; exact rfl; exact rfl; exact rfl; exact rfl; exact rfl; exact rfl; exact (putInt_m xn (by omega) hM .z (by omega)); clear hF hM a; rintro v w a ⟨a3, c3, rfl, hM⟩ hF; dsimp only [List.set] at hM) | (with_reducible refine q_then_n ?_) | ((with_reducible apply s_pure hF); exact rfl; exact rfl; exact rfl; (first | exact trivial | omega | exact ⟨Int.natCast_nonneg _, Int.ofNat_lt.2 (by assumption)⟩ | decide); clear hF a; intro a hF) | ((with_reducible apply s_loadF hF hM); exact rfl; exact rfl; (repeat (first | exact List.mem_cons_self | refine List.mem_cons_of_mem _ ?_)); exact rfl; exact rfl; (first | with_reducible assumption | (simp only [Int.toNat_natCast]; with_reducible assumption)); clear hF a; intro a hF) | (with_reducible refine w_skip ?_) | (with_reducible refine w_block ?_) | (with_reducible refine q_blk_n ?_) | ((with_reducible apply c_dec hF); exact rfl; all_goals intro hc; all_goals (try (exfalso; omega)))))
      have hst := putsL_step hx
      rw [Int.toNat_natCast] at hst
      rw [Nat.add_assoc] at hF
      refine ⟨z - 1, by omega, k + 1, q + (puts xn).length, a3, c3, by omega, ?_, ?_, hF.sub (by repeat (first | exact Sub.nil | refine Sub.cons rfl (by first | with_reducible rfl | (refine congrArg (Value.int _) ?_; omega) | exact rfl) ?_)), ?_⟩
      · rw [hst, hq]; simp; omega
      · rw [Int.toNat_natCast] at hp; omega
      · rw [hst]
        rw [← List.map_append, Nat.add_assoc] at hM
        simpa using hM
    · obtain rfl : k = l.length := by omega
      (repeat' (first | (with_reducible refine w_seq ?_) | (with_reducible refine c_region ?_) | (with_reducible refine s_nil ?_) | (with_reducible refine q_then_n ?_) | ((with_reducible apply s_pure hF); exact rfl; exact rfl; exact rfl; (first | exact trivial | omega | exact ⟨Int.natCast_nonneg _, Int.ofNat_lt.2 (by assumption)⟩ | decide); clear hF a; intro a hF) | (with_reducible refine w_exit ?_) | (with_reducible refine w_ret ?_) | (with_reducible refine q_then_x ?_) | (with_reducible refine q_blk_x ?_) | ((with_reducible apply c_false2 hF); exact rfl; (first | with_reducible rfl | (refine congrArg Value.bool ?_; focus (simp; done))))))
      (apply f_ret Try.results96 hF hM; (repeat (first | exact RL.nil | (apply RL.tmp; exact rfl) | (apply RL.cell; exact rfl; (repeat (first | exact List.mem_cons_self | refine List.mem_cons_of_mem _ ?_)); exact rfl))); refine Both.mk ?_; try dsimp only [resV])
      rw [List.take_of_length_le (Nat.le_refl _)] at hq hM
      have e : puts l.length ++ (l.map fun x => puts x.toNat).flatten = putsL l := rfl
      rw [e] at hq hM
      subst hq
      exact ⟨a2, c2, rfl, hM⟩
  have hM := ((Mm.start hl).known hv).known hu
  refine f_start Try.func57 rfl Try.ntmps57 rfl rfl ?_; intro a hF
  (repeat' (first | (with_reducible refine w_seq ?_) | (with_reducible refine c_region ?_) | (with_reducible refine s_nil ?_) | ((with_reducible apply s_callO (f := 68) hF); exact rfl; exact rfl; exact rfl; exact rfl; exact rfl; exact (cloneB_z a0 c0 ys m hm _ _ hM.lt (hM.facts (RdF (Value.int .u8) a0 ys) (by (repeat (first | exact List.mem_cons_self | refine List.mem_cons_of_mem _ ?_)))) (by omega)); clear hF a; rintro v wn a ⟨a2, c2, rfl, hO⟩ hS hF; replace hM := hM.addRows hS hO; clear hS hO; dsimp only [List.cons_append, List.nil_append] at hM) | ((with_reducible apply s_callM (f := 96) hF); exact rfl; exact rfl; exact rfl; exact rfl; exact rfl; exact (hP _ hM); clear hF hM a; rintro v w a ⟨a3, c3, rfl, hM⟩ hF) | (with_reducible refine q_then_n ?_) | ((with_reducible apply s_pure hF); exact rfl; exact rfl; exact rfl; (first | exact trivial | omega | exact ⟨Int.natCast_nonneg _, Int.ofNat_lt.2 (by assumption)⟩ | decide); clear hF a; intro a hF) | (with_reducible refine w_ret ?_)))
  (apply f_ret Try.results57 hF hM; (repeat (first | exact RL.nil | (apply RL.tmp; exact rfl) | (apply RL.cell; exact rfl; (repeat (first | exact List.mem_cons_self | refine List.mem_cons_of_mem _ ?_)); exact rfl))); refine Ret.mk hM.since ?_; dsimp only [resV])
  exact ⟨a3, c3, rfl, hM.rowFact List.mem_cons_self, row_capC hM (i := 0) rfl⟩
end Go.Proofs.Ytadfdpkhehdikaa


/- The reference's numbers. -/
namespace Go.Proofs.Ytadfdpkhehdikaa
open Go.RowKit Go.Shelf
theorem RdF.take {α : Type} {enc : α → Value} {own : Nat → Prop} {w : World} {a : Option Addr} {xs : List α} (h : Has own w (RdF enc a xs)) (k : Nat) : Has own w (RdF enc a (xs.take k)) := by
  refine h.imp fun w h j x hx => h j x ?_
  rw [List.getElem?_take] at hx
  split at hx
  · exact hx
  · cases hx
end Go.Proofs.Ytadfdpkhehdikaa


/- wire: sectors are put and read. -/
namespace Go.Proofs.Ytadfdpkhehdikaa
open Go.RowKit Go.Shelf D29
theorem rdNum_nnT {xs : List Int} (hb : ∀ x ∈ xs, 0 ≤ x ∧ x < 256) : 0 ≤ (rdNum xs).1 ∧ (rdNum xs).1 ≤ 9007199254740991 := by
  have key : ∀ (f i : Nat) (n : Int) (xs : List Int), (∀ x ∈ xs, 0 ≤ x ∧ x < 256) → 0 ≤ n → 0 ≤ (rdN xs f i n).1 ∧ (rdN xs f i n).1 ≤ 9007199254740991 := by
    intro f
    induction f with
    | zero => intro i n xs _ _; rw [rdN]; exact ⟨by decide, by decide⟩
    | succ f ih =>
      intro i n xs hb hn
      rw [rdN]
      split
      · exact ⟨by decide, by decide⟩
      · rename_i b hx
        have hbb := hb b (List.mem_of_getElem? hx)
        have hp : (0 : Int) ≤ b % 128 * 128 ^ i := Int.mul_nonneg (by omega) (Int.pow_nonneg (by decide))
        split
        · exact ih (i + 1) _ xs hb (by omega)
        · split
          · exact ⟨by decide, by decide⟩
          · rename_i h
            exact ⟨by show 0 ≤ n + _; omega, by show n + _ ≤ _; omega⟩
  exact key 8 0 0 xs hb (Int.le_refl _)
namespace D29
/-- Sectors that are read behind others. -/
def secPre (done : Dat) (r : Except Int (Dat × List Int)) : Except Int (Dat × List Int) := match r with
  | .error e => .error e
  | .ok (l, ys) => .ok (done ++ l, ys)
theorem secPre_nil (r : Except Int (Dat × List Int)) : secPre [] r = r := by cases r <;> rfl
theorem secPre_step {k : Nat} {xs : List Int} (h : ¬ xs.length < 8) (done : Dat) : secPre done (rdSec (k + 1) xs) = secPre (done ++ [xs.take 8]) (rdSec k (xs.drop 8)) := by
  rw [rdSec, if_neg h]
  cases rdSec k (xs.drop 8) with
  | error e => rfl
  | ok p => obtain ⟨l, ys⟩ := p; simp [secPre]
end D29
section
variable (xs : List Int) (hxb : ∀ x ∈ xs, 0 ≤ x ∧ x < 256) (hlen : xs.length ≤ 1000000) (a0 : Option Addr) (c0 n : Nat) (hn : xs.length = n) (hc0 : n ≤ c0) {own : Nat → Prop} {w0 W : World} {bs : List BoxE} {L : List Ent} {Fs : List (World → Prop)} {b : Nat} {T : TypeId} (hM : Mm own w0 (⟨b, ⟨[.slice a0 n c0]⟩, T⟩ :: bs) L (RdF (Value.int .u8) a0 xs :: Fs) W)
include hxb hlen hn hc0 hM
set_option maxRecDepth 20000 in
theorem bytes_bad (h8 : n < 8) : Calls Try.prog 147 ⟨[.pointer (some ⟨b, 0, none⟩), .int .i64 8]⟩ W (Rtn fun u w' => u = .tuple #[.slice none 0 0, .int .i64 10] ∧ Mm own w0 (⟨b, ⟨[.slice a0 n c0]⟩, T⟩ :: bs) L (RdF (Value.int .u8) a0 xs :: Fs) w') := by
  refine f_start Try.func147 rfl Try.ntmps147 rfl rfl ?_; intro a hF
  (repeat' (first | (with_reducible refine w_seq ?_) | (with_reducible refine c_region ?_) | (with_reducible refine s_nil ?_) | (with_reducible refine q_then_n ?_) | ((with_reducible apply s_pure hF); exact rfl; exact rfl; exact rfl; (first | exact trivial | omega | exact ⟨Int.natCast_nonneg _, Int.ofNat_lt.2 (by assumption)⟩ | decide); clear hF a; intro a hF) | ((with_reducible apply s_load hF hM); exact rfl; exact rfl; (repeat (first | exact List.mem_cons_self | refine List.mem_cons_of_mem _ ?_)); exact rfl; exact rfl; clear hF a; intro a hF) | (with_reducible refine w_ret ?_) | (with_reducible refine q_then_r ?_) | ((with_reducible apply c_dec hF); exact rfl; all_goals intro hc; all_goals (try (exfalso; omega)))))
  (apply f_ret Try.results147 hF hM; (repeat (first | exact RL.nil | (apply RL.tmp; exact rfl) | (apply RL.cell; exact rfl; (repeat (first | exact List.mem_cons_self | refine List.mem_cons_of_mem _ ?_)); exact rfl))); refine Both.mk ?_; try dsimp only [resV])
  exact ⟨rfl, hM⟩
set_option maxRecDepth 20000 in
theorem bytes_ok (h8 : 8 ≤ n) : Calls Try.prog 147 ⟨[.pointer (some ⟨b, 0, none⟩), .int .i64 8]⟩ W (Rtn fun u w' => u = .tuple #[.slice a0 8 c0, .int .i64 0] ∧ ∃ a', Mm own w0 (⟨b, ⟨[.slice a' (n - 8) (c0 - 8)]⟩, T⟩ :: bs) L (RdF (Value.int .u8) a' (xs.drop 8) :: RdF (Value.int .u8) a0 xs :: Fs) w') := by
  obtain ⟨x, hx⟩ := get_of_lt (l := xs) (i := 0) (by omega)
  obtain ⟨ad, rfl⟩ : ∃ ad, a0 = some ad := rd_some hM List.mem_cons_self hx
  have hs1 : Value.slice (sadr (some ad) (Int.toNat 0) c0 1) ((8 : Int).toNat - Int.toNat 0) (c0 - Int.toNat 0) = .slice (some ad) 8 c0 := by
    rw [show Int.toNat 0 = 0 from rfl, sadr_zero]
    rfl
  have hs2 : Value.slice (sadr (some ad) (8 : Int).toNat c0 1) ((n : Int).toNat - (8 : Int).toNat) (c0 - (8 : Int).toNat) = .slice (sadr (some ad) 8 c0 1) (n - 8) (c0 - 8) := by
    rw [Int.toNat_natCast]
    rfl
  have hdr := RdF.drop (hM.facts _ List.mem_cons_self) 8 c0 (by omega)
  replace hM := hM.addFact hdr
  refine f_start Try.func147 rfl Try.ntmps147 rfl rfl ?_; intro a hF
  (repeat' (first | (with_reducible refine w_seq ?_) | (with_reducible refine c_region ?_) | (with_reducible refine s_nil ?_) | (with_reducible refine q_then_n ?_) | ((with_reducible apply s_pure hF); exact rfl; exact rfl; exact rfl; (first | exact trivial | omega | exact ⟨Int.natCast_nonneg _, Int.ofNat_lt.2 (by assumption)⟩ | decide); clear hF a; intro a hF) | ((with_reducible apply s_load hF hM); exact rfl; exact rfl; (repeat (first | exact List.mem_cons_self | refine List.mem_cons_of_mem _ ?_)); exact rfl; exact rfl; clear hF a; intro a hF) | ((with_reducible apply s_store hF hM); exact rfl; exact rfl; exact rfl; exact rfl; (repeat (first | exact Upd.z | apply Upd.s)); exact rfl; exact rfl; exact rfl; clear hM; intro w hM) | (with_reducible refine w_skip ?_) | (with_reducible refine w_ret ?_) | ((with_reducible apply c_dec hF); exact rfl; all_goals intro hc; all_goals (try (exfalso; omega)))))
  rw [hs1] at hF
  (apply f_ret Try.results147 hF hM; (repeat (first | exact RL.nil | (apply RL.tmp; exact rfl) | (apply RL.cell; exact rfl; (repeat (first | exact List.mem_cons_self | refine List.mem_cons_of_mem _ ?_)); exact rfl))); refine Both.mk ?_; try dsimp only [resV])
  rw [hs2] at hM
  exact ⟨rfl, _, hM⟩
set_option maxRecDepth 20000 in
theorem sector_bad (h8 : n < 8) : Calls Try.prog 145 ⟨[.pointer (some ⟨b, 0, none⟩)]⟩ W (Rtn fun u w' => u = .tuple #[.agg #[.int .u8 0, .int .u8 0, .int .u8 0, .int .u8 0, .int .u8 0, .int .u8 0, .int .u8 0, .int .u8 0], .int .i64 10] ∧ Mm own w0 (⟨b, ⟨[.slice a0 n c0]⟩, T⟩ :: bs) L (RdF (Value.int .u8) a0 xs :: Fs) w') := by
  refine f_start Try.func145 rfl Try.ntmps145 rfl rfl ?_; intro a hF
  (repeat (first | (with_reducible refine w_seq ?_) | (with_reducible refine c_region ?_) | (with_reducible refine s_nil ?_) | (with_reducible refine q_then_n ?_) | ((with_reducible apply s_pure hF); exact rfl; exact rfl; exact rfl; (first | exact trivial | omega | exact ⟨Int.natCast_nonneg _, Int.ofNat_lt.2 (by assumption)⟩ | decide); clear hF a; intro a hF) | ((with_reducible apply s_alloc hF hM); exact rfl; exact rfl; exact rfl; clear hF hM a; intro b w a hM hF)))
  replace hM := hM.perm (List.Perm.swap _ _ _)
  (repeat' (first | (with_reducible refine w_seq ?_) | (with_reducible refine c_region ?_) | (with_reducible refine s_nil ?_) | ((with_reducible apply s_callM (f := 147) hF); exact rfl; exact rfl; exact rfl; exact rfl; exact rfl; exact (bytes_bad xs hxb hlen a0 c0 n hn hc0 hM h8); clear hF hM a; rintro v w a ⟨rfl, hM⟩ hF) | (with_reducible refine q_then_n ?_) | ((with_reducible apply s_pure hF); exact rfl; exact rfl; exact rfl; (first | exact trivial | omega | exact ⟨Int.natCast_nonneg _, Int.ofNat_lt.2 (by assumption)⟩ | decide); clear hF a; intro a hF) | ((with_reducible apply s_store hF hM); exact rfl; exact rfl; exact rfl; exact rfl; (repeat (first | exact Upd.z | apply Upd.s)); exact rfl; exact rfl; exact rfl; clear hM; intro w hM) | (with_reducible refine w_ret ?_) | (with_reducible refine q_then_r ?_) | ((with_reducible apply c_true2 hF); exact rfl; (first | with_reducible rfl | (refine congrArg Value.bool ?_; focus (simp; done))))))
  (apply f_ret Try.results145 hF hM; (repeat (first | exact RL.nil | (apply RL.tmp; exact rfl) | (apply RL.cell; exact rfl; (repeat (first | exact List.mem_cons_self | refine List.mem_cons_of_mem _ ?_)); exact rfl))); refine Both.mk ?_; try dsimp only [resV])
  exact ⟨rfl, hM.sub (.cons_cons _ (.cons _ (.refl _))) (.refl _) (fun _ h => h)⟩
set_option maxRecDepth 20000 in
theorem sector_ok (h8 : 8 ≤ n) {x0 x1 x2 x3 x4 x5 x6 x7 : Int} (ht : xs.take 8 = [x0, x1, x2, x3, x4, x5, x6, x7]) : Calls Try.prog 145 ⟨[.pointer (some ⟨b, 0, none⟩)]⟩ W (Rtn fun u w' => u = .tuple #[.agg #[.int .u8 x0, .int .u8 x1, .int .u8 x2, .int .u8 x3, .int .u8 x4, .int .u8 x5, .int .u8 x6, .int .u8 x7], .int .i64 0] ∧ ∃ a', Mm own w0 (⟨b, ⟨[.slice a' (n - 8) (c0 - 8)]⟩, T⟩ :: bs) L (RdF (Value.int .u8) a' (xs.drop 8) :: RdF (Value.int .u8) a0 xs :: Fs) w') := by
  obtain ⟨x, hx⟩ := get_of_lt (l := xs) (i := 0) (by omega)
  obtain ⟨ad, rfl⟩ : ∃ ad, a0 = some ad := rd_some hM List.mem_cons_self hx
  have hx8 : 8 ≤ xs.length := by omega
  refine f_start Try.func145 rfl Try.ntmps145 rfl rfl ?_; intro a hF
  (repeat (first | (with_reducible refine w_seq ?_) | (with_reducible refine c_region ?_) | (with_reducible refine s_nil ?_) | (with_reducible refine q_then_n ?_) | ((with_reducible apply s_pure hF); exact rfl; exact rfl; exact rfl; (first | exact trivial | omega | exact ⟨Int.natCast_nonneg _, Int.ofNat_lt.2 (by assumption)⟩ | decide); clear hF a; intro a hF) | ((with_reducible apply s_alloc hF hM); exact rfl; exact rfl; exact rfl; clear hF hM a; intro b w a hM hF)))
  replace hM := hM.perm (List.Perm.swap _ _ _)
  (repeat' (first | (with_reducible refine w_seq ?_) | (with_reducible refine c_region ?_) | (with_reducible refine s_nil ?_) | ((with_reducible apply s_callM (f := 147) hF); exact rfl; exact rfl; exact rfl; exact rfl; exact rfl; exact (bytes_ok xs hxb hlen (some ad) c0 n hn hc0 hM h8); clear hF hM a; rintro v w a ⟨rfl, a', hM⟩ hF) | ((with_reducible apply s_s2a hF); exact rfl; exact rfl; exact rfl; exact rfl; omega; clear hF a; intro a hF) | (with_reducible refine q_then_n ?_) | ((with_reducible apply s_pure hF); exact rfl; exact rfl; exact rfl; (first | exact trivial | omega | exact ⟨Int.natCast_nonneg _, Int.ofNat_lt.2 (by assumption)⟩ | decide); clear hF a; intro a hF) | (with_reducible refine w_skip ?_) | ((with_reducible apply c_false2 hF); exact rfl; (first | with_reducible rfl | (refine congrArg Value.bool ?_; focus (simp; done))))))
  apply s_loadA (k := .u8) (xs := xs) (ad := ad) hF hM
  · exact rfl
  · exact rfl
  · exact List.mem_cons_of_mem _ List.mem_cons_self
  · exact rfl
  · exact rfl
  · exact ht
  · exact hx8
  clear hF a
  intro a hF
  dsimp only [List.map] at hF
  replace hM := hM.perm (List.Perm.swap _ _ _)
  (repeat (first | (with_reducible refine s_nil ?_) | (with_reducible refine q_then_n ?_) | ((with_reducible apply s_pure hF); exact rfl; exact rfl; exact rfl; (first | exact trivial | omega | exact ⟨Int.natCast_nonneg _, Int.ofNat_lt.2 (by assumption)⟩ | decide); clear hF a; intro a hF) | ((with_reducible apply s_store hF hM); exact rfl; exact rfl; exact rfl; exact rfl; (repeat (first | exact Upd.z | apply Upd.s)); exact rfl; exact rfl; exact rfl; clear hM; intro w hM) | (with_reducible refine w_ret ?_)))
  (apply f_ret Try.results145 hF hM; (repeat (first | exact RL.nil | (apply RL.tmp; exact rfl) | (apply RL.cell; exact rfl; (repeat (first | exact List.mem_cons_self | refine List.mem_cons_of_mem _ ?_)); exact rfl))); refine Both.mk ?_; try dsimp only [resV])
  exact ⟨rfl, a', hM.sub (.cons _ (.refl _)) (.refl _) (fun _ h => h)⟩
end
end Go.Proofs.Ytadfdpkhehdikaa

