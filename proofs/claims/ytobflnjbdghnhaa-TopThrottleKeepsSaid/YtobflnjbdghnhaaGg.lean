/- The walker's steps: appends, conditions, loops, entry and exit. -/
import Derived.Test.YtobflnjbdghnhaaGf
import Derived.LoopN
set_option linter.unusedSimpArgs false
set_option linter.unusedVariables false
set_option linter.unusedSectionVars false
namespace Go.Proofs.Ytobflnjbdghnhaa
open Go.RowKit Go.Shelf
variable {n : Nat} {ds : List Deferred} {l : List (Nat × Value)} {a : Act} {w w0 : World} {own : Nat → Prop} {bs : List BoxE} {L : List Ent} {Fs : List (World → Prop)}
variable {os rest : List Oper} {Q : Exit → Act → World → Prop} {K : Act → World → Prop}
variable {d : Nat} {op : Op} {ty : TypeId} {pos : String} {af : Array Edge} {g : Option (Nat × Bool)}
inductive Kth {α : Type} : List α → Nat → α → Prop
  | z {x : α} {r : List α} : Kth (x :: r) 0 x
  | s {x y : α} {r : List α} {k : Nat} : Kth r k x → Kth (y :: r) (k + 1) x
theorem Kth.get {α : Type} {x : α} : ∀ {l : List α} {k : Nat}, Kth l k x → l[k]? = some x
  | _, _, .z => rfl
  | _, _, .s h => by simpa using h.get
/-- The element type of a slice type: its size and its bytes. -/
def elO (t : TypeId) : Option (TypeId × Nat × Nat) := match tyD t with
  | some (.slice e) => match te e with
    | some ⟨_, size, bytes, _, zero⟩ => match cellsO zero with
      | some z => match Nat.beq z.length size && Nat.ble 1 size with
        | true => some (e, size, bytes)
        | false => none
      | none => none
    | none => none
  | _ => none
theorem elO_ok {t e : TypeId} {size bytes : Nat} (h : elO t = some (e, size, bytes)) : Try.prog.underlying t = some (.slice e) ∧ 0 < size ∧ ∃ i z, Try.prog.info? e = some i ∧ i.zero = some z ∧ i.size = size ∧ i.bytes = bytes ∧ z.cells.size = size := by
  unfold elO at h
  split at h
  · rename_i e' he
    split at h
    · rename_i ag sz by' de ze hi
      split at h
      · rename_i z hz
        split at h
        · rename_i hb
          rw [Bool.and_eq_true] at hb
          have b1 := Nat.eq_of_beq_eq_true hb.1
          have b2 := Nat.le_of_ble_eq_true hb.2
          injection h with h; injection h with h1 h2; injection h2 with h2 h3
          subst h1 h2 h3
          obtain ⟨j, j1, j2, j3, j4⟩ := (te_ok hi).info
          exact ⟨tyD_ok he, by omega, j, ze, j1, j2, j3, j4, by rw [cellsO_ok hz]; simpa using b1⟩
        · cases h
      · cases h
    · cases h
  · cases h
/-- append to an owned row, of cells that lie anywhere. -/
theorem e_app {t e : TypeId} {size bytes : Nat} {S X : Operand} {v : Value} {m k : Nat} {xs ys : List Value} {ad : Addr} {q c : Nat} (hF : Fr n ds l a) (hM : Mm own w0 bs L Fs w) (hS : ev l S = some v) (hX : ev l X = some (.slice (some ad) q c)) (he : elO t = some (e, size, bytes))
    (hL : Kth L k ⟨e, size, v, m, xs⟩) (hy : ys.length = q * size) (hc : ∀ j u, ys[j]? = some u → w.cell? (ad.add j) = some u) (h1 : ∀ u ∈ ys, u.oneCell' = true) (h0 : 0 < q) (hb : (m + q) * bytes ≤ 140737488355328 ∧ m + q ≤ 9223372036854775807)
    (kk : ∀ g cap w', Mm own w0 bs (L.set k ⟨e, size, .slice (some ⟨g, 0, none⟩) (m + q) cap, m + q, xs ++ ys⟩) Fs w' → K (a.put (some d) (.slice (some ⟨g, 0, none⟩) (m + q) cap)) w') :
    (⟨some d, .call ⟨.builtin .append, #[S, X], #[t, t]⟩, ty, pos, af, g⟩ : Oper).wp Try.prog a w K Q := by
  obtain ⟨e1, e2, i, z, i1, i2, i3, i4, i5⟩ := elO_ok he
  refine wp_append_lies w S X t rfl w0.heap.size e i z size bytes e1 i1 i2 i3 i4 i5 e2 v m xs (hF.eval hS) (hM.mem.own.get hL.get) ad q c ys (hF.eval hX) hy hc h1 h0 (by unfold maxLen; exact hb.2) hb.1 hM.since.size w.heap.size rfl ?_
  intro g cap w' h2 h3 h4 h5
  refine kk g cap w' (hM.app hL.get h2 h3 ?_)
  rcases h4 with h4 | h4
  · exact .inl h4.symm
  · exact .inr (by simp [Value.ownBlock, h4])
/-- append of a literal that was just laid. -/
theorem s_app {t e E : TypeId} {size bytes : Nat} {S X : Operand} {v : Value} {m k : Nat} {xs ys : List Value} {b q c : Nat} (hF : Fr n ds l a) (hM : Mm own w0 (⟨b, ⟨ys⟩, E⟩ :: bs) L Fs w) (hg : wantO os l g = some true) (hX : ev l X = some (.slice (some ⟨b, 0, none⟩) q c)) (hS : ev l S = some v) (he : elO t = some (e, size, bytes))
    (hL : Kth L k ⟨e, size, v, m, xs⟩) (hy : ys.length = q * size) (h1 : oneL ys = true) (h0 : Nat.blt 0 q = true) (hd : Nat.blt d n = true) (hb : (m + q) * bytes ≤ 140737488355328 ∧ m + q ≤ 9223372036854775807)
    (kk : ∀ g cap w' a, Mm own w0 bs (L.set k ⟨e, size, .slice (some ⟨g, 0, none⟩) (m + q) cap, m + q, xs ++ ys⟩) Fs w' → Fr n ds ((d, .slice (some ⟨g, 0, none⟩) (m + q) cap) :: l) a → wl ⟨os⟩ Q rest a w') :
    wl ⟨os⟩ Q (⟨some d, .call ⟨.builtin .append, #[S, X], #[t, t]⟩, ty, pos, af, g⟩ :: rest) a w := by
  have hbox := hM.mem.box _ List.mem_cons_self
  refine s_op hF hg fun _ hK => e_app hF (hM.sub (List.sublist_cons_self _ _) (List.Sublist.refl _) (fun _ h => h)) hS hX he hL hy ?_ (oneL_ok h1) (by simpa using h0) hb fun g cap w' h => hK _ _ (kk g cap w' _ h (hF.put hd _))
  intro j u hu
  rw [add_lit, (Box.rules hbox).1]
  simpa using hu
/-- An element of an owned row. -/
theorem e_loadR {α : Type} {enc : α → Value} {T : TypeId} {X : Operand} {ad : Addr} {j : Int} {xs : List α} {x : α} {e : TypeId} {m c : Nat} (hF : Fr n ds l a) (hM : Mm own w0 bs L Fs w) (hX : ev l X = some (.pointer (some (adr ad j 1)))) (hr : (⟨e, 1, .slice (some ad) m c, m, xs.map enc⟩ : Ent) ∈ L) (hx : xs[j.toNat]? = some x) (hT : sclO T = some ()) :
    (execOp a.eval ⟨some d, .load T X, ty, pos, af, g⟩).run Try.prog w = .ok (.value (enc x)) w := e_loadF hF hX (own_reads (hM.mem.own.own _ hr)) hx hT
theorem s_loadR {α : Type} {enc : α → Value} {T : TypeId} {X : Operand} {ad : Addr} {j : Int} {xs : List α} {x : α} {e : TypeId} {m c : Nat} (hF : Fr n ds l a) (hM : Mm own w0 bs L Fs w) (hg : wantO os l g = some true) (hX : ev l X = some (.pointer (some (adr ad j 1)))) (hr : (⟨e, 1, .slice (some ad) m c, m, xs.map enc⟩ : Ent) ∈ L) (hT : sclO T = some ()) (hd : Nat.blt d n = true) (hx : xs[j.toNat]? = some x)
    (k : ∀ a, Fr n ds ((d, enc x) :: l) a → wl ⟨os⟩ Q rest a w) : wl ⟨os⟩ Q (⟨some d, .load T X, ty, pos, af, g⟩ :: rest) a w :=
  s_op hF hg fun _ hK => upon_value (e_loadR hF hM hX hr hx hT) (hK _ _ (k _ (hF.put hd _)))
theorem x_loadR {α : Type} {enc : α → Value} {T : TypeId} {X : Operand} {ad : Addr} {j : Int} {xs : List α} {x : α} {e : TypeId} {m c : Nat} (hF : Fr n ds l a) (hM : Mm own w0 bs L Fs w) (hX : ev l X = some (.pointer (some (adr ad j 1)))) (hr : (⟨e, 1, .slice (some ad) m c, m, xs.map enc⟩ : Ent) ∈ L) (hT : sclO T = some ()) (hd : Nat.blt d n = true) (hx : xs[j.toNat]? = some x)
    (k : ∀ a, Fr n ds ((d, enc x) :: l) a → K a w) : (⟨some d, .load T X, ty, pos, af, g⟩ : Oper).wp Try.prog a w K Q :=
  upon_value (e_loadR hF hM hX hr hx hT) (k _ (hF.put hd _))
/-- A box of somebody else, known as a fact. -/
def BxF (b : Nat) (cs : List Value) (T : TypeId) : World → Prop := fun w => Box w b ⟨cs⟩ T
theorem BxF.has {b : Nat} {cs : List Value} {T : TypeId} {w : World} (h : Box w b ⟨cs⟩ T) : Has (fun _ => False) w (BxF b cs T) :=
  ⟨fun x => x = b, fun x hx => ⟨by subst hx; exact h.lt, id⟩, fun w' hk _ => h.of_block (hk b rfl)⟩
theorem s_loadK {T T' : TypeId} {X : Operand} {b off : Nat} {cs : List Value} {v : Value} (hF : Fr n ds l a) (hM : Mm own w0 bs L Fs w) (hg : wantO os l g = some true) (hX : ev l X = some (.pointer (some ⟨b, off, none⟩))) (hb : BxF b cs T' ∈ Fs) (hv : rdV T cs off = some v) (hd : Nat.blt d n = true)
    (k : ∀ a, Fr n ds ((d, v) :: l) a → wl ⟨os⟩ Q rest a w) : wl ⟨os⟩ Q (⟨some d, .load T X, ty, pos, af, g⟩ :: rest) a w :=
  s_op hF hg fun _ hK => upon_value (e_load hF hX (hM.fact hb) hv) (hK _ _ (k _ (hF.put hd v)))
/-- An element of a literal. -/
theorem s_loadB {T T' : TypeId} {X : Operand} {b off : Nat} {j : Int} {sz : Nat} {cs : List Value} {v : Value} (hF : Fr n ds l a) (hM : Mm own w0 bs L Fs w) (hg : wantO os l g = some true) (hX : ev l X = some (.pointer (some (adr ⟨b, off, none⟩ j sz)))) (hb : (⟨b, ⟨cs⟩, T'⟩ : BoxE) ∈ bs) (hv : rdV T cs (off + j.toNat * sz) = some v) (hd : Nat.blt d n = true)
    (k : ∀ a, Fr n ds ((d, v) :: l) a → wl ⟨os⟩ Q rest a w) : wl ⟨os⟩ Q (⟨some d, .load T X, ty, pos, af, g⟩ :: rest) a w := by
  have e : adr ⟨b, off, none⟩ j sz = ⟨b, off + j.toNat * sz, none⟩ := by unfold adr; rw [add_lit]
  rw [e] at hX
  exact s_op hF hg fun _ hK => upon_value (e_load hF hX (hM.mem.box _ hb) hv) (hK _ _ (k _ (hF.put hd v)))
/-! Structure -/
/-- The walk of a piece of code: in a function, or in a round of a range over a function. -/
def Wk (r : Option (Nat × Nat)) (c : Code) (Q : Exit → Act → World → Prop) (a : Act) (w : World) : Prop :=
  match r with
  | none => c.wp Try.prog Q a w
  | some (l, m) => c.wpIn (Fence.wide.inRound l) m Try.prog Q a w
variable {r : Option (Nat × Nat)}
theorem w_mono {c : Code} {Q' : Exit → Act → World → Prop} (h : Wk r c Q a w) (hq : ∀ e a w, Q e a w → Q' e a w) : Wk r c Q' a w := by
  cases r with
  | none => exact wp_mono h hq
  | some p => exact wpIn_mono h hq
theorem w_seq {x y : Code} (h : Wk r x (Exit.then (Wk r y Q) Q) a w) : Wk r (Code.seq x y) Q a w := by
  cases r with
  | none => exact wp_seq h
  | some p => exact wpIn_seq h
theorem w_skip (h : Q .normal a w) : Wk r .skip Q a w := by
  cases r with
  | none => exact wp_skip h
  | some p => exact wpIn_skip h
theorem w_exit {id : Nat} (h : Q (.exit id) a w) : Wk r (.exit id) Q a w := by
  cases r with
  | none => exact wp_exit h
  | some p => exact wpIn_exit h
theorem w_ret (h : Q .ret a w) : Wk r .ret Q a w := by
  cases r with
  | none => exact wp_ret h
  | some p => exact wpIn_ret h
theorem w_block {id : Nat} {c : Code} (h : Wk r c (Exit.inBlock id Q) a w) : Wk r (.block id c) Q a w := by
  cases r with
  | none => exact wp_block h
  | some p => exact wpIn_block h
theorem c_region {id : Nat} (h : wl ⟨os⟩ Q os a w) : Wk none (Code.region id ⟨os⟩ false) Q a w := wp_region_list (wl_list h)
theorem c_regionR {id l m : Nat} (h : wl ⟨os⟩ Q os a w) (hd : os.all noDefer = true) : Wk (some (l, m)) (Code.region id ⟨os⟩ false) Q a w := wpIn_region_list (wl_in hd h)
theorem s_nil {ops : Array Oper} (h : Q .normal a w) : wl ops Q [] a w := h
theorem q_then_n {K : Act → World → Prop} (h : K a w) : Exit.then K Q .normal a w := h
theorem q_then_x {K : Act → World → Prop} {i : Nat} (h : Q (.exit i) a w) : Exit.then K Q (.exit i) a w := h
theorem q_then_r {K : Act → World → Prop} (h : Q .ret a w) : Exit.then K Q .ret a w := h
theorem q_blk_n {i : Nat} (h : Q .normal a w) : Exit.inBlock i Q .normal a w := h
theorem q_blk_r {i : Nat} (h : Q .ret a w) : Exit.inBlock i Q .ret a w := h
theorem q_blk_x {i : Nat} (h : Q .normal a w) : Exit.inBlock i Q (.exit i) a w := by show (if i = i then _ else _); rw [if_pos rfl]; exact h
theorem q_blk_y {i j : Nat} (hne : Nat.beq j i = false) (h : Q (.exit j) a w) : Exit.inBlock i Q (.exit j) a w := by
  show (if j = i then _ else _)
  rw [if_neg (fun e => by subst e; simp at hne)]; exact h
theorem w_split {c : Operand} {x y : Code} {t : Bool} (hc : a.eval c = .bool t) (ht : t = true → Wk r x Q a w) (hf : t = false → Wk r y Q a w) : Wk r (Code.cond c x y) Q a w := by
  cases r with
  | none => exact wp_cond_split hc ht hf
  | some p => exact wpIn_cond_split hc ht hf
theorem c_true {c : Operand} {x y : Code} (hF : Fr n ds l a) (hc : ev l c = some (.bool true)) (h : Wk r x Q a w) : Wk r (Code.cond c x y) Q a w := w_split (hF.eval hc) (fun _ => h) (fun h => by cases h)
theorem c_false {c : Operand} {x y : Code} (hF : Fr n ds l a) (hc : ev l c = some (.bool false)) (h : Wk r y Q a w) : Wk r (Code.cond c x y) Q a w := w_split (hF.eval hc) (fun h => by cases h) (fun _ => h)
/-- A condition whose value is known. -/
theorem c_true2 {c : Operand} {x y : Code} {v : Value} (hF : Fr n ds l a) (hc : ev l c = some v) (hv : v = .bool true) (h : Wk r x Q a w) : Wk r (Code.cond c x y) Q a w := by subst hv; exact c_true hF hc h
theorem c_false2 {c : Operand} {x y : Code} {v : Value} (hF : Fr n ds l a) (hc : ev l c = some v) (hv : v = .bool false) (h : Wk r y Q a w) : Wk r (Code.cond c x y) Q a w := by subst hv; exact c_false hF hc h
theorem c_dec {c : Operand} {x y : Code} {p : Prop} {_dp : Decidable p} (hF : Fr n ds l a) (hc : ev l c = some (.bool (decide p))) (ht : p → Wk r x Q a w) (hf : ¬ p → Wk r y Q a w) : Wk r (Code.cond c x y) Q a w :=
  w_split (hF.eval hc) (fun h => ht (of_decide_eq_true h)) (fun h => hf (of_decide_eq_false h))
theorem c_ndec {c : Operand} {x y : Code} {p : Prop} {_dp : Decidable p} (hF : Fr n ds l a) (hc : ev l c = some (.bool (!(decide p)))) (ht : ¬ p → Wk r x Q a w) (hf : p → Wk r y Q a w) : Wk r (Code.cond c x y) Q a w :=
  w_split (hF.eval hc) (fun h => ht (by simpa using h)) (fun h => hf (by simpa using h))
theorem c_bool {c : Operand} {x y : Code} {b : Bool} (hF : Fr n ds l a) (hc : ev l c = some (.bool b)) (ht : b = true → Wk r x Q a w) (hf : b = false → Wk r y Q a w) : Wk r (Code.cond c x y) Q a w :=
  w_split (hF.eval hc) ht hf
theorem c_nbool {c : Operand} {x y : Code} {b : Bool} (hF : Fr n ds l a) (hc : ev l c = some (.bool (!b))) (ht : b = false → Wk r x Q a w) (hf : b = true → Wk r y Q a w) : Wk r (Code.cond c x y) Q a w :=
  w_split (hF.eval hc) (fun h => ht (by simpa using h)) (fun h => hf (by simpa using h))
theorem c_loop {c : Code} (I : Nat → Act → World → Prop) {m : Nat} (h0 : I m a w) (round : ∀ m a w, I m a w → Wk r c (Exit.then (fun a' w' => ∃ m', m' < m ∧ I m' a' w') Q) a w) : Wk r (Code.loop c) Q a w := by
  classical
  have key : ∀ a w (h : ∃ m, I m a w), ∃ m, I m a w ∧ ∀ k, I k a w → m ≤ k := by
    intro a w h
    obtain ⟨m, hm⟩ := h
    induction m using Nat.strongRecOn with
    | _ m ih =>
      by_cases hk : ∃ k, k < m ∧ I k a w
      · obtain ⟨k, h1, h2⟩ := hk; exact ih k h1 h2
      · exact ⟨m, hm, fun k hI => Nat.le_of_not_lt fun hlt => hk ⟨k, hlt, hI⟩⟩
  have rd : ∀ a w, (∃ m, I m a w) → Wk r c (Exit.then (fun a' w' => (∃ m, I m a' w') ∧ (if h : ∃ m, I m a' w' then Classical.choose (key a' w' h) else 0) < (if h : ∃ m, I m a w then Classical.choose (key a w h) else 0)) Q) a w := by
    intro a w h
    have hs := Classical.choose_spec (key a w h)
    refine w_mono (round _ a w hs.1) ?_
    intro e a' w' he
    cases e <;> first | exact he | skip
    obtain ⟨m', h1, h2⟩ := he
    refine ⟨⟨m', h2⟩, ?_⟩
    have h3 : ∃ m, I m a' w' := ⟨m', h2⟩
    simp only [dif_pos h3, dif_pos h]
    exact Nat.lt_of_le_of_lt ((Classical.choose_spec (key a' w' h3)).2 m' h2) h1
  cases r with
  | none => exact wp_loop (fun a w => ∃ m, I m a w) (fun a w => if h : ∃ m, I m a w then Classical.choose (key a w h) else 0) ⟨m, h0⟩ rd
  | some p => exact wpIn_loop (fun a w => ∃ m, I m a w) (fun a w => if h : ∃ m, I m a w then Classical.choose (key a w h) else 0) ⟨m, h0⟩ rd
theorem c_roll {c : Code} (m : Nat) (h : Code.rounds Try.prog c Q m a w) : Wk none (Code.loop c) Q a w := wp_loop_rounds m h
theorem r_succ {c : Code} {m : Nat} (h : Wk none c (Exit.then (Code.rounds Try.prog c Q m) Q) a w) : Code.rounds Try.prog c Q (m + 1) a w := h
/-- A piece of code by itself. -/
def Cut (J : Act → World → Prop) : Exit → Act → World → Prop
  | .normal, a, w => J a w
  | _, _, _ => False
theorem c_cut {x : Code} {K : Act → World → Prop} (J : Act → World → Prop) (h1 : Wk r x (Cut J) a w) (h2 : ∀ a w, J a w → K a w) : Wk r x (Exit.then K Q) a w :=
  w_mono h1 fun e a w h => by cases e <;> first | exact h2 a w h | exact h.elim
theorem q_cut {J : Act → World → Prop} (h : J a w) : Cut J .normal a w := h
/-! Guards that are not decided -/
def gslot (os : List Oper) : Option (Nat × Bool) → Option Nat
  | none => none
  | some (j, _) => match getO os j with
    | some o => o.dst
    | none => none
theorem Fr.same (hF : Fr n ds l a) {t : Nat} {v u : Value} (h : lk l t = some v) (e : v = u) : Fr n ds ((t, u) :: l) a := by
  refine ⟨hF.size, hF.defs, fun k x hx => ?_⟩
  unfold lk at hx
  cases hb : Nat.beq t k
  · rw [hb] at hx; exact hF.get k x hx
  · rw [hb] at hx
    have := Nat.eq_of_beq_eq_true hb
    subst this
    injection hx with hx
    rw [← hx, ← e]
    exact hF.get _ _ h
theorem g_dec {dst : Option Tmp} {t : Nat} {p : Prop} {_dp : Decidable p} (hF : Fr n ds l a) (ht : gslot os g = some t) (hb : lk l t = some (.bool (decide p))) (h1 : p → Fr n ds ((t, .bool true) :: l) a → wl ⟨os⟩ Q (⟨dst, op, ty, pos, af, g⟩ :: rest) a w)
    (h2 : ¬ p → Fr n ds ((t, .bool false) :: l) a → wl ⟨os⟩ Q (⟨dst, op, ty, pos, af, g⟩ :: rest) a w) : wl ⟨os⟩ Q (⟨dst, op, ty, pos, af, g⟩ :: rest) a w := by
  by_cases hp : p
  · exact h1 hp (hF.same hb (by simp [hp]))
  · exact h2 hp (hF.same hb (by simp [hp]))
theorem g_ndec {dst : Option Tmp} {t : Nat} {p : Prop} {_dp : Decidable p} (hF : Fr n ds l a) (ht : gslot os g = some t) (hb : lk l t = some (.bool (!(decide p)))) (h1 : ¬ p → Fr n ds ((t, .bool true) :: l) a → wl ⟨os⟩ Q (⟨dst, op, ty, pos, af, g⟩ :: rest) a w)
    (h2 : p → Fr n ds ((t, .bool false) :: l) a → wl ⟨os⟩ Q (⟨dst, op, ty, pos, af, g⟩ :: rest) a w) : wl ⟨os⟩ Q (⟨dst, op, ty, pos, af, g⟩ :: rest) a w := by
  by_cases hp : p
  · exact h2 hp (hF.same hb (by simp [hp]))
  · exact h1 hp (hF.same hb (by simp [hp]))
theorem g_bool {dst : Option Tmp} {t : Nat} {b : Bool} (hF : Fr n ds l a) (ht : gslot os g = some t) (hb : lk l t = some (.bool b)) (h1 : b = true → Fr n ds ((t, .bool true) :: l) a → wl ⟨os⟩ Q (⟨dst, op, ty, pos, af, g⟩ :: rest) a w)
    (h2 : b = false → Fr n ds ((t, .bool false) :: l) a → wl ⟨os⟩ Q (⟨dst, op, ty, pos, af, g⟩ :: rest) a w) : wl ⟨os⟩ Q (⟨dst, op, ty, pos, af, g⟩ :: rest) a w := by
  cases b
  · exact h2 rfl (hF.same hb rfl)
  · exact h1 rfl (hF.same hb rfl)
theorem g_nbool {dst : Option Tmp} {t : Nat} {b : Bool} (hF : Fr n ds l a) (ht : gslot os g = some t) (hb : lk l t = some (.bool (!b))) (h1 : b = false → Fr n ds ((t, .bool true) :: l) a → wl ⟨os⟩ Q (⟨dst, op, ty, pos, af, g⟩ :: rest) a w)
    (h2 : b = true → Fr n ds ((t, .bool false) :: l) a → wl ⟨os⟩ Q (⟨dst, op, ty, pos, af, g⟩ :: rest) a w) : wl ⟨os⟩ Q (⟨dst, op, ty, pos, af, g⟩ :: rest) a w := by
  cases b
  · exact h1 rfl (hF.same hb rfl)
  · exact h2 rfl (hF.same hb rfl)
/-! Entry and exit -/
def startO : Nat → List Value → Option (List (Nat × Value))
  | _, [] => some []
  | k, v :: r => match startO (k + 1) r with | some x => some ((k, v) :: x) | none => none
theorem startO_ok : ∀ {vs : List Value} {k : Nat} {x : List (Nat × Value)}, startO k vs = some x → startL k vs = x
  | [], _, _, h => by injection h
  | v :: r, k, x, h => by
    unfold startO at h
    split at h
    · rename_i y hy; injection h with h; subst h; unfold startL; rw [startO_ok hy]
    · cases h
theorem f_start {f : FuncId} {fn : Func} {c : Code} {vs : List Value} {R : Ending → World → Prop} (hf : Try.prog.funcs[f]? = some fn) (hb : fn.body = some c) (hn : fn.ntmps = n) (hl : Nat.ble vs.length n = true) (hs : startO 0 vs = some l)
    (k : ∀ a, Fr n [] l a → Wk none c (bodyPost Try.prog fn R) a w) : Calls Try.prog f ⟨vs⟩ w R := by
  have := Fr.start (vs := vs) hn hl
  rw [startO_ok hs] at this
  exact calls_of_wp hf hb (k _ this)
inductive RL (l : List (Nat × Value)) (bs : List BoxE) : List ResultVar → List Value → Prop
  | nil : RL l bs [] []
  | tmp {t : Nat} {v : Value} {r : List ResultVar} {vs : List Value} : lk l t = some v → RL l bs r vs → RL l bs (.tmp t :: r) (v :: vs)
  | cell {t : Nat} {T T' : TypeId} {b off : Nat} {cs : List Value} {v : Value} {r : List ResultVar} {vs : List Value} : lk l t = some (.pointer (some ⟨b, off, none⟩)) → (⟨b, ⟨cs⟩, T'⟩ : BoxE) ∈ bs → rdV T cs off = some v → RL l bs r vs → RL l bs (.cell t T :: r) (v :: vs)
def resV : List Value → Value
  | [v] => v
  | vs => .tuple ⟨vs⟩
def resF (tmps : Array Value) : ResultVar → Sem Value
  | .tmp t => pure (tmps.getD t undef)
  | .cell p t => do loadVar t (← asAddr (tmps.getD p undef))
theorem results_eq (fn : Func) (tmps : Array Value) : results fn tmps = (do let vs ← fn.results.mapM (resF tmps); pure (if h : vs.size = 1 then vs[0] else .tuple vs)) := by
  unfold results
  congr 1
theorem RL.run (hF : Fr n ds l a) (hM : Mm own w0 bs L Fs w) : ∀ {rs : List ResultVar} {vs : List Value}, RL l bs rs vs → (rs.mapM (resF a.tmps)).run Try.prog w = .ok vs w
  | _, _, .nil => by simp
  | _, _, .tmp (t := t) h r => by
    have ih := r.run hF hM
    simp only [List.mapM_cons, Sem.run_bind, Sem.run_pure, Result.andThen, hF.get _ _ h, ih, resF]
  | _, _, .cell h hb hv r => by
    have ih := r.run hF hM
    have := run_loadVar_rd (hM.mem.box _ hb) hv
    simp only [List.mapM_cons, Sem.run_bind, Result.andThen, hF.get _ _ h, asAddr, Sem.run_pure, this, ih, resF]
theorem f_res {fn : Func} {rs : List ResultVar} {vs : List Value} (hr : fn.results = ⟨rs⟩) (hF : Fr n ds l a) (hM : Mm own w0 bs L Fs w) (hv : RL l bs rs vs) : (results fn a.tmps).run Try.prog w = .ok (resV vs) w := by
  have := hv.run hF hM
  rw [results_eq, hr, Array.mapM_eq_mapM_toList]
  simp only [Sem.run_bind, Sem.run_map, this, Result.andThen]
  match vs with
  | [] => rfl
  | [v] => rfl
  | _ :: _ :: _ => rfl
theorem f_ret {fn : Func} {rs : List ResultVar} {vs : List Value} {R : Ending → World → Prop} (hr : fn.results = ⟨rs⟩) (hF : Fr n [] l a) (hM : Mm own w0 bs L Fs w) (hv : RL l bs rs vs) (hR : R (.returned (resV vs)) w) : bodyPost Try.prog fn R .ret a w :=
  bodyPost_ret (f_res hr hF hM hv) hF.defs hR
theorem f_end {fn : Func} {rs : List ResultVar} {vs : List Value} {R : Ending → World → Prop} (hr : fn.results = ⟨rs⟩) (hF : Fr n [] l a) (hM : Mm own w0 bs L Fs w) (hv : RL l bs rs vs) (hR : R (.returned (resV vs)) w) : bodyPost Try.prog fn R .normal a w :=
  bodyPost_end (f_res hr hF hM hv) hF.defs hR
theorem Ret.mk {R : Value → World → Prop} {w w' : World} {v : Value} (hs : Since w w') (h : R v w') : Ret w R (.returned v) w' := ⟨v, rfl, hs, h⟩
end Go.Proofs.Ytobflnjbdghnhaa
