/- runlength: Encode. -/
import Derived.Test.YthcnnedgfndklaaU2
import Derived.Test.YthcnnedgfndklaaW3
set_option linter.unusedSimpArgs false
set_option linter.unusedVariables false
set_option linter.unusedSectionVars false
namespace Go.Proofs.Ythcnnedgfndklaa
open Go.RowKit Go.Shelf
/-- How many sectors of a group are written out. -/
def lits (l : List (List Int)) (i : Nat) : Nat := if (nx l i).1 = 0 then (nx l i).2 else if (nx l i).1 = 1 then 1 else 0
def encS (l : List (List Int)) (i : Nat) : List Int := ((l.drop i).take (lits l i)).flatten
def encG (l : List (List Int)) (i : Nat) : List Int := puts (4 * (nx l i).2 + (nx l i).1) ++ encS l i
/-- The encoding of a list. -/
def enc (l : List (List Int)) : List Int := (grp l).flatMap fun (i : Fin l.length) => encG l i
theorem len8 {s : List Int} (h : s.length = 8) : ∃ a b c d e f g i, s = [a, b, c, d, e, f, g, i] := by
  match s, h with
  | [a, b, c, d, e, f, g, i], _ => exact ⟨a, b, c, d, e, f, g, i, rfl⟩
theorem nx_kind {l : List (List Int)} {i : Nat} : (nx l i).1 ≤ 2 := by
  unfold nx
  split
  · exact Nat.le_refl _
  · split <;> simp
theorem flat_len : ∀ {D : List (List Int)}, W8 D → D.flatten.length = D.length * 8
  | [], _ => rfl
  | s :: D, h => by
    rw [List.flatten_cons, List.length_append, h s (by simp), flat_len (fun y hy => h y (List.mem_cons_of_mem _ hy)), List.length_cons, Nat.succ_mul]
    omega
theorem W8.drop {l : List (List Int)} (h : W8 l) (i : Nat) : W8 (l.drop i) := fun y hy => h y (List.mem_of_mem_drop hy)
theorem W8.take {l : List (List Int)} (h : W8 l) (i : Nat) : W8 (l.take i) := fun y hy => h y (List.mem_of_mem_take hy)
theorem lits_le {l : List (List Int)} {i : Nat} : lits l i ≤ (nx l i).2 := by
  unfold lits
  have := nx_pos (l := l) (i := i)
  split
  · exact Nat.le_refl _
  · split <;> omega
theorem encG_len {l : List (List Int)} (hw : W8 l) (hlen : l.length ≤ 30000) {i : Nat} (hi : i < l.length) : (encG l i).length ≤ 9 + 8 * l.length := by
  unfold encG encS
  have h1 := nx_le hi
  have h2 := nx_kind (l := l) (i := i)
  have h3 := puts_len 2 (4 * (nx l i).2 + (nx l i).1) (by omega)
  have h4 := lits_le (l := l) (i := i)
  rw [List.length_append, flat_len ((hw.drop i).take _), List.length_take, List.length_drop]
  have : min (lits l i) (l.length - i) ≤ l.length := by omega
  omega
theorem flatMap_len {α : Type} {f : α → List Int} {k : Nat} (h : ∀ x, (f x).length ≤ k) : ∀ (l : List α), (l.flatMap f).length ≤ l.length * k
  | [] => by simp
  | x :: l => by
    rw [List.flatMap_cons, List.length_append, List.length_cons, Nat.succ_mul]
    have := flatMap_len h l
    have := h x
    omega
theorem grpF_len {l : List (List Int)} : ∀ (f i : Nat), (grpF l f i).length + i ≤ max i l.length
  | 0, i => by simp [grpF]; omega
  | f + 1, i => by
    rw [grpF]
    split
    · have := grpF_len (l := l) f (i + (nx l i).2)
      have := nx_pos (l := l) (i := i)
      have := nx_le (l := l) (i := i) (by assumption)
      rw [List.length_cons]
      omega
    · simp; omega
theorem flat_drop : ∀ {l : List (List Int)} (_ : W8 l) (i : Nat), (l.drop i).flatten = l.flatten.drop (i * 8)
  | [], _, i => by simp
  | s :: l, h, 0 => by simp
  | s :: l, h, i + 1 => by
    have hs : s.length = 8 := h s (by simp)
    rw [List.drop_succ_cons, flat_drop (l := l) (fun y hy => h y (List.mem_cons_of_mem _ hy)) i, List.flatten_cons, List.drop_append, show s.drop ((i + 1) * 8) = [] from List.drop_eq_nil_of_le (by omega), List.nil_append, hs, show (i + 1) * 8 - 8 = i * 8 by omega]
theorem sub_rd {own : Nat → Prop} {w : World} {ad : Addr} {l : List (List Int)} (hw : W8 l) (h : Has own w (RdF (Value.int .u8) (some ad) l.flatten)) (i q c : Nat) (hc : l.length ≤ c) (hi : i < l.length) : Has own w (RdF (Value.int .u8) (sadr (some ad) i c 8) ((l.drop i).take q).flatten) := by
  refine h.imp fun w h j x hx => ?_
  have hx2 : (l.drop i).flatten[j]? = some x := by
    rw [← List.take_append_drop q (l.drop i), List.flatten_append, List.getElem?_append_left (List.getElem?_eq_some_iff.1 hx).1]
    exact hx
  rw [flat_drop hw, List.getElem?_drop] at hx2
  obtain ⟨b, off, e, hb, hc2⟩ := h (i * 8 + j) x hx2
  injection e with e
  subst e
  refine ⟨b, off + i * 8, ?_, hb, ?_⟩
  · unfold sadr
    rw [if_neg (by omega)]
    simp [add_lit]
  · rw [Nat.add_assoc]
    exact hc2
theorem below_mm {own own' : Nat → Prop} {w0 w w' : World} {bs bs' : List BoxE} {L L' : List Ent} {Fs Fs' : List (World → Prop)} (h : Mm own w0 bs L Fs w) (h' : Mm own' w0 bs' L' Fs' w') (hs : w.heap.size ≤ w'.heap.size) : Below w0.heap.size w w' :=
  ⟨h'.since.os.trans h.since.os.symm, h'.since.tape.trans h.since.tape.symm, h'.since.output.trans h.since.output.symm, hs, fun k hk => (h'.since.block k hk).trans (h.since.block k hk).symm⟩
def encL (l : List (List Int)) (pre : List (Fin l.length)) : List Int := pre.flatMap fun (i : Fin l.length) => encG l i
theorem encL_len {l : List (List Int)} (hw : W8 l) (hlen : l.length ≤ 30000) (pre : List (Fin l.length)) (h : pre.length ≤ l.length) : (encL l pre).length ≤ 10000000000 - 1000000 := by
  have h1 := flatMap_len (f := fun (i : Fin l.length) => encG l i) (k := 9 + 8 * l.length) (fun i => encG_len hw hlen i.2) pre
  have h2 : pre.length * (9 + 8 * l.length) ≤ 30000 * (9 + 8 * 30000) := Nat.mul_le_mul (by omega) (by omega)
  unfold encL
  omega
/-- What is kept from round to round of Encode. -/
def EncI (own : Nat → Prop) (W : World) (a0 : Option Addr) (c0 b1 b3 : Nat) (l : List (List Int)) (pre : List (Fin l.length)) (w' : World) : Prop :=
  ∃ v, Mm own W [⟨b3, ⟨[v]⟩, 24⟩] [⟨5, 1, v, (encL l pre).length, (encL l pre).map (Value.int .u8)⟩] [] w' ∧ Box w' b1 ⟨[.slice a0 l.length c0]⟩ 22
def EncA (W : World) (b1 b3 : Nat) (l : List (List Int)) (x : Fin l.length) (a : Act) (w' : World) : Prop :=
  ∃ b4, W.heap.size ≤ b4 ∧ Box w' b4 ⟨[.int .i64 (nx l x).1, .int .i64 (x : Nat), .int .i64 (nx l x).2]⟩ 53 ∧ Fr 45 [] [(4, .pointer (some ⟨b4, 0, none⟩)), (3, .pointer (some ⟨b3, 0, none⟩)), (1, .pointer (some ⟨b1, 0, none⟩))] a
theorem Box.turn {W1 W2 : World} {b : Nat} {cs : Array Value} {T : TypeId} {row : Option Nat} {B : Nat} (h : Box W1 b cs T) (hg : W1.grownBy W2 row) (hr : ∀ r, row = some r → B ≤ r ∧ ∃ o : Obj, W1.heap[r]? = some o ∧ o.isCells = false) : Box W2 b cs T :=
  h.grown hg fun e => by
    obtain ⟨_, o, h1, h2⟩ := hr b e.symm
    rw [show W1.heap[b]? = _ from h] at h1
    injection h1 with h1
    subst h1
    cases h2
set_option maxRecDepth 20000 in
theorem Encode_c (l : List (List Int)) (hw : W8 l) (hlen : l.length ≤ 30000) (a0 : Option Addr) (c0 : Nat) (hc0 : l.length ≤ c0) (own : Nat → Prop) (W : World) (hl : ∀ b, own b → b < W.heap.size) (hv : Has own W (RdF (Value.int .u8) a0 l.flatten)) :
    Calls Try.prog 11 ⟨[.slice a0 l.length c0]⟩ W (Ret W fun v w' => ∃ a' c', v = .slice a' (enc l).length c' ∧ Owns w' W.heap.size [⟨5, 1, .slice a' (enc l).length c', (enc l).length, (enc l).map (Value.int .u8)⟩]) := by
  have hM := (Mm.start hl).known hv
  have hr := hv.get
  refine f_startM Try.func11 rfl Try.ntmps11 rfl rfl ?_; intro a hF
  (repeat (first | (with_reducible refine w_seq ?_) | (with_reducible refine c_region ?_) | (with_reducible refine s_nil ?_) | (with_reducible refine q_then_n ?_) | ((with_reducible apply s_pure hF); exact rfl; exact rfl; exact rfl; (first | exact trivial | omega | decide); clear hF a; intro a hF) | ((with_reducible apply s_load hF hM); exact rfl; exact rfl; (repeat (first | exact List.mem_cons_self | refine List.mem_cons_of_mem _ ?_)); exact rfl; exact rfl; clear hF a; intro a hF) | ((with_reducible apply s_alloc hF hM); exact rfl; exact rfl; exact rfl; clear hF hM a; intro b w a hM hF) | ((with_reducible apply s_box hF hM); exact rfl; exact rfl; exact rfl; exact rfl; clear hF hM a; intro b w a hM hF)))
  rename_i b1 wz
  obtain ⟨b3, rfl⟩ : ∃ x, x = b := ⟨_, rfl⟩
  obtain ⟨w2, rfl⟩ : ∃ x, x = w := ⟨_, rfl⟩
  have hs2 := hM.since.size
  (repeat (first | (with_reducible refine s_nil ?_) | ((with_reducible apply s_call (f := 23) hF hM); exact rfl; exact rfl; exact rfl; exact rfl; exact rfl; exact (groups_c a0 l.length c0 _ _ hM.lt); clear hF hM a; rintro v w a ⟨bq, hbq, rfl, hBq⟩ - hM hF) | (with_reducible refine q_then_n ?_) | (with_reducible refine w_block ?_)))
  have hbq2 : W.heap.size ≤ bq := Nat.le_trans hs2 hbq
  obtain ⟨w1, rfl⟩ : ∃ x, x = w := ⟨_, rfl⟩
  have hb1 := hM.mem.new ⟨b1, ⟨[.slice a0 l.length c0]⟩, 22⟩ (by (repeat (first | exact List.mem_cons_self | refine List.mem_cons_of_mem _ ?_)))
  have hB1 := hM.bx (b := b1) (by (repeat (first | exact List.mem_cons_self | refine List.mem_cons_of_mem _ ?_)))
  have hrow := (hM.nilRow 5 1).sub (bs' := [⟨b3, ⟨[.slice none 0 0]⟩, 24⟩]) (Fs' := []) (.cons_cons _ (.cons _ .slnil)) (.refl _) (by simp)
  have hsz : W.heap.size ≤ w1.heap.size := hM.since.size
  refine c_range2 hF rfl rfl rfl (groups_stops l hw (by omega) a0 c0 bq W w1 hr hM.since hbq2 hBq) (by omega) (fun h k => h.trans k) ?kb (Below.refl _ _)
    (EncI own W a0 c0 b1 b3 l) ?hI ⟨_, hrow, hB1⟩ (EncA W b1 b3 l) ?hA ?assign ?body ?done
  case kb =>
    intro W' lb o o' h1 h2 h3 h4
    exact ⟨belowK_b hsz W' lb o o' h1 h2 h3 h4, KT.putObj o' h2 h3, KT.putObj o' h2 h3⟩
  case hI =>
    rintro pre W1 W2 row ⟨v, hm, hb⟩ hg hr
    exact ⟨v, hm.turn hg (fun r e => ⟨by have := (hr r e).1; omega, (hr r e).2⟩), hb.turn hg hr⟩
  case hA =>
    rintro x a W1 W2 row ⟨b4, h1, h2, h3⟩ hg hr
    exact ⟨b4, h1, h2.turn hg hr, h3⟩
  case assign =>
    rintro l0 k pre x a W' hF ⟨v, hM, hB⟩
    have hM0 := hM
    replace hM := (((hM.addFact (hM0.ko hsz)).addFact (hM0.bxHas hB hb1 (by simp) (by simp))).addFact (hM0.kt 53 (by simp) (by simp))).addFact (hM0.kt 22 (by simp) (by simp))
    unfold gv at hF
    (repeat (first | ((with_reducible refine c_regionR ?_ ?_); rotate_left; exact rfl) | (with_reducible refine s_nil ?_) | ((with_reducible apply s_store hF hM); exact rfl; exact rfl; exact rfl; exact rfl; (repeat (first | exact Upd.z | apply Upd.s)); exact rfl; exact rfl; exact rfl; clear hM; intro w hM) | ((with_reducible apply s_alloc hF hM); exact rfl; exact rfl; exact rfl; clear hF hM a; intro b w a hM hF)))
    have hko := hM.fact (f := KeepsFrom w1.heap.size W') (by (repeat (first | exact List.mem_cons_self | refine List.mem_cons_of_mem _ ?_)))
    exact q_cut ⟨hko, ⟨below_mm hM0 hM hko.size, hM.fact (f := KT _ 53 W') (by (repeat (first | exact List.mem_cons_self | refine List.mem_cons_of_mem _ ?_))), hM.fact (f := KT _ 22 W') (by (repeat (first | exact List.mem_cons_self | refine List.mem_cons_of_mem _ ?_)))⟩, ⟨v, hM.sub (.cons _ (.refl _)) (.refl _) (by simp), hM.fact (f := BxF b1 _ _) (by (repeat (first | exact List.mem_cons_self | refine List.mem_cons_of_mem _ ?_)))⟩, ⟨b, hM.mem.new _ List.mem_cons_self, hM.bx List.mem_cons_self, hF.sub (by repeat (first | exact Sub.nil | refine Sub.cons rfl (by first | with_reducible rfl | (refine congrArg (Value.int _) ?_; omega) | exact rfl) ?_))⟩⟩
  case done =>
    rintro D xs a W' hD rfl ⟨v, hM, hB⟩ hK hF
    obtain ⟨av, cv, rfl, -, -⟩ := hM.row List.mem_cons_self
    replace hM := hM.addDef hK (by omega)
    (repeat (first | (with_reducible refine w_seq ?_) | (with_reducible refine c_region ?_) | (with_reducible refine s_nil ?_) | (with_reducible refine q_then_n ?_) | ((with_reducible apply s_pure hF); exact rfl; exact rfl; exact rfl; (first | exact trivial | omega | decide); clear hF a; intro a hF) | ((with_reducible apply s_load hF hM); exact rfl; exact rfl; (repeat (first | exact List.mem_cons_self | refine List.mem_cons_of_mem _ ?_)); exact rfl; exact rfl; clear hF a; intro a hF) | (with_reducible refine w_ret ?_) | (with_reducible refine q_blk_n ?_)))
    apply f_retM Try.results11 hF hM List.mem_cons_self (by omega)
    · (repeat (first | exact RL.nil | (apply RL.tmp; exact rfl) | (apply RL.cell; exact rfl; (repeat (first | exact List.mem_cons_self | refine List.mem_cons_of_mem _ ?_)); exact rfl)))
    intro w' hM'
    exact Ret.mk hM'.since ⟨_, _, rfl, hM'.mem.own⟩
  case body =>
    clear hM hF
    rintro l0 k pre x a W' ⟨v, hM, hB⟩ ⟨b4, h4, hB4, hF⟩ hlt
    have hM0 := hM
    have hx := x.2
    have hgl : (grp l).length ≤ l.length := by have := grpF_len (l := l) l.length 0; unfold grp; omega
    have hpl := encL_len hw hlen pre (by omega)
    have hkn := nx_kind (l := l) (i := x)
    have hcn := nx_le hx
    obtain ⟨s0, hs0⟩ := get_of_lt hx
    have hs08 := hw s0 (List.mem_of_getElem? hs0)
    obtain ⟨ad, rfl⟩ : ∃ ad, a0 = some ad := by
      obtain ⟨b, off, e, _⟩ := hr _ _ (flat_get (q := 0) hw hs0 (List.getElem?_eq_getElem (by omega)))
      exact ⟨_, e⟩
    obtain ⟨av, cv, rfl, -, -⟩ := hM.row List.mem_cons_self
    replace hM := (((((hM.addFact (hM0.ko hsz)).addFact (hM0.bxHas hB hb1 (by simp) (by simp))).addFact (hM0.kt 53 (by simp) (by simp))).addFact (hM0.kt 22 (by simp) (by simp))).addFact (hM0.bxHas hB4 h4 (by simp) (by simp))).addFact (sub_rd hw (hM0.old hv) x (lits l x) c0 hc0 hx)
    have hW8 : W8 ((l.drop x).take (lits l x)) := (hw.drop _).take _
    have hkind : ((nx l x).1 = 0 ∧ lits l x = (nx l x).2) ∨ ((nx l x).1 = 1 ∧ lits l x = 1) ∨ ((nx l x).1 = 2 ∧ lits l x = 0) := by
      unfold lits
      rcases (show (nx l x).1 = 0 ∨ (nx l x).1 = 1 ∨ (nx l x).1 = 2 by omega) with h | h | h <;> simp [h]
    have hll := lits_le (l := l) (i := x)
    have hDl : ((l.drop x).take (lits l x)).length = lits l x := by rw [List.length_take, List.length_drop]; omega
    have hE : encL l (pre ++ [x]) = (encL l pre ++ puts (4 * (nx l x).2 + (nx l x).1)) ++ ((l.drop x).take (lits l x)).flatten := by
      unfold encL encG encS
      rw [List.flatMap_append]
      simp
    generalize (l.drop x).take (lits l x) = D at *
    generalize lits l x = q at *
    generalize hkk : (nx l x).1 = kd at *
    generalize hcc : (nx l x).2 = cn at *
    generalize (x : Nat) = i at *
    generalize encL l pre = E at *
    obtain ⟨ad2, hAd⟩ : ∃ ad2, sadr (some ad) i c0 8 = some ad2 := by unfold sadr; split <;> exact ⟨_, rfl⟩
    rw [hAd] at hM
    have hP := puts_len 2 (4 * cn + kd) (by omega)
    have hw' : ∀ y ∈ D, y.length = 8 := hW8
    (repeat' (first | (with_reducible refine w_seq ?_) | ((with_reducible refine c_regionR ?_ ?_); rotate_left; exact rfl) | (with_reducible refine s_nil ?_) | ((with_reducible apply s_callO (f := 24) hF); exact rfl; exact rfl; exact rfl; exact rfl; exact rfl; exact (PutInt_z (4 * cn + kd) _ (by omega) (by omega) av cv E _ rfl own _ (fun b h => hM.lt b (.inl h)) (hM.rowFact List.mem_cons_self) (by omega)); clear hF a; rintro v wn a ⟨a2, c2, rfl, hO⟩ hS hF; replace hM := hM.addRows hS hO; clear hS hO; dsimp only [List.cons_append, List.nil_append] at hM) | (with_reducible refine q_then_n ?_) | ((with_reducible apply s_pure hF); exact rfl; exact rfl; exact rfl; (first | exact trivial | omega | decide); clear hF a; intro a hF) | ((with_reducible apply s_load hF hM); exact rfl; exact rfl; (repeat (first | exact List.mem_cons_self | refine List.mem_cons_of_mem _ ?_)); exact rfl; exact rfl; clear hF a; intro a hF) | ((with_reducible apply s_loadK hF hM); exact rfl; exact rfl; (repeat (first | exact List.mem_cons_self | refine List.mem_cons_of_mem _ ?_)); exact rfl; exact rfl; clear hF a; intro a hF) | ((with_reducible apply s_store hF hM); exact rfl; exact rfl; exact rfl; exact rfl; (repeat (first | exact Upd.z | apply Upd.s)); exact rfl; exact rfl; exact rfl; clear hM; intro w hM) | (with_reducible refine w_skip ?_) | (with_reducible refine w_block ?_) | (with_reducible refine q_blk_n ?_) | ((with_reducible apply c_dec hF); exact rfl; all_goals intro hc; all_goals (try (exfalso; omega)))))
    all_goals
      first
        | rw [show ((i : Int) + (cn : Int)).toNat - ((i : Int)).toNat = q by omega] at hF
        | rw [show ((i : Int) + 1).toNat - ((i : Int)).toNat = q by omega] at hF
        | rw [show ((i : Int) + 0).toNat - ((i : Int)).toNat = q by omega] at hF
      rw [Int.toNat_natCast, hAd] at hF
      clear hkind
      generalize puts (4 * cn + kd) = P at *
      refine c_loop (m := q) (fun m a w' => ∃ (j : Nat) (v : Value) (n : Nat), m + j = q ∧ n = E.length + P.length + 8 * j ∧
        Fr 45 [] [(36, .int .i64 j), (35, .int .i64 q), (34, .slice (some ad2) q (c0 - i)), (3, .pointer (some ⟨b3, 0, none⟩)), (1, .pointer (some ⟨b1, 0, none⟩))] a ∧
        Mm own W [⟨b3, ⟨[v]⟩, 24⟩] [⟨5, 1, v, n, ((E ++ P) ++ (D.take j).flatten).map (Value.int .u8)⟩] [RdF (Value.int .u8) (some ad2) D.flatten, BxF b1 [.slice (some ad) l.length c0] 22, KT W.heap.size 53 W', KT W.heap.size 22 W', KeepsFrom w1.heap.size W'] w')
        ⟨0, _, E.length + P.length, by omega, by omega, hF.sub (by repeat (first | exact Sub.nil | refine Sub.cons rfl (by first | with_reducible rfl | (refine congrArg (Value.int _) ?_; omega) | exact rfl) ?_)), by rw [List.take_zero, List.flatten_nil, List.append_nil]; exact hM.sub (.refl _) (.cons_cons _ (.cons _ .slnil)) (by intro f hf; simp only [List.mem_cons, List.not_mem_nil, or_false] at hf; (repeat (rcases hf with rfl | hf; · (repeat (first | exact List.mem_cons_self | refine List.mem_cons_of_mem _ ?_)))); try (subst hf; (repeat (first | exact List.mem_cons_self | refine List.mem_cons_of_mem _ ?_))))⟩ ?_
      clear hF hM a
      rintro m a w' ⟨j, v, n, hm, hn, hF, hM⟩
      by_cases hj : j < q
      · obtain ⟨s, hs⟩ := get_of_lt (l := D) (i := j) (by omega)
        obtain ⟨x0, x1, x2, x3, x4, x5, x6, x7, rfl⟩ := len8 (hw' s (List.mem_of_getElem? hs))
        have htk : (D.take (j + 1)).flatten = (D.take j).flatten ++ [x0, x1, x2, x3, x4, x5, x6, x7] := by rw [List.take_add_one, hs]; simp
        (repeat' (first | (with_reducible refine w_seq ?_) | ((with_reducible refine c_regionR ?_ ?_); rotate_left; exact rfl) | (with_reducible refine s_nil ?_) | ((with_reducible apply s_loadS hF hM); exact rfl; exact rfl; (repeat (first | exact List.mem_cons_self | refine List.mem_cons_of_mem _ ?_)); exact rfl; exact rfl; (first | with_reducible assumption | (simp only [Int.toNat_natCast]; with_reducible assumption)); (with_reducible assumption); clear hF a; intro a hF) | (with_reducible refine q_then_n ?_) | ((with_reducible apply s_pure hF); exact rfl; exact rfl; exact rfl; (first | exact trivial | omega | decide); clear hF a; intro a hF) | ((with_reducible apply s_store hF hM); exact rfl; exact rfl; exact rfl; exact rfl; (repeat (first | exact Upd.z | apply Upd.s)); exact rfl; exact rfl; exact rfl; clear hM; intro w hM) | ((with_reducible apply s_alloc hF hM); exact rfl; exact rfl; exact rfl; clear hF hM a; intro b w a hM hF) | (with_reducible refine w_skip ?_) | (with_reducible refine w_block ?_) | ((with_reducible apply c_dec hF); exact rfl; all_goals intro hc; all_goals (try (exfalso; omega)))))
        refine c_drawR (fun i => Nat.ble 3 i) rfl (fun ⟨_, _, h⟩ => h) (fun x hx => hx) hM ?_; clear hM; intro w hM
        (first | (apply t_load (i := 0) hF rfl rfl rfl; (repeat (first | exact List.mem_cons_self | refine List.mem_cons_of_mem _ ?_)); exact rfl; exact rfl; kernel_rfl; exact hM.sm; exact (fun _ _ _ h => h); clear hF a; intro a hF))
        (first | (apply t_arrSl (i := 1) hF rfl rfl rfl rfl rfl; kernel_rfl; exact hM.sm; exact (fun _ _ _ h => h); clear hF a; intro a hF))
        refine t_one (i := 2) hF rfl (by kernel_rfl) rfl ?_
        intro K hK
        (apply x_app hF hM rfl rfl rfl; (repeat (first | exact List.mem_cons_self | refine List.mem_cons_of_mem _ ?_)); (repeat (first | exact Kth.z | apply Kth.s)); exact rfl; exact rfl; exact rfl; exact rfl; omega; clear hF hM a; intro g cap w a hM hF; dsimp only [List.set] at hM)
        refine hK _ _ (fun _ => (hM.sm.sub (fun x hx => by repeat (first | exact hx | refine List.mem_cons_of_mem _ ?_)) (fun _ h => by repeat (first | exact h | refine List.mem_cons_of_mem _ ?_)))) ?_; clear hK
        refine t_one (i := 3) hF rfl (by kernel_rfl) rfl ?_
        intro K hK
        (apply x_store hF hM rfl rfl rfl; (repeat (first | exact Upd.z | apply Upd.s)); exact rfl; exact rfl; exact rfl; clear hF hM a; intro w a hM hF)
        refine hK _ _ (fun h => by cases h) ?_; clear hK
        refine t_done (by kernel_rfl) ?_
        (repeat' (first | ((with_reducible refine c_regionR ?_ ?_); rotate_left; exact rfl) | (with_reducible refine s_nil ?_) | (with_reducible refine q_then_n ?_) | ((with_reducible apply s_pure hF); exact rfl; exact rfl; exact rfl; (first | exact trivial | omega | decide); clear hF a; intro a hF) | (with_reducible refine q_blk_n ?_)))
        refine ⟨m - 1, by omega, j + 1, .slice (some ⟨g, 0, none⟩) (n + 8) cap, n + 8, by omega, by omega, hF.sub (by repeat (first | exact Sub.nil | refine Sub.cons rfl (by first | with_reducible rfl | (refine congrArg (Value.int _) ?_; omega) | exact rfl) ?_)), ?_⟩
        rw [htk, ← List.append_assoc, List.map_append]
        exact hM.sub (.cons _ (.refl _)) (.refl _) (by intro f hf; simp only [List.mem_cons, List.not_mem_nil, or_false] at hf; (repeat (rcases hf with rfl | hf; · (repeat (first | exact List.mem_cons_self | refine List.mem_cons_of_mem _ ?_)))); try (subst hf; (repeat (first | exact List.mem_cons_self | refine List.mem_cons_of_mem _ ?_))))
      · obtain rfl : j = q := by omega
        rw [List.take_of_length_le (by omega)] at hM
        (repeat' (first | (with_reducible refine w_seq ?_) | ((with_reducible refine c_regionR ?_ ?_); rotate_left; exact rfl) | (with_reducible refine s_nil ?_) | (with_reducible refine q_then_n ?_) | ((with_reducible apply s_pure hF); exact rfl; exact rfl; exact rfl; (first | exact trivial | omega | decide); clear hF a; intro a hF) | (with_reducible refine w_exit ?_) | (with_reducible refine q_then_x ?_) | (with_reducible refine q_blk_n ?_) | (with_reducible refine q_blk_x ?_) | ((with_reducible apply c_dec hF); exact rfl; all_goals intro hc; all_goals (try (exfalso; omega)))))
        have hko := hM.fact (f := KeepsFrom w1.heap.size W') (by (repeat (first | exact List.mem_cons_self | refine List.mem_cons_of_mem _ ?_)))
        refine ⟨hko, ⟨below_mm hM0 hM hko.size, hM.fact (f := KT _ 53 W') (by (repeat (first | exact List.mem_cons_self | refine List.mem_cons_of_mem _ ?_))), hM.fact (f := KT _ 22 W') (by (repeat (first | exact List.mem_cons_self | refine List.mem_cons_of_mem _ ?_)))⟩, v, ?_, hM.fact (f := BxF b1 _ _) (by (repeat (first | exact List.mem_cons_self | refine List.mem_cons_of_mem _ ?_)))⟩
        rw [hE, show (E ++ P ++ D.flatten).length = n by rw [List.length_append, List.length_append, flat_len hW8]; omega]
        exact hM.sub (.refl _) (.refl _) (by simp)
end Go.Proofs.Ythcnnedgfndklaa
