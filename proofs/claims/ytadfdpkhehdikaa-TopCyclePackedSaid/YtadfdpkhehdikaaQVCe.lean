/- Texts of this seat, one behind the other: Uv BI BJ BK BL Ju Jv Jw Jx Jy Jz S1 S2 S3 S4 S5 S6 BM BN BO BP BQ BR BS BT BU BV. -/
import Derived.Test.YtadfdpkhehdikaaQVCd
set_option linter.unusedSimpArgs false
set_option linter.unusedVariables false
set_option linter.unusedSectionVars false
set_option maxRecDepth 3000
/- Plain laws of dictionary: what is encoded is decoded. -/
namespace Go.Proofs.Ytadfdpkhehdikaa
open Go.RowKit Go.Shelf D29
theorem puts_By (n : Nat) : By (puts n) := by
  induction n using Nat.strongRecOn with
  | _ n ih =>
    by_cases h : n < 128
    · rw [puts_lt h]
      intro x hx
      simp at hx
      omega
    · rw [puts_ge h]
      intro x hx
      rcases List.mem_cons.1 hx with rfl | hx
      · omega
      · exact ih (n / 128) (by omega) x hx
theorem copyN_take {all : List Int} {d t : Nat} (hd : 1 ≤ d) (hdt : d ≤ t) : ∀ (n : Nat), t + n ≤ all.length → (∀ j, j < n → all[t - d + j]? = all[t + j]?) → copyN d n (all.take t) = all.take (t + n)
  | 0, _, _ => rfl
  | n + 1, h, hj => by
    rw [copyN_succ, copyN_take hd hdt n (by omega) (fun j h2 => hj j (by omega))]
    have hl : (all.take (t + n)).length = t + n := by rw [List.length_take]; omega
    have hx := hj n (by omega)
    have hlt : t + n < all.length := by omega
    rw [hl, ← Nat.add_assoc, List.take_add_one, List.getD_eq_getElem?_getD, List.getElem?_take, if_pos (by omega), show t + n - d = t - d + n by omega, hx, List.getElem?_eq_getElem hlt]
    rfl
theorem dcF_fuel {dl : Nat} {most : Int} : ∀ (f g : Nat) (xs al : List Int), xs.length ≤ f → xs.length ≤ g → dcF dl most f xs al = dcF dl most g xs al
  | 0, g, xs, al, h, _ => by rw [List.length_eq_zero_iff.1 (by omega : xs.length = 0), dcF_nil, dcF_nil]
  | f + 1, 0, xs, al, _, h => by rw [List.length_eq_zero_iff.1 (by omega : xs.length = 0), dcF_nil, dcF_nil]
  | f + 1, g + 1, [], al, _, _ => rfl
  | f + 1, g + 1, x :: b, al, h1, h2 => by
    have hb1 : b.length ≤ f := by simpa using h1
    have hb2 : b.length ≤ g := by simpa using h2
    rw [dcF, dcF, dcF_fuel f g (b.drop x.toNat) _ (by rw [List.length_drop]; omega) (by rw [List.length_drop]; omega), dcF_fuel f g (b.drop (rdNum b).2.2) _ (by rw [List.length_drop]; omega) (by rw [List.length_drop]; omega)]
def dc (dl : Nat) (most : Int) (xs al : List Int) : Except Int (List Int) := dcF dl most xs.length xs al
section
variable {dl : Nat} {most : Int}
theorem dc_lit (l rest al : List Int) (h1 : 1 ≤ l.length) (h2 : l.length ≤ 127) : dc dl most ((l.length : Int) :: (l ++ rest)) al = if most < (al.length : Int) + l.length - dl then .error 5 else dc dl most rest (al ++ l) := by
  unfold dc
  rw [List.length_cons, dcF, if_neg (by omega), if_pos (by omega), if_neg (by rw [List.length_append]; omega), Int.toNat_natCast, List.drop_left, List.take_left, dcF_fuel _ rest.length rest _ (by rw [List.length_append]; omega) (Nat.le_refl _)]
theorem dc_lits (rest : List Int) : ∀ (f : Nat) (l al : List Int), l.length ≤ f → (al.length : Int) - dl ≤ most → dc dl most (litsB f l ++ rest) al = if most < (al.length : Int) + l.length - dl then .error 5 else dc dl most rest (al ++ l)
  | 0, l, al, h, h2 => by
    obtain rfl : l = [] := List.length_eq_zero_iff.1 (by omega)
    rw [litsB, List.nil_append, List.append_nil, if_neg (by simp; omega)]
  | f + 1, l, al, h, h2 => by
    rw [litsB]
    by_cases e : l = []
    · subst e
      rw [if_pos rfl, List.nil_append, List.append_nil, if_neg (by simp; omega)]
    · have hp : 0 < l.length := List.length_pos_iff.2 e
      obtain ⟨q, hq⟩ : ∃ q, min l.length 127 = q := ⟨_, rfl⟩
      rw [if_neg e, hq, List.cons_append, List.append_assoc]
      have hql : (l.take q).length = q := by rw [List.length_take]; omega
      have hdl : (l.drop q).length = l.length - q := List.length_drop
      have := dc_lit (dl := dl) (most := most) (l.take q) (litsB f (l.drop q) ++ rest) al (by omega) (by omega)
      rw [hql] at this
      rw [this]
      by_cases hm : most < (al.length : Int) + q - dl
      · rw [if_pos hm, if_pos (by omega)]
      · rw [if_neg hm, dc_lits rest f (l.drop q) (al ++ l.take q) (by omega) (by rw [List.length_append, hql]; omega), List.append_assoc, List.take_append_drop, List.length_append, hql, hdl]
        have e2 : ((al.length + q : Nat) : Int) + ((l.length - q : Nat) : Int) - dl = (al.length : Int) + l.length - dl := by omega
        rw [e2]
theorem dc_litz (rest l al : List Int) (h : (al.length : Int) - dl ≤ most) : dc dl most (litz l ++ rest) al = if most < (al.length : Int) + l.length - dl then .error 5 else dc dl most rest (al ++ l) := dc_lits rest _ l al (Nat.le_refl _) h
theorem dc_match {n d : Nat} (hn : 4 ≤ n ∧ n ≤ 131) (hd : 1 ≤ d ∧ d ≤ 4096) (rest al : List Int) (hdl : d ≤ al.length) : dc dl most ((124 + n : Int) :: (puts d ++ rest)) al = if most < (al.length : Int) + n - dl then .error 5 else dc dl most rest (copyN d n al) := by
  unfold dc
  rw [List.length_cons, dcF, if_neg (by omega), if_neg (by omega), rdNum_puts (by omega)]
  simp only
  rw [if_neg (by simp), if_neg (by omega), show (124 + (n : Int) - 124) = n by omega, Int.toNat_natCast, Int.toNat_natCast, List.drop_left, dcF_fuel _ rest.length rest _ (by rw [List.length_append]; omega) (Nat.le_refl _)]
end
theorem encF_toks (all : List Int) : ∀ (f t : Nat) (toks run : List Int), encF all f t toks run = toks ++ encF all f t [] run
  | 0, t, toks, run => by rw [encF, encF, List.nil_append]
  | f + 1, t, toks, run => by
    rw [encF, encF]
    split
    · split
      · exact encF_toks all f _ toks _
      · rw [encF_toks all f _ (toks ++ litz run ++ _ ++ _), encF_toks all f _ ([] ++ litz run ++ _ ++ _)]
        simp only [List.nil_append, List.append_assoc]
    · rw [List.nil_append]
theorem best_get {all : List Int} {t : Nat} (h : (best all t).2 ≠ 0) : ∀ j, j < (best all t).2 → all[t - (best all t).1 + j]? = all[t + j]? := by
  obtain ⟨_, h2, _, _, _, _, h7⟩ := best_ok h
  intro j hj
  exact ((mlen_ge (all := all) (p := t - (best all t).1) (t := t) h2).1 (Nat.le_of_eq h7) j hj).2
theorem dc_encF {all : List Int} {dl : Nat} {most : Int} (rest : List Int) : ∀ (f t : Nat) (run al : List Int), all.length ≤ f + t → t ≤ all.length → al ++ run = all.take t → (al.length : Int) - dl ≤ most → dc dl most (encF all f t [] run ++ rest) al = if most < (all.length : Int) - dl then .error 5 else dc dl most rest all
  | 0, t, run, al, h1, h2, h3, h4 => by
    have e := congrArg List.length h3
    rw [List.length_append, List.length_take] at e
    rw [encF, List.nil_append, dc_litz _ _ _ h4, h3, List.take_of_length_le (by omega), show (al.length : Int) + run.length = all.length by omega]
  | f + 1, t, run, al, h1, h2, h3, h4 => by
    have e := congrArg List.length h3
    rw [List.length_append, List.length_take] at e
    rw [encF]
    by_cases ht : t < all.length
    · rw [if_pos ht]
      by_cases h0 : (best all t).2 = 0
      · rw [if_pos h0]
        refine dc_encF rest f (t + 1) _ al (by omega) ht ?_ h4
        rw [← List.append_assoc, h3, List.take_add_one, List.getD_eq_getElem?_getD, List.getElem?_eq_getElem ht]
        rfl
      · rw [if_neg h0]
        obtain ⟨b1, b2, b3, b4, b5, b6, _⟩ := best_ok h0
        have hg := best_get h0
        generalize (best all t).2 = n at *
        generalize (best all t).1 = d at *
        have hlt : (all.take t).length = t := by rw [List.length_take]; omega
        rw [encF_toks, List.nil_append]
        simp only [List.append_assoc]
        rw [dc_litz _ _ _ h4, h3, List.singleton_append]
        by_cases hm1 : most < (al.length : Int) + run.length - dl
        · rw [if_pos hm1, if_pos (by omega)]
        · rw [if_neg hm1, dc_match ⟨b1, b2⟩ ⟨b3, b4⟩ _ _ (by omega), hlt]
          by_cases hm2 : most < (t : Int) + n - dl
          · rw [if_pos hm2, if_pos (by omega)]
          · rw [if_neg hm2, copyN_take b3 b5 n b6 hg]
            have hl2 : (all.take (t + n)).length = t + n := by rw [List.length_take]; omega
            exact dc_encF rest f (t + n) [] (all.take (t + n)) (by omega) b6 (by rw [List.append_nil]) (by rw [hl2]; omega)
    · rw [if_neg ht, List.nil_append, dc_litz _ _ _ h4, h3, List.take_of_length_le (by omega), show (al.length : Int) + run.length = all.length by omega]
theorem dc_encD {dl : Nat} {most : Int} (dict b rest : List Int) (h : (dict.length : Int) - dl ≤ most) : dc dl most (encD dict b ++ rest) dict = if most < (dict.length : Int) + b.length - dl then .error 5 else dc dl most rest (dict ++ b) := by
  have := dc_encF (all := dict ++ b) (dl := dl) (most := most) rest b.length dict.length [] dict (by rw [List.length_append]; omega) (by rw [List.length_append]; omega) (by rw [List.append_nil, List.take_left]) h
  rw [List.length_append, Int.natCast_add] at this
  exact this
theorem decD_dc {dict y : List Int} {most : Int} (h : 0 ≤ most) : decD dict y most = finD dict.length (dc dict.length most y dict) := by
  unfold decD dc
  rw [if_neg (by omega)]
theorem dc_nil (dl : Nat) (most : Int) (al : List Int) : dc dl most [] al = .ok al := rfl
/-- What is encoded is decoded. -/
theorem decD_encD (dict b : List Int) {most : Int} (h : (b.length : Int) ≤ most) : decD dict (encD dict b) most = .ok b := by
  rw [decD_dc (by omega)]
  have := dc_encD (dl := dict.length) (most := most) dict b [] (by omega)
  rw [List.append_nil, if_neg (by omega), dc_nil] at this
  rw [this, finD, List.drop_left]
theorem litsB_By : ∀ (f : Nat) (l : List Int), By l → By (litsB f l)
  | 0, l, h => by rw [litsB]; intro x hx; cases hx
  | f + 1, l, h => by
    rw [litsB]
    split
    · intro x hx; cases hx
    · intro x hx
      rcases List.mem_cons.1 hx with rfl | hx
      · omega
      · rcases List.mem_append.1 hx with hx | hx
        · exact h.take _ x hx
        · exact litsB_By f _ (h.drop _) x hx
theorem By.app {xs ys : List Int} (h1 : By xs) (h2 : By ys) : By (xs ++ ys) := fun x hx => (List.mem_append.1 hx).elim (h1 x) (h2 x)
theorem encF_By {all : List Int} (h : By all) : ∀ (f t : Nat) (toks run : List Int), By toks → By run → By (encF all f t toks run)
  | 0, t, toks, run, h1, h2 => by rw [encF]; exact h1.app (litsB_By _ _ h2)
  | f + 1, t, toks, run, h1, h2 => by
    rw [encF]
    split
    · rename_i ht
      split
      · refine encF_By h f _ _ _ h1 (h2.app ?_)
        intro x hx
        rw [List.mem_singleton] at hx
        rw [hx, List.getD_eq_getElem?_getD, List.getElem?_eq_getElem ht]
        exact h _ (List.getElem_mem ht)
      · rename_i h0
        have := best_ok h0
        refine encF_By h f _ _ _ (((h1.app (litsB_By _ _ h2)).app ?_).app (puts_By _)) (fun x hx => by cases hx)
        intro x hx
        rw [List.mem_singleton] at hx
        omega
    · exact h1.app (litsB_By _ _ h2)
theorem encD_By {dict b : List Int} (h1 : By dict) (h2 : By b) : By (encD dict b) := encF_By (h1.app h2) _ _ _ _ (fun x hx => by cases hx) (fun x hx => by cases hx)
theorem encF_len (all : List Int) : ∀ (f t : Nat) (toks run : List Int), t ≤ all.length → (encF all f t toks run).length ≤ toks.length + 2 * run.length + 4 * (all.length - t)
  | 0, t, toks, run, _ => by
    have := litz_len run
    rw [encF, List.length_append]; omega
  | f + 1, t, toks, run, ht => by
    have h1 := litz_len run
    rw [encF]
    split
    · split
      · have := encF_len all f (t + 1) toks (run ++ [all.getD t 0]) (by omega)
        rw [List.length_append, List.length_singleton] at this
        omega
      · rename_i h0
        obtain ⟨hn4, hn131, hd1, hd2, hd3, htn, _⟩ := best_ok h0
        have hp := puts_len 2 (best all t).1 (by omega)
        have := encF_len all f (t + (best all t).2) (toks ++ litz run ++ [(124 + (best all t).2 : Int)] ++ puts (best all t).1) [] htn
        simp only [List.length_append, List.length_singleton, List.length_nil] at this
        omega
    · rw [List.length_append]; omega
theorem encD_len (dict y : List Int) : (encD dict y).length ≤ 4 * y.length := by
  have := encF_len (dict ++ y) y.length dict.length [] [] (by rw [List.length_append]; omega)
  unfold encD
  rw [List.length_append] at this
  simp only [List.length_nil] at this
  omega
end Go.Proofs.Ytadfdpkhehdikaa


/- batch.Split. -/
namespace Go.Proofs.Ytadfdpkhehdikaa
open Go.RowKit Go.Shelf D29 B31
namespace B31
theorem hdB_by (l : List Int) : By (hdB l) := by
  intro x hx
  obtain ⟨y, hy, hx⟩ := List.mem_flatten.1 hx
  obtain ⟨z, -, rfl⟩ := List.mem_map.1 hy
  exact puts_By _ x hx
theorem by_app {l m : List Int} (h : By l) (k : By m) : By (l ++ m) := fun x hx => (List.mem_append.1 hx).elim (h x) (k x)
def BysW (l : List Wr) : Prop := ∀ w ∈ l, ∀ s ∈ w.x, By s
theorem flat_by {l : List (List Int)} (h : ∀ s ∈ l, By s) : By l.flatten := fun x hx => by
  obtain ⟨y, hy, hx⟩ := List.mem_flatten.1 hx
  exact h y hy x hx
theorem encB_by {c : Cy} (h : BysW c.ws) : By (encB c) := by
  refine by_app (by_app (hdB_by _) (by_app (puts_By _) (hdB_by _))) (by_app (puts_By _) (flat_by fun s hs => ?_))
  obtain ⟨w, hw, rfl⟩ := List.mem_map.1 hs
  exact by_app (puts_By _) (by_app (puts_By _) (by_app (puts_By _) (flat_by (h w hw))))
/-- Bytes, where they lie, and how many places they have. -/
abbrev BP := List Int × Option Addr × Nat
def encBP (p : BP) : Value := .slice p.2.1 p.1.length p.2.2
def BytF (l : List BP) : World → Prop := fun w => ∀ p ∈ l, RdF (Value.int .u8) p.2.1 p.1 w
theorem Nb.byt {b : Nat} {l : List BP} : Nb b (BytF l) := fun w o o' h1 h2 h3 p hp => Nb.rd w o o' h1 h2 (h3 p hp)
theorem byt_one {own : Nat → Prop} {w : World} {l : List BP} (h : Has own w (BytF l)) {p : BP} (hp : p ∈ l) : Has own w (RdF (Value.int .u8) p.2.1 p.1) := h.imp fun _ k => k p hp
theorem byt_snoc {own : Nat → Prop} {w : World} {l : List BP} {p : BP} (h : Has own w (BytF l)) (k : Has own w (RdF (Value.int .u8) p.2.1 p.1)) : Has own w (BytF (l ++ [p])) := (h.and k).imp fun _ ⟨h, k⟩ q hq => by
  rcases List.mem_append.1 hq with hq | hq
  · exact h q hq
  · rw [List.mem_singleton.1 hq]; exact k
/-- A part with its header. -/
def pcB (num cnt sum : Int) (p : Nat) (E : List Int) (k : Nat) : List Int := hdB [num, k, cnt, sum] ++ partB p E k
/-- The parts of a cycle. -/
def splB (num : Int) (p : Nat) (E : List Int) : List (List Int) := (List.range ((E.length + p - 1) / p)).map (pcB num ((E.length + p - 1) / p : Nat) (sumB E) p E)
end B31
end Go.Proofs.Ytadfdpkhehdikaa


/- batch.Split. -/
namespace Go.Proofs.Ytadfdpkhehdikaa
open Go.RowKit Go.Shelf D29 B31
section
variable (cb cn ct : Int) (pos : List Int) (ws : List WP) (hfw : FewW (wms ws)) (hby : BysW (wms ws)) (ap aw : Option Addr) (np cp nw cw : Nat) (hnp : pos.length = np) (hnp4 : np ≤ 1000000) (hn : ws.length = nw) (p : Nat) (hp : 1 ≤ p ∧ p ≤ 4096) (own : Nat → Prop) (W : World) (hl : ∀ b, own b → b < W.heap.size) (h1 : Has own W (RdF id aw (cellsW ws))) (h2 : Has own W (RdF (Value.int .i64) ap pos)) (h3 : Has own W (DatF (wP ws)))
include hfw hby hnp hnp4 hn hp hl h1 h2 h3
set_option maxRecDepth 20000 in
set_option maxHeartbeats 4000000 in
theorem Split_err (hc : chkC ⟨cb, cn, ct, pos, wms ws⟩ ≠ 0) :
    Calls Try.prog 19 ⟨[cyV cb cn ct ap np cp aw nw cw, .int .i64 p]⟩ W (Ret W fun r _ => r = .tuple #[.slice none 0 0, .int .i64 (chkC ⟨cb, cn, ct, pos, wms ws⟩)]) := by
  have hM := (((Mm.start hl).known h3).known h2).known h1
  have e1 := fun {own W} hl h1 h2 => Encode_err cb cn ct pos ws hfw ap aw np cp nw cw hnp hnp4 hn own W hl h1 h2 hc
  generalize chkC ⟨cb, cn, ct, pos, wms ws⟩ = e at *
  refine f_startM Try.func19 rfl Try.ntmps19 rfl rfl ?_; intro a hF
  (repeat' (first | (with_reducible refine w_seq ?_) | (with_reducible refine c_region ?_) | (with_reducible refine s_nil ?_) | ((with_reducible apply s_call (f := 20) hF hM); exact rfl; exact rfl; exact rfl; exact rfl; exact rfl; exact (e1 hM.lt (hM.facts (RdF id aw (cellsW ws)) (by (repeat (first | exact List.mem_cons_self | refine List.mem_cons_of_mem _ ?_)))) (hM.facts (RdF (Value.int .i64) ap pos) (by (repeat (first | exact List.mem_cons_self | refine List.mem_cons_of_mem _ ?_))))); clear hF hM a; rintro v w a rfl - hM hF) | (with_reducible refine q_then_n ?_) | ((with_reducible apply s_pure hF); exact rfl; exact rfl; exact rfl; (first | exact trivial | omega | exact ⟨Int.natCast_nonneg _, Int.ofNat_lt.2 (by assumption)⟩ | decide); clear hF a; intro a hF) | ((with_reducible apply s_load hF hM); exact rfl; exact rfl; (repeat (first | exact List.mem_cons_self | refine List.mem_cons_of_mem _ ?_)); exact rfl; exact rfl; clear hF a; intro a hF) | ((with_reducible apply s_box hF hM); exact rfl; exact rfl; exact rfl; exact rfl; clear hF hM a; intro b w a hM hF) | (with_reducible refine w_ret ?_) | (with_reducible refine q_then_r ?_) | ((with_reducible apply c_dec hF); exact rfl; all_goals intro hc; all_goals (try (exfalso; omega)))))
  apply f_ret0 Try.results19 hF hM (by (repeat (first | exact RL.nil | (apply RL.tmp; exact rfl) | (apply RL.cell; exact rfl; (repeat (first | exact List.mem_cons_self | refine List.mem_cons_of_mem _ ?_)); exact rfl)))); refine Ret.mk hM.since ?_; dsimp only [resV]
set_option maxRecDepth 20000 in
set_option maxHeartbeats 4000000 in
theorem Split_ok (hc : chkC ⟨cb, cn, ct, pos, wms ws⟩ = 0) :
    Calls Try.prog 19 ⟨[cyV cb cn ct ap np cp aw nw cw, .int .i64 p]⟩ W (Ret W fun r w' => ∃ a' n' c' ps, r = .tuple #[.slice a' n' c', .int .i64 0] ∧ ps.map (·.1) = splB cn p (encB ⟨cb, cn, ct, pos, wms ws⟩) ∧ ps.length = n' ∧ (∀ q ∈ ps, q.1.length ≤ q.2.2) ∧ n' ≤ c' ∧ Has own w' (RdF encBP a' ps) ∧ Has own w' (BytF ps)) := by
  have hM := (((Mm.start hl).known h3).known h2).known h1
  have e1 := fun {own W} hl h1 h2 h3 => Encode_ok cb cn ct pos ws hfw ap aw np cp nw cw hnp hnp4 hn own W hl h1 h2 h3 hc
  have hEl := encB_len hc hfw
  have hEb := encB_by (c := ⟨cb, cn, ct, pos, wms ws⟩) hby
  obtain ⟨q1, q2, -, -⟩ := chkC_ok hc
  dsimp only at q1 q2
  generalize encB ⟨cb, cn, ct, pos, wms ws⟩ = E at *
  refine f_startM Try.func19 rfl Try.ntmps19 rfl rfl ?_; intro a hF
  (repeat' (first | (with_reducible refine w_seq ?_) | (with_reducible refine c_region ?_) | (with_reducible refine s_nil ?_) | ((with_reducible apply s_call (f := 20) hF hM); exact rfl; exact rfl; exact rfl; exact rfl; exact rfl; exact (e1 hM.lt (hM.facts (RdF id aw (cellsW ws)) (by (repeat (first | exact List.mem_cons_self | refine List.mem_cons_of_mem _ ?_)))) (hM.facts (RdF (Value.int .i64) ap pos) (by (repeat (first | exact List.mem_cons_self | refine List.mem_cons_of_mem _ ?_)))) (hM.facts (DatF (wP ws)) (by (repeat (first | exact List.mem_cons_self | refine List.mem_cons_of_mem _ ?_))))); clear hF hM a; rintro v w a ⟨aE, nE, cE, hnE, rfl, k1, k2⟩ - hM hF; replace hM := hM.addFact k1) | (with_reducible refine q_then_n ?_) | ((with_reducible apply s_pure hF); exact rfl; exact rfl; exact rfl; (first | exact trivial | omega | exact ⟨Int.natCast_nonneg _, Int.ofNat_lt.2 (by assumption)⟩ | decide); clear hF a; intro a hF) | ((with_reducible apply s_load hF hM); exact rfl; exact rfl; (repeat (first | exact List.mem_cons_self | refine List.mem_cons_of_mem _ ?_)); exact rfl; exact rfl; clear hF a; intro a hF) | ((with_reducible apply s_box hF hM); exact rfl; exact rfl; exact rfl; exact rfl; clear hF hM a; intro b w a hM hF) | (with_reducible refine w_skip ?_) | ((with_reducible apply c_false2 hF); exact rfl; (first | with_reducible rfl | (refine congrArg Value.bool ?_; focus (simp; done)))) | ((fail_if_success ((with_reducible refine g_known true hF ?_ ?_); focus exact rfl)); (fail_if_success ((with_reducible refine g_known false hF ?_ ?_); focus exact rfl)); (with_reducible apply g_dec hF); exact rfl; exact rfl; all_goals (clear hF; intro hc hF); all_goals (try (exfalso; omega))) | ((with_reducible apply c_dec hF); exact rfl; all_goals intro hc; all_goals (try (exfalso; omega)))))
  have hsb := sumB_bd E
  have e2 := fun {own W} hl hv => Sum_c E hEb (by omega) aE nE cE hnE.symm own W hl hv
  refine c_cut (fun a' w' => ∃ b8, Fr 54 [] [(8, .pointer (some ⟨b8, 0, none⟩)), (6, .slice aE nE cE), (1, .int .i64 p)] a' ∧ Mm own W [] [] [BxF b8 [.int .i64 cn, .int .i64 ((nE + p - 1) / p : Nat), .int .i64 (sumB E)] 115, RdF (Value.int .u8) aE E] w') ?_ ?_
  · refine c_draw (fun i => Nat.ble 14 i) hM ?_; clear hM; intro w hM
    (first | (refine t_pure (i := 0) hF rfl rfl rfl rfl (by kernel_rfl) hM.sm (fun _ _ _ h => h) ?_ ?_; (first | exact trivial | omega | decide); clear hF a; intro a hF))
    (first | (apply t_load (i := 1) hF rfl rfl rfl; (repeat (first | exact List.mem_cons_self | refine List.mem_cons_of_mem _ ?_)); exact rfl; exact rfl; kernel_rfl; exact hM.sm; exact (fun _ _ _ h => h); clear hF a; intro a hF))
    (first | (refine t_pure (i := 2) hF rfl rfl rfl rfl (by kernel_rfl) hM.sm (fun _ _ _ h => h) ?_ ?_; (first | exact trivial | omega | decide); clear hF a; intro a hF))
    (first | (refine t_pure (i := 3) hF rfl rfl rfl rfl (by kernel_rfl) hM.sm (fun _ _ _ h => h) ?_ ?_; (first | exact trivial | omega | decide); clear hF a; intro a hF))
    (first | (refine t_pure (i := 4) hF rfl rfl rfl rfl (by kernel_rfl) hM.sm (fun _ _ _ h => h) ?_ ?_; (first | exact trivial | omega | decide); clear hF a; intro a hF))
    (first | (refine t_pure (i := 5) hF rfl rfl rfl rfl (by kernel_rfl) hM.sm (fun _ _ _ h => h) ?_ ?_; (first | exact trivial | omega | decide); clear hF a; intro a hF))
    (first | (refine t_pure (i := 6) hF rfl rfl rfl rfl (by kernel_rfl) hM.sm (fun _ _ _ h => h) ?_ ?_; (first | exact trivial | omega | decide); clear hF a; intro a hF))
    (first | (refine t_pure (i := 7) hF rfl rfl rfl rfl (by kernel_rfl) hM.sm (fun _ _ _ h => h) ?_ ?_; (first | exact trivial | omega | decide); clear hF a; intro a hF))
    (first | (refine t_pure (i := 8) hF rfl rfl rfl rfl (by kernel_rfl) hM.sm (fun _ _ _ h => h) ?_ ?_; (first | exact trivial | omega | decide); clear hF a; intro a hF))
    (first | (refine t_pure (i := 9) hF rfl rfl rfl rfl (by kernel_rfl) hM.sm (fun _ _ _ h => h) ?_ ?_; (first | exact trivial | omega | decide); clear hF a; intro a hF))
    refine t_two (i := 10) (j := 13) hF rfl rfl (by kernel_rfl) rfl rfl ?_ ?_
    ·
      intro K hK
      (apply x_call hF hM; exact rfl; exact rfl; exact rfl; exact rfl; exact (e2 hM.lt (hM.facts (RdF (Value.int .u8) aE E) (by (repeat (first | exact List.mem_cons_self | refine List.mem_cons_of_mem _ ?_))))); clear hF hM a; rintro v w a rfl - hM hF)
      refine hK _ _ (fun _ => hM.sm) ?_; clear hK
      (first | (refine t_pure (i := 11) hF rfl rfl rfl rfl (by kernel_rfl) hM.sm (fun _ _ _ h => h) ?_ ?_; (first | exact trivial | omega | decide); clear hF a; intro a hF))
      (first | (refine t_pure (i := 12) hF rfl rfl rfl rfl (by kernel_rfl) hM.sm (fun _ _ _ h => h) ?_ ?_; (first | exact trivial | omega | decide); clear hF a; intro a hF))
      refine t_one (i := 13) hF rfl (by kernel_rfl) rfl ?_
      intro K hK
      (refine x_alloc hF hM rfl rfl ?_; clear hF hM a; intro b w a hM hF)
      refine hK _ _ (fun _ => (hM.sm.sub (fun x hx => by repeat (first | exact hx | refine List.mem_cons_of_mem _ ?_)) (fun _ h => by repeat (first | exact h | refine List.mem_cons_of_mem _ ?_)))) ?_; clear hK
      refine t_one (i := 14) hF rfl (by kernel_rfl) rfl ?_
      intro K hK
      (apply x_store hF hM rfl rfl rfl; (repeat (first | exact Upd.z | apply Upd.s)); exact rfl; exact rfl; exact rfl; clear hF hM a; intro w a hM hF)
      refine hK _ _ (fun h => by cases h) ?_; clear hK
      refine t_done (by kernel_rfl) ?_
      (repeat (first | fail))
      have hdv : ((nE : Int) + (p : Int) - 1) / (p : Int) = (((nE + p - 1) / p : Nat) : Int) := by
        rw [show (nE : Int) + (p : Int) - 1 = ((nE + p - 1 : Nat) : Int) by omega]
        rfl
      rw [hdv] at hM
      first
        | exact q_cut ⟨b, hF.sub (by repeat (first | exact Sub.nil | refine Sub.cons rfl (by first | with_reducible rfl | (refine congrArg (Value.int _) ?_; omega) | exact rfl) ?_)), hM.freeze.sub (List.nil_sublist _) (.refl _) (by intro f hf; simp only [List.mem_cons, List.not_mem_nil, or_false] at hf; (repeat (rcases hf with rfl | hf; · (repeat (first | exact List.mem_cons_self | refine List.mem_cons_of_mem _ ?_)))); first | (subst hf; (repeat (first | exact List.mem_cons_self | refine List.mem_cons_of_mem _ ?_)); done) | (repeat (first | exact hf | refine List.mem_cons_of_mem _ ?_)))⟩
        | exact q_cut ⟨_, hF.sub (by repeat (first | exact Sub.nil | refine Sub.cons rfl (by first | with_reducible rfl | (refine congrArg (Value.int _) ?_; omega) | exact rfl) ?_)), (hM.sub (bs' := [⟨b, _, _⟩]) (.cons_cons _ (List.nil_sublist _)) (.refl _) (fun _ h => h)).freeze.sub (List.nil_sublist _) (.refl _) (by intro f hf; simp only [List.mem_cons, List.not_mem_nil, or_false] at hf; (repeat (rcases hf with rfl | hf; · (repeat (first | exact List.mem_cons_self | refine List.mem_cons_of_mem _ ?_)))); first | (subst hf; (repeat (first | exact List.mem_cons_self | refine List.mem_cons_of_mem _ ?_)); done) | (repeat (first | exact hf | refine List.mem_cons_of_mem _ ?_)))⟩
    ·
      intro K hK
      (refine x_alloc hF hM rfl rfl ?_; clear hF hM a; intro b w a hM hF)
      refine hK _ _ (fun _ => (hM.sm.sub (fun x hx => by repeat (first | exact hx | refine List.mem_cons_of_mem _ ?_)) (fun _ h => by repeat (first | exact h | refine List.mem_cons_of_mem _ ?_)))) ?_; clear hK
      refine t_one (i := 10) hF rfl (by kernel_rfl) rfl ?_
      intro K hK
      (apply x_call hF hM; exact rfl; exact rfl; exact rfl; exact rfl; exact (e2 hM.lt (hM.facts (RdF (Value.int .u8) aE E) (by (repeat (first | exact List.mem_cons_self | refine List.mem_cons_of_mem _ ?_))))); clear hF hM a; rintro v w a rfl - hM hF)
      refine hK _ _ (fun _ => (hM.sm.sub (fun x hx => by repeat (first | exact hx | refine List.mem_cons_of_mem _ ?_)) (fun _ h => by repeat (first | exact h | refine List.mem_cons_of_mem _ ?_)))) ?_; clear hK
      (first | (refine t_pure (i := 11) hF rfl rfl rfl rfl (by kernel_rfl) (hM.sm.sub (fun x hx => by repeat (first | exact hx | refine List.mem_cons_of_mem _ ?_)) (fun _ h => by repeat (first | exact h | refine List.mem_cons_of_mem _ ?_))) (fun _ _ _ h => h) ?_ ?_; (first | exact trivial | omega | decide); clear hF a; intro a hF))
      (first | (refine t_pure (i := 12) hF rfl rfl rfl rfl (by kernel_rfl) (hM.sm.sub (fun x hx => by repeat (first | exact hx | refine List.mem_cons_of_mem _ ?_)) (fun _ h => by repeat (first | exact h | refine List.mem_cons_of_mem _ ?_))) (fun _ _ _ h => h) ?_ ?_; (first | exact trivial | omega | decide); clear hF a; intro a hF))
      refine t_one (i := 14) hF rfl (by kernel_rfl) rfl ?_
      intro K hK
      (apply x_store hF hM rfl rfl rfl; (repeat (first | exact Upd.z | apply Upd.s)); exact rfl; exact rfl; exact rfl; clear hF hM a; intro w a hM hF)
      refine hK _ _ (fun h => by cases h) ?_; clear hK
      refine t_done (by kernel_rfl) ?_
      (repeat (first | fail))
      have hdv : ((nE : Int) + (p : Int) - 1) / (p : Int) = (((nE + p - 1) / p : Nat) : Int) := by
        rw [show (nE : Int) + (p : Int) - 1 = ((nE + p - 1 : Nat) : Int) by omega]
        rfl
      rw [hdv] at hM
      first
        | exact q_cut ⟨b, hF.sub (by repeat (first | exact Sub.nil | refine Sub.cons rfl (by first | with_reducible rfl | (refine congrArg (Value.int _) ?_; omega) | exact rfl) ?_)), hM.freeze.sub (List.nil_sublist _) (.refl _) (by intro f hf; simp only [List.mem_cons, List.not_mem_nil, or_false] at hf; (repeat (rcases hf with rfl | hf; · (repeat (first | exact List.mem_cons_self | refine List.mem_cons_of_mem _ ?_)))); first | (subst hf; (repeat (first | exact List.mem_cons_self | refine List.mem_cons_of_mem _ ?_)); done) | (repeat (first | exact hf | refine List.mem_cons_of_mem _ ?_)))⟩
        | exact q_cut ⟨_, hF.sub (by repeat (first | exact Sub.nil | refine Sub.cons rfl (by first | with_reducible rfl | (refine congrArg (Value.int _) ?_; omega) | exact rfl) ?_)), (hM.sub (bs' := [⟨b, _, _⟩]) (.cons_cons _ (List.nil_sublist _)) (.refl _) (fun _ h => h)).freeze.sub (List.nil_sublist _) (.refl _) (by intro f hf; simp only [List.mem_cons, List.not_mem_nil, or_false] at hf; (repeat (rcases hf with rfl | hf; · (repeat (first | exact List.mem_cons_self | refine List.mem_cons_of_mem _ ?_)))); first | (subst hf; (repeat (first | exact List.mem_cons_self | refine List.mem_cons_of_mem _ ?_)); done) | (repeat (first | exact hf | refine List.mem_cons_of_mem _ ?_)))⟩
  clear hF hM a
  rintro a w ⟨b8, hF, hM⟩
  (repeat' (first | (with_reducible refine w_seq ?_) | (with_reducible refine c_region ?_) | (with_reducible refine s_nil ?_) | ((with_reducible apply s_call (f := 51) hF hM); exact rfl; exact rfl; exact rfl; exact rfl; exact rfl; exact (pieces_c aE nE cE p _ _ hM.lt); clear hF hM a; rintro v w a ⟨b1, b2, rfl, k3, k4⟩ - hM hF) | (with_reducible refine q_then_n ?_) | ((with_reducible apply s_pure hF); exact rfl; exact rfl; exact rfl; (first | exact trivial | omega | exact ⟨Int.natCast_nonneg _, Int.ofNat_lt.2 (by assumption)⟩ | decide); clear hF a; intro a hF) | ((with_reducible apply s_alloc hF hM); exact rfl; exact rfl; exact rfl; clear hF hM a; intro b w a hM hF) | (with_reducible refine w_block ?_)))
  obtain ⟨N, hN⟩ : ∃ N, (nE + p - 1) / p = N := ⟨_, rfl⟩
  have hNb : N ≤ 20000 := by have := Nat.div_le_self (nE + p - 1) p; omega
  rw [hN] at hM
  obtain ⟨pc, hpc⟩ : ∃ pc, pc = pcB cn N (sumB E) p E := ⟨_, rfl⟩
  have hspl : splB cn p E = (List.range N).map pc := by unfold splB; rw [← hnE, hN, hpc]
  rw [hspl]
  replace hM := ((hM.addFact k3).addFact k4).nilRow 58 1
  refine c_rangeO hF rfl rfl hM ?_
  intro D fn tm rc W1 hrc hD hwD hFt hM1
  clear hF hM a
  refine (pieces_run (own := own) (w0 := W) nE (by omega) p hp aE cE b1 b2 (D + 1) k2 rc (fun k bs L Fs => ∃ (ps : List BP) (ov : Value), ps.map (·.1) = (List.range k).map pc ∧ (∀ q ∈ ps, q.1.length ≤ q.2.2) ∧ bs = [⟨b, ⟨[ov]⟩, 55⟩] ∧ L = [⟨58, 1, ov, k, ps.map encBP⟩] ∧ Fs = [BytF ps, BxF b8 [.int .i64 cn, .int .i64 (N : Nat), .int .i64 (sumB E)] 115, RdF (Value.int .u8) aE E, DefF D]) ?_ (Nat.le_succ_of_le hD) ?_ [⟨b, ⟨[.slice none 0 0]⟩, 55⟩] _ [BytF [], BxF b8 [.int .i64 cn, .int .i64 (N : Nat), .int .i64 (sumB E)] 115, RdF (Value.int .u8) aE E, DefF D] ⟨[], .slice none 0 0, rfl, by simp, rfl, rfl, rfl⟩ ?_).mono ?_
  · rintro k bs L Fs ⟨ps, ov, -, -, -, -, rfl⟩ f hf x hx
    simp only [List.mem_cons, List.not_mem_nil, or_false] at hf
    rcases hf with rfl | rfl | rfl | rfl
    · exact Nb.byt
    · exact Nb.bx
    · exact Nb.rd
    · exact Nb.dfd (by omega)
  · rintro k bs L Fs B G w hk ⟨ps, ov, hps, hcap, rfl, rfl, rfl⟩ hG hM m
    rw [hN] at hk
    have hlen : ps.length = k := by have := congrArg List.length hps; simpa using this
    have hkp : k * p < nE := (nparts_lt hp.1).1 (by rw [hN]; exact hk)
    obtain ⟨P, hP⟩ : ∃ P, P = partB p E k := ⟨_, rfl⟩
    have hPl : P.length = min p (nE - k * p) := by rw [hP, partB_len, hnE]
    have hrd := partB_rd (hM.facts (RdF (Value.int .u8) aE E) (by simp)) p k
    rw [← hP, ← hnE, ← hPl] at hrd
    have hpv : partVB aE nE p k = .slice (sadr aE (k * p) (k * p + P.length) 1) P.length P.length := by unfold partVB; rw [hPl]
    rw [hpv]
    generalize sadr aE (k * p) (k * p + P.length) 1 = aP at *
    have hnb : ∀ f ∈ [BytF ps, BxF b8 [.int .i64 cn, .int .i64 (N : Nat), .int .i64 (sumB E)] 115, RdF (Value.int .u8) aE E, DefF D] ++ G, Nb (D + 1) f := by
      intro f hf
      rcases List.mem_append.1 hf with hf | hf
      · simp only [List.mem_cons, List.not_mem_nil, or_false] at hf
        rcases hf with rfl | rfl | rfl | rfl
        · exact Nb.byt
        · exact Nb.bx
        · exact Nb.rd
        · exact Nb.dfd (by omega)
      · exact hG f hf
    have hP0 : 0 < P.length := by omega
    have hM0 := hM.addFact hrd
    refine y_atM (Fs := RdF (Value.int .u8) aP P :: ([BytF ps, BxF b8 [.int .i64 cn, .int .i64 (N : Nat), .int .i64 (sumB E)] 115, RdF (Value.int .u8) aE E, DefF D] ++ G)) m hrc (by omega) rfl hM0 (List.mem_cons_of_mem _ List.mem_cons_self) (fun f hf => (List.mem_cons.1 hf).elim (fun h => List.mem_cons.2 (.inl h)) (fun h => List.mem_cons_of_mem _ (List.mem_cons_of_mem _ h))) (fun f hf => (List.mem_cons.1 hf).elim (fun h => by rw [h]; exact Nb.rd) (hnb f)) (fr_two hFt rfl rfl) (l2 := [(11, .slice aP P.length P.length), (10, .int .i64 k), (9, .pointer (some ⟨b, 0, none⟩)), (8, .pointer (some ⟨b8, 0, none⟩))]) ?_ ?_
    · intro k2 a hF
      (repeat' (first | (with_reducible refine w_seq ?_) | ((with_reducible refine c_regionR ?_ ?_); rotate_left; exact rfl) | (with_reducible refine s_nil ?_) | (with_reducible refine q_then_n ?_) | ((with_reducible apply s_pure hF); exact rfl; exact rfl; exact rfl; (first | exact trivial | omega | exact ⟨Int.natCast_nonneg _, Int.ofNat_lt.2 (by assumption)⟩ | decide); clear hF a; intro a hF)))
      exact q_cut ⟨rfl, hF.sub (by repeat (first | exact Sub.nil | refine Sub.cons rfl (by first | with_reducible rfl | (refine congrArg (Value.int _) ?_; omega) | exact rfl) ?_))⟩
    · intro k2 a W2 hF hM
      dsimp only [List.cons_append, List.nil_append] at hM
      obtain ⟨ad, rfl⟩ : ∃ ad, aP = some ad := rd_some hM (enc := Value.int .u8) (a := aP) (xs := P) (by (repeat (first | exact List.mem_cons_self | refine List.mem_cons_of_mem _ ?_))) (List.getElem?_eq_getElem hP0)
      have hb4 : ∀ x ∈ [cn, (k : Int), ((N : Nat) : Int), sumB E], 0 ≤ x ∧ x ≤ 4294967295 := by
        intro x hx
        simp only [List.mem_cons, List.not_mem_nil, or_false] at hx
        rcases hx with rfl | rfl | rfl | rfl <;> omega
      have hh4 := hdPut_c cn k N (sumB E) hb4
      have hkN : pcB cn N (sumB E) p E k = hdB [cn, (k : Int), ((N : Nat) : Int), sumB E] ++ P := by rw [hP]; rfl
      have hhl : (hdB [cn, (k : Int), ((N : Nat) : Int), sumB E]).length ≤ 40 := by
        have : (hdB [cn, (k : Int), ((N : Nat) : Int), sumB E]).length ≤ 8 * 4 := flat_len8 (l := [cn, (k : Int), ((N : Nat) : Int), sumB E]) fun x hx => by have := hb4 x hx; omega
        omega
      have hPm : P.length ≤ 4096 := by omega
      generalize hdB [cn, (k : Int), ((N : Nat) : Int), sumB E] = H at *
      with_reducible refine w_block ?_
      refine c_drawR (fun i => Nat.ble 9 i) rfl (fun ⟨_, _, h⟩ => h) (fun x hx => hx) hM ?_; clear hM; intro w hM
      (first | (apply t_load (i := 0) hF rfl rfl rfl; (repeat (first | exact List.mem_cons_self | refine List.mem_cons_of_mem _ ?_)); exact rfl; exact rfl; kernel_rfl; exact hM.sm; exact (fun _ _ _ h => h); clear hF a; intro a hF))
      (first | (apply t_loadK (i := 1) hF rfl rfl rfl; (repeat (first | exact List.mem_cons_self | refine List.mem_cons_of_mem _ ?_)); exact rfl; exact rfl; kernel_rfl; exact hM.sm; exact (fun _ _ _ h => h); clear hF a; intro a hF))
      (first | (refine t_pure (i := 2) hF rfl rfl rfl rfl (by kernel_rfl) hM.sm (fun _ _ _ h => h) ?_ ?_; (first | exact trivial | omega | decide); clear hF a; intro a hF))
      (first | (refine t_pure (i := 3) hF rfl rfl rfl rfl (by kernel_rfl) hM.sm (fun _ _ _ h => h) ?_ ?_; (first | exact trivial | omega | decide); clear hF a; intro a hF))
      (first | (refine t_pure (i := 5) hF rfl rfl rfl rfl (by kernel_rfl) hM.sm (fun _ _ _ h => h) ?_ ?_; (first | exact trivial | omega | decide); clear hF a; intro a hF))
      refine t_one (i := 4) hF rfl (by kernel_rfl) rfl ?_
      intro K hK
      (apply x_callO hF; exact rfl; exact rfl; exact rfl; exact rfl; exact (hh4 _ _ hM.lt); clear hF a; rintro v wn a ⟨aH, mH, cH, hmH, rfl, hO⟩ hS hF; replace hM := hM.addRows hS hO; clear hS hO; dsimp only [List.cons_append, List.nil_append] at hM)
      refine hK _ _ (fun _ => (hM.sm.sub (fun x hx => by repeat (first | exact hx | refine List.mem_cons_of_mem _ ?_)) (fun _ h => by repeat (first | exact h | refine List.mem_cons_of_mem _ ?_)))) ?_; clear hK
      refine t_one (i := 6) hF rfl (by kernel_rfl) rfl ?_
      intro K hK
      (refine e_app (k := 0) (ys := P.map (Value.int .u8)) hF hM rfl rfl rfl .z (by rw [List.length_map]; omega) (by have := rd_cells (hM.facts (RdF (Value.int .u8) (some ad) P) (by (repeat (first | with_reducible exact List.mem_cons_self | refine List.mem_cons_of_mem _ ?_)))) P.length; rwa [List.take_length] at this) (one_map' _) (by omega) ⟨by omega, by omega⟩ ?_; clear hM; intro gA capA w hM; dsimp only [List.set] at hM; replace hF := hF.put (d := 50) rfl (.slice (some ⟨gA, 0, none⟩) (mH + P.length) capA); generalize a.put (some 50) _ = a at *)
      rw [← List.map_append] at hM; have hcap6 := row_capC hM (i := 0) rfl; replace hM := hM.freezeN
      refine hK _ _ (fun _ => (hM.sm.sub (fun x hx => by repeat (first | exact hx | refine List.mem_cons_of_mem _ ?_)) (fun _ h => by repeat (first | exact h | refine List.mem_cons_of_mem _ ?_)))) ?_; clear hK
      refine t_one (i := 7) hF rfl (by kernel_rfl) rfl ?_
      intro K hK
      (refine x_lit hF hM rfl rfl rfl ?_; clear hF hM a; intro bl w a hM hF)
      refine hK _ _ (fun _ => (hM.sm.sub (fun x hx => by repeat (first | exact hx | refine List.mem_cons_of_mem _ ?_)) (fun _ h => by repeat (first | exact h | refine List.mem_cons_of_mem _ ?_)))) ?_; clear hK
      refine t_one (i := 8) hF rfl (by kernel_rfl) rfl ?_
      intro K hK
      (apply x_app hF hM rfl rfl rfl; (repeat (first | exact List.mem_cons_self | refine List.mem_cons_of_mem _ ?_)); (repeat (first | exact Kth.z | apply Kth.s)); exact rfl; exact rfl; exact rfl; exact rfl; omega; clear hF hM a; intro g cap w a hM hF; dsimp only [List.set] at hM)
      refine hK _ _ (fun _ => (hM.sm.sub (fun x hx => by repeat (first | exact hx | refine List.mem_cons_of_mem _ ?_)) (fun _ h => by repeat (first | exact h | refine List.mem_cons_of_mem _ ?_)))) ?_; clear hK
      refine t_one (i := 9) hF rfl (by kernel_rfl) rfl ?_
      intro K hK
      (apply x_store hF hM rfl rfl rfl; (repeat (first | exact Upd.z | apply Upd.s)); exact rfl; exact rfl; exact rfl; clear hF hM a; intro w a hM hF)
      refine hK _ _ (fun h => by cases h) ?_; clear hK
      refine t_done (by kernel_rfl) ?_
      (repeat' (first | (with_reducible refine q_blk_n ?_)))
      obtain ⟨q, hq⟩ : ∃ q : BP, q = (H ++ P, some ⟨gA, 0, none⟩, capA) := ⟨_, rfl⟩
      have hqe : encBP q = .slice (some ⟨gA, 0, none⟩) (mH + P.length) capA := by rw [hq]; unfold encBP; rw [List.length_append, ← hmH]
      have hqf := hM.facts (RdF (Value.int .u8) (some ⟨gA, 0, none⟩) (H ++ P)) List.mem_cons_self
      have hM2 := hM.addFact (byt_snoc (hM.facts (BytF ps) (by simp)) (p := q) (by rw [hq]; exact hqf))
      have hM3 := (hM2.sub (.cons _ (.refl _)) (.refl _) (fun _ h => h)).rowsEq (L' := [⟨58, 1, .slice (some ⟨g, 0, none⟩) (k + 1) cap, k + 1, (ps ++ [q]).map encBP⟩]) (by rw [List.map_append, List.map_cons, hqe]; rfl)
      refine q_cut ⟨_, _, _, [BytF (ps ++ [q]), BxF b8 [.int .i64 cn, .int .i64 (N : Nat), .int .i64 (sumB E)] 115, RdF (Value.int .u8) aE E, DefF D] ++ G, hM3, by simp, ?_, ?_, fun w4 h4 => ⟨rfl, [⟨b, ⟨[.slice (some ⟨g, 0, none⟩) (k + 1) cap]⟩, 55⟩], _, [BytF (ps ++ [q]), BxF b8 [.int .i64 cn, .int .i64 (N : Nat), .int .i64 (sumB E)] 115, RdF (Value.int .u8) aE E, DefF D], ⟨ps ++ [q], _, ?_, ?_, rfl, rfl, rfl⟩, h4⟩⟩
      · intro f hf
        simp only [List.mem_cons, List.mem_append, List.not_mem_nil, or_false] at hf ⊢
        rcases hf with (h | h | h | h) | h <;> simp [h]
      · intro f hf
        rcases List.mem_append.1 hf with hf | hf
        · rcases List.mem_cons.1 hf with rfl | hf
          · exact Nb.byt
          · exact hnb f (List.mem_append_left _ (List.mem_cons_of_mem _ hf))
        · exact hnb f (List.mem_append_right _ hf)
      · rw [List.map_append, hps, List.range_succ, List.map_append, List.map_cons, List.map_cons, hpc, hkN, hq]
        rfl
      · intro y hy
        rcases List.mem_append.1 hy with hy | hy
        · exact hcap y hy
        · rw [List.mem_singleton.1 hy, hq]
          dsimp only
          rw [List.length_append, ← hmH]
          exact hcap6
  · refine (hM1.addFact (f := BytF []) (Has.pure fun _ q hq => by cases hq)).sub (.refl _) (.refl _) ?_
    intro f hf
    simp only [List.mem_cons, List.not_mem_nil, or_false] at hf ⊢
    rcases hf with h | h | h | h | h | h | h <;> simp [h]
  · rintro e W3 h3
    cases e with
    | returned v =>
      obtain ⟨bs', L', Fs', ⟨ps, ov, hps, hcap, rfl, rfl, rfl⟩, hM3⟩ := h3
      rw [hN] at hps hM3
      have hlen : ps.length = N := by have := congrArg List.length hps; simpa using this
      refine ⟨_, _, _, hM3, ?_, fun a w4 hF hM => ?_⟩
      · intro f hf
        simp only [List.mem_cons, List.not_mem_nil, or_false] at hf
        rcases hf with rfl | rfl | rfl | rfl
        · exact Nb.byt
        · exact Nb.bx
        · exact Nb.rd
        · exact Nb.dfd (by omega)
      · clear hM1
        obtain ⟨av, cv, rfl, hcv, -⟩ := OffR.shape hM (k := 0) rfl (OffR.plain hM List.mem_cons_self)
        (repeat' (first | (with_reducible refine w_seq ?_) | (with_reducible refine c_region ?_) | (with_reducible refine s_nil ?_) | (with_reducible refine q_then_n ?_) | ((with_reducible apply s_pure hF); exact rfl; exact rfl; exact rfl; (first | exact trivial | omega | exact ⟨Int.natCast_nonneg _, Int.ofNat_lt.2 (by assumption)⟩ | decide); clear hF a; intro a hF) | ((with_reducible apply s_load hF hM); exact rfl; exact rfl; (repeat (first | exact List.mem_cons_self | refine List.mem_cons_of_mem _ ?_)); exact rfl; exact rfl; clear hF a; intro a hF) | (with_reducible refine w_ret ?_) | (with_reducible refine q_blk_n ?_)))
        refine f_retMN [BytF ps] Try.results19 hF hM (D := D) (by simp) hD (by simp) ?_ (by (repeat (first | exact RL.nil | (apply RL.tmp; exact rfl) | (apply RL.cell; exact rfl; (repeat (first | exact List.mem_cons_self | refine List.mem_cons_of_mem _ ?_)); exact rfl)))) fun w' h' => ?_
        · intro f hf
          rw [List.mem_singleton.1 hf]
          exact Nb.byt
        · refine Ret.mk h'.since ?_
          dsimp only [resV]
          exact ⟨av, N, cv, ps, rfl, hps, hlen, hcap, hcv, h'.rowFact List.mem_cons_self, (h'.facts (BytF ps) List.mem_cons_self).own_eq (fun _ h => .inl h)⟩
    | panicked c => exact h3.elim
    | outgrown => exact h3.elim
end
end Go.Proofs.Ytadfdpkhehdikaa


/- batch: a part is parsed. -/
namespace Go.Proofs.Ytadfdpkhehdikaa
open Go.RowKit Go.Shelf D29 B31
theorem IntP_c (n : Nat) (hn : n ≤ 9007199254740991) (ys : List Int) (hb : By ys) (hlen : ys.length ≤ 100000) (a0 : Option Addr) (m c0 : Nat) (hm : (puts n ++ ys).length = m) (hc0 : m ≤ c0) (own : Nat → Prop) (W : World) (hl : ∀ b, own b → b < W.heap.size) (hv : Has own W (RdF (Value.int .u8) a0 (puts n ++ ys))) :
    Calls Try.prog 64 ⟨[.slice a0 m c0]⟩ W (Ret W fun v w' => ∃ a' c', v = .tuple #[.int .i64 n, .slice a' ys.length c', .int .i64 0] ∧ Has own w' (RdF (Value.int .u8) a' ys) ∧ ys.length ≤ c') := by
  subst hm
  have hr := rdNum_puts hn ys
  have hp := puts_len8 hn
  have h := Int_ok (puts n ++ ys) (by_app (puts_By n) hb) (by rw [List.length_append]; omega) a0 c0 hc0 own W hl hv (by rw [hr])
  rw [hr] at h
  dsimp only at h
  rw [List.drop_left] at h
  exact h.mono fun _ _ ⟨v, e1, e2, a', c', e3, hO⟩ => ⟨v, e1, e2, a', c', e3, hO.fact hl⟩
namespace B31
def hdRest (h0 h1 h2 h3 : Nat) (P : List Int) : Nat → List Int
  | 0 => puts h0 ++ (puts h1 ++ (puts h2 ++ (puts h3 ++ P)))
  | 1 => puts h1 ++ (puts h2 ++ (puts h3 ++ P))
  | 2 => puts h2 ++ (puts h3 ++ P)
  | 3 => puts h3 ++ P
  | _ => P
def hdCs (h0 h1 h2 h3 : Nat) : Nat → List Value
  | 0 => [.int .i64 0, .int .i64 0, .int .i64 0, .int .i64 0]
  | 1 => [.int .i64 h0, .int .i64 0, .int .i64 0, .int .i64 0]
  | 2 => [.int .i64 h0, .int .i64 0, .int .i64 0, .int .i64 h1]
  | 3 => [.int .i64 h0, .int .i64 h2, .int .i64 0, .int .i64 h1]
  | _ => [.int .i64 h0, .int .i64 h2, .int .i64 h3, .int .i64 h1]
def hdPt (b : Nat) : List (Option Addr) := [some ⟨b, 0, none⟩, some ⟨b, 3, none⟩, some ⟨b, 1, none⟩, some ⟨b, 2, none⟩]
end B31
section
variable (h0 h1 h2 h3 : Nat) (b0 : 1 ≤ h0 ∧ h0 ≤ 1073741824) (b1 : h1 < h2) (b2 : h2 ≤ 65536) (b3 : h3 ≤ 4294967295)
include b0 b1 b2 b3
theorem hdCorr_c (own : Nat → Prop) (W : World) (hl : ∀ b, own b → b < W.heap.size) :
    Calls Try.prog 101 ⟨[.agg #[.int .i64 h0, .int .i64 h2, .int .i64 h3, .int .i64 h1]]⟩ W (Ret W fun v _ => v = .bool true) := by
  have hM := Mm.start hl
  refine f_start Try.func101 rfl Try.ntmps101 rfl rfl ?_; intro a hF
  (repeat' (first | (with_reducible refine w_seq ?_) | (with_reducible refine c_region ?_) | (with_reducible refine s_nil ?_) | (with_reducible refine q_then_n ?_) | ((with_reducible apply s_pure hF); exact rfl; exact rfl; exact rfl; (first | exact trivial | omega | exact ⟨Int.natCast_nonneg _, Int.ofNat_lt.2 (by assumption)⟩ | decide); clear hF a; intro a hF) | ((with_reducible apply s_load hF hM); exact rfl; exact rfl; (repeat (first | exact List.mem_cons_self | refine List.mem_cons_of_mem _ ?_)); exact rfl; exact rfl; clear hF a; intro a hF) | ((with_reducible apply s_box hF hM); exact rfl; exact rfl; exact rfl; exact rfl; clear hF hM a; intro b w a hM hF) | (with_reducible refine w_ret ?_) | ((fail_if_success ((with_reducible refine g_known true hF ?_ ?_); focus exact rfl)); (fail_if_success ((with_reducible refine g_known false hF ?_ ?_); focus exact rfl)); (with_reducible apply g_dec hF); exact rfl; exact rfl; all_goals (clear hF; intro hc hF); all_goals (try (exfalso; omega)))))
  all_goals first | (exfalso; omega) | skip
  (apply f_ret Try.results101 hF hM; (repeat (first | exact RL.nil | (apply RL.tmp; exact rfl) | (apply RL.cell; exact rfl; (repeat (first | exact List.mem_cons_self | refine List.mem_cons_of_mem _ ?_)); exact rfl))); refine Ret.mk hM.since ?_; dsimp only [resV])
  exact congrArg Value.bool (by simp; omega)
set_option maxRecDepth 20000 in
set_option maxHeartbeats 4000000 in
theorem parse_c (P : List Int) (hPb : By P) (hP : 1 ≤ P.length ∧ P.length ≤ 4096) (a0 : Option Addr) (m c0 : Nat) (hm : (hdB [(h0 : Int), h1, h2, h3] ++ P).length = m) (hc0 : m ≤ c0) (own : Nat → Prop) (W : World) (hl : ∀ b, own b → b < W.heap.size) (hv : Has own W (RdF (Value.int .u8) a0 (hdB [(h0 : Int), h1, h2, h3] ++ P))) :
    Calls Try.prog 65 ⟨[.slice a0 m c0]⟩ W (Ret W fun v w' => ∃ a' c', v = .tuple #[.agg #[.int .i64 h0, .int .i64 h2, .int .i64 h3, .int .i64 h1], .slice a' P.length c', .int .i64 0] ∧ Has own w' (RdF (Value.int .u8) a' P) ∧ P.length ≤ c') := by
  have hM := (Mm.start hl).known hv
  have e4 := hdCorr_c h0 h1 h2 h3 b0 b1 b2 b3
  have g0 := puts_len8 (n := h0) (by omega)
  have g1 := puts_len8 (n := h1) (by omega)
  have g2 := puts_len8 (n := h2) (by omega)
  have g3 := puts_len8 (n := h3) (by omega)
  have y3 := by_app (puts_By h3) hPb
  have y2 := by_app (puts_By h2) y3
  have y1 := by_app (puts_By h1) y2
  have E0 : hdB [(h0 : Int), h1, h2, h3] ++ P = puts h0 ++ (puts h1 ++ (puts h2 ++ (puts h3 ++ P))) := by simp [hdB]
  rw [E0] at hm hv hM
  have L3 : (puts h3 ++ P).length = (puts h3).length + P.length := List.length_append
  have L2 : (puts h2 ++ (puts h3 ++ P)).length = (puts h2).length + (puts h3 ++ P).length := List.length_append
  have L1 : (puts h1 ++ (puts h2 ++ (puts h3 ++ P))).length = (puts h1).length + (puts h2 ++ (puts h3 ++ P)).length := List.length_append
  refine f_start Try.func65 rfl Try.ntmps65 rfl rfl ?_; intro a hF
  (repeat' (first | (with_reducible refine w_seq ?_) | (with_reducible refine c_region ?_) | (with_reducible refine s_nil ?_) | ((with_reducible apply s_lit hF hM); exact rfl; exact rfl; exact rfl; exact rfl; clear hF hM a; intro bl w a hM hF; replace hM := Mm.freeze hM) | (with_reducible refine q_then_n ?_) | ((with_reducible apply s_pure hF); exact rfl; exact rfl; exact rfl; (first | exact trivial | omega | exact ⟨Int.natCast_nonneg _, Int.ofNat_lt.2 (by assumption)⟩ | decide); clear hF a; intro a hF) | ((with_reducible apply s_alloc hF hM); exact rfl; exact rfl; exact rfl; clear hF hM a; intro b w a hM hF) | (with_reducible refine w_block ?_)))
  rename_i b9 _ _
  have hpt : Has _ _ (RdF Value.pointer (some ⟨bl, 0, none⟩) (hdPt b)) := Has.lit (hM.facts _ List.mem_cons_self) (hdPt b) rfl
  replace hM := hM.addFact hpt
  refine c_loop (m := 4) (fun z a w' => ∃ (k n : Nat) (a2 : Option Addr) (c2 : Nat), z + k = 4 ∧ (hdRest h0 h1 h2 h3 P k).length = n ∧ n ≤ c2 ∧
    Fr 58 [] [(22, .int .i64 k), (21, .int .i64 (4 : Nat)), (20, .slice (some ⟨bl, 0, none⟩) 4 4), (6, .slice a2 n c2), (5, .pointer (some ⟨b, 0, none⟩)), (2, .pointer (some ⟨b9, 0, none⟩))] a ∧
    Mm own W [⟨b, ⟨hdCs h0 h1 h2 h3 k⟩, 120⟩, ⟨b9, ⟨[.int .i64 0, .int .i64 0, .int .i64 0, .int .i64 0]⟩, 120⟩] [] [RdF (Value.int .u8) a2 (hdRest h0 h1 h2 h3 P k), RdF Value.pointer (some ⟨bl, 0, none⟩) (hdPt b)] w')
    ⟨0, m, a0, c0, rfl, hm, hc0, hF.sub (by repeat (first | exact Sub.nil | refine Sub.cons rfl (by first | with_reducible rfl | (refine congrArg (Value.int _) ?_; omega) | exact rfl) ?_)), hM.sub (.refl _) (.refl _) (by intro f hf; simp only [List.mem_cons, List.not_mem_nil, or_false] at hf; (repeat (rcases hf with rfl | hf; · (repeat (first | exact List.mem_cons_self | refine List.mem_cons_of_mem _ ?_)))); first | (subst hf; (repeat (first | exact List.mem_cons_self | refine List.mem_cons_of_mem _ ?_)); done) | (repeat (first | exact hf | refine List.mem_cons_of_mem _ ?_)))⟩ ?_
  clear hF hM a hpt
  rintro z a w' ⟨k, n, a2, c2, hz, hn, hnc, hF, hM⟩
  rcases k with _ | _ | _ | _ | k
  · have hM1 : Mm own W [⟨b, ⟨hdCs h0 h1 h2 h3 0⟩, 120⟩, ⟨b9, ⟨[.int .i64 0, .int .i64 0, .int .i64 0, .int .i64 0]⟩, 120⟩] [] [RdF (Value.int .u8) a2 (puts h0 ++ (puts h1 ++ (puts h2 ++ (puts h3 ++ P)))), RdF Value.pointer (some ⟨bl, 0, none⟩) (hdPt b)] w' := hM
    clear hM
    have hM := hM1
    clear hM1
    dsimp only [hdCs] at hM
    replace hn : (puts h0 ++ (puts h1 ++ (puts h2 ++ (puts h3 ++ P)))).length = n := hn
    have hx : (hdPt b)[0]? = some (some ⟨b, 0, none⟩) := rfl
    (repeat' (first | (with_reducible refine w_seq ?_) | (with_reducible refine c_region ?_) | (with_reducible refine s_nil ?_) | ((with_reducible apply s_call (f := 64) hF hM); exact rfl; exact rfl; exact rfl; exact rfl; exact rfl; exact (IntP_c h0 (by omega) _ y1 (by omega) a2 n c2 hn hnc _ _ hM.lt (hM.facts _ List.mem_cons_self)); clear hF hM a; rintro v w a ⟨a3, c3, rfl, k3, k4⟩ - hM hF; replace hM := hM.addFact k3) | (with_reducible refine q_then_n ?_) | ((with_reducible apply s_pure hF); exact rfl; exact rfl; exact rfl; (first | exact trivial | omega | exact ⟨Int.natCast_nonneg _, Int.ofNat_lt.2 (by assumption)⟩ | decide); clear hF a; intro a hF) | ((with_reducible apply s_loadF hF hM); exact rfl; exact rfl; (repeat (first | exact List.mem_cons_self | refine List.mem_cons_of_mem _ ?_)); exact rfl; exact rfl; (first | with_reducible assumption | (simp only [Int.toNat_natCast]; with_reducible assumption)); clear hF a; intro a hF) | ((with_reducible apply s_store hF hM); exact rfl; exact rfl; exact rfl; exact rfl; (repeat (first | exact Upd.z | apply Upd.s)); exact rfl; exact rfl; exact rfl; clear hM; intro w hM) | (with_reducible refine w_skip ?_) | (with_reducible refine w_block ?_) | (with_reducible refine q_blk_n ?_) | ((with_reducible apply c_true2 hF); exact rfl; (first | with_reducible rfl | (refine congrArg Value.bool ?_; focus (simp; done)))) | ((with_reducible apply c_false2 hF); exact rfl; (first | with_reducible rfl | (refine congrArg Value.bool ?_; focus (simp; done))))))
    exact ⟨z - 1, by omega, 1, (puts h1 ++ (puts h2 ++ (puts h3 ++ P))).length, a3, c3, by omega, rfl, k4, hF.sub (by repeat (first | exact Sub.nil | refine Sub.cons rfl (by first | with_reducible rfl | (refine congrArg (Value.int _) ?_; omega) | exact rfl) ?_)), hM.sub (.refl _) (.refl _) (fun f hf => (List.mem_cons.1 hf).elim (fun h => by rw [h]; exact List.mem_cons_self) (fun h => by rw [List.mem_singleton.1 h]; exact List.mem_cons_of_mem _ (List.mem_cons_of_mem _ List.mem_cons_self)))⟩
  · have hM1 : Mm own W [⟨b, ⟨hdCs h0 h1 h2 h3 1⟩, 120⟩, ⟨b9, ⟨[.int .i64 0, .int .i64 0, .int .i64 0, .int .i64 0]⟩, 120⟩] [] [RdF (Value.int .u8) a2 (puts h1 ++ (puts h2 ++ (puts h3 ++ P))), RdF Value.pointer (some ⟨bl, 0, none⟩) (hdPt b)] w' := hM
    clear hM
    have hM := hM1
    clear hM1
    dsimp only [hdCs] at hM
    replace hn : (puts h1 ++ (puts h2 ++ (puts h3 ++ P))).length = n := hn
    have hx : (hdPt b)[1]? = some (some ⟨b, 3, none⟩) := rfl
    (repeat' (first | (with_reducible refine w_seq ?_) | (with_reducible refine c_region ?_) | (with_reducible refine s_nil ?_) | ((with_reducible apply s_call (f := 64) hF hM); exact rfl; exact rfl; exact rfl; exact rfl; exact rfl; exact (IntP_c h1 (by omega) _ y2 (by omega) a2 n c2 hn hnc _ _ hM.lt (hM.facts _ List.mem_cons_self)); clear hF hM a; rintro v w a ⟨a3, c3, rfl, k3, k4⟩ - hM hF; replace hM := hM.addFact k3) | (with_reducible refine q_then_n ?_) | ((with_reducible apply s_pure hF); exact rfl; exact rfl; exact rfl; (first | exact trivial | omega | exact ⟨Int.natCast_nonneg _, Int.ofNat_lt.2 (by assumption)⟩ | decide); clear hF a; intro a hF) | ((with_reducible apply s_loadF hF hM); exact rfl; exact rfl; (repeat (first | exact List.mem_cons_self | refine List.mem_cons_of_mem _ ?_)); exact rfl; exact rfl; (first | with_reducible assumption | (simp only [Int.toNat_natCast]; with_reducible assumption)); clear hF a; intro a hF) | ((with_reducible apply s_store hF hM); exact rfl; exact rfl; exact rfl; exact rfl; (repeat (first | exact Upd.z | apply Upd.s)); exact rfl; exact rfl; exact rfl; clear hM; intro w hM) | (with_reducible refine w_skip ?_) | (with_reducible refine w_block ?_) | (with_reducible refine q_blk_n ?_) | ((with_reducible apply c_true2 hF); exact rfl; (first | with_reducible rfl | (refine congrArg Value.bool ?_; focus (simp; done)))) | ((with_reducible apply c_false2 hF); exact rfl; (first | with_reducible rfl | (refine congrArg Value.bool ?_; focus (simp; done))))))
    exact ⟨z - 1, by omega, 2, (puts h2 ++ (puts h3 ++ P)).length, a3, c3, by omega, rfl, k4, hF.sub (by repeat (first | exact Sub.nil | refine Sub.cons rfl (by first | with_reducible rfl | (refine congrArg (Value.int _) ?_; omega) | exact rfl) ?_)), hM.sub (.refl _) (.refl _) (fun f hf => (List.mem_cons.1 hf).elim (fun h => by rw [h]; exact List.mem_cons_self) (fun h => by rw [List.mem_singleton.1 h]; exact List.mem_cons_of_mem _ (List.mem_cons_of_mem _ List.mem_cons_self)))⟩
  · have hM1 : Mm own W [⟨b, ⟨hdCs h0 h1 h2 h3 2⟩, 120⟩, ⟨b9, ⟨[.int .i64 0, .int .i64 0, .int .i64 0, .int .i64 0]⟩, 120⟩] [] [RdF (Value.int .u8) a2 (puts h2 ++ (puts h3 ++ P)), RdF Value.pointer (some ⟨bl, 0, none⟩) (hdPt b)] w' := hM
    clear hM
    have hM := hM1
    clear hM1
    dsimp only [hdCs] at hM
    replace hn : (puts h2 ++ (puts h3 ++ P)).length = n := hn
    have hx : (hdPt b)[2]? = some (some ⟨b, 1, none⟩) := rfl
    (repeat' (first | (with_reducible refine w_seq ?_) | (with_reducible refine c_region ?_) | (with_reducible refine s_nil ?_) | ((with_reducible apply s_call (f := 64) hF hM); exact rfl; exact rfl; exact rfl; exact rfl; exact rfl; exact (IntP_c h2 (by omega) _ y3 (by omega) a2 n c2 hn hnc _ _ hM.lt (hM.facts _ List.mem_cons_self)); clear hF hM a; rintro v w a ⟨a3, c3, rfl, k3, k4⟩ - hM hF; replace hM := hM.addFact k3) | (with_reducible refine q_then_n ?_) | ((with_reducible apply s_pure hF); exact rfl; exact rfl; exact rfl; (first | exact trivial | omega | exact ⟨Int.natCast_nonneg _, Int.ofNat_lt.2 (by assumption)⟩ | decide); clear hF a; intro a hF) | ((with_reducible apply s_loadF hF hM); exact rfl; exact rfl; (repeat (first | exact List.mem_cons_self | refine List.mem_cons_of_mem _ ?_)); exact rfl; exact rfl; (first | with_reducible assumption | (simp only [Int.toNat_natCast]; with_reducible assumption)); clear hF a; intro a hF) | ((with_reducible apply s_store hF hM); exact rfl; exact rfl; exact rfl; exact rfl; (repeat (first | exact Upd.z | apply Upd.s)); exact rfl; exact rfl; exact rfl; clear hM; intro w hM) | (with_reducible refine w_skip ?_) | (with_reducible refine w_block ?_) | (with_reducible refine q_blk_n ?_) | ((with_reducible apply c_true2 hF); exact rfl; (first | with_reducible rfl | (refine congrArg Value.bool ?_; focus (simp; done)))) | ((with_reducible apply c_false2 hF); exact rfl; (first | with_reducible rfl | (refine congrArg Value.bool ?_; focus (simp; done))))))
    exact ⟨z - 1, by omega, 3, (puts h3 ++ P).length, a3, c3, by omega, rfl, k4, hF.sub (by repeat (first | exact Sub.nil | refine Sub.cons rfl (by first | with_reducible rfl | (refine congrArg (Value.int _) ?_; omega) | exact rfl) ?_)), hM.sub (.refl _) (.refl _) (fun f hf => (List.mem_cons.1 hf).elim (fun h => by rw [h]; exact List.mem_cons_self) (fun h => by rw [List.mem_singleton.1 h]; exact List.mem_cons_of_mem _ (List.mem_cons_of_mem _ List.mem_cons_self)))⟩
  · have hM1 : Mm own W [⟨b, ⟨hdCs h0 h1 h2 h3 3⟩, 120⟩, ⟨b9, ⟨[.int .i64 0, .int .i64 0, .int .i64 0, .int .i64 0]⟩, 120⟩] [] [RdF (Value.int .u8) a2 (puts h3 ++ P), RdF Value.pointer (some ⟨bl, 0, none⟩) (hdPt b)] w' := hM
    clear hM
    have hM := hM1
    clear hM1
    dsimp only [hdCs] at hM
    replace hn : (puts h3 ++ P).length = n := hn
    have hx : (hdPt b)[3]? = some (some ⟨b, 2, none⟩) := rfl
    (repeat' (first | (with_reducible refine w_seq ?_) | (with_reducible refine c_region ?_) | (with_reducible refine s_nil ?_) | ((with_reducible apply s_call (f := 64) hF hM); exact rfl; exact rfl; exact rfl; exact rfl; exact rfl; exact (IntP_c h3 (by omega) _ hPb (by omega) a2 n c2 hn hnc _ _ hM.lt (hM.facts _ List.mem_cons_self)); clear hF hM a; rintro v w a ⟨a3, c3, rfl, k3, k4⟩ - hM hF; replace hM := hM.addFact k3) | (with_reducible refine q_then_n ?_) | ((with_reducible apply s_pure hF); exact rfl; exact rfl; exact rfl; (first | exact trivial | omega | exact ⟨Int.natCast_nonneg _, Int.ofNat_lt.2 (by assumption)⟩ | decide); clear hF a; intro a hF) | ((with_reducible apply s_loadF hF hM); exact rfl; exact rfl; (repeat (first | exact List.mem_cons_self | refine List.mem_cons_of_mem _ ?_)); exact rfl; exact rfl; (first | with_reducible assumption | (simp only [Int.toNat_natCast]; with_reducible assumption)); clear hF a; intro a hF) | ((with_reducible apply s_store hF hM); exact rfl; exact rfl; exact rfl; exact rfl; (repeat (first | exact Upd.z | apply Upd.s)); exact rfl; exact rfl; exact rfl; clear hM; intro w hM) | (with_reducible refine w_skip ?_) | (with_reducible refine w_block ?_) | (with_reducible refine q_blk_n ?_) | ((with_reducible apply c_true2 hF); exact rfl; (first | with_reducible rfl | (refine congrArg Value.bool ?_; focus (simp; done)))) | ((with_reducible apply c_false2 hF); exact rfl; (first | with_reducible rfl | (refine congrArg Value.bool ?_; focus (simp; done))))))
    exact ⟨z - 1, by omega, 4, (P).length, a3, c3, by omega, rfl, k4, hF.sub (by repeat (first | exact Sub.nil | refine Sub.cons rfl (by first | with_reducible rfl | (refine congrArg (Value.int _) ?_; omega) | exact rfl) ?_)), hM.sub (.refl _) (.refl _) (fun f hf => (List.mem_cons.1 hf).elim (fun h => by rw [h]; exact List.mem_cons_self) (fun h => by rw [List.mem_singleton.1 h]; exact List.mem_cons_of_mem _ (List.mem_cons_of_mem _ List.mem_cons_self)))⟩
  · obtain rfl : k = 0 := by omega
    replace hM : Mm own W [⟨b, ⟨[.int .i64 h0, .int .i64 h2, .int .i64 h3, .int .i64 h1]⟩, 120⟩, ⟨b9, ⟨[.int .i64 0, .int .i64 0, .int .i64 0, .int .i64 0]⟩, 120⟩] [] [RdF (Value.int .u8) a2 P, RdF Value.pointer (some ⟨bl, 0, none⟩) (hdPt b)] w' := hM
    replace hn : P.length = n := hn
    (repeat' (first | (with_reducible refine w_seq ?_) | (with_reducible refine c_region ?_) | (with_reducible refine s_nil ?_) | ((with_reducible apply s_call (f := 101) hF hM); exact rfl; exact rfl; exact rfl; exact rfl; exact rfl; exact (e4 _ _ hM.lt); clear hF hM a; rintro v w a rfl - hM hF) | (with_reducible refine q_then_n ?_) | ((with_reducible apply s_pure hF); exact rfl; exact rfl; exact rfl; (first | exact trivial | omega | exact ⟨Int.natCast_nonneg _, Int.ofNat_lt.2 (by assumption)⟩ | decide); clear hF a; intro a hF) | ((with_reducible apply s_load hF hM); exact rfl; exact rfl; (repeat (first | exact List.mem_cons_self | refine List.mem_cons_of_mem _ ?_)); exact rfl; exact rfl; clear hF a; intro a hF) | (with_reducible refine w_skip ?_) | (with_reducible refine w_exit ?_) | (with_reducible refine q_then_x ?_) | (with_reducible refine q_blk_x ?_) | ((with_reducible apply c_false2 hF); exact rfl; (first | with_reducible rfl | (refine congrArg Value.bool ?_; focus (simp; done)))) | ((fail_if_success ((with_reducible refine g_known true hF ?_ ?_); focus exact rfl)); (fail_if_success ((with_reducible refine g_known false hF ?_ ?_); focus exact rfl)); (with_reducible apply g_dec hF); exact rfl; exact rfl; all_goals (clear hF; intro hc hF); all_goals (try (exfalso; omega))) | ((with_reducible apply c_dec hF); exact rfl; all_goals intro hc; all_goals (try (exfalso; omega)))))
    replace hM := hM.perm (List.Perm.swap _ _ _)
    refine c_drawS (fun i => Nat.ble 4 i) (fun x hx => List.mem_cons_of_mem _ (hx)) hM ?_; clear hM; intro w hM
    (first | (apply t_load (i := 0) hF rfl rfl rfl; (repeat (first | exact List.mem_cons_self | refine List.mem_cons_of_mem _ ?_)); exact rfl; exact rfl; kernel_rfl; exact (hM.sm.sub (fun x hx => by repeat (first | exact hx | refine List.mem_cons_of_mem _ ?_)) (fun _ h => by repeat (first | exact h | refine List.mem_cons_of_mem _ ?_))); exact (fun _ _ _ h => h); clear hF a; intro a hF))
    (first | (refine t_pure (i := 1) hF rfl rfl rfl rfl (by kernel_rfl) (hM.sm.sub (fun x hx => by repeat (first | exact hx | refine List.mem_cons_of_mem _ ?_)) (fun _ h => by repeat (first | exact h | refine List.mem_cons_of_mem _ ?_))) (fun _ _ _ h => h) ?_ ?_; (first | exact trivial | omega | decide); clear hF a; intro a hF))
    refine t_one (i := 2) hF rfl (by kernel_rfl) rfl ?_
    intro K hK
    (apply x_callO hF; exact rfl; exact rfl; exact rfl; exact rfl; exact (cloneB_z a2 c2 P n hn _ _ hM.lt (hM.facts (RdF (Value.int .u8) a2 P) (by (repeat (first | with_reducible exact List.mem_cons_self | refine List.mem_cons_of_mem _ ?_)))) (by omega)); clear hF a; rintro v wn a ⟨a3, c3, rfl, hO⟩ hS hF; replace hM := hM.addRows hS hO; clear hS hO; dsimp only [List.cons_append, List.nil_append] at hM)
    refine hK _ _ (fun _ => (hM.sm.sub (fun x hx => by repeat (first | exact hx | refine List.mem_cons_of_mem _ ?_)) (fun _ h => by repeat (first | exact h | refine List.mem_cons_of_mem _ ?_)))) ?_; clear hK
    refine t_one (i := 3) hF rfl (by kernel_rfl) rfl ?_
    intro K hK
    (apply x_store hF hM rfl rfl rfl; (repeat (first | exact Upd.z | apply Upd.s)); exact rfl; exact rfl; exact rfl; clear hF hM a; intro w a hM hF)
    refine hK _ _ (fun _ => (hM.sm.sub (fun x hx => by repeat (first | exact hx | refine List.mem_cons_of_mem _ ?_)) (fun _ h => by repeat (first | exact h | refine List.mem_cons_of_mem _ ?_)))) ?_; clear hK
    refine t_one (i := 4) hF rfl (by kernel_rfl) rfl ?_
    intro K hK
    (first | (refine x_pure hF hM rfl rfl ?_ ?_; (first | exact trivial | omega | decide); clear hF a; intro a hF) | (apply x_load hF hM rfl; (repeat (first | exact List.mem_cons_self | refine List.mem_cons_of_mem _ ?_)); exact rfl; exact rfl; clear hF a; intro a hF))
    refine hK _ _ (fun h => by cases h) ?_; clear hK
    refine t_one (i := 5) hF rfl (by kernel_rfl) rfl ?_
    intro K hK
    (first | (refine x_pure hF hM rfl rfl ?_ ?_; (first | exact trivial | omega | decide); clear hF a; intro a hF) | (apply x_load hF hM rfl; (repeat (first | exact List.mem_cons_self | refine List.mem_cons_of_mem _ ?_)); exact rfl; exact rfl; clear hF a; intro a hF))
    refine hK _ _ (fun h => by cases h) ?_; clear hK
    refine t_done (by kernel_rfl) ?_
    (repeat' (first | (with_reducible refine q_then_n ?_) | (with_reducible refine w_ret ?_)))
    (apply f_ret Try.results65 hF hM; (repeat (first | exact RL.nil | (apply RL.tmp; exact rfl) | (apply RL.cell; exact rfl; (repeat (first | exact List.mem_cons_self | refine List.mem_cons_of_mem _ ?_)); exact rfl))); refine Ret.mk hM.since ?_; dsimp only [resV])
    rw [← hn]
    exact ⟨a3, c3, rfl, hM.rowFact List.mem_cons_self, by have := row_capC hM (i := 0) rfl; omega⟩
end
end Go.Proofs.Ytadfdpkhehdikaa


/- batch.Begin. -/
namespace Go.Proofs.Ytadfdpkhehdikaa
open Go.RowKit Go.Shelf D29 B31
namespace B31
abbrev asmV (num N sum : Int) (a1 : Option Addr) (n1 c1 : Nat) (a2 : Option Addr) (n2 c2 : Nat) : Value := .agg #[.int .i64 num, .int .i64 N, .int .i64 sum, .slice a1 n1 c1, .slice a2 n2 c2]
/-- An assembly: what it has, and what it has seen. -/
def AsmP (own : Nat → Prop) (w : World) (num sum : Int) (N : Nat) (hv : List (List Int)) (sv : List Bool) (v : Value) : Prop := ∃ (hs : List BP) (a1 : Option Addr) (c1 : Nat) (a2 : Option Addr) (c2 : Nat), v = asmV num N sum a1 N c1 a2 N c2 ∧ hs.map (·.1) = hv ∧ Has own w (RdF encBP a1 hs) ∧ Has own w (BytF hs) ∧ Has own w (RdF Value.bool a2 sv) ∧ N ≤ c1 ∧ N ≤ c2
def nilBP : BP := ([], none, 0)
theorem byt_set {own : Nat → Prop} {w : World} {l : List BP} {q : BP} {i : Nat} (h : Has own w (BytF l)) (k : Has own w (RdF (Value.int .u8) q.2.1 q.1)) : Has own w (BytF (l.set i q)) := (h.and k).imp fun _ ⟨h, k⟩ y hy => by
  rcases List.mem_or_eq_of_mem_set hy with hy | rfl
  · exact h y hy
  · exact k
theorem byt_rep {own : Nat → Prop} {w : World} (n : Nat) : Has own w (BytF (List.replicate n nilBP)) := Has.pure fun _ y hy => by
  rw [List.eq_of_mem_replicate hy]
  exact Reads.nil _ _ _
end B31
section
variable (h0 h1 h2 h3 : Nat) (b0 : 1 ≤ h0 ∧ h0 ≤ 1073741824) (b1 : h1 < h2) (b2 : h2 ≤ 65536) (b3 : h3 ≤ 4294967295)
include b0 b1 b2 b3
set_option maxRecDepth 20000 in
set_option maxHeartbeats 4000000 in
theorem Begin_c (P : List Int) (hPb : By P) (hP : 1 ≤ P.length ∧ P.length ≤ 4096) (a0 : Option Addr) (m c0 : Nat) (hm : (hdB [(h0 : Int), h1, h2, h3] ++ P).length = m) (hc0 : m ≤ c0) (own : Nat → Prop) (W : World) (hl : ∀ b, own b → b < W.heap.size) (hv : Has own W (RdF (Value.int .u8) a0 (hdB [(h0 : Int), h1, h2, h3] ++ P))) :
    Calls Try.prog 24 ⟨[.slice a0 m c0]⟩ W (Ret W fun v w' => ∃ u, v = .tuple #[u, .int .i64 0] ∧ AsmP own w' h0 h3 h2 ((List.replicate h2 []).set h1 P) ((List.replicate h2 false).set h1 true) u) := by
  have hM := (Mm.start hl).known hv
  have e1 := fun {own W} hl hv => parse_c h0 h1 h2 h3 b0 b1 b2 b3 P hPb hP a0 m c0 hm hc0 own W hl hv
  refine f_start Try.func24 rfl Try.ntmps24 rfl rfl ?_; intro a hF
  (repeat' (first | (with_reducible refine w_seq ?_) | (with_reducible refine c_region ?_) | (with_reducible refine s_nil ?_) | ((with_reducible apply s_call (f := 65) hF hM); exact rfl; exact rfl; exact rfl; exact rfl; exact rfl; exact (e1 hM.lt (hM.facts _ List.mem_cons_self)); clear hF hM a; rintro v w a ⟨a3, c3, rfl, k3, k4⟩ - hM hF; replace hM := hM.addFact k3) | (with_reducible refine q_then_n ?_) | ((with_reducible apply s_pure hF); exact rfl; exact rfl; exact rfl; (first | exact trivial | omega | exact ⟨Int.natCast_nonneg _, Int.ofNat_lt.2 (by assumption)⟩ | decide); clear hF a; intro a hF) | ((with_reducible apply s_store hF hM); exact rfl; exact rfl; exact rfl; exact rfl; (repeat (first | exact Upd.z | apply Upd.s)); exact rfl; exact rfl; exact rfl; clear hM; intro w hM) | ((with_reducible apply s_alloc hF hM); exact rfl; exact rfl; exact rfl; clear hF hM a; intro b w a hM hF) | (with_reducible refine w_skip ?_) | ((with_reducible apply c_false2 hF); exact rfl; (first | with_reducible rfl | (refine congrArg Value.bool ?_; focus (simp; done))))))
  rename_i b9 _ _ _
  obtain ⟨bh, rfl⟩ : ∃ x, x = b := ⟨_, rfl⟩
  have hh : List.replicate h2 (Value.slice none 0 0) = (List.replicate h2 nilBP).map encBP := by rw [List.map_replicate]; rfl
  have hs : List.replicate h2 (Value.bool false) = (List.replicate h2 false).map Value.bool := by rw [List.map_replicate]
  refine c_cut (fun a' w' => ∃ b7 gh gs, Fr 48 [] [(7, .pointer (some ⟨b7, 0, none⟩)), (5, .slice a3 P.length c3), (4, .pointer (some ⟨bh, 0, none⟩)), (2, .pointer (some ⟨b9, 0, none⟩)), (3, .int .i64 0)] a' ∧ Mm own W [⟨b7, ⟨[.int .i64 h0, .int .i64 h2, .int .i64 h3, .slice (some ⟨gh, 0, none⟩) h2 h2, .slice (some ⟨gs, 0, none⟩) h2 h2]⟩, 65⟩, ⟨bh, ⟨[.int .i64 h0, .int .i64 h2, .int .i64 h3, .int .i64 h1]⟩, 120⟩, ⟨b9, ⟨[.int .i64 0, .int .i64 0, .int .i64 0, .slice none 0 0, .slice none 0 0]⟩, 65⟩] [⟨58, 1, .slice (some ⟨gh, 0, none⟩) h2 h2, h2, (List.replicate h2 nilBP).map encBP⟩, ⟨4, 1, .slice (some ⟨gs, 0, none⟩) h2 h2, h2, (List.replicate h2 false).map Value.bool⟩] [RdF (Value.int .u8) a3 P] w') ?_ ?_
  · refine c_draw (fun i => Nat.ble 19 i) hM ?_; clear hM; intro w hM
    (first | (refine t_pure (i := 0) hF rfl rfl rfl rfl (by kernel_rfl) hM.sm (fun _ _ _ h => h) ?_ ?_; (first | exact trivial | omega | decide); clear hF a; intro a hF))
    (first | (refine t_pure (i := 1) hF rfl rfl rfl rfl (by kernel_rfl) hM.sm (fun _ _ _ h => h) ?_ ?_; (first | exact trivial | omega | decide); clear hF a; intro a hF))
    (first | (apply t_load (i := 2) hF rfl rfl rfl; (repeat (first | exact List.mem_cons_self | refine List.mem_cons_of_mem _ ?_)); exact rfl; exact rfl; kernel_rfl; exact hM.sm; exact (fun _ _ _ h => h); clear hF a; intro a hF))
    (first | (refine t_pure (i := 3) hF rfl rfl rfl rfl (by kernel_rfl) hM.sm (fun _ _ _ h => h) ?_ ?_; (first | exact trivial | omega | decide); clear hF a; intro a hF))
    (first | (refine t_pure (i := 4) hF rfl rfl rfl rfl (by kernel_rfl) hM.sm (fun _ _ _ h => h) ?_ ?_; (first | exact trivial | omega | decide); clear hF a; intro a hF))
    (first | (apply t_load (i := 5) hF rfl rfl rfl; (repeat (first | exact List.mem_cons_self | refine List.mem_cons_of_mem _ ?_)); exact rfl; exact rfl; kernel_rfl; exact hM.sm; exact (fun _ _ _ h => h); clear hF a; intro a hF))
    (first | (refine t_pure (i := 6) hF rfl rfl rfl rfl (by kernel_rfl) hM.sm (fun _ _ _ h => h) ?_ ?_; (first | exact trivial | omega | decide); clear hF a; intro a hF))
    (first | (refine t_pure (i := 7) hF rfl rfl rfl rfl (by kernel_rfl) hM.sm (fun _ _ _ h => h) ?_ ?_; (first | exact trivial | omega | decide); clear hF a; intro a hF))
    (first | (apply t_load (i := 8) hF rfl rfl rfl; (repeat (first | exact List.mem_cons_self | refine List.mem_cons_of_mem _ ?_)); exact rfl; exact rfl; kernel_rfl; exact hM.sm; exact (fun _ _ _ h => h); clear hF a; intro a hF))
    (first | (refine t_pure (i := 9) hF rfl rfl rfl rfl (by kernel_rfl) hM.sm (fun _ _ _ h => h) ?_ ?_; (first | exact trivial | omega | decide); clear hF a; intro a hF))
    (first | (refine t_pure (i := 10) hF rfl rfl rfl rfl (by kernel_rfl) hM.sm (fun _ _ _ h => h) ?_ ?_; (first | exact trivial | omega | decide); clear hF a; intro a hF))
    (first | (apply t_load (i := 11) hF rfl rfl rfl; (repeat (first | exact List.mem_cons_self | refine List.mem_cons_of_mem _ ?_)); exact rfl; exact rfl; kernel_rfl; exact hM.sm; exact (fun _ _ _ h => h); clear hF a; intro a hF))
    (first | (refine t_pure (i := 13) hF rfl rfl rfl rfl (by kernel_rfl) hM.sm (fun _ _ _ h => h) ?_ ?_; (first | exact trivial | omega | decide); clear hF a; intro a hF))
    (first | (refine t_pure (i := 14) hF rfl rfl rfl rfl (by kernel_rfl) hM.sm (fun _ _ _ h => h) ?_ ?_; (first | exact trivial | omega | decide); clear hF a; intro a hF))
    (first | (apply t_load (i := 15) hF rfl rfl rfl; (repeat (first | exact List.mem_cons_self | refine List.mem_cons_of_mem _ ?_)); exact rfl; exact rfl; kernel_rfl; exact hM.sm; exact (fun _ _ _ h => h); clear hF a; intro a hF))
    refine t_three (i := 12) (j := 16) (k := 18) hF rfl rfl rfl (by kernel_rfl) rfl rfl rfl ?_ ?_ ?_
    ·
      intro K hK
      (refine e_make (c := h2) hF hM rfl rfl rfl rfl rfl ⟨by omega, by omega⟩ ?_; clear hM; intro gh w hM; replace hF := hF.put (d := 30) rfl (.slice (some ⟨gh, 0, none⟩) h2 h2); generalize a.put (some 30) _ = a at *)
      refine hK _ _ (fun _ => (hM.sm.sub (fun x hx => by repeat (first | exact hx | refine List.mem_cons_of_mem _ ?_)) (fun _ h => by repeat (first | exact h | refine List.mem_cons_of_mem _ ?_)))) ?_; clear hK
      refine t_two (i := 16) (j := 18) hF rfl rfl (by kernel_rfl) rfl rfl ?_ ?_
      ·
        intro K hK
        (refine e_make (c := h2) hF hM rfl rfl rfl rfl rfl ⟨by omega, by omega⟩ ?_; clear hM; intro gs w hM; replace hF := hF.put (d := 34) rfl (.slice (some ⟨gs, 0, none⟩) h2 h2); generalize a.put (some 34) _ = a at *)
        refine hK _ _ (fun _ => (hM.sm.sub (fun x hx => by repeat (first | exact hx | refine List.mem_cons_of_mem _ ?_)) (fun _ h => by repeat (first | exact h | refine List.mem_cons_of_mem _ ?_)))) ?_; clear hK
        (first | (refine t_pure (i := 17) hF rfl rfl rfl rfl (by kernel_rfl) (hM.sm.sub (fun x hx => by repeat (first | exact hx | refine List.mem_cons_of_mem _ ?_)) (fun _ h => by repeat (first | exact h | refine List.mem_cons_of_mem _ ?_))) (fun _ _ _ h => h) ?_ ?_; (first | exact trivial | omega | decide); clear hF a; intro a hF))
        refine t_one (i := 18) hF rfl (by kernel_rfl) rfl ?_
        intro K hK
        (refine x_alloc hF hM rfl rfl ?_; clear hF hM a; intro b w a hM hF)
        refine hK _ _ (fun _ => (hM.sm.sub (fun x hx => by repeat (first | exact hx | refine List.mem_cons_of_mem _ ?_)) (fun _ h => by repeat (first | exact h | refine List.mem_cons_of_mem _ ?_)))) ?_; clear hK
        refine t_one (i := 19) hF rfl (by kernel_rfl) rfl ?_
        intro K hK
        (apply x_store hF hM rfl rfl rfl; (repeat (first | exact Upd.z | apply Upd.s)); exact rfl; exact rfl; exact rfl; clear hF hM a; intro w a hM hF)
        refine hK _ _ (fun h => by cases h) ?_; clear hK
        refine t_done (by kernel_rfl) ?_
        (repeat (first | fail))
        rw [hh, hs] at hM
        replace hM := hM.sub (.refl _) (.refl _) (Fs' := [RdF (Value.int .u8) a3 P]) (by intro f hf; simp only [List.mem_cons, List.not_mem_nil, or_false] at hf; (repeat (rcases hf with rfl | hf; · (repeat (first | exact List.mem_cons_self | refine List.mem_cons_of_mem _ ?_)))); first | (subst hf; (repeat (first | exact List.mem_cons_self | refine List.mem_cons_of_mem _ ?_)); done) | (repeat (first | exact hf | refine List.mem_cons_of_mem _ ?_)))
        first
          | exact q_cut ⟨b, gh, gs, hF.sub (by repeat (first | exact Sub.nil | refine Sub.cons rfl (by first | with_reducible rfl | (refine congrArg (Value.int _) ?_; omega) | exact rfl) ?_)), hM⟩
          | exact q_cut ⟨b, gh, gs, hF.sub (by repeat (first | exact Sub.nil | refine Sub.cons rfl (by first | with_reducible rfl | (refine congrArg (Value.int _) ?_; omega) | exact rfl) ?_)), hM.permL (.swap _ _ _)⟩
      ·
        intro K hK
        (refine x_alloc hF hM rfl rfl ?_; clear hF hM a; intro b w a hM hF)
        refine hK _ _ (fun _ => (hM.sm.sub (fun x hx => by repeat (first | exact hx | refine List.mem_cons_of_mem _ ?_)) (fun _ h => by repeat (first | exact h | refine List.mem_cons_of_mem _ ?_)))) ?_; clear hK
        refine t_one (i := 16) hF rfl (by kernel_rfl) rfl ?_
        intro K hK
        (refine e_make (c := h2) hF hM rfl rfl rfl rfl rfl ⟨by omega, by omega⟩ ?_; clear hM; intro gs w hM; replace hF := hF.put (d := 34) rfl (.slice (some ⟨gs, 0, none⟩) h2 h2); generalize a.put (some 34) _ = a at *)
        refine hK _ _ (fun _ => (hM.sm.sub (fun x hx => by repeat (first | exact hx | refine List.mem_cons_of_mem _ ?_)) (fun _ h => by repeat (first | exact h | refine List.mem_cons_of_mem _ ?_)))) ?_; clear hK
        (first | (refine t_pure (i := 17) hF rfl rfl rfl rfl (by kernel_rfl) (hM.sm.sub (fun x hx => by repeat (first | exact hx | refine List.mem_cons_of_mem _ ?_)) (fun _ h => by repeat (first | exact h | refine List.mem_cons_of_mem _ ?_))) (fun _ _ _ h => h) ?_ ?_; (first | exact trivial | omega | decide); clear hF a; intro a hF))
        refine t_one (i := 19) hF rfl (by kernel_rfl) rfl ?_
        intro K hK
        (apply x_store hF hM rfl rfl rfl; (repeat (first | exact Upd.z | apply Upd.s)); exact rfl; exact rfl; exact rfl; clear hF hM a; intro w a hM hF)
        refine hK _ _ (fun h => by cases h) ?_; clear hK
        refine t_done (by kernel_rfl) ?_
        (repeat (first | fail))
        rw [hh, hs] at hM
        replace hM := hM.sub (.refl _) (.refl _) (Fs' := [RdF (Value.int .u8) a3 P]) (by intro f hf; simp only [List.mem_cons, List.not_mem_nil, or_false] at hf; (repeat (rcases hf with rfl | hf; · (repeat (first | exact List.mem_cons_self | refine List.mem_cons_of_mem _ ?_)))); first | (subst hf; (repeat (first | exact List.mem_cons_self | refine List.mem_cons_of_mem _ ?_)); done) | (repeat (first | exact hf | refine List.mem_cons_of_mem _ ?_)))
        first
          | exact q_cut ⟨b, gh, gs, hF.sub (by repeat (first | exact Sub.nil | refine Sub.cons rfl (by first | with_reducible rfl | (refine congrArg (Value.int _) ?_; omega) | exact rfl) ?_)), hM⟩
          | exact q_cut ⟨b, gh, gs, hF.sub (by repeat (first | exact Sub.nil | refine Sub.cons rfl (by first | with_reducible rfl | (refine congrArg (Value.int _) ?_; omega) | exact rfl) ?_)), hM.permL (.swap _ _ _)⟩
    ·
      intro K hK
      (refine e_make (c := h2) hF hM rfl rfl rfl rfl rfl ⟨by omega, by omega⟩ ?_; clear hM; intro gs w hM; replace hF := hF.put (d := 34) rfl (.slice (some ⟨gs, 0, none⟩) h2 h2); generalize a.put (some 34) _ = a at *)
      refine hK _ _ (fun _ => (hM.sm.sub (fun x hx => by repeat (first | exact hx | refine List.mem_cons_of_mem _ ?_)) (fun _ h => by repeat (first | exact h | refine List.mem_cons_of_mem _ ?_)))) ?_; clear hK
      refine t_two (i := 12) (j := 18) hF rfl rfl (by kernel_rfl) rfl rfl ?_ ?_
      ·
        intro K hK
        (refine e_make (c := h2) hF hM rfl rfl rfl rfl rfl ⟨by omega, by omega⟩ ?_; clear hM; intro gh w hM; replace hF := hF.put (d := 30) rfl (.slice (some ⟨gh, 0, none⟩) h2 h2); generalize a.put (some 30) _ = a at *)
        refine hK _ _ (fun _ => (hM.sm.sub (fun x hx => by repeat (first | exact hx | refine List.mem_cons_of_mem _ ?_)) (fun _ h => by repeat (first | exact h | refine List.mem_cons_of_mem _ ?_)))) ?_; clear hK
        (first | (refine t_pure (i := 17) hF rfl rfl rfl rfl (by kernel_rfl) (hM.sm.sub (fun x hx => by repeat (first | exact hx | refine List.mem_cons_of_mem _ ?_)) (fun _ h => by repeat (first | exact h | refine List.mem_cons_of_mem _ ?_))) (fun _ _ _ h => h) ?_ ?_; (first | exact trivial | omega | decide); clear hF a; intro a hF))
        refine t_one (i := 18) hF rfl (by kernel_rfl) rfl ?_
        intro K hK
        (refine x_alloc hF hM rfl rfl ?_; clear hF hM a; intro b w a hM hF)
        refine hK _ _ (fun _ => (hM.sm.sub (fun x hx => by repeat (first | exact hx | refine List.mem_cons_of_mem _ ?_)) (fun _ h => by repeat (first | exact h | refine List.mem_cons_of_mem _ ?_)))) ?_; clear hK
        refine t_one (i := 19) hF rfl (by kernel_rfl) rfl ?_
        intro K hK
        (apply x_store hF hM rfl rfl rfl; (repeat (first | exact Upd.z | apply Upd.s)); exact rfl; exact rfl; exact rfl; clear hF hM a; intro w a hM hF)
        refine hK _ _ (fun h => by cases h) ?_; clear hK
        refine t_done (by kernel_rfl) ?_
        (repeat (first | fail))
        rw [hh, hs] at hM
        replace hM := hM.sub (.refl _) (.refl _) (Fs' := [RdF (Value.int .u8) a3 P]) (by intro f hf; simp only [List.mem_cons, List.not_mem_nil, or_false] at hf; (repeat (rcases hf with rfl | hf; · (repeat (first | exact List.mem_cons_self | refine List.mem_cons_of_mem _ ?_)))); first | (subst hf; (repeat (first | exact List.mem_cons_self | refine List.mem_cons_of_mem _ ?_)); done) | (repeat (first | exact hf | refine List.mem_cons_of_mem _ ?_)))
        first
          | exact q_cut ⟨b, gh, gs, hF.sub (by repeat (first | exact Sub.nil | refine Sub.cons rfl (by first | with_reducible rfl | (refine congrArg (Value.int _) ?_; omega) | exact rfl) ?_)), hM⟩
          | exact q_cut ⟨b, gh, gs, hF.sub (by repeat (first | exact Sub.nil | refine Sub.cons rfl (by first | with_reducible rfl | (refine congrArg (Value.int _) ?_; omega) | exact rfl) ?_)), hM.permL (.swap _ _ _)⟩
      ·
        intro K hK
        (refine x_alloc hF hM rfl rfl ?_; clear hF hM a; intro b w a hM hF)
        refine hK _ _ (fun _ => (hM.sm.sub (fun x hx => by repeat (first | exact hx | refine List.mem_cons_of_mem _ ?_)) (fun _ h => by repeat (first | exact h | refine List.mem_cons_of_mem _ ?_)))) ?_; clear hK
        refine t_one (i := 12) hF rfl (by kernel_rfl) rfl ?_
        intro K hK
        (refine e_make (c := h2) hF hM rfl rfl rfl rfl rfl ⟨by omega, by omega⟩ ?_; clear hM; intro gh w hM; replace hF := hF.put (d := 30) rfl (.slice (some ⟨gh, 0, none⟩) h2 h2); generalize a.put (some 30) _ = a at *)
        refine hK _ _ (fun _ => (hM.sm.sub (fun x hx => by repeat (first | exact hx | refine List.mem_cons_of_mem _ ?_)) (fun _ h => by repeat (first | exact h | refine List.mem_cons_of_mem _ ?_)))) ?_; clear hK
        (first | (refine t_pure (i := 17) hF rfl rfl rfl rfl (by kernel_rfl) (hM.sm.sub (fun x hx => by repeat (first | exact hx | refine List.mem_cons_of_mem _ ?_)) (fun _ h => by repeat (first | exact h | refine List.mem_cons_of_mem _ ?_))) (fun _ _ _ h => h) ?_ ?_; (first | exact trivial | omega | decide); clear hF a; intro a hF))
        refine t_one (i := 19) hF rfl (by kernel_rfl) rfl ?_
        intro K hK
        (apply x_store hF hM rfl rfl rfl; (repeat (first | exact Upd.z | apply Upd.s)); exact rfl; exact rfl; exact rfl; clear hF hM a; intro w a hM hF)
        refine hK _ _ (fun h => by cases h) ?_; clear hK
        refine t_done (by kernel_rfl) ?_
        (repeat (first | fail))
        rw [hh, hs] at hM
        replace hM := hM.sub (.refl _) (.refl _) (Fs' := [RdF (Value.int .u8) a3 P]) (by intro f hf; simp only [List.mem_cons, List.not_mem_nil, or_false] at hf; (repeat (rcases hf with rfl | hf; · (repeat (first | exact List.mem_cons_self | refine List.mem_cons_of_mem _ ?_)))); first | (subst hf; (repeat (first | exact List.mem_cons_self | refine List.mem_cons_of_mem _ ?_)); done) | (repeat (first | exact hf | refine List.mem_cons_of_mem _ ?_)))
        first
          | exact q_cut ⟨b, gh, gs, hF.sub (by repeat (first | exact Sub.nil | refine Sub.cons rfl (by first | with_reducible rfl | (refine congrArg (Value.int _) ?_; omega) | exact rfl) ?_)), hM⟩
          | exact q_cut ⟨b, gh, gs, hF.sub (by repeat (first | exact Sub.nil | refine Sub.cons rfl (by first | with_reducible rfl | (refine congrArg (Value.int _) ?_; omega) | exact rfl) ?_)), hM.permL (.swap _ _ _)⟩
    ·
      intro K hK
      (refine x_alloc hF hM rfl rfl ?_; clear hF hM a; intro b w a hM hF)
      refine hK _ _ (fun _ => (hM.sm.sub (fun x hx => by repeat (first | exact hx | refine List.mem_cons_of_mem _ ?_)) (fun _ h => by repeat (first | exact h | refine List.mem_cons_of_mem _ ?_)))) ?_; clear hK
      refine t_two (i := 12) (j := 16) hF rfl rfl (by kernel_rfl) rfl rfl ?_ ?_
      ·
        intro K hK
        (refine e_make (c := h2) hF hM rfl rfl rfl rfl rfl ⟨by omega, by omega⟩ ?_; clear hM; intro gh w hM; replace hF := hF.put (d := 30) rfl (.slice (some ⟨gh, 0, none⟩) h2 h2); generalize a.put (some 30) _ = a at *)
        refine hK _ _ (fun _ => (hM.sm.sub (fun x hx => by repeat (first | exact hx | refine List.mem_cons_of_mem _ ?_)) (fun _ h => by repeat (first | exact h | refine List.mem_cons_of_mem _ ?_)))) ?_; clear hK
        refine t_one (i := 16) hF rfl (by kernel_rfl) rfl ?_
        intro K hK
        (refine e_make (c := h2) hF hM rfl rfl rfl rfl rfl ⟨by omega, by omega⟩ ?_; clear hM; intro gs w hM; replace hF := hF.put (d := 34) rfl (.slice (some ⟨gs, 0, none⟩) h2 h2); generalize a.put (some 34) _ = a at *)
        refine hK _ _ (fun _ => (hM.sm.sub (fun x hx => by repeat (first | exact hx | refine List.mem_cons_of_mem _ ?_)) (fun _ h => by repeat (first | exact h | refine List.mem_cons_of_mem _ ?_)))) ?_; clear hK
        (first | (refine t_pure (i := 17) hF rfl rfl rfl rfl (by kernel_rfl) (hM.sm.sub (fun x hx => by repeat (first | exact hx | refine List.mem_cons_of_mem _ ?_)) (fun _ h => by repeat (first | exact h | refine List.mem_cons_of_mem _ ?_))) (fun _ _ _ h => h) ?_ ?_; (first | exact trivial | omega | decide); clear hF a; intro a hF))
        refine t_one (i := 19) hF rfl (by kernel_rfl) rfl ?_
        intro K hK
        (apply x_store hF hM rfl rfl rfl; (repeat (first | exact Upd.z | apply Upd.s)); exact rfl; exact rfl; exact rfl; clear hF hM a; intro w a hM hF)
        refine hK _ _ (fun h => by cases h) ?_; clear hK
        refine t_done (by kernel_rfl) ?_
        (repeat (first | fail))
        rw [hh, hs] at hM
        replace hM := hM.sub (.refl _) (.refl _) (Fs' := [RdF (Value.int .u8) a3 P]) (by intro f hf; simp only [List.mem_cons, List.not_mem_nil, or_false] at hf; (repeat (rcases hf with rfl | hf; · (repeat (first | exact List.mem_cons_self | refine List.mem_cons_of_mem _ ?_)))); first | (subst hf; (repeat (first | exact List.mem_cons_self | refine List.mem_cons_of_mem _ ?_)); done) | (repeat (first | exact hf | refine List.mem_cons_of_mem _ ?_)))
        first
          | exact q_cut ⟨b, gh, gs, hF.sub (by repeat (first | exact Sub.nil | refine Sub.cons rfl (by first | with_reducible rfl | (refine congrArg (Value.int _) ?_; omega) | exact rfl) ?_)), hM⟩
          | exact q_cut ⟨b, gh, gs, hF.sub (by repeat (first | exact Sub.nil | refine Sub.cons rfl (by first | with_reducible rfl | (refine congrArg (Value.int _) ?_; omega) | exact rfl) ?_)), hM.permL (.swap _ _ _)⟩
      ·
        intro K hK
        (refine e_make (c := h2) hF hM rfl rfl rfl rfl rfl ⟨by omega, by omega⟩ ?_; clear hM; intro gs w hM; replace hF := hF.put (d := 34) rfl (.slice (some ⟨gs, 0, none⟩) h2 h2); generalize a.put (some 34) _ = a at *)
        refine hK _ _ (fun _ => (hM.sm.sub (fun x hx => by repeat (first | exact hx | refine List.mem_cons_of_mem _ ?_)) (fun _ h => by repeat (first | exact h | refine List.mem_cons_of_mem _ ?_)))) ?_; clear hK
        refine t_one (i := 12) hF rfl (by kernel_rfl) rfl ?_
        intro K hK
        (refine e_make (c := h2) hF hM rfl rfl rfl rfl rfl ⟨by omega, by omega⟩ ?_; clear hM; intro gh w hM; replace hF := hF.put (d := 30) rfl (.slice (some ⟨gh, 0, none⟩) h2 h2); generalize a.put (some 30) _ = a at *)
        refine hK _ _ (fun _ => (hM.sm.sub (fun x hx => by repeat (first | exact hx | refine List.mem_cons_of_mem _ ?_)) (fun _ h => by repeat (first | exact h | refine List.mem_cons_of_mem _ ?_)))) ?_; clear hK
        (first | (refine t_pure (i := 17) hF rfl rfl rfl rfl (by kernel_rfl) (hM.sm.sub (fun x hx => by repeat (first | exact hx | refine List.mem_cons_of_mem _ ?_)) (fun _ h => by repeat (first | exact h | refine List.mem_cons_of_mem _ ?_))) (fun _ _ _ h => h) ?_ ?_; (first | exact trivial | omega | decide); clear hF a; intro a hF))
        refine t_one (i := 19) hF rfl (by kernel_rfl) rfl ?_
        intro K hK
        (apply x_store hF hM rfl rfl rfl; (repeat (first | exact Upd.z | apply Upd.s)); exact rfl; exact rfl; exact rfl; clear hF hM a; intro w a hM hF)
        refine hK _ _ (fun h => by cases h) ?_; clear hK
        refine t_done (by kernel_rfl) ?_
        (repeat (first | fail))
        rw [hh, hs] at hM
        replace hM := hM.sub (.refl _) (.refl _) (Fs' := [RdF (Value.int .u8) a3 P]) (by intro f hf; simp only [List.mem_cons, List.not_mem_nil, or_false] at hf; (repeat (rcases hf with rfl | hf; · (repeat (first | exact List.mem_cons_self | refine List.mem_cons_of_mem _ ?_)))); first | (subst hf; (repeat (first | exact List.mem_cons_self | refine List.mem_cons_of_mem _ ?_)); done) | (repeat (first | exact hf | refine List.mem_cons_of_mem _ ?_)))
        first
          | exact q_cut ⟨b, gh, gs, hF.sub (by repeat (first | exact Sub.nil | refine Sub.cons rfl (by first | with_reducible rfl | (refine congrArg (Value.int _) ?_; omega) | exact rfl) ?_)), hM⟩
          | exact q_cut ⟨b, gh, gs, hF.sub (by repeat (first | exact Sub.nil | refine Sub.cons rfl (by first | with_reducible rfl | (refine congrArg (Value.int _) ?_; omega) | exact rfl) ?_)), hM.permL (.swap _ _ _)⟩
  clear hF hM a
  rintro a w ⟨b7, gh, gs, hF, hM⟩
  have hnth : (List.replicate h2 nilBP)[h1]? = some nilBP := by rw [List.getElem?_replicate, if_pos b1]
  have hlr : (List.replicate h2 nilBP).length = h2 := List.length_replicate
  have hlr2 : (List.replicate h2 false).length = h2 := List.length_replicate
  obtain ⟨q, hq⟩ : ∃ q : BP, q = (P, a3, c3) := ⟨_, rfl⟩
  have hqe : Value.slice a3 P.length c3 = encBP q := by rw [hq]; rfl
  rw [hqe] at hF
  (repeat (first | (with_reducible refine w_seq ?_)))
  refine c_draw (fun i => Nat.ble 11 i) hM ?_; clear hM; intro w hM
  (first | (refine t_pure (i := 0) hF rfl rfl rfl rfl (by kernel_rfl) hM.sm (fun _ _ _ h => h) ?_ ?_; (first | exact trivial | omega | decide); clear hF a; intro a hF))
  (first | (apply t_load (i := 1) hF rfl rfl rfl; (repeat (first | exact List.mem_cons_self | refine List.mem_cons_of_mem _ ?_)); exact rfl; exact rfl; kernel_rfl; exact hM.sm; exact (fun _ _ _ h => h); clear hF a; intro a hF))
  (first | (refine t_pure (i := 2) hF rfl rfl rfl rfl (by kernel_rfl) hM.sm (fun _ _ _ h => h) ?_ ?_; (first | exact trivial | omega | decide); clear hF a; intro a hF))
  (first | (apply t_load (i := 3) hF rfl rfl rfl; (repeat (first | exact List.mem_cons_self | refine List.mem_cons_of_mem _ ?_)); exact rfl; exact rfl; kernel_rfl; exact hM.sm; exact (fun _ _ _ h => h); clear hF a; intro a hF))
  (first | (refine t_pure (i := 4) hF rfl rfl rfl rfl (by kernel_rfl) hM.sm (fun _ _ _ h => h) ?_ ?_; (first | exact trivial | omega | decide); clear hF a; intro a hF))
  (first | (apply t_load (i := 5) hF rfl rfl rfl; (repeat (first | exact List.mem_cons_self | refine List.mem_cons_of_mem _ ?_)); exact rfl; exact rfl; kernel_rfl; exact hM.sm; exact (fun _ _ _ h => h); clear hF a; intro a hF))
  (first | (refine t_pure (i := 6) hF rfl rfl rfl rfl (by kernel_rfl) hM.sm (fun _ _ _ h => h) ?_ ?_; (first | exact trivial | omega | decide); clear hF a; intro a hF))
  (first | (apply t_load (i := 7) hF rfl rfl rfl; (repeat (first | exact List.mem_cons_self | refine List.mem_cons_of_mem _ ?_)); exact rfl; exact rfl; kernel_rfl; exact hM.sm; exact (fun _ _ _ h => h); clear hF a; intro a hF))
  (first | (refine t_pure (i := 8) hF rfl rfl rfl rfl (by kernel_rfl) hM.sm (fun _ _ _ h => h) ?_ ?_; (first | exact trivial | omega | decide); clear hF a; intro a hF))
  (first | (refine t_pure (i := 9) hF rfl rfl rfl rfl (by kernel_rfl) hM.sm (fun _ _ _ h => h) ?_ ?_; (first | exact trivial | omega | decide); clear hF a; intro a hF))
  refine t_one (i := 10) hF rfl (by kernel_rfl) rfl ?_
  intro K hK
  ((apply x_storeR hF hM); exact rfl; (repeat (first | exact Kth.z | apply Kth.s)); exact rfl; exact rfl; exact rfl; exact rfl; (first | assumption | omega | (simp only [List.length_set]; omega) | (simp only [Int.toNat_natCast, List.length_set]; omega)); clear hF hM a; intro w a hM hF; dsimp only [List.set] at hM)
  refine hK _ _ (fun _ => (hM.sm.sub (fun x hx => by repeat (first | exact hx | refine List.mem_cons_of_mem _ ?_)) (fun _ h => by repeat (first | exact h | refine List.mem_cons_of_mem _ ?_)))) ?_; clear hK
  refine t_one (i := 11) hF rfl (by kernel_rfl) rfl ?_
  intro K hK
  (first | (refine x_pure hF hM rfl rfl ?_ ?_; (first | exact trivial | omega | decide); clear hF a; intro a hF) | (apply x_load hF hM rfl; (repeat (first | exact List.mem_cons_self | refine List.mem_cons_of_mem _ ?_)); exact rfl; exact rfl; clear hF a; intro a hF))
  refine hK _ _ (fun h => by cases h) ?_; clear hK
  refine t_one (i := 12) hF rfl (by kernel_rfl) rfl ?_
  intro K hK
  ((apply x_storeR hF hM); exact rfl; (repeat (first | exact Kth.z | apply Kth.s)); exact rfl; exact rfl; exact rfl; exact rfl; (first | assumption | omega | (simp only [List.length_set]; omega) | (simp only [Int.toNat_natCast, List.length_set]; omega)); clear hF hM a; intro w a hM hF; dsimp only [List.set] at hM)
  refine hK _ _ (fun h => by cases h) ?_; clear hK
  refine t_done (by kernel_rfl) ?_
  (repeat' (first | (with_reducible refine w_seq ?_) | (with_reducible refine c_region ?_) | (with_reducible refine s_nil ?_) | (with_reducible refine q_then_n ?_) | ((with_reducible apply s_pure hF); exact rfl; exact rfl; exact rfl; (first | exact trivial | omega | exact ⟨Int.natCast_nonneg _, Int.ofNat_lt.2 (by assumption)⟩ | decide); clear hF a; intro a hF) | ((with_reducible apply s_load hF hM); exact rfl; exact rfl; (repeat (first | exact List.mem_cons_self | refine List.mem_cons_of_mem _ ?_)); exact rfl; exact rfl; clear hF a; intro a hF) | ((with_reducible apply s_store hF hM); exact rfl; exact rfl; exact rfl; exact rfl; (repeat (first | exact Upd.z | apply Upd.s)); exact rfl; exact rfl; exact rfl; clear hM; intro w hM) | (with_reducible refine w_ret ?_)))
  (apply f_ret Try.results24 hF hM; (repeat (first | exact RL.nil | (apply RL.tmp; exact rfl) | (apply RL.cell; exact rfl; (repeat (first | exact List.mem_cons_self | refine List.mem_cons_of_mem _ ?_)); exact rfl))); refine Ret.mk hM.since ?_; dsimp only [resV])
  rw [Int.toNat_natCast] at hM
  refine ⟨_, rfl, (List.replicate h2 nilBP).set h1 q, _, h2, _, h2, rfl, ?_, hM.rowFact List.mem_cons_self, byt_set (byt_rep _) ?_, hM.rowFact (List.mem_cons_of_mem _ List.mem_cons_self), Nat.le_refl _, Nat.le_refl _⟩
  · rw [List.map_set, List.map_replicate, hq]
    rfl
  · rw [hq]
    exact (hM.facts (RdF (Value.int .u8) a3 P) (by (repeat (first | with_reducible exact List.mem_cons_self | refine List.mem_cons_of_mem _ ?_)))).own_eq (fun _ h => .inl h)
end
end Go.Proofs.Ytadfdpkhehdikaa


/- The reference of layer 29: Same, SameTokens, Few, FewTokens. -/
namespace Go.Proofs.Ytadfdpkhehdikaa
open Go.RowKit Go.Shelf D29
section
variable {n : Nat} {ds : List Deferred} {l : List (Nat × Value)} {a : Act} {w : World} {os rest : List Oper} {Q : Exit → Act → World → Prop} {d : Nat} {ty : TypeId} {pos : String} {af : Array Edge} {g : Option (Nat × Bool)}
theorem e_neB {t t' : TypeId} {X Y : Operand} {x y : Bool} (hF : Fr n ds l a) (hX : ev l X = some (.bool x)) (hY : ev l Y = some (.bool y)) (hu : Try.prog.underlying t = some .bool) (hg : Try.prog.eqGuardType Try.prog.depth t = false) (w : World) {dst : Option Tmp} :
    (execOp a.eval ⟨dst, .binOp .neq t X Y t', ty, pos, af, g⟩).run Try.prog w = .ok (.value (.bool (decide (x ≠ y)))) w := by
  have h : ∀ d : Nat, (Op.equalIn (d + 1) t (.bool x) (.bool y)).run Try.prog w = .ok (decide (x = y)) w := fun d => by
    cases x <;> cases y <;> simp [Op.equalIn, run_underlying hu]
  have he : (Op.equal t (.bool x) (.bool y)).run Try.prog w = .ok (decide (x = y)) w := h 9999
  simp [execOp, hF.eval hX, hF.eval hY, eqGuard, Sem.run_bind, Result.andThen, hg, binOp, he]
end
namespace D29
instance tokDec : DecidableEq Tok := fun a b => if h : a.r = b.r ∧ a.d = b.d ∧ a.x = b.x then isTrue (by
  obtain ⟨r, d, x⟩ := a
  obtain ⟨r', d', x'⟩ := b
  obtain ⟨h1, h2, h3⟩ := h
  dsimp only at h1 h2 h3
  rw [h1, h2, h3]) else isFalse fun e => h (by rw [e]; exact ⟨rfl, rfl, rfl⟩)
end D29
end Go.Proofs.Ytadfdpkhehdikaa


/- The example of layer 29, in plain terms. -/
namespace Go.Proofs.Ytadfdpkhehdikaa
open Go.RowKit Go.Shelf D29
namespace D29
def sz : List Int := [3, 0, 0, 0, 0, 0, 0, 0]
end D29
end Go.Proofs.Ytadfdpkhehdikaa


/- Layer 29: the laws' own functions: chunks, collide. -/
namespace Go.Proofs.Ytadfdpkhehdikaa
open Go.RowKit Go.Shelf D29
section
variable {n : Nat} {ds : List Deferred} {l : List (Nat × Value)} {a : Act} {w : World} {os rest : List Oper} {Q : Exit → Act → World → Prop} {d : Nat} {ty : TypeId} {pos : String} {af : Array Edge} {g : Option (Nat × Bool)}
theorem s_neB {t t' : TypeId} {X Y : Operand} {x y : Bool} (hF : Fr n ds l a) (hg : wantO os l g = some true) (hX : ev l X = some (.bool x)) (hY : ev l Y = some (.bool y)) (hu : Try.prog.underlying t = some .bool) (hq : Try.prog.eqGuardType Try.prog.depth t = false) (hd : Nat.blt d n = true)
    (kk : ∀ a, Fr n ds ((d, .bool (decide (x ≠ y))) :: l) a → wl ⟨os⟩ Q rest a w) : wl ⟨os⟩ Q (⟨some d, .binOp .neq t X Y t', ty, pos, af, g⟩ :: rest) a w :=
  s_op hF hg fun _ hK => upon_value (e_neB hF hX hY hu hq w) (hK _ _ (kk _ (hF.put hd _)))
end
namespace D29
/-- A store in a slice of stores. -/
abbrev SL := Int × List P × Option Addr × Nat
abbrev stC (s : SL) : List Value := [.int .i64 s.1, .slice s.2.2.1 s.2.1.length s.2.2.2]
def StF (S : List SL) : World → Prop := fun w => ∀ s ∈ S, RdF id s.2.2.1 (cellsP s.2.1) w ∧ DatF s.2.1 w
theorem StF.all {own : Nat → Prop} {w : World} : ∀ {S : List SL}, (∀ s ∈ S, Has own w (RdF id s.2.2.1 (cellsP s.2.1)) ∧ Has own w (DatF s.2.1)) → Has own w (StF S)
  | [], _ => Has.pure fun _ p hp => by simp at hp
  | p :: l, h => (((h p List.mem_cons_self).1.and (h p List.mem_cons_self).2).and (StF.all fun q hq => h q (List.mem_cons_of_mem _ hq))).imp fun w h q hq => by
    rcases List.mem_cons.1 hq with rfl | hq
    · exact h.1
    · exact h.2 q hq
theorem StF.one {own : Nat → Prop} {w : World} {S : List SL} (h : Has own w (StF S)) {s : SL} (hs : s ∈ S) : Has own w (RdF id s.2.2.1 (cellsP s.2.1)) ∧ Has own w (DatF s.2.1) := ⟨h.imp fun _ k => (k s hs).1, h.imp fun _ k => (k s hs).2⟩
theorem DatF.app {own : Nat → Prop} {w : World} {l m : List P} (h : Has own w (DatF l)) (k : Has own w (DatF m)) : Has own w (DatF (l ++ m)) := (h.and k).imp fun w h q hq => by
  rcases List.mem_append.1 hq with hq | hq
  · exact h.1 q hq
  · exact h.2 q hq
theorem DatW.app {l m : List P} (h : DatW l) (k : DatW m) : DatW (l ++ m) := fun q hq => by
  rcases List.mem_append.1 hq with hq | hq
  · exact h q hq
  · exact k q hq
end D29
section
variable (l : Dat) (hl8 : W8 l) (hlb : By8 l) (al : Option Addr) (cl nl : Nat) (hnl : l.length = nl) (hnl4 : nl ≤ 4096) (hcl : nl ≤ cl) (n : Nat) (hn : 1 ≤ n ∧ n ≤ 4096) (S : List SL) (ns : Nat) (hns : S.length = ns) (hS2 : ns ≤ 2) (hS : ∀ s ∈ S, DatW s.2.1 ∧ s.2.1.length ≤ 4096) (asl : Option Addr) (cs : Nat)
  (own : Nat → Prop) (W : World) (hl : ∀ b, own b → b < W.heap.size) (hx : Has own W (RdF (Value.int .u8) al l.flatten)) (hs : Has own W (RdF id asl (S.map stC).flatten)) (hs2 : Has own W (StF S))
include hl8 hlb hnl hnl4 hcl hn hns hS2 hS hl hx hs hs2
end
section
variable (ps : List P) (a0 : Option Addr) (c0 n : Nat) (hn : ps.length = n) (hlen : n ≤ 100000) (hDW : DatW ps) (hpx : ∀ p ∈ ps, p.1.x.length ≤ 100000) (hc0 : n ≤ c0)
  (own : Nat → Prop) (W : World) (hl : ∀ b, own b → b < W.heap.size) (h1 : Has own W (RdF id a0 (cellsP ps))) (h2 : Has own W (DatF ps))
include hn hlen hDW hpx hc0 hl h1 h2
end
end Go.Proofs.Ytadfdpkhehdikaa


/- batch.Check. -/
namespace Go.Proofs.Ytadfdpkhehdikaa
open Go.RowKit Go.Shelf D29 B31
namespace B31
def seenB (hv : List (List Int)) : List Bool := hv.map fun x => decide (0 < x.length)
/-- An assembly that is correct. -/
def AsOk (num sum : Int) (N : Nat) (hv : List (List Int)) : Prop := (1 ≤ num ∧ num ≤ 1073741824) ∧ (1 ≤ N ∧ N ≤ 65536) ∧ (0 ≤ sum ∧ sum ≤ 4294967295) ∧ hv.length = N ∧ ∀ x ∈ hv, x.length ≤ 4096
end B31
section
variable (num sum : Int) (N : Nat) (hs : List BP) (hok : AsOk num sum N (hs.map (·.1))) (a1 : Option Addr) (c1 : Nat) (a2 : Option Addr) (c2 : Nat)
include hok
set_option maxRecDepth 20000 in
set_option maxHeartbeats 4000000 in
theorem bCheck_c (own : Nat → Prop) (W : World) (hl : ∀ b, own b → b < W.heap.size) (k1 : Has own W (RdF encBP a1 hs)) (k2 : Has own W (RdF Value.bool a2 (seenB (hs.map (·.1))))) :
    Calls Try.prog 66 ⟨[asmV num N sum a1 N c1 a2 N c2]⟩ W (Ret W fun v _ => v = .int .i64 0) := by
  have hM := ((Mm.start hl).known k1).known k2
  obtain ⟨o1, o2, o3, o4, o5⟩ := hok
  have hlen : hs.length = N := by rw [← o4, List.length_map]
  refine f_start Try.func66 rfl Try.ntmps66 rfl rfl ?_; intro a hF
  (repeat' (first | (with_reducible refine w_seq ?_) | (with_reducible refine c_region ?_) | (with_reducible refine s_nil ?_) | (with_reducible refine q_then_n ?_) | ((with_reducible apply s_pure hF); exact rfl; exact rfl; exact rfl; (first | exact trivial | omega | exact ⟨Int.natCast_nonneg _, Int.ofNat_lt.2 (by assumption)⟩ | decide); clear hF a; intro a hF) | ((with_reducible apply s_load hF hM); exact rfl; exact rfl; (repeat (first | exact List.mem_cons_self | refine List.mem_cons_of_mem _ ?_)); exact rfl; exact rfl; clear hF a; intro a hF) | ((with_reducible apply s_box hF hM); exact rfl; exact rfl; exact rfl; exact rfl; clear hF hM a; intro b w a hM hF) | (with_reducible refine w_skip ?_) | (with_reducible refine w_block ?_) | ((with_reducible apply c_false2 hF); exact rfl; (first | with_reducible rfl | (refine congrArg Value.bool ?_; focus (simp; done)))) | ((fail_if_success ((with_reducible refine g_known true hF ?_ ?_); focus exact rfl)); (fail_if_success ((with_reducible refine g_known false hF ?_ ?_); focus exact rfl)); (with_reducible apply g_dec hF); exact rfl; exact rfl; all_goals (clear hF; intro hc hF); all_goals (try (exfalso; omega)))))
  all_goals first | (exfalso; omega) | skip
  refine c_loop (m := N) (fun z a w' => ∃ (k : Nat), z + k = N ∧
    Fr 72 [] [(52, .int .i64 k), (51, .int .i64 N), (50, .slice a1 N c1), (1, .pointer (some ⟨b, 0, none⟩))] a ∧
    Mm own W [⟨b, ⟨[.int .i64 num, .int .i64 N, .int .i64 sum, .slice a1 N c1, .slice a2 N c2]⟩, 65⟩] [] [RdF encBP a1 hs, RdF Value.bool a2 (seenB (hs.map (·.1)))] w') ⟨0, by omega, hF.sub (by repeat (first | exact Sub.nil | refine Sub.cons rfl (by first | with_reducible rfl | (refine congrArg (Value.int _) ?_; omega) | exact rfl) ?_)), hM.sub (.refl _) (.refl _) (by intro f hf; simp only [List.mem_cons, List.not_mem_nil, or_false] at hf; (repeat (rcases hf with rfl | hf; · (repeat (first | exact List.mem_cons_self | refine List.mem_cons_of_mem _ ?_)))); first | (subst hf; (repeat (first | exact List.mem_cons_self | refine List.mem_cons_of_mem _ ?_)); done) | (repeat (first | exact hf | refine List.mem_cons_of_mem _ ?_)))⟩ ?_
  clear hF hM a
  rintro z a w' ⟨k, hz, hF, hM⟩
  by_cases hk : k < N
  · obtain ⟨q, hq⟩ := get_of_lt (l := hs) (i := k) (by omega)
    have hq4 := o5 q.1 (List.mem_map.2 ⟨q, List.mem_of_getElem? hq, rfl⟩)
    have hsq : (seenB (hs.map (·.1)))[k]? = some (decide (0 < q.1.length)) := by unfold seenB; rw [List.getElem?_map, List.getElem?_map, hq]; rfl
    obtain ⟨ad1, rfl⟩ : ∃ ad, a1 = some ad := rd_some hM (enc := encBP) (a := a1) (xs := hs) (by (repeat (first | exact List.mem_cons_self | refine List.mem_cons_of_mem _ ?_))) hq
    obtain ⟨ad2, rfl⟩ : ∃ ad, a2 = some ad := rd_some hM (enc := Value.bool) (a := a2) (xs := seenB (hs.map (·.1))) (by (repeat (first | exact List.mem_cons_self | refine List.mem_cons_of_mem _ ?_))) hsq
    obtain ⟨qx, qa, qc⟩ := q
    dsimp only at hq4 hsq
    (repeat (first | (with_reducible refine w_seq ?_) | (with_reducible refine c_region ?_) | (with_reducible refine s_nil ?_) | (with_reducible refine q_then_n ?_) | ((with_reducible apply s_pure hF); exact rfl; exact rfl; exact rfl; (first | exact trivial | omega | exact ⟨Int.natCast_nonneg _, Int.ofNat_lt.2 (by assumption)⟩ | decide); clear hF a; intro a hF)))
    rw [decide_eq_true (show (k : Int) < (N : Int) by omega)] at hF
    (repeat (first | (with_reducible refine w_seq ?_) | (with_reducible refine c_region ?_) | (with_reducible refine s_nil ?_) | ((with_reducible apply s_neB hF); exact rfl; exact rfl; exact rfl; kernel_rfl; kernel_rfl; exact rfl; clear hF a; intro a hF) | (with_reducible refine q_then_n ?_) | ((with_reducible apply s_pure hF); exact rfl; exact rfl; exact rfl; (first | exact trivial | omega | exact ⟨Int.natCast_nonneg _, Int.ofNat_lt.2 (by assumption)⟩ | decide); clear hF a; intro a hF) | ((with_reducible apply s_load hF hM); exact rfl; exact rfl; (repeat (first | exact List.mem_cons_self | refine List.mem_cons_of_mem _ ?_)); exact rfl; exact rfl; clear hF a; intro a hF) | ((with_reducible apply s_loadF hF hM); exact rfl; exact rfl; (repeat (first | exact List.mem_cons_self | refine List.mem_cons_of_mem _ ?_)); exact rfl; exact rfl; (first | with_reducible assumption | (simp only [Int.toNat_natCast]; with_reducible assumption)); clear hF a; intro a hF) | (with_reducible refine w_skip ?_) | (with_reducible refine w_block ?_) | ((with_reducible apply c_true2 hF); exact rfl; (first | with_reducible rfl | (refine congrArg Value.bool ?_; focus (simp; done))))))
    unfold encBP at hF
    dsimp only at hF
    (repeat (first | fail))
    have hne : decide (decide ((0 : Int) < (qx.length : Int)) ≠ decide (0 < qx.length)) = false := by
      by_cases h0 : 0 < qx.length
      · rw [decide_eq_true h0, decide_eq_true (show (0 : Int) < (qx.length : Int) by omega)]; rfl
      · rw [decide_eq_false h0, decide_eq_false (show ¬ (0 : Int) < (qx.length : Int) by omega)]; rfl
    rw [hne] at hF
    (repeat' (first | (with_reducible refine c_region ?_) | (with_reducible refine s_nil ?_) | (with_reducible refine q_then_n ?_) | ((with_reducible apply s_pure hF); exact rfl; exact rfl; exact rfl; (first | exact trivial | omega | exact ⟨Int.natCast_nonneg _, Int.ofNat_lt.2 (by assumption)⟩ | decide); clear hF a; intro a hF) | (with_reducible refine w_skip ?_) | (with_reducible refine q_blk_n ?_) | ((with_reducible apply c_dec hF); exact rfl; all_goals intro hc; all_goals (try (exfalso; omega)))))
    exact ⟨z - 1, by omega, k + 1, by omega, hF.sub (by repeat (first | exact Sub.nil | refine Sub.cons rfl (by first | with_reducible rfl | (refine congrArg (Value.int _) ?_; omega) | exact rfl) ?_)), hM.sub (.refl _) (.refl _) (by intro f hf; simp only [List.mem_cons, List.not_mem_nil, or_false] at hf; (repeat (rcases hf with rfl | hf; · (repeat (first | exact List.mem_cons_self | refine List.mem_cons_of_mem _ ?_)))); first | (subst hf; (repeat (first | exact List.mem_cons_self | refine List.mem_cons_of_mem _ ?_)); done) | (repeat (first | exact hf | refine List.mem_cons_of_mem _ ?_)))⟩
  · (repeat' (first | (with_reducible refine w_seq ?_) | (with_reducible refine c_region ?_) | (with_reducible refine s_nil ?_) | (with_reducible refine q_then_n ?_) | ((with_reducible apply s_pure hF); exact rfl; exact rfl; exact rfl; (first | exact trivial | omega | exact ⟨Int.natCast_nonneg _, Int.ofNat_lt.2 (by assumption)⟩ | decide); clear hF a; intro a hF) | (with_reducible refine w_exit ?_) | (with_reducible refine w_ret ?_) | (with_reducible refine q_then_x ?_) | (with_reducible refine q_blk_x ?_) | ((with_reducible apply c_dec hF); exact rfl; all_goals intro hc; all_goals (try (exfalso; omega)))))
    (apply f_ret Try.results66 hF hM; (repeat (first | exact RL.nil | (apply RL.tmp; exact rfl) | (apply RL.cell; exact rfl; (repeat (first | exact List.mem_cons_self | refine List.mem_cons_of_mem _ ?_)); exact rfl))); refine Ret.mk hM.since ?_; dsimp only [resV])
end
end Go.Proofs.Ytadfdpkhehdikaa


/- batch.Add: helpers. -/
namespace Go.Proofs.Ytadfdpkhehdikaa
open Go.RowKit Go.Shelf D29 B31
section
variable {n : Nat} {ds : List Deferred} {l : List (Nat × Value)} {a : Act} {w : World} {os rest : List Oper} {Q : Exit → Act → World → Prop} {d : Nat} {ty : TypeId} {pos : String} {af : Array Edge} {g : Option (Nat × Bool)}
/-- Two equal structs of three numbers do not differ. -/
theorem e_ne3 {t t' : TypeId} {X Y : Operand} {k : IntKind} {x0 x1 x2 : Int} {f0 f1 f2 : Field} (hF : Fr n ds l a) (hX : ev l X = some (.agg #[.int k x0, .int k x1, .int k x2])) (hY : ev l Y = some (.agg #[.int k x0, .int k x1, .int k x2])) (ht : tyD t = some (.struct ⟨[f0, f1, f2]⟩)) (hs : Try.prog.stoodInHeld t = false) (hg : Try.prog.eqGuardType Try.prog.depth t = false)
    (h0 : f0.name ≠ "_" ∧ tyD f0.type = some (.int k) ∧ sclO f0.type = some () ∧ f0.offset = 0) (h1 : f1.name ≠ "_" ∧ tyD f1.type = some (.int k) ∧ sclO f1.type = some () ∧ f1.offset = 1) (h2 : f2.name ≠ "_" ∧ tyD f2.type = some (.int k) ∧ sclO f2.type = some () ∧ f2.offset = 2) (w : World) {dst : Option Tmp} :
    (execOp a.eval ⟨dst, .binOp .neq t X Y t', ty, pos, af, g⟩).run Try.prog w = .ok (.value (.bool false)) w := by
  have hfs : Try.prog.fieldsOf t = ⟨[f0, f1, f2]⟩ := by unfold Program.fieldsOf; rw [tyD_ok ht]
  have he : (Op.equal t (.agg #[.int k x0, .int k x1, .int k x2]) (.agg #[.int k x0, .int k x1, .int k x2])).run Try.prog w = .ok true w := by
    unfold Op.equal Op.maxDepth
    rw [show (10000 : Nat) = 9999 + 1 from rfl, run_equalIn_struct w 9999 t _ _ (by rw [hfs]; exact tyD_ok ht) hs, hfs]
    obtain ⟨a1, a2, a3, a4⟩ := h0
    obtain ⟨b1, b2, b3, b4⟩ := h1
    obtain ⟨c1, c2, c3, c4⟩ := h2
    have p1 := part_scl (k := k) (xs := [x0, x1, x2]) (i := 0) a3 rfl w
    have p2 := part_scl (k := k) (xs := [x0, x1, x2]) (i := 1) b3 rfl w
    have p3 := part_scl (k := k) (xs := [x0, x1, x2]) (i := 2) c3 rfl w
    simp only [List.map_cons, List.map_nil] at p1 p2 p3
    have q1 := equalIn_int (k := k) (x := x0) (y := x0) a2 9998 w
    have q2 := equalIn_int (k := k) (x := x1) (y := x1) b2 9998 w
    have q3 := equalIn_int (k := k) (x := x2) (y := x2) c2 9998 w
    rw [show 9998 + 1 = 9999 from rfl] at q1 q2 q3
    simp [Op.eqFields, a1, b1, c1, a4, b4, c4, Sem.run_bind, p1, p2, p3, q1, q2, q3, Result.andThen]
  simp [execOp, hF.eval hX, hF.eval hY, eqGuard, Sem.run_bind, Result.andThen, hg, binOp, he]
theorem s_ne3 {t t' : TypeId} {X Y : Operand} {k : IntKind} {x0 x1 x2 : Int} {f0 f1 f2 : Field} (hF : Fr n ds l a) (hw : wantO os l g = some true) (hX : ev l X = some (.agg #[.int k x0, .int k x1, .int k x2])) (hY : ev l Y = some (.agg #[.int k x0, .int k x1, .int k x2])) (ht : tyD t = some (.struct ⟨[f0, f1, f2]⟩)) (hs : Try.prog.stoodInHeld t = false) (hg : Try.prog.eqGuardType Try.prog.depth t = false)
    (h0 : f0.name ≠ "_" ∧ tyD f0.type = some (.int k) ∧ sclO f0.type = some () ∧ f0.offset = 0) (h1 : f1.name ≠ "_" ∧ tyD f1.type = some (.int k) ∧ sclO f1.type = some () ∧ f1.offset = 1) (h2 : f2.name ≠ "_" ∧ tyD f2.type = some (.int k) ∧ sclO f2.type = some () ∧ f2.offset = 2) (hd : Nat.blt d n = true)
    (kk : ∀ a, Fr n ds ((d, .bool false) :: l) a → wl ⟨os⟩ Q rest a w) : wl ⟨os⟩ Q (⟨some d, .binOp .neq t X Y t', ty, pos, af, g⟩ :: rest) a w :=
  s_op hF hw fun _ hK => upon_value (e_ne3 hF hX hY ht hs hg h0 h1 h2 w) (hK _ _ (kk _ (hF.put hd _)))
end
theorem eqBytes_c (xs ys : List Int) (hx : By xs) (hy : By ys) (a1 a2 : Option Addr) (m1 m2 c1 c2 : Nat) (h1 : xs.length = m1) (h2 : ys.length = m2) (own : Nat → Prop) (W : World) (hl : ∀ b, own b → b < W.heap.size) (hv1 : Has own W (RdF (Value.int .u8) a1 xs)) (hv2 : Has own W (RdF (Value.int .u8) a2 ys)) :
    Calls Try.prog 23 ⟨[.slice a1 m1 c1, .slice a2 m2 c2]⟩ W (Ret W fun v _ => v = .bool (decide (xs = ys))) := by
  have hM := ((Mm.start hl).known hv1).known hv2
  unfold By at hx hy
  refine f_start Try.func23 rfl Try.ntmps23 rfl rfl ?_; intro a hF
  (repeat (first | (with_reducible refine w_seq ?_) | (with_reducible refine c_region ?_) | (with_reducible refine s_nil ?_) | ((with_reducible apply s_b2s hF hM); exact rfl; exact rfl; (repeat (first | exact List.mem_cons_self | refine List.mem_cons_of_mem _ ?_)); exact rfl; exact rfl; exact rfl; exact rfl; (first | with_reducible assumption | rfl); clear hF a; intro a hF) | ((with_reducible apply s_eqS hF); exact rfl; exact rfl; exact rfl; kernel_rfl; exact rfl; (with_reducible assumption); (with_reducible assumption); clear hF a; intro a hF) | (with_reducible refine q_then_n ?_) | ((with_reducible apply s_pure hF); exact rfl; exact rfl; exact rfl; (first | exact trivial | omega | exact ⟨Int.natCast_nonneg _, Int.ofNat_lt.2 (by assumption)⟩ | decide); clear hF a; intro a hF) | (with_reducible refine w_ret ?_)))
  (apply f_ret Try.results23 hF hM; (repeat (first | exact RL.nil | (apply RL.tmp; exact rfl) | (apply RL.cell; exact rfl; (repeat (first | exact List.mem_cons_self | refine List.mem_cons_of_mem _ ?_)); exact rfl))); refine Ret.mk hM.since ?_; dsimp only [resV])
theorem cloneBo_c (a0 : Option Addr) (c0 : Nat) (xs : List Bool) (n : Nat) (hn : xs.length = n) (own : Nat → Prop) (W : World) (hl : ∀ b, own b → b < W.heap.size) (hv : Has own W (RdF Value.bool a0 xs)) (hb : xs.length ≤ 10000000000) :
    Calls Try.prog 67 ⟨[.slice a0 n c0]⟩ W (Ret W fun v w' => ∃ a' c', v = .slice a' n c' ∧ Owns w' W.heap.size [⟨4, 1, .slice a' n c', n, xs.map Value.bool⟩]) := by
  subst hn
  have hM := (Mm.start hl).known hv
  cases a0 with
  | none =>
    obtain rfl : xs = [] := by
      cases xs with
      | nil => rfl
      | cons x r => obtain ⟨ad, h⟩ := rd_some hM (by (repeat (first | exact List.mem_cons_self | refine List.mem_cons_of_mem _ ?_))) (k := 0) (x := x) rfl; cases h
    refine f_start Try.func67 rfl Try.ntmps67 rfl rfl ?_; intro a hF
    (repeat' (first | (with_reducible refine w_seq ?_) | (with_reducible refine c_region ?_) | (with_reducible refine s_nil ?_) | ((with_reducible apply s_eqn hF); exact rfl; exact rfl; exact rfl; exact rfl; exact rfl; exact rfl; clear hF a; intro a hF) | (with_reducible refine q_then_n ?_) | ((with_reducible apply s_pure hF); exact rfl; exact rfl; exact rfl; (first | exact trivial | omega | exact ⟨Int.natCast_nonneg _, Int.ofNat_lt.2 (by assumption)⟩ | decide); clear hF a; intro a hF) | (with_reducible refine w_ret ?_) | (with_reducible refine q_then_r ?_) | ((with_reducible apply c_true2 hF); exact rfl; (first | with_reducible rfl | (refine congrArg Value.bool ?_; focus (simp; done))))))
    (apply f_ret Try.results67 hF hM; (repeat (first | exact RL.nil | (apply RL.tmp; exact rfl) | (apply RL.cell; exact rfl; (repeat (first | exact List.mem_cons_self | refine List.mem_cons_of_mem _ ?_)); exact rfl))); refine Ret.mk hM.since ?_; dsimp only [resV])
    exact ⟨none, 0, rfl, (Owns.nil _ _).cons _ _⟩
  | some ad =>
    refine f_start Try.func67 rfl Try.ntmps67 rfl rfl ?_; intro a hF
    (repeat' (first | (with_reducible refine w_seq ?_) | (with_reducible refine c_region ?_) | (with_reducible refine s_nil ?_) | ((with_reducible apply s_eqn hF); exact rfl; exact rfl; exact rfl; exact rfl; exact rfl; exact rfl; clear hF a; intro a hF) | ((with_reducible apply s_appF hF hM); exact rfl; exact rfl; (repeat (first | exact List.mem_cons_self | refine List.mem_cons_of_mem _ ?_)); exact rfl; exact rfl; (repeat (first | exact Kth.z | apply Kth.s)); (intro _; exact rfl); exact rfl; omega; clear hF hM a; intro g cap w a hM hF; dsimp only [List.set] at hM) | ((with_reducible apply s_lit0 hF hM); exact rfl; exact rfl; exact rfl; exact rfl; clear hF hM a; intro bl w a hM hF) | (with_reducible refine q_then_n ?_) | ((with_reducible apply s_pure hF); exact rfl; exact rfl; exact rfl; (first | exact trivial | omega | exact ⟨Int.natCast_nonneg _, Int.ofNat_lt.2 (by assumption)⟩ | decide); clear hF a; intro a hF) | (with_reducible refine w_skip ?_) | (with_reducible refine w_ret ?_) | ((with_reducible apply c_false2 hF); exact rfl; (first | with_reducible rfl | (refine congrArg Value.bool ?_; focus (simp; done))))))
    (apply f_ret Try.results67 hF hM; (repeat (first | exact RL.nil | (apply RL.tmp; exact rfl) | (apply RL.cell; exact rfl; (repeat (first | exact List.mem_cons_self | refine List.mem_cons_of_mem _ ?_)); exact rfl))); refine Ret.mk hM.since ?_; dsimp only [resV])
    simp only [Nat.zero_add, List.nil_append] at hM ⊢
    exact ⟨_, _, rfl, hM.mem.own⟩
theorem set_fill {α : Type} {l : List α} {k n : Nat} {x z : α} (hn : l.length = n) (hx : l[k]? = some x) : (l.take k ++ List.replicate (n - k) z).set k x = l.take (k + 1) ++ List.replicate (n - (k + 1)) z := by
  obtain ⟨hk, -⟩ := List.getElem?_eq_some_iff.1 hx
  have h1 : (l.take k).length = k := by rw [List.length_take]; omega
  rw [List.set_append_right _ _ (by omega), h1, Nat.sub_self, show n - k = (n - (k + 1)) + 1 by omega, List.replicate_succ, List.set_cons_zero, take_snoc hx, List.append_assoc]
  rfl
end Go.Proofs.Ytadfdpkhehdikaa


/- batch.Add. -/
namespace Go.Proofs.Ytadfdpkhehdikaa
open Go.RowKit Go.Shelf D29 B31
section
variable (h0 h1 h2 h3 : Nat) (b0 : 1 ≤ h0 ∧ h0 ≤ 1073741824) (b1 : h1 < h2) (b2 : h2 ≤ 65536) (b3 : h3 ≤ 4294967295)
include b0 b1 b2 b3
set_option maxRecDepth 20000 in
set_option maxHeartbeats 4000000 in
theorem Add_c (P : List Int) (hPb : By P) (hP : 1 ≤ P.length ∧ P.length ≤ 4096) (a0 : Option Addr) (m c0 : Nat) (hm : (hdB [(h0 : Int), h1, h2, h3] ++ P).length = m) (hc0 : m ≤ c0)
    (hs : List BP) (hok : AsOk h0 h3 h2 (hs.map (·.1))) (hin : ∀ q, hs[h1]? = some q → q.1 = [] ∨ q.1 = P) (a1 : Option Addr) (c1 : Nat) (a2 : Option Addr) (c2 : Nat)
    (own : Nat → Prop) (W : World) (hl : ∀ b, own b → b < W.heap.size) (hv : Has own W (RdF (Value.int .u8) a0 (hdB [(h0 : Int), h1, h2, h3] ++ P))) (k1 : Has own W (RdF encBP a1 hs)) (k2 : Has own W (BytF hs)) (k3 : Has own W (RdF Value.bool a2 (seenB (hs.map (·.1))))) :
    Calls Try.prog 26 ⟨[asmV h0 h2 h3 a1 h2 c1 a2 h2 c2, .slice a0 m c0]⟩ W (Ret W fun v w' => ∃ u, v = .tuple #[u, .int .i64 0] ∧ AsmP own w' h0 h3 h2 ((hs.map (·.1)).set h1 P) ((seenB (hs.map (·.1))).set h1 true) u) := by
  have hM := ((((Mm.start hl).known hv).known k3).known k2).known k1
  have e1 := fun {own W} hl hv => parse_c h0 h1 h2 h3 b0 b1 b2 b3 P hPb hP a0 m c0 hm hc0 own W hl hv
  have e2 := fun {own W} hl k1 k2 => bCheck_c h0 h3 h2 hs hok a1 c1 a2 c2 own W hl k1 k2
  obtain ⟨o1, o2, o3, o4, o5⟩ := hok
  have hlen : hs.length = h2 := by rw [← o4, List.length_map]
  refine f_start Try.func26 rfl Try.ntmps26 rfl rfl ?_; intro a hF
  (repeat' (first | (with_reducible refine w_seq ?_) | (with_reducible refine c_region ?_) | (with_reducible refine s_nil ?_) | ((with_reducible apply s_call (f := 66) hF hM); exact rfl; exact rfl; exact rfl; exact rfl; exact rfl; exact (e2 hM.lt (hM.facts (RdF encBP a1 hs) (by (repeat (first | exact List.mem_cons_self | refine List.mem_cons_of_mem _ ?_)))) (hM.facts (RdF Value.bool a2 (seenB (hs.map (·.1)))) (by (repeat (first | exact List.mem_cons_self | refine List.mem_cons_of_mem _ ?_))))); clear hF hM a; rintro v w a rfl - hM hF) | ((with_reducible apply s_call (f := 65) hF hM); exact rfl; exact rfl; exact rfl; exact rfl; exact rfl; exact (e1 hM.lt (hM.facts (RdF (Value.int .u8) a0 (hdB [(h0 : Int), h1, h2, h3] ++ P)) (by (repeat (first | exact List.mem_cons_self | refine List.mem_cons_of_mem _ ?_))))); clear hF hM a; rintro v w a ⟨a3, c3, rfl, k4, k5⟩ - hM hF; replace hM := hM.addFact k4) | (with_reducible refine q_then_n ?_) | ((with_reducible apply s_pure hF); exact rfl; exact rfl; exact rfl; (first | exact trivial | omega | exact ⟨Int.natCast_nonneg _, Int.ofNat_lt.2 (by assumption)⟩ | decide); clear hF a; intro a hF) | ((with_reducible apply s_load hF hM); exact rfl; exact rfl; (repeat (first | exact List.mem_cons_self | refine List.mem_cons_of_mem _ ?_)); exact rfl; exact rfl; clear hF a; intro a hF) | ((with_reducible apply s_store hF hM); exact rfl; exact rfl; exact rfl; exact rfl; (repeat (first | exact Upd.z | apply Upd.s)); exact rfl; exact rfl; exact rfl; clear hM; intro w hM) | ((with_reducible apply s_alloc hF hM); exact rfl; exact rfl; exact rfl; clear hF hM a; intro b w a hM hF) | ((with_reducible apply s_box hF hM); exact rfl; exact rfl; exact rfl; exact rfl; clear hF hM a; intro b w a hM hF) | (with_reducible refine w_skip ?_) | (with_reducible refine w_block ?_) | ((with_reducible apply c_false2 hF); exact rfl; (first | with_reducible rfl | (refine congrArg Value.bool ?_; focus (simp; done))))))
  rename_i bA _ bR _ _ _ _
  obtain ⟨bH, rfl⟩ : ∃ x, x = b := ⟨_, rfl⟩
  obtain ⟨q, hq⟩ := get_of_lt (l := hs) (i := h1) (by omega)
  have hsq : (seenB (hs.map (·.1)))[h1]? = some (decide (0 < q.1.length)) := by unfold seenB; rw [List.getElem?_map, List.getElem?_map, hq]; rfl
  obtain ⟨ad1, rfl⟩ : ∃ ad, a1 = some ad := rd_some hM (enc := encBP) (a := a1) (xs := hs) (by (repeat (first | exact List.mem_cons_self | refine List.mem_cons_of_mem _ ?_))) hq
  obtain ⟨ad2, rfl⟩ : ∃ ad, a2 = some ad := rd_some hM (enc := Value.bool) (a := a2) (xs := seenB (hs.map (·.1))) (by (repeat (first | exact List.mem_cons_self | refine List.mem_cons_of_mem _ ?_))) hsq
  have hqf := byt_one (hM.facts (BytF hs) (by (repeat (first | exact List.mem_cons_self | refine List.mem_cons_of_mem _ ?_)))) (List.mem_of_getElem? hq)
  replace hM := hM.addFact hqf
  have hh : List.replicate h2 (Value.slice none 0 0) = (List.replicate h2 nilBP).map encBP := by rw [List.map_replicate]; rfl
  have hSl : (seenB (hs.map (·.1))).length = h2 := by unfold seenB; rw [List.length_map, o4]
  refine s_ne3 hF rfl rfl rfl rfl (by kernel_rfl) (by kernel_rfl) ⟨by decide, rfl, rfl, rfl⟩ ⟨by decide, rfl, rfl, rfl⟩ ⟨by decide, rfl, rfl, rfl⟩ rfl ?_
  clear hF a
  intro a hF
  rcases hin q hq with hqe | hqe
  all_goals first
    | (have hsf : (seenB (hs.map (·.1)))[h1]? = some false := by
        rw [hsq, hqe]; rfl
       (repeat' (first | (with_reducible refine w_seq ?_) | (with_reducible refine c_region ?_) | (with_reducible refine s_nil ?_) | (with_reducible refine q_then_n ?_) | ((with_reducible apply s_pure hF); exact rfl; exact rfl; exact rfl; (first | exact trivial | omega | exact ⟨Int.natCast_nonneg _, Int.ofNat_lt.2 (by assumption)⟩ | decide); clear hF a; intro a hF) | ((with_reducible apply s_load hF hM); exact rfl; exact rfl; (repeat (first | exact List.mem_cons_self | refine List.mem_cons_of_mem _ ?_)); exact rfl; exact rfl; clear hF a; intro a hF) | ((with_reducible apply s_loadF hF hM); exact rfl; exact rfl; (repeat (first | exact List.mem_cons_self | refine List.mem_cons_of_mem _ ?_)); exact rfl; exact rfl; (first | with_reducible assumption | (simp only [Int.toNat_natCast]; with_reducible assumption)); clear hF a; intro a hF) | ((with_reducible apply s_store hF hM); exact rfl; exact rfl; exact rfl; exact rfl; (repeat (first | exact Upd.z | apply Upd.s)); exact rfl; exact rfl; exact rfl; clear hM; intro w hM) | ((with_reducible apply s_alloc hF hM); exact rfl; exact rfl; exact rfl; clear hF hM a; intro b w a hM hF) | (with_reducible refine w_skip ?_) | (with_reducible refine q_blk_n ?_) | ((with_reducible apply c_false2 hF); exact rfl; (first | with_reducible rfl | (refine congrArg Value.bool ?_; focus (simp; done)))) | ((with_reducible apply s_skip hF); exact rfl; exact rfl; clear hF a; intro a hF))))
    | (have hst : (seenB (hs.map (·.1)))[h1]? = some true := by
        rw [hsq, hqe, decide_eq_true (by omega)]
       have hqb : By q.1 := by
        rw [hqe]; exact hPb
       (repeat' (first | (with_reducible refine w_seq ?_) | (with_reducible refine c_region ?_) | (with_reducible refine s_nil ?_) | (with_reducible refine q_then_n ?_) | ((with_reducible apply s_pure hF); exact rfl; exact rfl; exact rfl; (first | exact trivial | omega | exact ⟨Int.natCast_nonneg _, Int.ofNat_lt.2 (by assumption)⟩ | decide); clear hF a; intro a hF) | ((with_reducible apply s_load hF hM); exact rfl; exact rfl; (repeat (first | exact List.mem_cons_self | refine List.mem_cons_of_mem _ ?_)); exact rfl; exact rfl; clear hF a; intro a hF) | ((with_reducible apply s_loadF hF hM); exact rfl; exact rfl; (repeat (first | exact List.mem_cons_self | refine List.mem_cons_of_mem _ ?_)); exact rfl; exact rfl; (first | with_reducible assumption | (simp only [Int.toNat_natCast]; with_reducible assumption)); clear hF a; intro a hF) | ((with_reducible apply c_false2 hF); exact rfl; (first | with_reducible rfl | (refine congrArg Value.bool ?_; focus (simp; done))))))
       unfold encBP at hF
       dsimp only at hF
       (repeat' (first | (with_reducible refine w_seq ?_) | (with_reducible refine c_region ?_) | (with_reducible refine s_nil ?_) | ((with_reducible apply s_call (f := 23) hF hM); exact rfl; exact rfl; exact rfl; exact rfl; exact rfl; exact (eqBytes_c q.1 P hqb hPb q.2.1 a3 _ _ q.2.2 c3 rfl rfl _ _ hM.lt (hM.facts (RdF (Value.int .u8) q.2.1 q.1) (by (repeat (first | with_reducible exact List.mem_cons_self | refine List.mem_cons_of_mem _ ?_)))) (hM.facts (RdF (Value.int .u8) a3 P) (by (repeat (first | with_reducible exact List.mem_cons_self | refine List.mem_cons_of_mem _ ?_))))); clear hF hM a; rintro v w a rfl - hM hF; rw [decide_eq_true hqe] at hF) | (with_reducible refine q_then_n ?_) | ((with_reducible apply s_pure hF); exact rfl; exact rfl; exact rfl; (first | exact trivial | omega | exact ⟨Int.natCast_nonneg _, Int.ofNat_lt.2 (by assumption)⟩ | decide); clear hF a; intro a hF) | ((with_reducible apply s_load hF hM); exact rfl; exact rfl; (repeat (first | exact List.mem_cons_self | refine List.mem_cons_of_mem _ ?_)); exact rfl; exact rfl; clear hF a; intro a hF) | ((with_reducible apply s_store hF hM); exact rfl; exact rfl; exact rfl; exact rfl; (repeat (first | exact Upd.z | apply Upd.s)); exact rfl; exact rfl; exact rfl; clear hM; intro w hM) | ((with_reducible apply s_alloc hF hM); exact rfl; exact rfl; exact rfl; clear hF hM a; intro b w a hM hF) | (with_reducible refine w_skip ?_) | (with_reducible refine q_blk_n ?_) | ((with_reducible apply c_false2 hF); exact rfl; (first | with_reducible rfl | (refine congrArg Value.bool ?_; focus (simp; done)))))))
  all_goals
    refine c_cut (fun a' w' => ∃ gh gs cs, Fr 105 [] [(10, .pointer (some ⟨b, 0, none⟩)), (8, .slice a3 P.length c3), (7, .pointer (some ⟨bH, 0, none⟩)), (4, .pointer (some ⟨bR, 0, none⟩)), (2, .pointer (some ⟨bA, 0, none⟩)), (5, .int .i64 0)] a' ∧ Mm own W [⟨b, ⟨[.int .i64 h0, .int .i64 h2, .int .i64 h3, .slice (some ⟨gh, 0, none⟩) h2 h2, .slice gs h2 cs]⟩, 65⟩, ⟨bH, ⟨[.int .i64 h0, .int .i64 h2, .int .i64 h3, .int .i64 h1]⟩, 120⟩, ⟨bR, ⟨[.int .i64 0, .int .i64 0, .int .i64 0, .slice none 0 0, .slice none 0 0]⟩, 65⟩, ⟨bA, ⟨[.int .i64 h0, .int .i64 h2, .int .i64 h3, .slice (some ad1) h2 c1, .slice (some ad2) h2 c2]⟩, 65⟩] [⟨58, 1, .slice (some ⟨gh, 0, none⟩) h2 h2, h2, (List.replicate h2 nilBP).map encBP⟩, ⟨4, 1, .slice gs h2 cs, h2, (seenB (hs.map (·.1))).map Value.bool⟩] [RdF (Value.int .u8) a3 P, RdF encBP (some ad1) hs, BytF hs] w') ?_ ?_
    · refine c_drawS (fun i => Nat.ble 8 i) (fun x hx => List.mem_cons_of_mem _ (hx)) hM ?_; clear hM; intro w hM
      (first | (refine t_pure (i := 0) hF rfl rfl rfl rfl (by kernel_rfl) (hM.sm.sub (fun x hx => by repeat (first | exact hx | refine List.mem_cons_of_mem _ ?_)) (fun _ h => by repeat (first | exact h | refine List.mem_cons_of_mem _ ?_))) (fun _ _ _ h => h) ?_ ?_; (first | exact trivial | omega | decide); clear hF a; intro a hF))
      (first | (apply t_load (i := 1) hF rfl rfl rfl; (repeat (first | exact List.mem_cons_self | refine List.mem_cons_of_mem _ ?_)); exact rfl; exact rfl; kernel_rfl; exact (hM.sm.sub (fun x hx => by repeat (first | exact hx | refine List.mem_cons_of_mem _ ?_)) (fun _ h => by repeat (first | exact h | refine List.mem_cons_of_mem _ ?_))); exact (fun _ _ _ h => h); clear hF a; intro a hF))
      (first | (refine t_pure (i := 3) hF rfl rfl rfl rfl (by kernel_rfl) (hM.sm.sub (fun x hx => by repeat (first | exact hx | refine List.mem_cons_of_mem _ ?_)) (fun _ h => by repeat (first | exact h | refine List.mem_cons_of_mem _ ?_))) (fun _ _ _ h => h) ?_ ?_; (first | exact trivial | omega | decide); clear hF a; intro a hF))
      (first | (apply t_load (i := 4) hF rfl rfl rfl; (repeat (first | exact List.mem_cons_self | refine List.mem_cons_of_mem _ ?_)); exact rfl; exact rfl; kernel_rfl; exact (hM.sm.sub (fun x hx => by repeat (first | exact hx | refine List.mem_cons_of_mem _ ?_)) (fun _ h => by repeat (first | exact h | refine List.mem_cons_of_mem _ ?_))); exact (fun _ _ _ h => h); clear hF a; intro a hF))
      refine t_two (i := 2) (j := 5) hF rfl rfl (by kernel_rfl) rfl rfl ?_ ?_
      ·
        intro K hK
        (apply x_callO hF; exact rfl; exact rfl; exact rfl; exact rfl; exact (cloneBo_c (some ad2) c2 (seenB (hs.map (·.1))) h2 hSl _ _ hM.lt (hM.facts (RdF Value.bool (some ad2) (seenB (hs.map (·.1)))) (by (repeat (first | with_reducible exact List.mem_cons_self | refine List.mem_cons_of_mem _ ?_)))) (by omega)); clear hF a; rintro v wn a ⟨gs, cs, rfl, hO⟩ hS hF; replace hM := hM.addRows hS hO; clear hS hO; dsimp only [List.cons_append, List.nil_append] at hM)
        refine hK _ _ (fun _ => (hM.sm.sub (fun x hx => by repeat (first | exact hx | refine List.mem_cons_of_mem _ ?_)) (fun _ h => by repeat (first | exact h | refine List.mem_cons_of_mem _ ?_)))) ?_; clear hK
        (first | (refine t_pure (i := 6) hF rfl rfl rfl rfl (by kernel_rfl) (hM.sm.sub (fun x hx => by repeat (first | exact hx | refine List.mem_cons_of_mem _ ?_)) (fun _ h => by repeat (first | exact h | refine List.mem_cons_of_mem _ ?_))) (fun _ _ _ h => h) ?_ ?_; (first | exact trivial | omega | decide); clear hF a; intro a hF))
        refine t_two (i := 5) (j := 7) hF rfl rfl (by kernel_rfl) rfl rfl ?_ ?_
        ·
          intro K hK
          (refine e_make (c := h2) hF hM rfl rfl rfl rfl rfl ⟨by omega, by omega⟩ ?_; clear hM; intro gh w hM; replace hF := hF.put (d := 75) rfl (.slice (some ⟨gh, 0, none⟩) h2 h2); generalize a.put (some 75) _ = a at *)
          refine hK _ _ (fun _ => (hM.sm.sub (fun x hx => by repeat (first | exact hx | refine List.mem_cons_of_mem _ ?_)) (fun _ h => by repeat (first | exact h | refine List.mem_cons_of_mem _ ?_)))) ?_; clear hK
          refine t_one (i := 7) hF rfl (by kernel_rfl) rfl ?_
          intro K hK
          (apply x_store hF hM rfl rfl rfl; (repeat (first | exact Upd.z | apply Upd.s)); exact rfl; exact rfl; exact rfl; clear hF hM a; intro w a hM hF)
          refine hK _ _ (fun _ => (hM.sm.sub (fun x hx => by repeat (first | exact hx | refine List.mem_cons_of_mem _ ?_)) (fun _ h => by repeat (first | exact h | refine List.mem_cons_of_mem _ ?_)))) ?_; clear hK
          refine t_one (i := 8) hF rfl (by kernel_rfl) rfl ?_
          intro K hK
          (first | (refine x_pure hF hM rfl rfl ?_ ?_; (first | exact trivial | omega | decide); clear hF a; intro a hF) | (apply x_load hF hM rfl; (repeat (first | exact List.mem_cons_self | refine List.mem_cons_of_mem _ ?_)); exact rfl; exact rfl; clear hF a; intro a hF))
          refine hK _ _ (fun h => by cases h) ?_; clear hK
          refine t_one (i := 9) hF rfl (by kernel_rfl) rfl ?_
          intro K hK
          (apply x_store hF hM rfl rfl rfl; (repeat (first | exact Upd.z | apply Upd.s)); exact rfl; exact rfl; exact rfl; clear hF hM a; intro w a hM hF)
          refine hK _ _ (fun h => by cases h) ?_; clear hK
          refine t_done (by kernel_rfl) ?_
          (repeat (first | fail))
          rw [hh] at hM
          first
            | exact q_cut ⟨gh, gs, cs, hF.sub (by repeat (first | exact Sub.nil | refine Sub.cons rfl (by first | with_reducible rfl | (refine congrArg (Value.int _) ?_; omega) | exact rfl) ?_)), hM.sub (.refl _) (.refl _) (by intro f hf; simp only [List.mem_cons, List.not_mem_nil, or_false] at hf; (repeat (rcases hf with rfl | hf; · (repeat (first | exact List.mem_cons_self | refine List.mem_cons_of_mem _ ?_)))); first | (subst hf; (repeat (first | exact List.mem_cons_self | refine List.mem_cons_of_mem _ ?_)); done) | (repeat (first | exact hf | refine List.mem_cons_of_mem _ ?_)))⟩
            | exact q_cut ⟨gh, gs, cs, hF.sub (by repeat (first | exact Sub.nil | refine Sub.cons rfl (by first | with_reducible rfl | (refine congrArg (Value.int _) ?_; omega) | exact rfl) ?_)), (hM.permL (.swap _ _ _)).sub (.refl _) (.refl _) (by intro f hf; simp only [List.mem_cons, List.not_mem_nil, or_false] at hf; (repeat (rcases hf with rfl | hf; · (repeat (first | exact List.mem_cons_self | refine List.mem_cons_of_mem _ ?_)))); first | (subst hf; (repeat (first | exact List.mem_cons_self | refine List.mem_cons_of_mem _ ?_)); done) | (repeat (first | exact hf | refine List.mem_cons_of_mem _ ?_)))⟩
        ·
          intro K hK
          (apply x_store hF hM rfl rfl rfl; (repeat (first | exact Upd.z | apply Upd.s)); exact rfl; exact rfl; exact rfl; clear hF hM a; intro w a hM hF)
          refine hK _ _ (fun _ => (hM.sm.sub (fun x hx => by repeat (first | exact hx | refine List.mem_cons_of_mem _ ?_)) (fun _ h => by repeat (first | exact h | refine List.mem_cons_of_mem _ ?_)))) ?_; clear hK
          refine t_one (i := 5) hF rfl (by kernel_rfl) rfl ?_
          intro K hK
          (refine e_make (c := h2) hF hM rfl rfl rfl rfl rfl ⟨by omega, by omega⟩ ?_; clear hM; intro gh w hM; replace hF := hF.put (d := 75) rfl (.slice (some ⟨gh, 0, none⟩) h2 h2); generalize a.put (some 75) _ = a at *)
          refine hK _ _ (fun _ => (hM.sm.sub (fun x hx => by repeat (first | exact hx | refine List.mem_cons_of_mem _ ?_)) (fun _ h => by repeat (first | exact h | refine List.mem_cons_of_mem _ ?_)))) ?_; clear hK
          refine t_one (i := 8) hF rfl (by kernel_rfl) rfl ?_
          intro K hK
          (first | (refine x_pure hF hM rfl rfl ?_ ?_; (first | exact trivial | omega | decide); clear hF a; intro a hF) | (apply x_load hF hM rfl; (repeat (first | exact List.mem_cons_self | refine List.mem_cons_of_mem _ ?_)); exact rfl; exact rfl; clear hF a; intro a hF))
          refine hK _ _ (fun h => by cases h) ?_; clear hK
          refine t_one (i := 9) hF rfl (by kernel_rfl) rfl ?_
          intro K hK
          (apply x_store hF hM rfl rfl rfl; (repeat (first | exact Upd.z | apply Upd.s)); exact rfl; exact rfl; exact rfl; clear hF hM a; intro w a hM hF)
          refine hK _ _ (fun h => by cases h) ?_; clear hK
          refine t_done (by kernel_rfl) ?_
          (repeat (first | fail))
          rw [hh] at hM
          first
            | exact q_cut ⟨gh, gs, cs, hF.sub (by repeat (first | exact Sub.nil | refine Sub.cons rfl (by first | with_reducible rfl | (refine congrArg (Value.int _) ?_; omega) | exact rfl) ?_)), hM.sub (.refl _) (.refl _) (by intro f hf; simp only [List.mem_cons, List.not_mem_nil, or_false] at hf; (repeat (rcases hf with rfl | hf; · (repeat (first | exact List.mem_cons_self | refine List.mem_cons_of_mem _ ?_)))); first | (subst hf; (repeat (first | exact List.mem_cons_self | refine List.mem_cons_of_mem _ ?_)); done) | (repeat (first | exact hf | refine List.mem_cons_of_mem _ ?_)))⟩
            | exact q_cut ⟨gh, gs, cs, hF.sub (by repeat (first | exact Sub.nil | refine Sub.cons rfl (by first | with_reducible rfl | (refine congrArg (Value.int _) ?_; omega) | exact rfl) ?_)), (hM.permL (.swap _ _ _)).sub (.refl _) (.refl _) (by intro f hf; simp only [List.mem_cons, List.not_mem_nil, or_false] at hf; (repeat (rcases hf with rfl | hf; · (repeat (first | exact List.mem_cons_self | refine List.mem_cons_of_mem _ ?_)))); first | (subst hf; (repeat (first | exact List.mem_cons_self | refine List.mem_cons_of_mem _ ?_)); done) | (repeat (first | exact hf | refine List.mem_cons_of_mem _ ?_)))⟩
      ·
        intro K hK
        (refine e_make (c := h2) hF hM rfl rfl rfl rfl rfl ⟨by omega, by omega⟩ ?_; clear hM; intro gh w hM; replace hF := hF.put (d := 75) rfl (.slice (some ⟨gh, 0, none⟩) h2 h2); generalize a.put (some 75) _ = a at *)
        refine hK _ _ (fun _ => (hM.sm.sub (fun x hx => by repeat (first | exact hx | refine List.mem_cons_of_mem _ ?_)) (fun _ h => by repeat (first | exact h | refine List.mem_cons_of_mem _ ?_)))) ?_; clear hK
        refine t_one (i := 2) hF rfl (by kernel_rfl) rfl ?_
        intro K hK
        (apply x_callO hF; exact rfl; exact rfl; exact rfl; exact rfl; exact (cloneBo_c (some ad2) c2 (seenB (hs.map (·.1))) h2 hSl _ _ hM.lt (hM.facts (RdF Value.bool (some ad2) (seenB (hs.map (·.1)))) (by (repeat (first | with_reducible exact List.mem_cons_self | refine List.mem_cons_of_mem _ ?_)))) (by omega)); clear hF a; rintro v wn a ⟨gs, cs, rfl, hO⟩ hS hF; replace hM := hM.addRows hS hO; clear hS hO; dsimp only [List.cons_append, List.nil_append] at hM)
        refine hK _ _ (fun _ => (hM.sm.sub (fun x hx => by repeat (first | exact hx | refine List.mem_cons_of_mem _ ?_)) (fun _ h => by repeat (first | exact h | refine List.mem_cons_of_mem _ ?_)))) ?_; clear hK
        (first | (refine t_pure (i := 6) hF rfl rfl rfl rfl (by kernel_rfl) (hM.sm.sub (fun x hx => by repeat (first | exact hx | refine List.mem_cons_of_mem _ ?_)) (fun _ h => by repeat (first | exact h | refine List.mem_cons_of_mem _ ?_))) (fun _ _ _ h => h) ?_ ?_; (first | exact trivial | omega | decide); clear hF a; intro a hF))
        refine t_one (i := 7) hF rfl (by kernel_rfl) rfl ?_
        intro K hK
        (apply x_store hF hM rfl rfl rfl; (repeat (first | exact Upd.z | apply Upd.s)); exact rfl; exact rfl; exact rfl; clear hF hM a; intro w a hM hF)
        refine hK _ _ (fun _ => (hM.sm.sub (fun x hx => by repeat (first | exact hx | refine List.mem_cons_of_mem _ ?_)) (fun _ h => by repeat (first | exact h | refine List.mem_cons_of_mem _ ?_)))) ?_; clear hK
        refine t_one (i := 8) hF rfl (by kernel_rfl) rfl ?_
        intro K hK
        (first | (refine x_pure hF hM rfl rfl ?_ ?_; (first | exact trivial | omega | decide); clear hF a; intro a hF) | (apply x_load hF hM rfl; (repeat (first | exact List.mem_cons_self | refine List.mem_cons_of_mem _ ?_)); exact rfl; exact rfl; clear hF a; intro a hF))
        refine hK _ _ (fun h => by cases h) ?_; clear hK
        refine t_one (i := 9) hF rfl (by kernel_rfl) rfl ?_
        intro K hK
        (apply x_store hF hM rfl rfl rfl; (repeat (first | exact Upd.z | apply Upd.s)); exact rfl; exact rfl; exact rfl; clear hF hM a; intro w a hM hF)
        refine hK _ _ (fun h => by cases h) ?_; clear hK
        refine t_done (by kernel_rfl) ?_
        (repeat (first | fail))
        rw [hh] at hM
        first
          | exact q_cut ⟨gh, gs, cs, hF.sub (by repeat (first | exact Sub.nil | refine Sub.cons rfl (by first | with_reducible rfl | (refine congrArg (Value.int _) ?_; omega) | exact rfl) ?_)), hM.sub (.refl _) (.refl _) (by intro f hf; simp only [List.mem_cons, List.not_mem_nil, or_false] at hf; (repeat (rcases hf with rfl | hf; · (repeat (first | exact List.mem_cons_self | refine List.mem_cons_of_mem _ ?_)))); first | (subst hf; (repeat (first | exact List.mem_cons_self | refine List.mem_cons_of_mem _ ?_)); done) | (repeat (first | exact hf | refine List.mem_cons_of_mem _ ?_)))⟩
          | exact q_cut ⟨gh, gs, cs, hF.sub (by repeat (first | exact Sub.nil | refine Sub.cons rfl (by first | with_reducible rfl | (refine congrArg (Value.int _) ?_; omega) | exact rfl) ?_)), (hM.permL (.swap _ _ _)).sub (.refl _) (.refl _) (by intro f hf; simp only [List.mem_cons, List.not_mem_nil, or_false] at hf; (repeat (rcases hf with rfl | hf; · (repeat (first | exact List.mem_cons_self | refine List.mem_cons_of_mem _ ?_)))); first | (subst hf; (repeat (first | exact List.mem_cons_self | refine List.mem_cons_of_mem _ ?_)); done) | (repeat (first | exact hf | refine List.mem_cons_of_mem _ ?_)))⟩
    clear hF hM a hqf hsq hqe hq
    rintro a w ⟨gh, gs, cs, hF, hM⟩
    obtain ⟨gt, rfl⟩ := row_some hM (List.mem_cons_of_mem _ List.mem_cons_self) (by omega)
    replace hM := hM.addFact (byt_rep h2)
    (repeat' (first | (with_reducible refine w_seq ?_) | (with_reducible refine c_region ?_) | (with_reducible refine s_nil ?_) | (with_reducible refine q_then_n ?_) | ((with_reducible apply s_pure hF); exact rfl; exact rfl; exact rfl; (first | exact trivial | omega | exact ⟨Int.natCast_nonneg _, Int.ofNat_lt.2 (by assumption)⟩ | decide); clear hF a; intro a hF) | ((with_reducible apply s_load hF hM); exact rfl; exact rfl; (repeat (first | exact List.mem_cons_self | refine List.mem_cons_of_mem _ ?_)); exact rfl; exact rfl; clear hF a; intro a hF) | (with_reducible refine w_block ?_)))
    refine c_loop (m := h2) (fun z a w' => ∃ (k : Nat) (ys : List BP), z + k = h2 ∧ ys.length = h2 ∧ ys.map (·.1) = (hs.map (·.1)).take k ++ List.replicate (h2 - k) [] ∧ Fr 105 [] [(81, .int .i64 k), (80, .int .i64 h2), (79, .slice (some ad1) h2 c1), (10, .pointer (some ⟨b, 0, none⟩)), (8, .slice a3 P.length c3), (7, .pointer (some ⟨bH, 0, none⟩)), (4, .pointer (some ⟨bR, 0, none⟩)), (2, .pointer (some ⟨bA, 0, none⟩)), (5, .int .i64 0)] a ∧ Mm own W [⟨b, ⟨[.int .i64 h0, .int .i64 h2, .int .i64 h3, .slice (some ⟨gh, 0, none⟩) h2 h2, .slice (some ⟨gt, 0, none⟩) h2 cs]⟩, 65⟩, ⟨bH, ⟨[.int .i64 h0, .int .i64 h2, .int .i64 h3, .int .i64 h1]⟩, 120⟩, ⟨bR, ⟨[.int .i64 0, .int .i64 0, .int .i64 0, .slice none 0 0, .slice none 0 0]⟩, 65⟩, ⟨bA, ⟨[.int .i64 h0, .int .i64 h2, .int .i64 h3, .slice (some ad1) h2 c1, .slice (some ad2) h2 c2]⟩, 65⟩] [⟨58, 1, .slice (some ⟨gh, 0, none⟩) h2 h2, h2, ys.map encBP⟩, ⟨4, 1, .slice (some ⟨gt, 0, none⟩) h2 cs, h2, (seenB (hs.map (·.1))).map Value.bool⟩] [RdF (Value.int .u8) a3 P, RdF encBP (some ad1) hs, BytF hs, BytF ys] w')
      ⟨0, List.replicate h2 nilBP, by omega, List.length_replicate, by rw [List.map_replicate]; rfl, hF.sub (by repeat (first | exact Sub.nil | refine Sub.cons rfl (by first | with_reducible rfl | (refine congrArg (Value.int _) ?_; omega) | exact rfl) ?_)), hM.sub (.refl _) (.refl _) (by intro f hf; simp only [List.mem_cons, List.not_mem_nil, or_false] at hf; (repeat (rcases hf with rfl | hf; · (repeat (first | exact List.mem_cons_self | refine List.mem_cons_of_mem _ ?_)))); first | (subst hf; (repeat (first | exact List.mem_cons_self | refine List.mem_cons_of_mem _ ?_)); done) | (repeat (first | exact hf | refine List.mem_cons_of_mem _ ?_)))⟩ ?_
    clear hF hM a
    rintro z a w' ⟨k, ys, hz, hyl, hym, hF, hM⟩
    by_cases hk : k < h2
    · obtain ⟨q, hq⟩ := get_of_lt (l := hs) (i := k) (by omega)
      have hqf := byt_one (hM.facts (BytF hs) (by (repeat (first | exact List.mem_cons_self | refine List.mem_cons_of_mem _ ?_)))) (List.mem_of_getElem? hq)
      have hq4 := o5 q.1 (List.mem_map.2 ⟨q, List.mem_of_getElem? hq, rfl⟩)
      have hq1 : (hs.map (·.1))[k]? = some q.1 := by rw [List.getElem?_map, hq]; rfl
      replace hM := hM.addFact hqf
      have hye : ∀ (a : Option Addr) (c : Nat), encBP (q.1, a, c) = .slice a q.1.length c := fun _ _ => rfl
      (repeat (first | (with_reducible refine w_seq ?_) | (with_reducible refine c_region ?_) | (with_reducible refine s_nil ?_) | (with_reducible refine q_then_n ?_) | ((with_reducible apply s_pure hF); exact rfl; exact rfl; exact rfl; (first | exact trivial | omega | exact ⟨Int.natCast_nonneg _, Int.ofNat_lt.2 (by assumption)⟩ | decide); clear hF a; intro a hF)))
      rw [decide_eq_true (show (k : Int) < (h2 : Int) by omega)] at hF
      (repeat (first | (with_reducible refine w_seq ?_) | (with_reducible refine c_region ?_) | (with_reducible refine s_nil ?_) | (with_reducible refine q_then_n ?_) | ((with_reducible apply s_pure hF); exact rfl; exact rfl; exact rfl; (first | exact trivial | omega | exact ⟨Int.natCast_nonneg _, Int.ofNat_lt.2 (by assumption)⟩ | decide); clear hF a; intro a hF) | ((with_reducible apply s_loadF hF hM); exact rfl; exact rfl; (repeat (first | exact List.mem_cons_self | refine List.mem_cons_of_mem _ ?_)); exact rfl; exact rfl; (first | with_reducible assumption | (simp only [Int.toNat_natCast]; with_reducible assumption)); clear hF a; intro a hF) | (with_reducible refine w_skip ?_) | (with_reducible refine w_block ?_) | ((with_reducible apply c_true2 hF); exact rfl; (first | with_reducible rfl | (refine congrArg Value.bool ?_; focus (simp; done))))))
      unfold encBP at hF
      try dsimp only at hF
      (repeat (first | fail))
      refine c_draw (fun i => Nat.ble 6 i) hM ?_; clear hM; intro w hM
      (first | (refine t_pure (i := 0) hF rfl rfl rfl rfl (by kernel_rfl) hM.sm (fun _ _ _ h => h) ?_ ?_; (first | exact trivial | omega | decide); clear hF a; intro a hF))
      (first | (apply t_load (i := 1) hF rfl rfl rfl; (repeat (first | exact List.mem_cons_self | refine List.mem_cons_of_mem _ ?_)); exact rfl; exact rfl; kernel_rfl; exact hM.sm; exact (fun _ _ _ h => h); clear hF a; intro a hF))
      (first | (refine t_pure (i := 2) hF rfl rfl rfl rfl (by kernel_rfl) hM.sm (fun _ _ _ h => h) ?_ ?_; (first | exact trivial | omega | decide); clear hF a; intro a hF))
      (first | (refine t_pure (i := 3) hF rfl rfl rfl rfl (by kernel_rfl) hM.sm (fun _ _ _ h => h) ?_ ?_; (first | exact trivial | omega | decide); clear hF a; intro a hF))
      refine t_one (i := 4) hF rfl (by kernel_rfl) rfl ?_
      intro K hK
      (apply x_callO hF; exact rfl; exact rfl; exact rfl; exact rfl; exact (cloneB_z q.2.1 q.2.2 q.1 q.1.length rfl _ _ hM.lt (hM.facts (RdF (Value.int .u8) q.2.1 q.1) (by (repeat (first | with_reducible exact List.mem_cons_self | refine List.mem_cons_of_mem _ ?_)))) (by omega)); clear hF a; rintro v wn a ⟨a4, c4, rfl, hO⟩ hS hF; replace hM := hM.addRows hS hO; clear hS hO; dsimp only [List.cons_append, List.nil_append] at hM)
      replace hM := hM.freezeN; rw [← hye a4 c4] at hF
      refine hK _ _ (fun _ => (hM.sm.sub (fun x hx => by repeat (first | exact hx | refine List.mem_cons_of_mem _ ?_)) (fun _ h => by repeat (first | exact h | refine List.mem_cons_of_mem _ ?_)))) ?_; clear hK
      (first | (refine t_pure (i := 5) hF rfl rfl rfl rfl (by kernel_rfl) (hM.sm.sub (fun x hx => by repeat (first | exact hx | refine List.mem_cons_of_mem _ ?_)) (fun _ h => by repeat (first | exact h | refine List.mem_cons_of_mem _ ?_))) (fun _ _ _ h => h) ?_ ?_; (first | exact trivial | omega | decide); clear hF a; intro a hF))
      refine t_one (i := 6) hF rfl (by kernel_rfl) rfl ?_
      intro K hK
      ((apply x_storeR hF hM); exact rfl; (repeat (first | exact Kth.z | apply Kth.s)); exact rfl; exact rfl; exact rfl; exact rfl; (first | assumption | omega | (simp only [List.length_set]; omega) | (simp only [Int.toNat_natCast, List.length_set]; omega)); clear hF hM a; intro w a hM hF; dsimp only [List.set] at hM)
      refine hK _ _ (fun h => by cases h) ?_; clear hK
      refine t_done (by kernel_rfl) ?_
      (repeat' (first | (with_reducible refine c_region ?_) | (with_reducible refine s_nil ?_) | (with_reducible refine q_then_n ?_) | ((with_reducible apply s_pure hF); exact rfl; exact rfl; exact rfl; (first | exact trivial | omega | exact ⟨Int.natCast_nonneg _, Int.ofNat_lt.2 (by assumption)⟩ | decide); clear hF a; intro a hF) | (with_reducible refine q_blk_n ?_)))
      rw [Int.toNat_natCast] at hM
      replace hM := hM.addFact (byt_set (i := k) (q := (q.1, a4, c4)) (hM.facts (BytF ys) (by (repeat (first | exact List.mem_cons_self | refine List.mem_cons_of_mem _ ?_)))) (hM.facts (RdF (Value.int .u8) a4 q.1) (by (repeat (first | with_reducible exact List.mem_cons_self | refine List.mem_cons_of_mem _ ?_)))))
      refine ⟨z - 1, by omega, k + 1, ys.set k (q.1, a4, c4), by omega, by rw [List.length_set]; exact hyl, ?_, hF.sub (by repeat (first | exact Sub.nil | refine Sub.cons rfl (by first | with_reducible rfl | (refine congrArg (Value.int _) ?_; omega) | exact rfl) ?_)), hM.sub (.refl _) (.refl _) (by intro f hf; simp only [List.mem_cons, List.not_mem_nil, or_false] at hf; (repeat (rcases hf with rfl | hf; · (repeat (first | exact List.mem_cons_self | refine List.mem_cons_of_mem _ ?_)))); first | (subst hf; (repeat (first | exact List.mem_cons_self | refine List.mem_cons_of_mem _ ?_)); done) | (repeat (first | exact hf | refine List.mem_cons_of_mem _ ?_)))⟩
      rw [List.map_set, hym]
      exact set_fill o4 hq1
    · obtain rfl : h2 = k := by omega
      rw [List.take_of_length_le (Nat.le_of_eq o4), Nat.sub_self, List.replicate_zero, List.append_nil] at hym
      obtain ⟨y, hy⟩ : ∃ y : BP, y = (P, a3, c3) := ⟨_, rfl⟩
      have hye : Value.slice a3 P.length c3 = encBP y := by rw [hy]; rfl
      rw [hye] at hF
      (repeat' (first | (with_reducible refine w_seq ?_) | (with_reducible refine c_region ?_) | (with_reducible refine s_nil ?_) | (with_reducible refine q_then_n ?_) | ((with_reducible apply s_pure hF); exact rfl; exact rfl; exact rfl; (first | exact trivial | omega | exact ⟨Int.natCast_nonneg _, Int.ofNat_lt.2 (by assumption)⟩ | decide); clear hF a; intro a hF) | (with_reducible refine w_exit ?_) | (with_reducible refine q_then_x ?_) | (with_reducible refine q_blk_x ?_) | ((with_reducible apply c_false2 hF); exact rfl; (first | with_reducible rfl | (refine congrArg Value.bool ?_; focus (simp; done))))))
      refine c_draw (fun i => Nat.ble 11 i) hM ?_; clear hM; intro w hM
      (first | (refine t_pure (i := 0) hF rfl rfl rfl rfl (by kernel_rfl) hM.sm (fun _ _ _ h => h) ?_ ?_; (first | exact trivial | omega | decide); clear hF a; intro a hF))
      (first | (apply t_load (i := 1) hF rfl rfl rfl; (repeat (first | exact List.mem_cons_self | refine List.mem_cons_of_mem _ ?_)); exact rfl; exact rfl; kernel_rfl; exact hM.sm; exact (fun _ _ _ h => h); clear hF a; intro a hF))
      (first | (refine t_pure (i := 2) hF rfl rfl rfl rfl (by kernel_rfl) hM.sm (fun _ _ _ h => h) ?_ ?_; (first | exact trivial | omega | decide); clear hF a; intro a hF))
      (first | (apply t_load (i := 3) hF rfl rfl rfl; (repeat (first | exact List.mem_cons_self | refine List.mem_cons_of_mem _ ?_)); exact rfl; exact rfl; kernel_rfl; exact hM.sm; exact (fun _ _ _ h => h); clear hF a; intro a hF))
      (first | (refine t_pure (i := 4) hF rfl rfl rfl rfl (by kernel_rfl) hM.sm (fun _ _ _ h => h) ?_ ?_; (first | exact trivial | omega | decide); clear hF a; intro a hF))
      (first | (apply t_load (i := 5) hF rfl rfl rfl; (repeat (first | exact List.mem_cons_self | refine List.mem_cons_of_mem _ ?_)); exact rfl; exact rfl; kernel_rfl; exact hM.sm; exact (fun _ _ _ h => h); clear hF a; intro a hF))
      (first | (refine t_pure (i := 6) hF rfl rfl rfl rfl (by kernel_rfl) hM.sm (fun _ _ _ h => h) ?_ ?_; (first | exact trivial | omega | decide); clear hF a; intro a hF))
      (first | (apply t_load (i := 7) hF rfl rfl rfl; (repeat (first | exact List.mem_cons_self | refine List.mem_cons_of_mem _ ?_)); exact rfl; exact rfl; kernel_rfl; exact hM.sm; exact (fun _ _ _ h => h); clear hF a; intro a hF))
      (first | (refine t_pure (i := 8) hF rfl rfl rfl rfl (by kernel_rfl) hM.sm (fun _ _ _ h => h) ?_ ?_; (first | exact trivial | omega | decide); clear hF a; intro a hF))
      (first | (refine t_pure (i := 9) hF rfl rfl rfl rfl (by kernel_rfl) hM.sm (fun _ _ _ h => h) ?_ ?_; (first | exact trivial | omega | decide); clear hF a; intro a hF))
      refine t_one (i := 10) hF rfl (by kernel_rfl) rfl ?_
      intro K hK
      ((apply x_storeR hF hM); exact rfl; (repeat (first | exact Kth.z | apply Kth.s)); exact rfl; exact rfl; exact rfl; exact rfl; (first | assumption | omega | (simp only [List.length_set]; omega) | (simp only [Int.toNat_natCast, List.length_set]; omega)); clear hF hM a; intro w a hM hF; dsimp only [List.set] at hM)
      refine hK _ _ (fun _ => (hM.sm.sub (fun x hx => by repeat (first | exact hx | refine List.mem_cons_of_mem _ ?_)) (fun _ h => by repeat (first | exact h | refine List.mem_cons_of_mem _ ?_)))) ?_; clear hK
      refine t_one (i := 11) hF rfl (by kernel_rfl) rfl ?_
      intro K hK
      (first | (refine x_pure hF hM rfl rfl ?_ ?_; (first | exact trivial | omega | decide); clear hF a; intro a hF) | (apply x_load hF hM rfl; (repeat (first | exact List.mem_cons_self | refine List.mem_cons_of_mem _ ?_)); exact rfl; exact rfl; clear hF a; intro a hF))
      refine hK _ _ (fun h => by cases h) ?_; clear hK
      refine t_one (i := 12) hF rfl (by kernel_rfl) rfl ?_
      intro K hK
      ((apply x_storeR hF hM); exact rfl; (repeat (first | exact Kth.z | apply Kth.s)); exact rfl; exact rfl; exact rfl; exact rfl; (first | assumption | omega | (simp only [List.length_set]; omega) | (simp only [Int.toNat_natCast, List.length_set]; omega)); clear hF hM a; intro w a hM hF; dsimp only [List.set] at hM)
      refine hK _ _ (fun h => by cases h) ?_; clear hK
      refine t_done (by kernel_rfl) ?_
      (repeat' (first | (with_reducible refine w_seq ?_) | (with_reducible refine c_region ?_) | (with_reducible refine s_nil ?_) | (with_reducible refine q_then_n ?_) | ((with_reducible apply s_pure hF); exact rfl; exact rfl; exact rfl; (first | exact trivial | omega | exact ⟨Int.natCast_nonneg _, Int.ofNat_lt.2 (by assumption)⟩ | decide); clear hF a; intro a hF) | ((with_reducible apply s_load hF hM); exact rfl; exact rfl; (repeat (first | exact List.mem_cons_self | refine List.mem_cons_of_mem _ ?_)); exact rfl; exact rfl; clear hF a; intro a hF) | ((with_reducible apply s_store hF hM); exact rfl; exact rfl; exact rfl; exact rfl; (repeat (first | exact Upd.z | apply Upd.s)); exact rfl; exact rfl; exact rfl; clear hM; intro w hM) | (with_reducible refine w_ret ?_)))
      (apply f_ret Try.results26 hF hM; (repeat (first | exact RL.nil | (apply RL.tmp; exact rfl) | (apply RL.cell; exact rfl; (repeat (first | exact List.mem_cons_self | refine List.mem_cons_of_mem _ ?_)); exact rfl))); refine Ret.mk hM.since ?_; dsimp only [resV])
      rw [Int.toNat_natCast] at hM
      refine ⟨_, rfl, ys.set h1 y, _, h2, _, cs, rfl, ?_, hM.rowFact List.mem_cons_self, byt_set ?_ ?_, hM.rowFact (List.mem_cons_of_mem _ List.mem_cons_self), Nat.le_refl _, row_capC hM (i := 1) rfl⟩
      · rw [List.map_set, hym, hy]
      · exact (hM.facts (BytF ys) (by (repeat (first | with_reducible exact List.mem_cons_self | refine List.mem_cons_of_mem _ ?_)))).own_eq (fun _ h => .inl h)
      · rw [hy]
        exact (hM.facts (RdF (Value.int .u8) a3 P) (by (repeat (first | with_reducible exact List.mem_cons_self | refine List.mem_cons_of_mem _ ?_)))).own_eq (fun _ h => .inl h)
end
end Go.Proofs.Ytadfdpkhehdikaa


/- batch.Missing. -/
namespace Go.Proofs.Ytadfdpkhehdikaa
open Go.RowKit Go.Shelf D29 B31
namespace B31
/-- Where a list of flags is false, from i on. -/
def missL : List Bool → Nat → List Int
  | [], _ => []
  | x :: r, i => if x then missL r (i + 1) else (i : Int) :: missL r (i + 1)
theorem missL_snoc : ∀ (l : List Bool) (x : Bool) (i : Nat), missL (l ++ [x]) i = missL l i ++ (if x then [] else [((i + l.length : Nat) : Int)])
  | [], x, i => by cases x <;> simp [missL]
  | y :: r, x, i => by
    have ih := missL_snoc r x (i + 1)
    rw [List.cons_append]
    unfold missL
    rw [ih, List.length_cons, show i + 1 + r.length = i + (r.length + 1) by omega]
    split <;> simp
theorem missL_mem : ∀ (l : List Bool) (i : Nat) (y : Int), y ∈ missL l i → ∃ j, y = ((i + j : Nat) : Int) ∧ l[j]? = some false
  | [], _, _, h => by cases h
  | x :: r, i, y, h => by
    unfold missL at h
    split at h
    · obtain ⟨j, h1, h2⟩ := missL_mem r (i + 1) y h
      exact ⟨j + 1, by rw [h1, show i + 1 + j = i + (j + 1) by omega], h2⟩
    · rename_i hx
      rcases List.mem_cons.1 h with h | h
      · exact ⟨0, h, by simp at hx; rw [hx]; rfl⟩
      · obtain ⟨j, h1, h2⟩ := missL_mem r (i + 1) y h
        exact ⟨j + 1, by rw [h1, show i + 1 + j = i + (j + 1) by omega], h2⟩
theorem missL_has : ∀ (l : List Bool) (i j : Nat), l[j]? = some false → ((i + j : Nat) : Int) ∈ missL l i
  | [], _, _, h => by cases h
  | x :: r, i, j, h => by
    unfold missL
    cases j with
    | zero =>
      have : x = false := by simpa using h
      rw [this]
      simp
    | succ j =>
      have := missL_has r (i + 1) j (by simpa using h)
      rw [show i + (j + 1) = i + 1 + j by omega]
      split
      · exact this
      · exact List.mem_cons_of_mem _ this
theorem missL_len : ∀ (l : List Bool) (i : Nat), (missL l i).length ≤ l.length
  | [], _ => by simp [missL]
  | x :: r, i => by
    have := missL_len r (i + 1)
    unfold missL
    split
    · rw [List.length_cons]; omega
    · rw [List.length_cons, List.length_cons]; omega
end B31
section
variable (num sum : Int) (N : Nat) (hs : List BP) (hok : AsOk num sum N (hs.map (·.1))) (a1 : Option Addr) (c1 : Nat) (a2 : Option Addr) (c2 : Nat)
include hok
set_option maxRecDepth 20000 in
set_option maxHeartbeats 4000000 in
theorem Missing_c (own : Nat → Prop) (W : World) (hl : ∀ b, own b → b < W.heap.size) (k1 : Has own W (RdF encBP a1 hs)) (k2 : Has own W (RdF Value.bool a2 (seenB (hs.map (·.1))))) :
    Calls Try.prog 27 ⟨[asmV num N sum a1 N c1 a2 N c2]⟩ W (Ret W fun v w' => ∃ a' n' c', n' = (missL (seenB (hs.map (·.1))) 0).length ∧ v = .slice a' n' c' ∧ Has own w' (RdF (Value.int .i64) a' (missL (seenB (hs.map (·.1))) 0))) := by
  have hM := ((Mm.start hl).known k1).known k2
  have e2 := fun {own W} hl k1 k2 => bCheck_c num sum N hs hok a1 c1 a2 c2 own W hl k1 k2
  obtain ⟨o1, o2, o3, o4, o5⟩ := hok
  have hSl : (seenB (hs.map (·.1))).length = N := by unfold seenB; rw [List.length_map, o4]
  generalize seenB (hs.map (·.1)) = S at *
  refine f_start Try.func27 rfl Try.ntmps27 rfl rfl ?_; intro a hF
  (repeat' (first | (with_reducible refine w_seq ?_) | (with_reducible refine c_region ?_) | (with_reducible refine s_nil ?_) | ((with_reducible apply s_call (f := 66) hF hM); exact rfl; exact rfl; exact rfl; exact rfl; exact rfl; exact (e2 hM.lt (hM.facts (RdF encBP a1 hs) (by (repeat (first | exact List.mem_cons_self | refine List.mem_cons_of_mem _ ?_)))) (hM.facts (RdF Value.bool a2 S) (by (repeat (first | exact List.mem_cons_self | refine List.mem_cons_of_mem _ ?_))))); clear hF hM a; rintro v w a rfl - hM hF) | (with_reducible refine q_then_n ?_) | ((with_reducible apply s_pure hF); exact rfl; exact rfl; exact rfl; (first | exact trivial | omega | exact ⟨Int.natCast_nonneg _, Int.ofNat_lt.2 (by assumption)⟩ | decide); clear hF a; intro a hF) | ((with_reducible apply s_load hF hM); exact rfl; exact rfl; (repeat (first | exact List.mem_cons_self | refine List.mem_cons_of_mem _ ?_)); exact rfl; exact rfl; clear hF a; intro a hF) | ((with_reducible apply s_box hF hM); exact rfl; exact rfl; exact rfl; exact rfl; clear hF hM a; intro b w a hM hF) | (with_reducible refine w_skip ?_) | (with_reducible refine w_block ?_) | ((with_reducible apply c_false2 hF); exact rfl; (first | with_reducible rfl | (refine congrArg Value.bool ?_; focus (simp; done))))))
  refine c_loop (m := N) (fun z a w' => ∃ (k q : Nat) (v : Value), z + k = N ∧ q = (missL (S.take k) 0).length ∧ q ≤ k ∧
    Fr 25 [] [(12, .int .i64 k), (11, .int .i64 N), (10, .slice a2 N c2), (3, v)] a ∧
    Mm own W [] [⟨3, 1, v, q, (missL (S.take k) 0).map (Value.int .i64)⟩] [RdF Value.bool a2 S] w') ⟨0, 0, .slice none 0 0, by omega, rfl, by omega, hF.sub (by repeat (first | exact Sub.nil | refine Sub.cons rfl (by first | with_reducible rfl | (refine congrArg (Value.int _) ?_; omega) | exact rfl) ?_)), (hM.sub (List.nil_sublist _) (.refl _) (by intro f hf; simp only [List.mem_cons, List.not_mem_nil, or_false] at hf; (repeat (rcases hf with rfl | hf; · (repeat (first | exact List.mem_cons_self | refine List.mem_cons_of_mem _ ?_)))); first | (subst hf; (repeat (first | exact List.mem_cons_self | refine List.mem_cons_of_mem _ ?_)); done) | (repeat (first | exact hf | refine List.mem_cons_of_mem _ ?_)))).nilRow _ _⟩ ?_
  clear hF hM a
  rintro z a w' ⟨k, q, v, hz, hq, hqk, hF, hM⟩
  by_cases hk : k < N
  · obtain ⟨x, hx⟩ := get_of_lt (l := S) (i := k) (by omega)
    have hst : missL (S.take (k + 1)) 0 = missL (S.take k) 0 ++ (if x then [] else [(k : Int)]) := by
      rw [take_snoc hx, missL_snoc, List.length_take, show min k S.length = k by omega, Nat.zero_add]
    obtain ⟨ad2, rfl⟩ : ∃ ad, a2 = some ad := rd_some hM (enc := Value.bool) (a := a2) (xs := S) (by (repeat (first | exact List.mem_cons_self | refine List.mem_cons_of_mem _ ?_))) hx
    cases x with
    | true =>
      rw [if_pos rfl, List.append_nil] at hst
      (repeat' (first | (with_reducible refine w_seq ?_) | (with_reducible refine c_region ?_) | (with_reducible refine s_nil ?_) | (with_reducible refine q_then_n ?_) | ((with_reducible apply s_pure hF); exact rfl; exact rfl; exact rfl; (first | exact trivial | omega | exact ⟨Int.natCast_nonneg _, Int.ofNat_lt.2 (by assumption)⟩ | decide); clear hF a; intro a hF) | ((with_reducible apply s_loadF hF hM); exact rfl; exact rfl; (repeat (first | exact List.mem_cons_self | refine List.mem_cons_of_mem _ ?_)); exact rfl; exact rfl; (first | with_reducible assumption | (simp only [Int.toNat_natCast]; with_reducible assumption)); clear hF a; intro a hF) | (with_reducible refine w_skip ?_) | (with_reducible refine w_block ?_) | (with_reducible refine q_blk_n ?_) | ((with_reducible apply c_false2 hF); exact rfl; (first | with_reducible rfl | (refine congrArg Value.bool ?_; focus (simp; done)))) | ((with_reducible apply c_dec hF); exact rfl; all_goals intro hc; all_goals (try (exfalso; omega)))))
      exact ⟨z - 1, by omega, k + 1, q, v, by omega, by rw [hst]; exact hq, by omega, hF.sub (by repeat (first | exact Sub.nil | refine Sub.cons rfl (by first | with_reducible rfl | (refine congrArg (Value.int _) ?_; omega) | exact rfl) ?_)), by rw [hst]; exact hM⟩
    | false =>
      rw [if_neg (by simp)] at hst
      (repeat' (first | (with_reducible refine w_seq ?_) | (with_reducible refine c_region ?_) | (with_reducible refine s_nil ?_) | (with_reducible refine q_then_n ?_) | ((with_reducible apply s_pure hF); exact rfl; exact rfl; exact rfl; (first | exact trivial | omega | exact ⟨Int.natCast_nonneg _, Int.ofNat_lt.2 (by assumption)⟩ | decide); clear hF a; intro a hF) | ((with_reducible apply s_loadF hF hM); exact rfl; exact rfl; (repeat (first | exact List.mem_cons_self | refine List.mem_cons_of_mem _ ?_)); exact rfl; exact rfl; (first | with_reducible assumption | (simp only [Int.toNat_natCast]; with_reducible assumption)); clear hF a; intro a hF) | ((with_reducible apply s_lit hF hM); exact rfl; exact rfl; exact rfl; exact rfl; clear hF hM a; intro bl w a hM hF) | ((with_reducible apply s_app hF hM); exact rfl; exact rfl; exact rfl; exact rfl; (repeat (first | exact Kth.z | apply Kth.s)); exact rfl; exact rfl; exact rfl; exact rfl; omega; clear hF hM a; intro g cap w a hM hF; dsimp only [List.set] at hM) | (with_reducible refine w_skip ?_) | (with_reducible refine w_block ?_) | (with_reducible refine q_blk_n ?_) | ((with_reducible apply c_true2 hF); exact rfl; (first | with_reducible rfl | (refine congrArg Value.bool ?_; focus (simp; done)))) | ((with_reducible apply c_dec hF); exact rfl; all_goals intro hc; all_goals (try (exfalso; omega)))))
      refine ⟨z - 1, by omega, k + 1, q + 1, _, by omega, by rw [hst, List.length_append, hq]; rfl, by omega, hF.sub (by repeat (first | exact Sub.nil | refine Sub.cons rfl (by first | with_reducible rfl | (refine congrArg (Value.int _) ?_; omega) | exact rfl) ?_)), ?_⟩
      rw [hst, List.map_append]
      exact hM.sub (List.nil_sublist _) (.refl _) (fun _ h => h)
  · obtain rfl : N = k := by omega
    rw [List.take_of_length_le (Nat.le_of_eq hSl)] at hq hM
    obtain ⟨av, cv, rfl, hcv, -⟩ := OffR.shape hM (k := 0) rfl (OffR.plain hM List.mem_cons_self)
    (repeat' (first | (with_reducible refine w_seq ?_) | (with_reducible refine c_region ?_) | (with_reducible refine s_nil ?_) | (with_reducible refine q_then_n ?_) | ((with_reducible apply s_pure hF); exact rfl; exact rfl; exact rfl; (first | exact trivial | omega | exact ⟨Int.natCast_nonneg _, Int.ofNat_lt.2 (by assumption)⟩ | decide); clear hF a; intro a hF) | (with_reducible refine w_exit ?_) | (with_reducible refine w_ret ?_) | (with_reducible refine q_then_x ?_) | (with_reducible refine q_blk_x ?_) | ((with_reducible apply c_false2 hF); exact rfl; (first | with_reducible rfl | (refine congrArg Value.bool ?_; focus (simp; done))))))
    (apply f_ret Try.results27 hF hM; (repeat (first | exact RL.nil | (apply RL.tmp; exact rfl) | (apply RL.cell; exact rfl; (repeat (first | exact List.mem_cons_self | refine List.mem_cons_of_mem _ ?_)); exact rfl))); refine Ret.mk hM.since ?_; dsimp only [resV])
    exact ⟨av, q, cv, hq, rfl, hM.rowFact List.mem_cons_self⟩
end
end Go.Proofs.Ytadfdpkhehdikaa


/- wire: writes are read. -/
namespace Go.Proofs.Ytadfdpkhehdikaa
open Go.RowKit Go.Shelf D29 B31
section
variable {own : Nat → Prop} {w0 W : World} {bs : List BoxE} {L : List Ent} {Fs : List (World → Prop)} {b : Nat} {T : TypeId}
theorem numP_m (n : Nat) (hn : n ≤ 9007199254740991) (ys : List Int) (hb : By ys) (hlen : ys.length ≤ 100000) (a0 : Option Addr) (m c0 : Nat) (hm : (puts n ++ ys).length = m) (hc0 : m ≤ c0) (hM : Mm own w0 (⟨b, ⟨[.slice a0 m c0]⟩, T⟩ :: bs) L (RdF (Value.int .u8) a0 (puts n ++ ys) :: Fs) W) :
    Calls Try.prog 100 ⟨[.pointer (some ⟨b, 0, none⟩)]⟩ W (Rtn fun u w' => u = .tuple #[.int .i64 n, .int .i64 0] ∧ ∃ a' c', ys.length ≤ c' ∧ Mm own w0 (⟨b, ⟨[.slice a' ys.length c']⟩, T⟩ :: bs) L [RdF (Value.int .u8) a' ys] w') := by
  subst hm
  have hr := rdNum_puts hn ys
  have hp := puts_len8 hn
  have h := number_m (puts n ++ ys) (by_app (puts_By n) hb) (by rw [List.length_append]; omega) a0 c0 hc0 hM
  rw [hr] at h
  dsimp only at h
  rw [List.drop_left, show (puts n ++ ys).length - (puts n).length = ys.length by rw [List.length_append]; omega] at h
  refine h.mono ?_
  intro e w' he
  cases e with
  | returned v =>
    obtain ⟨e1, a', c', h1, h2⟩ := he
    exact ⟨e1, a', c', h1, h2.sub (.refl _) (.refl _) (fun f hf => by rw [List.mem_singleton.1 hf]; exact List.mem_cons_self)⟩
  | panicked c => exact he.elim
  | outgrown => exact he.elim
set_option maxRecDepth 20000 in
theorem pairP_m (p s : Nat) (hp : p ≤ 9007199254740991) (hs : s ≤ 9007199254740991) (ys : List Int) (hb : By ys) (hlen : ys.length ≤ 99000) (a0 : Option Addr) (m c0 : Nat) (hm : (puts p ++ (puts s ++ ys)).length = m) (hc0 : m ≤ c0) (hM : Mm own w0 (⟨b, ⟨[.slice a0 m c0]⟩, T⟩ :: bs) L (RdF (Value.int .u8) a0 (puts p ++ (puts s ++ ys)) :: Fs) W) :
    Calls Try.prog 143 ⟨[.pointer (some ⟨b, 0, none⟩)]⟩ W (Rtn fun u w' => u = .tuple #[.int .i64 p, .int .i64 s, .int .i64 0] ∧ ∃ a' c', ys.length ≤ c' ∧ Mm own w0 (⟨b, ⟨[.slice a' ys.length c']⟩, T⟩ :: bs) L [RdF (Value.int .u8) a' ys] w') := by
  have g1 := puts_len8 hs
  have hl1 : (puts s ++ ys).length ≤ 100000 := by rw [List.length_append]; omega
  refine f_start Try.func143 rfl Try.ntmps143 rfl rfl ?_; intro a hF
  (repeat' (first | (with_reducible refine w_seq ?_) | (with_reducible refine c_region ?_) | (with_reducible refine s_nil ?_) | ((with_reducible apply s_callM (f := 100) hF); exact rfl; exact rfl; exact rfl; exact rfl; exact rfl; exact (numP_m p hp _ (by_app (puts_By s) hb) hl1 a0 m c0 hm hc0 hM); clear hF hM a; rintro v w a ⟨rfl, a1, c1, hc1, hM⟩ hF) | ((with_reducible apply s_callM (f := 100) hF); exact rfl; exact rfl; exact rfl; exact rfl; exact rfl; exact (numP_m s hs _ hb (by omega) a1 _ c1 rfl hc1 hM); clear hF hM a; rintro v w a ⟨rfl, a2, c2, hc2, hM⟩ hF) | (with_reducible refine q_then_n ?_) | ((with_reducible apply s_pure hF); exact rfl; exact rfl; exact rfl; (first | exact trivial | omega | exact ⟨Int.natCast_nonneg _, Int.ofNat_lt.2 (by assumption)⟩ | decide); clear hF a; intro a hF) | (with_reducible refine w_skip ?_) | (with_reducible refine w_ret ?_) | ((with_reducible apply c_false2 hF); exact rfl; (first | with_reducible rfl | (refine congrArg Value.bool ?_; focus (simp; done))))))
  (apply f_ret Try.results143 hF hM; (repeat (first | exact RL.nil | (apply RL.tmp; exact rfl) | (apply RL.cell; exact rfl; (repeat (first | exact List.mem_cons_self | refine List.mem_cons_of_mem _ ?_)); exact rfl))); refine Both.mk ?_; try dsimp only [resV])
  exact ⟨rfl, a2, c2, hc2, hM⟩
theorem secsP_m (x : Dat) (hx8 : W8 x) (hxl : x.length ≤ 4096) (hxb : ∀ s ∈ x, By s) (ys : List Int) (hb : By ys) (hlen : ys.length ≤ 60000) (a0 : Option Addr) (m c0 : Nat) (hm : (putsS x ++ ys).length = m) (hc0 : m ≤ c0) (hM : Mm own w0 (⟨b, ⟨[.slice a0 m c0]⟩, T⟩ :: bs) L (RdF (Value.int .u8) a0 (putsS x ++ ys) :: Fs) W) :
    Calls Try.prog 135 ⟨[.pointer (some ⟨b, 0, none⟩)]⟩ W (Rtn fun u w' => ∃ a1 c1 a2 c2, u = .tuple #[.slice a1 x.length c1, .int .i64 0] ∧ ys.length ≤ c2 ∧ Mm own w0 (⟨b, ⟨[.slice a2 ys.length c2]⟩, T⟩ :: bs) (⟨83, 8, .slice a1 x.length c1, x.length, x.flatten.map (Value.int .u8)⟩ :: L) [RdF (Value.int .u8) a2 ys] w') := by
  subst hm
  have hr : rdSecs (putsS x ++ ys) = .ok (x, ys) := by
    unfold putsS
    rw [List.append_assoc]
    exact rdSecs_put hx8 (by omega) ys
  have hsl := putsS_len hx8 (by omega)
  have h := sectors_ok (putsS x ++ ys) (by_app (by_app (puts_By _) (flat_by hxb)) hb) (by rw [List.length_append]; omega) a0 c0 hc0 hM hr
  refine h.mono ?_
  intro e w' he
  cases e with
  | returned v =>
    obtain ⟨a1, c1, a2, c2, e1, h1, -, -, -, -, h2⟩ := he
    exact ⟨a1, c1, a2, c2, e1, h1, h2⟩
  | panicked c => exact he.elim
  | outgrown => exact he.elim
set_option maxRecDepth 20000 in
theorem writeP_m (p s : Nat) (hp : p ≤ 9007199254740991) (hs : s ≤ 9007199254740991) (x : Dat) (hx8 : W8 x) (hxl : x.length ≤ 3000) (hxb : ∀ s ∈ x, By s) (ys : List Int) (hb : By ys) (hlen : ys.length ≤ 60000) (a0 : Option Addr) (m c0 : Nat) (hm : (putsW p s x ++ ys).length = m) (hc0 : m ≤ c0) (hM : Mm own w0 (⟨b, ⟨[.slice a0 m c0]⟩, T⟩ :: bs) L (RdF (Value.int .u8) a0 (putsW p s x ++ ys) :: Fs) W) :
    Calls Try.prog 132 ⟨[.pointer (some ⟨b, 0, none⟩)]⟩ W (Rtn fun u w' => ∃ a1 c1 a2 c2, u = .tuple #[.agg #[.int .i64 p, .int .i64 s, .slice a1 x.length c1], .int .i64 0] ∧ ys.length ≤ c2 ∧ Mm own w0 (⟨b, ⟨[.slice a2 ys.length c2]⟩, T⟩ :: bs) (⟨83, 8, .slice a1 x.length c1, x.length, x.flatten.map (Value.int .u8)⟩ :: L) [RdF (Value.int .u8) a2 ys] w') := by
  have e0 : putsW p s x ++ ys = puts p ++ (puts s ++ (putsS x ++ ys)) := by unfold putsW; simp
  rw [e0] at hm hM
  have hsl := putsS_len hx8 (by omega)
  have hl1 : (putsS x ++ ys).length ≤ 99000 := by rw [List.length_append]; omega
  have hb1 : By (putsS x ++ ys) := by_app (by_app (puts_By _) (flat_by hxb)) hb
  refine f_start Try.func132 rfl Try.ntmps132 rfl rfl ?_; intro a hF
  (repeat (first | (with_reducible refine w_seq ?_) | (with_reducible refine c_region ?_) | (with_reducible refine s_nil ?_) | (with_reducible refine q_then_n ?_) | ((with_reducible apply s_pure hF); exact rfl; exact rfl; exact rfl; (first | exact trivial | omega | exact ⟨Int.natCast_nonneg _, Int.ofNat_lt.2 (by assumption)⟩ | decide); clear hF a; intro a hF) | ((with_reducible apply s_alloc hF hM); exact rfl; exact rfl; exact rfl; clear hF hM a; intro b w a hM hF)))
  replace hM := hM.perm (List.Perm.swap _ _ _)
  (repeat' (first | (with_reducible refine w_seq ?_) | (with_reducible refine c_region ?_) | (with_reducible refine s_nil ?_) | ((with_reducible apply s_callM (f := 143) hF); exact rfl; exact rfl; exact rfl; exact rfl; exact rfl; exact (pairP_m p s hp hs _ hb1 hl1 a0 m c0 hm hc0 hM); clear hF hM a; rintro v w a ⟨rfl, a1, c1, hc1, hM⟩ hF) | ((with_reducible apply s_callM (f := 135) hF); exact rfl; exact rfl; exact rfl; exact rfl; exact rfl; exact (secsP_m x hx8 (by omega) hxb ys hb hlen a1 _ c1 rfl hc1 hM); clear hF hM a; rintro v w a ⟨a2, c2, a3, c3, rfl, hc3, hM⟩ hF) | (with_reducible refine q_then_n ?_) | ((with_reducible apply s_pure hF); exact rfl; exact rfl; exact rfl; (first | exact trivial | omega | exact ⟨Int.natCast_nonneg _, Int.ofNat_lt.2 (by assumption)⟩ | decide); clear hF a; intro a hF) | ((with_reducible apply s_store hF hM); exact rfl; exact rfl; exact rfl; exact rfl; (repeat (first | exact Upd.z | apply Upd.s)); exact rfl; exact rfl; exact rfl; clear hM; intro w hM) | (with_reducible refine w_skip ?_) | (with_reducible refine w_ret ?_) | ((with_reducible apply c_false2 hF); exact rfl; (first | with_reducible rfl | (refine congrArg Value.bool ?_; focus (simp; done))))))
  (apply f_ret Try.results132 hF hM; (repeat (first | exact RL.nil | (apply RL.tmp; exact rfl) | (apply RL.cell; exact rfl; (repeat (first | exact List.mem_cons_self | refine List.mem_cons_of_mem _ ?_)); exact rfl))); refine Both.mk ?_; try dsimp only [resV])
  exact ⟨a2, c2, a3, c3, rfl, hc3, hM.sub (.cons_cons _ (.cons _ (.refl _))) (.refl _) (fun _ h => h)⟩
end
end Go.Proofs.Ytadfdpkhehdikaa


/- wire: lists of writes are read. -/
namespace Go.Proofs.Ytadfdpkhehdikaa
open Go.RowKit Go.Shelf D29 B31
namespace B31
def rowW (t : WP) : Ent := ⟨83, 8, .slice t.2.1 t.1.x.length t.2.2, t.1.x.length, t.1.x.flatten.map (Value.int .u8)⟩
def rowsW (l : List WP) : List Ent := (l.map rowW).reverse
theorem rowsW_snoc (l : List WP) (t : WP) : rowsW (l ++ [t]) = rowW t :: rowsW l := by simp [rowsW]
theorem rowsW_dat {own : Nat → Prop} {w0 w : World} {bs : List BoxE} {L : List Ent} {Fs : List (World → Prop)} (hM : Mm own w0 bs L Fs w) : ∀ (ts : List WP) (_ : ∀ t ∈ ts, rowW t ∈ L), Has own w (DatF (wP ts))
  | [], _ => Has.pure fun _ p hp => by cases hp
  | t :: r, h => by
    have h1 := rowsW_dat hM r fun y hy => h y (List.mem_cons_of_mem _ hy)
    have h2 : Has own w (RdF (Value.int .u8) t.2.1 t.1.x.flatten) := Mm.rowFactN hM (h t List.mem_cons_self)
    exact (h1.and h2).imp fun _ ⟨k1, k2⟩ p hp => by
      rcases List.mem_cons.1 (show p ∈ ((⟨0, t.1.x⟩ : Itm), t.2) :: wP r from hp) with rfl | hp
      · exact k2
      · exact k1 p hp
end B31
theorem lengthP_m (n : Nat) (hn : n ≤ 65536) (ys : List Int) (hb : By ys) (hlen : ys.length ≤ 100000) (a0 : Option Addr) (m c0 : Nat) (hm : (puts n ++ ys).length = m) (hc0 : m ≤ c0) {own : Nat → Prop} {w0 W : World} {bs : List BoxE} {L : List Ent} {Fs : List (World → Prop)} {b : Nat} {T : TypeId} (hM : Mm own w0 (⟨b, ⟨[.slice a0 m c0]⟩, T⟩ :: bs) L (RdF (Value.int .u8) a0 (puts n ++ ys) :: Fs) W) :
    Calls Try.prog 142 ⟨[.pointer (some ⟨b, 0, none⟩)]⟩ W (Rtn fun u w' => u = .tuple #[.int .i64 n, .int .i64 0] ∧ ∃ a' c', ys.length ≤ c' ∧ Mm own w0 (⟨b, ⟨[.slice a' ys.length c']⟩, T⟩ :: bs) L [RdF (Value.int .u8) a' ys] w') := by
  subst hm
  have hr := rdNum_puts (n := n) (by omega) ys
  have hp := puts_len8 (n := n) (by omega)
  have h := length_m (puts n ++ ys) (by_app (puts_By n) hb) (by rw [List.length_append]; omega) a0 c0 hc0 hM
  rw [hr] at h
  dsimp only at h
  rw [List.drop_left, show (puts n ++ ys).length - (puts n).length = ys.length by rw [List.length_append]; omega, if_neg (by simp), if_neg (by omega)] at h
  refine h.mono ?_
  intro e w' he
  cases e with
  | returned v =>
    obtain ⟨e1, a', c', h1, h2⟩ := he
    exact ⟨e1, a', c', h1, h2.sub (.refl _) (.refl _) (fun f hf => by rw [List.mem_singleton.1 hf]; exact List.mem_cons_self)⟩
  | panicked c => exact he.elim
  | outgrown => exact he.elim
set_option maxRecDepth 20000 in
set_option maxHeartbeats 4000000 in
theorem listW_m (ws : List Wr) (hfw : FewW ws) (hwf : ∀ w ∈ ws, fitsE w = 0) (hby : BysW ws) (ys : List Int) (hb : By ys) (hlen : ys.length ≤ 1000) (a0 : Option Addr) (m c0 : Nat) (hm : (putWs ws ++ ys).length = m) (hc0 : m ≤ c0) {own : Nat → Prop} {w0 W : World} {bs : List BoxE} {L : List Ent} {Fs : List (World → Prop)} {b : Nat} {T : TypeId} (hM : Mm own w0 (⟨b, ⟨[.slice a0 m c0]⟩, T⟩ :: bs) L (RdF (Value.int .u8) a0 (putWs ws ++ ys) :: Fs) W) :
    Calls Try.prog 131 ⟨[.pointer (some ⟨b, 0, none⟩), .func (.func 132) #[] #[]]⟩ W (Rtn fun u w' => ∃ (ts : List WP) (a1 : Option Addr) (c1 : Nat) (a2 : Option Addr) (c2 : Nat), u = .tuple #[.slice a1 ws.length c1, .int .i64 0] ∧ wms ts = ws ∧ ys.length ≤ c2 ∧ Mm own w0 (⟨b, ⟨[.slice a2 ys.length c2]⟩, T⟩ :: bs) (⟨163, 3, .slice a1 ws.length c1, ws.length, cellsW ts⟩ :: (rowsW ts ++ L)) [RdF (Value.int .u8) a2 ys] w') := by
  have e0 : putWs ws ++ ys = puts ws.length ++ ((ws.map putW).flatten ++ ys) := by unfold putWs; simp
  rw [e0] at hm hM
  obtain ⟨hw40, hw24⟩ := hfw
  have hwl := putWs_len ws fun w hw => putW_len24 (hw24 w hw).1 (hw24 w hw).2 (hwf w hw)
  have hby1 : ∀ i, By (((ws.drop i).map putW).flatten ++ ys) := fun i => by_app (flat_by fun s hs => by
    obtain ⟨w, hw, rfl⟩ := List.mem_map.1 hs
    have hw := List.mem_of_mem_drop hw
    exact by_app (puts_By _) (by_app (puts_By _) (by_app (puts_By _) (flat_by (hby w hw))))) hb
  have hln1 : ∀ i, (((ws.drop i).map putW).flatten ++ ys).length ≤ 10000 := fun i => by
    have h1 := putWs_len (ws.drop i) fun w hw => putW_len24 (hw24 w (List.mem_of_mem_drop hw)).1 (hw24 w (List.mem_of_mem_drop hw)).2 (hwf w (List.mem_of_mem_drop hw))
    rw [List.length_drop] at h1
    rw [List.length_append]
    omega
  have hl0 : ((ws.map putW).flatten ++ ys).length ≤ 100000 := by rw [List.length_append]; omega
  have hb0 : By ((ws.map putW).flatten ++ ys) := by have := hby1 0; rwa [List.drop_zero] at this
  obtain ⟨n, hn⟩ : ∃ n, ws.length = n := ⟨_, rfl⟩
  rw [hn] at hm hM ⊢
  refine f_start Try.func131 rfl Try.ntmps131 rfl rfl ?_; intro a hF
  (repeat' (first | (with_reducible refine w_seq ?_) | (with_reducible refine c_region ?_) | (with_reducible refine s_nil ?_) | ((with_reducible apply s_callM (f := 142) hF); exact rfl; exact rfl; exact rfl; exact rfl; exact rfl; exact (lengthP_m n (by omega) _ hb0 hl0 a0 m c0 hm hc0 hM); clear hF hM a; rintro v w a ⟨rfl, a1, c1, hc1, hM⟩ hF) | (with_reducible refine q_then_n ?_) | ((with_reducible apply s_pure hF); exact rfl; exact rfl; exact rfl; (first | exact trivial | omega | exact ⟨Int.natCast_nonneg _, Int.ofNat_lt.2 (by assumption)⟩ | decide); clear hF a; intro a hF) | (with_reducible refine w_skip ?_) | (with_reducible refine w_block ?_) | ((with_reducible apply c_false2 hF); exact rfl; (first | with_reducible rfl | (refine congrArg Value.bool ?_; focus (simp; done))))))
  replace hM := hM.nilRow 163 3
  refine c_loop (m := n) (fun z a w' => ∃ (i : Nat) (ts : List WP) (rest : List Int) (a2 : Option Addr) (c2 : Nat) (v : Value), z + i = n ∧ wms ts = ws.take i ∧ rest = ((ws.drop i).map putW).flatten ++ ys ∧ rest.length ≤ c2 ∧
    Fr 37 [] [(20, .int .i64 i), (19, .int .i64 n), (8, v), (0, .pointer (some ⟨b, 0, none⟩)), (1, .func (.func 132) #[] #[])] a ∧
    Mm own w0 (⟨b, ⟨[.slice a2 rest.length c2]⟩, T⟩ :: bs) (⟨163, 3, v, i, cellsW ts⟩ :: (rowsW ts ++ L)) [RdF (Value.int .u8) a2 rest] w')
    ⟨0, [], (ws.map putW).flatten ++ ys, a1, c1, _, by omega, rfl, rfl, hc1, hF.sub (by repeat (first | exact Sub.nil | refine Sub.cons rfl (by first | with_reducible rfl | (refine congrArg (Value.int _) ?_; omega) | exact rfl) ?_)), hM⟩ ?_
  clear hF hM a
  rintro z a w' ⟨i, ts, rest, a2, c2, v, hz, hts, hrest, hrc, hF, hM⟩
  by_cases hi : i < n
  · obtain ⟨w, hw⟩ := get_of_lt (l := ws) (i := i) (by omega)
    have hwm := List.mem_of_getElem? hw
    have hdr : ws.drop i = w :: ws.drop (i + 1) := by
      obtain ⟨hk, e⟩ := List.getElem?_eq_some_iff.1 hw
      rw [List.drop_eq_getElem_cons hk, e]
    have hb2 := hby1 (i + 1)
    have hl2 := hln1 (i + 1)
    obtain ⟨hx8, hx24⟩ := hw24 w hwm
    have hxb := hby w hwm
    have hf := fitsE_ok (hwf w hwm)
    rw [hdr, List.map_cons, List.flatten_cons, List.append_assoc] at hrest
    obtain ⟨v0, s0, x⟩ := w
    dsimp only at hx8 hx24 hxb hf
    obtain ⟨vn, rfl⟩ : ∃ k : Nat, v0 = k := ⟨v0.toNat, by omega⟩
    obtain ⟨sn, rfl⟩ : ∃ k : Nat, s0 = k := ⟨s0.toNat, by omega⟩
    obtain ⟨rs, hrs⟩ : ∃ rs, rs = ((ws.drop (i + 1)).map putW).flatten ++ ys := ⟨_, rfl⟩
    rw [← hrs] at hrest hb2 hl2
    replace hrest : rest = putsW vn sn x ++ rs := hrest
    subst hrest
    obtain ⟨xl, hxq⟩ : ∃ q, x.length = q := ⟨_, rfl⟩
    (repeat (first | (with_reducible refine w_seq ?_) | (with_reducible refine c_region ?_) | (with_reducible refine s_nil ?_) | (with_reducible refine q_then_n ?_) | ((with_reducible apply s_pure hF); exact rfl; exact rfl; exact rfl; (first | exact trivial | omega | exact ⟨Int.natCast_nonneg _, Int.ofNat_lt.2 (by assumption)⟩ | decide); clear hF a; intro a hF)))
    rw [decide_eq_true (show (i : Int) < (n : Int) by omega)] at hF
    (repeat' (first | (with_reducible refine w_seq ?_) | (with_reducible refine c_region ?_) | (with_reducible refine s_nil ?_) | ((with_reducible apply s_callcM (f := 132) hF); exact rfl; exact rfl; exact rfl; exact rfl; exact rfl; exact rfl; exact rfl; exact (writeP_m vn sn (by omega) (by omega) x hx8 (by omega) hxb rs hb2 (by omega) a2 _ c2 rfl hrc hM); clear hF hM a; rintro v w a ⟨a3, c3, a4, c4, rfl, hc4, hM⟩ hF; rw [hxq] at hF) | (with_reducible refine q_then_n ?_) | ((with_reducible apply s_pure hF); exact rfl; exact rfl; exact rfl; (first | exact trivial | omega | exact ⟨Int.natCast_nonneg _, Int.ofNat_lt.2 (by assumption)⟩ | decide); clear hF a; intro a hF) | ((with_reducible apply s_load hF hM); exact rfl; exact rfl; (repeat (first | exact List.mem_cons_self | refine List.mem_cons_of_mem _ ?_)); exact rfl; exact rfl; clear hF a; intro a hF) | ((with_reducible apply s_store hF hM); exact rfl; exact rfl; exact rfl; exact rfl; (repeat (first | exact Upd.z | apply Upd.s)); exact rfl; exact rfl; exact rfl; clear hM; intro w hM) | ((with_reducible apply s_alloc hF hM); exact rfl; exact rfl; exact rfl; clear hF hM a; intro b w a hM hF) | ((with_reducible apply s_lit hF hM); exact rfl; exact rfl; exact rfl; exact rfl; clear hF hM a; intro bl w a hM hF) | ((with_reducible apply s_app hF hM); exact rfl; exact rfl; exact rfl; exact rfl; (repeat (first | exact Kth.z | apply Kth.s)); exact rfl; exact rfl; exact rfl; exact rfl; omega; clear hF hM a; intro g cap w a hM hF; dsimp only [List.set] at hM) | (with_reducible refine w_skip ?_) | (with_reducible refine w_block ?_) | (with_reducible refine q_blk_n ?_) | ((with_reducible apply c_true2 hF); exact rfl; (first | with_reducible rfl | (refine congrArg Value.bool ?_; focus (simp; done)))) | ((with_reducible apply c_false2 hF); exact rfl; (first | with_reducible rfl | (refine congrArg Value.bool ?_; focus (simp; done))))))
    obtain ⟨t, ht⟩ : ∃ t : WP, t = (⟨vn, sn, x⟩, a3, c3) := ⟨_, rfl⟩
    have hce : cellsW (ts ++ [t]) = cellsW ts ++ [.int .i64 vn, .int .i64 sn, .slice a3 xl c3] := by rw [cellsW_app, ht, ← hxq]; rfl
    refine ⟨z - 1, by omega, i + 1, ts ++ [t], rs, a4, c4, _, by omega, ?_, hrs, hc4, hF.sub (by repeat (first | exact Sub.nil | refine Sub.cons rfl (by first | with_reducible rfl | (refine congrArg (Value.int _) ?_; omega) | exact rfl) ?_)), ?_⟩
    · rw [wms_app, hts, take_snoc hw, ht]; rfl
    · rw [rowsW_snoc, hce, ht]
      exact (hM.permL (.swap _ _ _)).sub (.cons _ (.refl _)) (.refl _) (fun _ h => h)
  · obtain rfl : n = i := by omega
    rw [List.take_of_length_le (Nat.le_of_eq hn)] at hts
    rw [List.drop_of_length_le (Nat.le_of_eq hn)] at hrest
    replace hrest : rest = ys := hrest
    subst hrest
    obtain ⟨av, cv, rfl, hcv, -⟩ := OffR.shape hM (k := 0) rfl (OffR.plain hM List.mem_cons_self)
    (repeat' (first | (with_reducible refine w_seq ?_) | (with_reducible refine c_region ?_) | (with_reducible refine s_nil ?_) | (with_reducible refine q_then_n ?_) | ((with_reducible apply s_pure hF); exact rfl; exact rfl; exact rfl; (first | exact trivial | omega | exact ⟨Int.natCast_nonneg _, Int.ofNat_lt.2 (by assumption)⟩ | decide); clear hF a; intro a hF) | (with_reducible refine w_exit ?_) | (with_reducible refine w_ret ?_) | (with_reducible refine q_then_x ?_) | (with_reducible refine q_blk_x ?_) | ((with_reducible apply c_false2 hF); exact rfl; (first | with_reducible rfl | (refine congrArg Value.bool ?_; focus (simp; done))))))
    (apply f_ret Try.results131 hF hM; (repeat (first | exact RL.nil | (apply RL.tmp; exact rfl) | (apply RL.cell; exact rfl; (repeat (first | exact List.mem_cons_self | refine List.mem_cons_of_mem _ ?_)); exact rfl))); refine Both.mk ?_; try dsimp only [resV])
    exact ⟨ts, av, cv, a2, c2, rfl, hts, hrc, hM⟩
section
variable (ws : List Wr) (hfw : FewW ws) (hwf : ∀ w ∈ ws, fitsE w = 0) (hby : BysW ws) (ys : List Int) (hb : By ys) (hlen : ys.length ≤ 1000) (a0 : Option Addr) (m c0 n : Nat) (hm : (putWs ws ++ ys).length = m) (hc0 : m ≤ c0) (hn : ws.length = n)
include hfw hwf hby hb hlen hm hc0 hn
set_option maxRecDepth 20000 in
theorem writes1_m {own : Nat → Prop} {w0 W : World} {bs : List BoxE} {L : List Ent} {Fs : List (World → Prop)} {b : Nat} {T : TypeId} (hM : Mm own w0 (⟨b, ⟨[.slice a0 m c0]⟩, T⟩ :: bs) L (RdF (Value.int .u8) a0 (putWs ws ++ ys) :: Fs) W) :
    Calls Try.prog 130 ⟨[.pointer (some ⟨b, 0, none⟩)]⟩ W (Rtn fun u w' => ∃ (ts : List WP) (a1 : Option Addr) (c1 : Nat) (a2 : Option Addr) (c2 : Nat), u = .tuple #[.slice a1 n c1, .int .i64 0] ∧ wms ts = ws ∧ ys.length ≤ c2 ∧ Mm own w0 (⟨b, ⟨[.slice a2 ys.length c2]⟩, T⟩ :: bs) (⟨163, 3, .slice a1 n c1, n, cellsW ts⟩ :: (rowsW ts ++ L)) [RdF (Value.int .u8) a2 ys] w') := by
  subst hn
  refine f_start Try.func130 rfl Try.ntmps130 rfl rfl ?_; intro a hF
  (repeat' (first | (with_reducible refine w_seq ?_) | (with_reducible refine c_region ?_) | (with_reducible refine s_nil ?_) | ((with_reducible apply s_callM (f := 131) hF); exact rfl; exact rfl; exact rfl; exact rfl; exact rfl; exact (listW_m ws hfw hwf hby ys hb hlen a0 m c0 hm hc0 hM); clear hF hM a; rintro v w a ⟨ts, a1, c1, a2, c2, rfl, h1, h2, hM⟩ hF) | (with_reducible refine q_then_n ?_) | ((with_reducible apply s_pure hF); exact rfl; exact rfl; exact rfl; (first | exact trivial | omega | exact ⟨Int.natCast_nonneg _, Int.ofNat_lt.2 (by assumption)⟩ | decide); clear hF a; intro a hF) | (with_reducible refine w_ret ?_)))
  (apply f_ret Try.results130 hF hM; (repeat (first | exact RL.nil | (apply RL.tmp; exact rfl) | (apply RL.cell; exact rfl; (repeat (first | exact List.mem_cons_self | refine List.mem_cons_of_mem _ ?_)); exact rfl))); refine Both.mk ?_; try dsimp only [resV])
  exact ⟨ts, a1, c1, a2, c2, rfl, h1, h2, hM⟩
variable (own : Nat → Prop) (W : World) (hl : ∀ b, own b → b < W.heap.size) (hv : Has own W (RdF (Value.int .u8) a0 (putWs ws ++ ys)))
include hl hv
set_option maxRecDepth 20000 in
theorem Writes_c : Calls Try.prog 109 ⟨[.slice a0 m c0]⟩ W (Ret W fun v w' => ∃ (ts : List WP) (a1 : Option Addr) (c1 : Nat) (a2 : Option Addr) (c2 : Nat), v = .tuple #[.slice a1 n c1, .slice a2 ys.length c2, .int .i64 0] ∧ wms ts = ws ∧ Has own w' (RdF id a1 (cellsW ts)) ∧ Has own w' (DatF (wP ts)) ∧ Has own w' (RdF (Value.int .u8) a2 ys) ∧ n ≤ c1 ∧ ys.length ≤ c2) := by
  have hR : ∀ (own : Nat → Prop) (W : World) (_ : ∀ b, own b → b < W.heap.size) (_ : Has own W (RdF (Value.int .u8) a0 (putWs ws ++ ys))), Calls Try.prog 129 ⟨[.slice a0 m c0, .func (.func 130) #[] #[]]⟩ W (Ret W fun v w' => ∃ (ts : List WP) (a1 : Option Addr) (c1 : Nat) (a2 : Option Addr) (c2 : Nat), v = .tuple #[.slice a1 n c1, .slice a2 ys.length c2, .int .i64 0] ∧ wms ts = ws ∧ Has own w' (RdF id a1 (cellsW ts)) ∧ Has own w' (DatF (wP ts)) ∧ Has own w' (RdF (Value.int .u8) a2 ys) ∧ n ≤ c1 ∧ ys.length ≤ c2) := by
    intro own W hl hv
    have hM := (Mm.start hl).known hv
    refine f_start Try.func129 rfl Try.ntmps129 rfl rfl ?_; intro a hF
    (repeat' (first | (with_reducible refine w_seq ?_) | (with_reducible refine c_region ?_) | (with_reducible refine s_nil ?_) | ((with_reducible apply s_callcM (f := 130) hF); exact rfl; exact rfl; exact rfl; exact rfl; exact rfl; exact rfl; exact rfl; exact (writes1_m ws hfw hwf hby ys hb hlen a0 m c0 n hm hc0 hn hM); clear hF hM a; rintro v w a ⟨ts, a1, c1, a2, c2, rfl, h1, h2, hM⟩ hF) | ((with_reducible apply s_callO (f := 68) hF); exact rfl; exact rfl; exact rfl; exact rfl; exact rfl; exact (cloneB_z a2 c2 ys _ rfl _ _ hM.lt (hM.facts _ (by (repeat (first | exact List.mem_cons_self | refine List.mem_cons_of_mem _ ?_)))) (by omega)); clear hF a; rintro v wn a ⟨a3, c3, rfl, hO⟩ hS hF; replace hM := hM.addRows hS hO; clear hS hO; dsimp only [List.cons_append, List.nil_append] at hM) | (with_reducible refine q_then_n ?_) | ((with_reducible apply s_pure hF); exact rfl; exact rfl; exact rfl; (first | exact trivial | omega | exact ⟨Int.natCast_nonneg _, Int.ofNat_lt.2 (by assumption)⟩ | decide); clear hF a; intro a hF) | ((with_reducible apply s_load hF hM); exact rfl; exact rfl; (repeat (first | exact List.mem_cons_self | refine List.mem_cons_of_mem _ ?_)); exact rfl; exact rfl; clear hF a; intro a hF) | ((with_reducible apply s_box hF hM); exact rfl; exact rfl; exact rfl; exact rfl; clear hF hM a; intro b w a hM hF) | (with_reducible refine w_skip ?_) | (with_reducible refine w_ret ?_) | ((with_reducible apply c_false2 hF); exact rfl; (first | with_reducible rfl | (refine congrArg Value.bool ?_; focus (simp; done))))))
    (apply f_ret Try.results129 hF hM; (repeat (first | exact RL.nil | (apply RL.tmp; exact rfl) | (apply RL.cell; exact rfl; (repeat (first | exact List.mem_cons_self | refine List.mem_cons_of_mem _ ?_)); exact rfl))); refine Ret.mk hM.since ?_; dsimp only [resV])
    have hr := Mm.rowFactN (enc := id) (xs := cellsW ts) (e := 163) (sz := 3) (a := a1) (n := n) (c := c1) hM (by rw [List.map_id]; exact List.mem_cons_of_mem _ List.mem_cons_self)
    exact ⟨ts, a1, c1, a3, c3, rfl, h1, hr, rowsW_dat hM ts (fun t ht => List.mem_cons_of_mem _ (List.mem_cons_of_mem _ (List.mem_append_left _ (List.mem_reverse.2 (List.mem_map.2 ⟨t, ht, rfl⟩))))), hM.rowFact List.mem_cons_self, row_capC hM (i := 1) rfl, row_capC hM (i := 0) rfl⟩
  have hM := (Mm.start hl).known hv
  refine f_start Try.func109 rfl Try.ntmps109 rfl rfl ?_; intro a hF
  (repeat' (first | (with_reducible refine w_seq ?_) | (with_reducible refine c_region ?_) | (with_reducible refine s_nil ?_) | ((with_reducible apply s_call (f := 129) hF hM); exact rfl; exact rfl; exact rfl; exact rfl; exact rfl; exact (hR _ _ hM.lt (hM.facts _ (by (repeat (first | exact List.mem_cons_self | refine List.mem_cons_of_mem _ ?_))))); clear hF hM a; rintro v w a ⟨ts, a1, c1, a2, c2, rfl, h1, h2, h3, h4, h5⟩ - hM hF) | (with_reducible refine q_then_n ?_) | ((with_reducible apply s_pure hF); exact rfl; exact rfl; exact rfl; (first | exact trivial | omega | exact ⟨Int.natCast_nonneg _, Int.ofNat_lt.2 (by assumption)⟩ | decide); clear hF a; intro a hF) | (with_reducible refine w_ret ?_)))
  (apply f_ret Try.results109 hF hM; (repeat (first | exact RL.nil | (apply RL.tmp; exact rfl) | (apply RL.cell; exact rfl; (repeat (first | exact List.mem_cons_self | refine List.mem_cons_of_mem _ ?_)); exact rfl))); refine Ret.mk hM.since ?_; dsimp only [resV])
  exact ⟨ts, a1, c1, a2, c2, rfl, h1, h2.own_eq (fun _ h => .inl h), h3.own_eq (fun _ h => .inl h), h4.own_eq (fun _ h => .inl h), h5⟩
end
end Go.Proofs.Ytadfdpkhehdikaa


/- cycle.Decode. -/
namespace Go.Proofs.Ytadfdpkhehdikaa
open Go.RowKit Go.Shelf D29 B31
namespace B31
theorem rdListP : ∀ (l : List Int) (ys : List Int), (∀ x ∈ l, 0 ≤ x ∧ x ≤ 9007199254740991) → rdList l.length ((l.map fun x => puts x.toNat).flatten ++ ys) = .ok (l, ys)
  | [], ys, _ => rfl
  | x :: r, ys, h => by
    have hx := h x List.mem_cons_self
    have hr := rdNum_puts (n := x.toNat) (by omega) ((r.map fun x => puts x.toNat).flatten ++ ys)
    have ih := rdListP r ys fun y hy => h y (List.mem_cons_of_mem _ hy)
    rw [List.map_cons, List.flatten_cons, List.append_assoc, List.length_cons, rdList, hr]
    dsimp only
    rw [if_neg (by simp), List.drop_left, ih]
    dsimp only
    rw [show ((x.toNat : Nat) : Int) = x by omega]
theorem rdIntsP {l : List Int} (hl : l.length ≤ 65536) (h : ∀ x ∈ l, 0 ≤ x ∧ x ≤ 9007199254740991) (ys : List Int) : rdInts (putsL l ++ ys) = .ok (l, ys) := by
  have hr := rdNum_puts (n := l.length) (by omega) ((l.map fun x => puts x.toNat).flatten ++ ys)
  have hl2 := rdListP l ys h
  unfold rdInts putsL
  rw [List.append_assoc, hr]
  dsimp only
  rw [if_neg (by simp), if_neg (by omega), List.drop_left, Int.toNat_natCast]
  exact hl2
end B31
section
variable {n : Nat} {l : List (Nat × Value)} {a : Act} {w w0 : World} {own : Nat → Prop} {bs : List BoxE} {L : List Ent} {Fs : List (World → Prop)}
theorem f_leaveC {fn : Func} {rs : List ResultVar} {vs : List Value} {R : Ending → World → Prop} {fd : FuncId} {ca : List Value} {u : FrameMode} (hr : fn.results = ⟨rs⟩) (hF : Fr n [defF fd ca] l a) (he : memB entL fd = true) (hv : RL l bs rs vs) (hu : u ≠ .run)
    (hD : CallsD Try.prog fd ⟨ca⟩ u w fun e u' w' => (∃ v, e = .returned v) ∧ settle u' = .returning ∧ Mm own w0 bs L Fs w') (hR : ∀ w', Mm own w0 bs L Fs w' → R (.returned (resV vs)) w') : Leaves Try.prog fn a.tmps R a.defers u w :=
  leave1 hF.defs hu he (hD.mono fun _ _ _ ⟨h1, h2, h3⟩ => ⟨h1, h2, _, f_res hr hF h3 hv, hR _ h3⟩)
set_option maxRecDepth 20000 in
theorem cyD1_ret (p q : Value) (hM : Mm own w0 bs L Fs w) : CallsD Try.prog 104 ⟨[p, q]⟩ .returning w
    fun e' u' w' => (∃ v, e' = .returned v) ∧ settle u' = .returning ∧ Mm own w0 bs L Fs w' := by
  refine f_startS Try.func104 rfl Try.ntmps104 rfl rfl ?_; intro c₀ cs hmode a hF
  have hrec : recoverD (c₀ :: cs) = none := by
    rw [recoverD]
    simp only [hmode]
  refine wpS_seq ?_
  apply c_recover hF
  · exact rfl
  · exact .inr ⟨hrec, rfl, rfl⟩
  clear hF a
  intro a hF
  (repeat (first | (with_reducible refine s_nil ?_) | ((with_reducible apply s_pure hF); exact rfl; exact rfl; exact rfl; (first | exact trivial | omega | exact ⟨Int.natCast_nonneg _, Int.ofNat_lt.2 (by assumption)⟩ | decide); clear hF a; intro a hF)))
  show Code.wpS _ _ _ _ _ _
  refine wpS_of_wp ?_
  show Wk none _ _ _ _
  (repeat' (first | (with_reducible refine w_seq ?_) | (with_reducible refine c_region ?_) | (with_reducible refine s_nil ?_) | ((with_reducible apply s_eqn hF); exact rfl; exact rfl; exact rfl; exact rfl; exact rfl; exact rfl; clear hF a; intro a hF) | (with_reducible refine q_then_n ?_) | ((with_reducible apply s_pure hF); exact rfl; exact rfl; exact rfl; (first | exact trivial | omega | exact ⟨Int.natCast_nonneg _, Int.ofNat_lt.2 (by assumption)⟩ | decide); clear hF a; intro a hF) | (with_reducible refine w_skip ?_) | ((with_reducible apply c_false2 hF); exact rfl; (first | with_reducible rfl | (refine congrArg Value.bool ?_; focus (simp; done))))))
  refine ⟨hF.defs, .returning, ?_, _, f_res (rs := []) (vs := []) rfl hF hM .nil, ⟨_, rfl⟩, rfl, hM⟩
  rw [← hmode]
end
theorem demand_t (e : Int) (own : Nat → Prop) (W : World) (hl : ∀ b, own b → b < W.heap.size) : Calls Try.prog 106 ⟨[.bool true, .int .i64 e]⟩ W (Ret W fun _ _ => True) := by
  have hM := Mm.start hl
  refine f_start Try.func106 rfl Try.ntmps106 rfl rfl ?_; intro a hF
  (repeat' (first | (with_reducible refine w_seq ?_) | (with_reducible refine c_region ?_) | (with_reducible refine s_nil ?_) | (with_reducible refine q_then_n ?_) | ((with_reducible apply s_pure hF); exact rfl; exact rfl; exact rfl; (first | exact trivial | omega | exact ⟨Int.natCast_nonneg _, Int.ofNat_lt.2 (by assumption)⟩ | decide); clear hF a; intro a hF) | (with_reducible refine w_skip ?_) | ((with_reducible apply c_false2 hF); exact rfl; (first | with_reducible rfl | (refine congrArg Value.bool ?_; focus (simp; done))))))
  apply f_end Try.results106 hF hM .nil
  exact Ret.mk hM.since trivial
theorem pass_t (own : Nat → Prop) (W : World) (hl : ∀ b, own b → b < W.heap.size) : Calls Try.prog 107 ⟨[.int .i64 0]⟩ W (Ret W fun _ _ => True) := by
  have hM := Mm.start hl
  refine f_start Try.func107 rfl Try.ntmps107 rfl rfl ?_; intro a hF
  (repeat' (first | (with_reducible refine c_region ?_) | (with_reducible refine s_nil ?_) | ((with_reducible apply s_call (f := 106) hF hM); exact rfl; exact rfl; exact rfl; exact rfl; exact rfl; exact (demand_t 0 _ _ hM.lt); clear hF hM a; rintro v w a - - hM hF) | ((with_reducible apply s_pure hF); exact rfl; exact rfl; exact rfl; (first | exact trivial | omega | exact ⟨Int.natCast_nonneg _, Int.ofNat_lt.2 (by assumption)⟩ | decide); clear hF a; intro a hF)))
  apply f_end Try.results107 hF hM .nil
  exact Ret.mk hM.since trivial
end Go.Proofs.Ytadfdpkhehdikaa


/- cycle.Decode reads what was encoded. -/
namespace Go.Proofs.Ytadfdpkhehdikaa
open Go.RowKit Go.Shelf D29 B31
namespace B31
def cyRest (b n t : Nat) (P : List Int) : Nat → List Int
  | 0 => puts b ++ (puts n ++ (puts t ++ P))
  | 1 => puts n ++ (puts t ++ P)
  | 2 => puts t ++ P
  | _ => P
def cyCs (b n t : Nat) : Nat → List Value
  | 0 => [.int .i64 0, .int .i64 0, .int .i64 0, .slice none 0 0, .slice none 0 0]
  | 1 => [.int .i64 b, .int .i64 0, .int .i64 0, .slice none 0 0, .slice none 0 0]
  | 2 => [.int .i64 b, .int .i64 n, .int .i64 0, .slice none 0 0, .slice none 0 0]
  | _ => [.int .i64 b, .int .i64 n, .int .i64 t, .slice none 0 0, .slice none 0 0]
def cyPt (b : Nat) : List (Option Addr) := [some ⟨b, 0, none⟩, some ⟨b, 1, none⟩, some ⟨b, 2, none⟩]
end B31
section
variable (vb vn vt : Nat) (pos : List Int) (ws : List Wr) (hfw : FewW ws) (hby : BysW ws) (hc : chkC ⟨vb, vn, vt, pos, ws⟩ = 0)
include hfw hby hc
set_option maxRecDepth 20000 in
set_option maxHeartbeats 4000000 in
theorem DecodeC_c (a0 : Option Addr) (m c0 : Nat) (hm : (encB ⟨vb, vn, vt, pos, ws⟩).length = m) (hc0 : m ≤ c0) (own : Nat → Prop) (W : World) (hl : ∀ b, own b → b < W.heap.size) (hv : Has own W (RdF (Value.int .u8) a0 (encB ⟨vb, vn, vt, pos, ws⟩))) :
    Calls Try.prog 71 ⟨[.slice a0 m c0]⟩ W (Ret W fun v w' => ∃ (ts : List WP) (a1 : Option Addr) (c1 : Nat) (a2 : Option Addr) (c2 : Nat), v = .tuple #[cyV vb vn vt a1 pos.length c1 a2 ws.length c2, .int .i64 0] ∧ wms ts = ws ∧ Has own w' (RdF (Value.int .i64) a1 pos) ∧ Has own w' (RdF id a2 (cellsW ts)) ∧ Has own w' (DatF (wP ts)) ∧ pos.length ≤ c1 ∧ ws.length ≤ c2) := by
  have hM := (Mm.start hl).known hv
  have hEl := encB_len hc hfw
  have hEb := encB_by (c := ⟨vb, vn, vt, pos, ws⟩) hby
  obtain ⟨g1, g2, g3, g4⟩ := chkC_ok hc
  obtain ⟨g5, g6⟩ := posE_ok g3
  dsimp only at g1 g2 g5 g6 g4
  have hpb : ∀ x ∈ pos, 0 ≤ x ∧ x ≤ 9007199254740991 := fun x hx => by have := g6 x hx; omega
  have E0 : encB ⟨vb, vn, vt, pos, ws⟩ = puts vb ++ (puts vn ++ (puts vt ++ (putsL pos ++ (putWs ws ++ [])))) := by unfold encB; simp [hdB]
  rw [E0] at hM hEl hm hEb
  obtain ⟨P1, hP1⟩ : ∃ P1, P1 = putWs ws ++ [] := ⟨_, rfl⟩
  obtain ⟨P0, hP0⟩ : ∃ P0, P0 = putsL pos ++ P1 := ⟨_, rfl⟩
  rw [← hP1, ← hP0] at hM hEl hm hEb
  have L2 : (puts vt ++ P0).length = (puts vt).length + P0.length := List.length_append
  have L1 : (puts vn ++ (puts vt ++ P0)).length = (puts vn).length + (puts vt ++ P0).length := List.length_append
  have L0 : (puts vb ++ (puts vn ++ (puts vt ++ P0))).length = (puts vb).length + (puts vn ++ (puts vt ++ P0)).length := List.length_append
  have y1 : By (puts vn ++ (puts vt ++ P0)) := fun x hx => hEb x (List.mem_append_right _ hx)
  have y2 : By (puts vt ++ P0) := fun x hx => y1 x (List.mem_append_right _ hx)
  have y3 : By P0 := fun x hx => y2 x (List.mem_append_right _ hx)
  have y4 : By P1 := fun x hx => y3 x (by rw [hP0]; exact List.mem_append_right _ hx)
  have LP : P0.length = (putsL pos).length + P1.length := by rw [hP0, List.length_append]
  have e1 := fun {own W} hl => demand_t 5 own W hl
  have e3 := fun {own W} hl => demand_t 3 own W hl
  refine f_startD Try.func71 rfl Try.ntmps71 rfl rfl ?_; intro a hF
  (repeat' (first | (with_reducible refine w_seq ?_) | (with_reducible refine c_region ?_) | (with_reducible refine s_nil ?_) | ((with_reducible apply s_defer hF); exact rfl; exact rfl; clear hF a; intro a hF) | (with_reducible refine q_then_n ?_) | ((with_reducible apply s_pure hF); exact rfl; exact rfl; exact rfl; (first | exact trivial | omega | exact ⟨Int.natCast_nonneg _, Int.ofNat_lt.2 (by assumption)⟩ | decide); clear hF a; intro a hF) | ((with_reducible apply s_alloc hF hM); exact rfl; exact rfl; exact rfl; clear hF hM a; intro b w a hM hF)))
  rename_i b2 _
  obtain ⟨b3, rfl⟩ : ∃ x, x = b := ⟨_, rfl⟩
  rw [decide_eq_true (show (m : Int) ≤ 65536 by omega)] at hF
  (repeat' (first | (with_reducible refine w_seq ?_) | (with_reducible refine c_region ?_) | (with_reducible refine s_nil ?_) | ((with_reducible apply s_call (f := 106) hF hM); exact rfl; exact rfl; exact rfl; exact rfl; exact rfl; exact (e1 hM.lt); clear hF hM a; rintro v w a - - hM hF) | ((with_reducible apply s_lit hF hM); exact rfl; exact rfl; exact rfl; exact rfl; clear hF hM a; intro bl w a hM hF; replace hM := Mm.freeze hM) | (with_reducible refine q_then_n ?_) | ((with_reducible apply s_pure hF); exact rfl; exact rfl; exact rfl; (first | exact trivial | omega | exact ⟨Int.natCast_nonneg _, Int.ofNat_lt.2 (by assumption)⟩ | decide); clear hF a; intro a hF) | (with_reducible refine w_block ?_)))
  have hpt : Has _ _ (RdF Value.pointer (some ⟨bl, 0, none⟩) (cyPt b2)) := Has.lit (hM.facts _ List.mem_cons_self) (cyPt b2) rfl
  replace hM := hM.addFact hpt
  refine c_loop (m := 3) (fun z a w' => ∃ (k q : Nat) (a2 : Option Addr) (c2 : Nat), z + k = 3 ∧ (cyRest vb vn vt P0 k).length = q ∧ q ≤ c2 ∧
    Fr 58 [defF 104 [.pointer (some ⟨b2, 0, none⟩), .pointer (some ⟨b3, 0, none⟩)]] [(16, .int .i64 k), (15, .int .i64 (3 : Nat)), (14, .slice (some ⟨bl, 0, none⟩) 3 3), (0, .slice a2 q c2), (3, .pointer (some ⟨b3, 0, none⟩)), (2, .pointer (some ⟨b2, 0, none⟩))] a ∧
    Mm own W [⟨b3, ⟨[.int .i64 0]⟩, 30⟩, ⟨b2, ⟨cyCs vb vn vt k⟩, 53⟩] [] [RdF (Value.int .u8) a2 (cyRest vb vn vt P0 k), RdF Value.pointer (some ⟨bl, 0, none⟩) (cyPt b2)] w')
    ⟨0, m, a0, c0, rfl, hm, hc0, hF.sub (by repeat (first | exact Sub.nil | refine Sub.cons rfl (by first | with_reducible rfl | (refine congrArg (Value.int _) ?_; omega) | exact rfl) ?_)), hM.sub (.refl _) (.refl _) (by intro f hf; simp only [List.mem_cons, List.not_mem_nil, or_false] at hf; (repeat (rcases hf with rfl | hf; · (repeat (first | exact List.mem_cons_self | refine List.mem_cons_of_mem _ ?_)))); first | (subst hf; (repeat (first | exact List.mem_cons_self | refine List.mem_cons_of_mem _ ?_)); done) | (repeat (first | exact hf | refine List.mem_cons_of_mem _ ?_)))⟩ ?_
  clear hF hM a hpt
  rintro z a w' ⟨k, q, a2, c2, hz, hn, hnc, hF, hM⟩
  rcases k with _ | _ | _ | k
  · have hM1 : Mm own W [⟨b3, ⟨[.int .i64 0]⟩, 30⟩, ⟨b2, ⟨cyCs vb vn vt 0⟩, 53⟩] [] [RdF (Value.int .u8) a2 (puts vb ++ (puts vn ++ (puts vt ++ P0))), RdF Value.pointer (some ⟨bl, 0, none⟩) (cyPt b2)] w' := hM
    clear hM
    have hM := hM1
    clear hM1
    dsimp only [cyCs] at hM
    replace hn : (puts vb ++ (puts vn ++ (puts vt ++ P0))).length = q := hn
    have hx : (cyPt b2)[0]? = some (some ⟨b2, 0, none⟩) := rfl
    (repeat' (first | (with_reducible refine w_seq ?_) | (with_reducible refine c_region ?_) | (with_reducible refine s_nil ?_) | ((with_reducible apply s_call (f := 64) hF hM); exact rfl; exact rfl; exact rfl; exact rfl; exact rfl; exact (IntP_c vb (by omega) _ y1 (by omega) a2 q c2 hn hnc _ _ hM.lt (hM.facts _ List.mem_cons_self)); clear hF hM a; rintro v w a ⟨a3, c3, rfl, k3, k4⟩ - hM hF; replace hM := hM.addFact k3) | ((with_reducible apply s_call (f := 107) hF hM); exact rfl; exact rfl; exact rfl; exact rfl; exact rfl; exact (pass_t _ _ hM.lt); clear hF hM a; rintro v w a - - hM hF) | (with_reducible refine q_then_n ?_) | ((with_reducible apply s_pure hF); exact rfl; exact rfl; exact rfl; (first | exact trivial | omega | exact ⟨Int.natCast_nonneg _, Int.ofNat_lt.2 (by assumption)⟩ | decide); clear hF a; intro a hF) | ((with_reducible apply s_load hF hM); exact rfl; exact rfl; (repeat (first | exact List.mem_cons_self | refine List.mem_cons_of_mem _ ?_)); exact rfl; exact rfl; clear hF a; intro a hF) | ((with_reducible apply s_loadF hF hM); exact rfl; exact rfl; (repeat (first | exact List.mem_cons_self | refine List.mem_cons_of_mem _ ?_)); exact rfl; exact rfl; (first | with_reducible assumption | (simp only [Int.toNat_natCast]; with_reducible assumption)); clear hF a; intro a hF) | ((with_reducible apply s_store hF hM); exact rfl; exact rfl; exact rfl; exact rfl; (repeat (first | exact Upd.z | apply Upd.s)); exact rfl; exact rfl; exact rfl; clear hM; intro w hM) | (with_reducible refine w_skip ?_) | (with_reducible refine w_block ?_) | (with_reducible refine q_blk_n ?_) | ((with_reducible apply c_true2 hF); exact rfl; (first | with_reducible rfl | (refine congrArg Value.bool ?_; focus (simp; done))))))
    exact ⟨z - 1, by omega, 1, (puts vn ++ (puts vt ++ P0)).length, a3, c3, by omega, rfl, k4, hF.sub (by repeat (first | exact Sub.nil | refine Sub.cons rfl (by first | with_reducible rfl | (refine congrArg (Value.int _) ?_; omega) | exact rfl) ?_)), hM.sub (.refl _) (.refl _) (fun f hf => (List.mem_cons.1 hf).elim (fun h => by rw [h]; exact List.mem_cons_self) (fun h => by rw [List.mem_singleton.1 h]; exact List.mem_cons_of_mem _ (List.mem_cons_of_mem _ List.mem_cons_self)))⟩
  · have hM1 : Mm own W [⟨b3, ⟨[.int .i64 0]⟩, 30⟩, ⟨b2, ⟨cyCs vb vn vt 1⟩, 53⟩] [] [RdF (Value.int .u8) a2 (puts vn ++ (puts vt ++ P0)), RdF Value.pointer (some ⟨bl, 0, none⟩) (cyPt b2)] w' := hM
    clear hM
    have hM := hM1
    clear hM1
    dsimp only [cyCs] at hM
    replace hn : (puts vn ++ (puts vt ++ P0)).length = q := hn
    have hx : (cyPt b2)[1]? = some (some ⟨b2, 1, none⟩) := rfl
    (repeat' (first | (with_reducible refine w_seq ?_) | (with_reducible refine c_region ?_) | (with_reducible refine s_nil ?_) | ((with_reducible apply s_call (f := 64) hF hM); exact rfl; exact rfl; exact rfl; exact rfl; exact rfl; exact (IntP_c vn (by omega) _ y2 (by omega) a2 q c2 hn hnc _ _ hM.lt (hM.facts _ List.mem_cons_self)); clear hF hM a; rintro v w a ⟨a3, c3, rfl, k3, k4⟩ - hM hF; replace hM := hM.addFact k3) | ((with_reducible apply s_call (f := 107) hF hM); exact rfl; exact rfl; exact rfl; exact rfl; exact rfl; exact (pass_t _ _ hM.lt); clear hF hM a; rintro v w a - - hM hF) | (with_reducible refine q_then_n ?_) | ((with_reducible apply s_pure hF); exact rfl; exact rfl; exact rfl; (first | exact trivial | omega | exact ⟨Int.natCast_nonneg _, Int.ofNat_lt.2 (by assumption)⟩ | decide); clear hF a; intro a hF) | ((with_reducible apply s_load hF hM); exact rfl; exact rfl; (repeat (first | exact List.mem_cons_self | refine List.mem_cons_of_mem _ ?_)); exact rfl; exact rfl; clear hF a; intro a hF) | ((with_reducible apply s_loadF hF hM); exact rfl; exact rfl; (repeat (first | exact List.mem_cons_self | refine List.mem_cons_of_mem _ ?_)); exact rfl; exact rfl; (first | with_reducible assumption | (simp only [Int.toNat_natCast]; with_reducible assumption)); clear hF a; intro a hF) | ((with_reducible apply s_store hF hM); exact rfl; exact rfl; exact rfl; exact rfl; (repeat (first | exact Upd.z | apply Upd.s)); exact rfl; exact rfl; exact rfl; clear hM; intro w hM) | (with_reducible refine w_skip ?_) | (with_reducible refine w_block ?_) | (with_reducible refine q_blk_n ?_) | ((with_reducible apply c_true2 hF); exact rfl; (first | with_reducible rfl | (refine congrArg Value.bool ?_; focus (simp; done))))))
    exact ⟨z - 1, by omega, 2, (puts vt ++ P0).length, a3, c3, by omega, rfl, k4, hF.sub (by repeat (first | exact Sub.nil | refine Sub.cons rfl (by first | with_reducible rfl | (refine congrArg (Value.int _) ?_; omega) | exact rfl) ?_)), hM.sub (.refl _) (.refl _) (fun f hf => (List.mem_cons.1 hf).elim (fun h => by rw [h]; exact List.mem_cons_self) (fun h => by rw [List.mem_singleton.1 h]; exact List.mem_cons_of_mem _ (List.mem_cons_of_mem _ List.mem_cons_self)))⟩
  · have hM1 : Mm own W [⟨b3, ⟨[.int .i64 0]⟩, 30⟩, ⟨b2, ⟨cyCs vb vn vt 2⟩, 53⟩] [] [RdF (Value.int .u8) a2 (puts vt ++ P0), RdF Value.pointer (some ⟨bl, 0, none⟩) (cyPt b2)] w' := hM
    clear hM
    have hM := hM1
    clear hM1
    dsimp only [cyCs] at hM
    replace hn : (puts vt ++ P0).length = q := hn
    have hx : (cyPt b2)[2]? = some (some ⟨b2, 2, none⟩) := rfl
    (repeat' (first | (with_reducible refine w_seq ?_) | (with_reducible refine c_region ?_) | (with_reducible refine s_nil ?_) | ((with_reducible apply s_call (f := 64) hF hM); exact rfl; exact rfl; exact rfl; exact rfl; exact rfl; exact (IntP_c vt (by omega) _ y3 (by omega) a2 q c2 hn hnc _ _ hM.lt (hM.facts _ List.mem_cons_self)); clear hF hM a; rintro v w a ⟨a3, c3, rfl, k3, k4⟩ - hM hF; replace hM := hM.addFact k3) | ((with_reducible apply s_call (f := 107) hF hM); exact rfl; exact rfl; exact rfl; exact rfl; exact rfl; exact (pass_t _ _ hM.lt); clear hF hM a; rintro v w a - - hM hF) | (with_reducible refine q_then_n ?_) | ((with_reducible apply s_pure hF); exact rfl; exact rfl; exact rfl; (first | exact trivial | omega | exact ⟨Int.natCast_nonneg _, Int.ofNat_lt.2 (by assumption)⟩ | decide); clear hF a; intro a hF) | ((with_reducible apply s_load hF hM); exact rfl; exact rfl; (repeat (first | exact List.mem_cons_self | refine List.mem_cons_of_mem _ ?_)); exact rfl; exact rfl; clear hF a; intro a hF) | ((with_reducible apply s_loadF hF hM); exact rfl; exact rfl; (repeat (first | exact List.mem_cons_self | refine List.mem_cons_of_mem _ ?_)); exact rfl; exact rfl; (first | with_reducible assumption | (simp only [Int.toNat_natCast]; with_reducible assumption)); clear hF a; intro a hF) | ((with_reducible apply s_store hF hM); exact rfl; exact rfl; exact rfl; exact rfl; (repeat (first | exact Upd.z | apply Upd.s)); exact rfl; exact rfl; exact rfl; clear hM; intro w hM) | (with_reducible refine w_skip ?_) | (with_reducible refine w_block ?_) | (with_reducible refine q_blk_n ?_) | ((with_reducible apply c_true2 hF); exact rfl; (first | with_reducible rfl | (refine congrArg Value.bool ?_; focus (simp; done))))))
    exact ⟨z - 1, by omega, 3, (P0).length, a3, c3, by omega, rfl, k4, hF.sub (by repeat (first | exact Sub.nil | refine Sub.cons rfl (by first | with_reducible rfl | (refine congrArg (Value.int _) ?_; omega) | exact rfl) ?_)), hM.sub (.refl _) (.refl _) (fun f hf => (List.mem_cons.1 hf).elim (fun h => by rw [h]; exact List.mem_cons_self) (fun h => by rw [List.mem_singleton.1 h]; exact List.mem_cons_of_mem _ (List.mem_cons_of_mem _ List.mem_cons_self)))⟩
  · obtain rfl : k = 0 := by omega
    replace hM : Mm own W [⟨b3, ⟨[.int .i64 0]⟩, 30⟩, ⟨b2, ⟨[.int .i64 vb, .int .i64 vn, .int .i64 vt, .slice none 0 0, .slice none 0 0]⟩, 53⟩] [] [RdF (Value.int .u8) a2 P0, RdF Value.pointer (some ⟨bl, 0, none⟩) (cyPt b2)] w' := hM
    replace hn : P0.length = q := hn
    subst hn
    have hri : rdInts P0 = .ok (pos, P1) := by rw [hP0]; exact rdIntsP (by omega) hpb P1
    have hI := fun {own W} hl hv => Ints_ok P0 y3 (by omega) a2 c2 hnc own W hl hv hri
    (repeat (first | (with_reducible refine w_seq ?_) | (with_reducible refine c_region ?_) | (with_reducible refine s_nil ?_) | ((with_reducible apply s_call (f := 108) hF hM); exact rfl; exact rfl; exact rfl; exact rfl; exact rfl; exact (hI hM.lt (hM.facts (RdF (Value.int .u8) a2 P0) (by (repeat (first | exact List.mem_cons_self | refine List.mem_cons_of_mem _ ?_))))); clear hF hM a; rintro v w a ⟨a3, c3, a4, c4, rfl, j1, j2, j3, j4, -⟩ - hM hF; replace hM := (hM.addFact j1).addFact j2) | ((with_reducible apply s_call (f := 107) hF hM); exact rfl; exact rfl; exact rfl; exact rfl; exact rfl; exact (pass_t _ _ hM.lt); clear hF hM a; rintro v w a - - hM hF) | (with_reducible refine q_then_n ?_) | ((with_reducible apply s_pure hF); exact rfl; exact rfl; exact rfl; (first | exact trivial | omega | exact ⟨Int.natCast_nonneg _, Int.ofNat_lt.2 (by assumption)⟩ | decide); clear hF a; intro a hF) | ((with_reducible apply s_load hF hM); exact rfl; exact rfl; (repeat (first | exact List.mem_cons_self | refine List.mem_cons_of_mem _ ?_)); exact rfl; exact rfl; clear hF a; intro a hF) | ((with_reducible apply s_store hF hM); exact rfl; exact rfl; exact rfl; exact rfl; (repeat (first | exact Upd.z | apply Upd.s)); exact rfl; exact rfl; exact rfl; clear hM; intro w hM) | (with_reducible refine w_exit ?_) | (with_reducible refine q_then_x ?_) | (with_reducible refine q_blk_x ?_) | ((with_reducible apply c_false2 hF); exact rfl; (first | with_reducible rfl | (refine congrArg Value.bool ?_; focus (simp; done))))))
    have hW := fun {own W} hl (hv : Has own W (RdF (Value.int .u8) a4 P1)) => Writes_c ws hfw (chkWs_ok _ _ g4) hby [] (by intro x hx; cases hx) (by simp) a4 P1.length c4 ws.length (by rw [← hP1]) j4 rfl own W hl (by rw [← hP1]; exact hv)
    (repeat (first | (with_reducible refine w_seq ?_) | (with_reducible refine c_region ?_) | (with_reducible refine s_nil ?_) | ((with_reducible apply s_call (f := 109) hF hM); exact rfl; exact rfl; exact rfl; exact rfl; exact rfl; exact (hW hM.lt (hM.facts (RdF (Value.int .u8) a4 P1) (by (repeat (first | exact List.mem_cons_self | refine List.mem_cons_of_mem _ ?_))))); clear hF hM a; rintro v w a ⟨ts, a5, c5, a6, c6, rfl, i1, i2, i3, i4, i5, i6⟩ - hM hF; replace hM := (hM.addFact i2).addFact i3; dsimp only [List.length_nil] at hF) | ((with_reducible apply s_call (f := 107) hF hM); exact rfl; exact rfl; exact rfl; exact rfl; exact rfl; exact (pass_t _ _ hM.lt); clear hF hM a; rintro v w a - - hM hF) | (with_reducible refine q_then_n ?_) | ((with_reducible apply s_pure hF); exact rfl; exact rfl; exact rfl; (first | exact trivial | omega | exact ⟨Int.natCast_nonneg _, Int.ofNat_lt.2 (by assumption)⟩ | decide); clear hF a; intro a hF) | ((with_reducible apply s_load hF hM); exact rfl; exact rfl; (repeat (first | exact List.mem_cons_self | refine List.mem_cons_of_mem _ ?_)); exact rfl; exact rfl; clear hF a; intro a hF) | ((with_reducible apply s_store hF hM); exact rfl; exact rfl; exact rfl; exact rfl; (repeat (first | exact Upd.z | apply Upd.s)); exact rfl; exact rfl; exact rfl; clear hM; intro w hM)))
    subst i1
    rw [decide_eq_true (show ((0 : Nat) : Int) = 0 from rfl)] at hF
    (repeat (first | (with_reducible refine w_seq ?_) | (with_reducible refine s_nil ?_) | ((with_reducible apply s_call (f := 106) hF hM); exact rfl; exact rfl; exact rfl; exact rfl; exact rfl; exact (e3 hM.lt); clear hF hM a; rintro v w a - - hM hF) | (with_reducible refine q_then_n ?_)))
    have hxl : ∀ t ∈ ts, t.1.x.length ≤ 1000000 := fun t ht => by have := (hfw.2 t.1 (List.mem_map.2 ⟨t, ht, rfl⟩)).2; omega
    have hw40 := hfw.1
    have hcc := fun {own W} as_ cs hl h1 h2 h3 => cyCheck_c vb vn vt pos ts hxl a3 a5 pos.length c3 (wms ts).length c5 rfl (by omega) (wms_len ts).symm (by omega) own W hl h1 h2 as_ cs h3
    rw [hc] at hcc
    refine c_cut (fun a' w' => Fr 58 [defF 104 [.pointer (some ⟨b2, 0, none⟩), .pointer (some ⟨b3, 0, none⟩)]] [(3, .pointer (some ⟨b3, 0, none⟩)), (2, .pointer (some ⟨b2, 0, none⟩))] a' ∧ Mm own W [⟨b3, ⟨[.int .i64 0]⟩, 30⟩, ⟨b2, ⟨[.int .i64 vb, .int .i64 vn, .int .i64 vt, .slice a3 pos.length c3, .slice a5 (wms ts).length c5]⟩, 53⟩] [] [RdF (Value.int .i64) a3 pos, RdF id a5 (cellsW ts), DatF (wP ts)] w') ?_ ?_
    · refine c_draw (fun i => Nat.ble 4 i) hM ?_; clear hM; intro w hM
      (first | (apply t_load (i := 0) hF rfl rfl rfl; (repeat (first | exact List.mem_cons_self | refine List.mem_cons_of_mem _ ?_)); exact rfl; exact rfl; kernel_rfl; exact hM.sm; exact (fun _ _ _ h => h); clear hF a; intro a hF))
      refine t_one (i := 1) hF rfl (by kernel_rfl) rfl ?_
      intro K hK
      (apply x_call hF hM; exact rfl; exact rfl; exact rfl; exact rfl; exact (largest_c _ _ hM.lt); clear hF hM a; rintro v w a ⟨as_, cs, rfl, o1⟩ - hM hF)
      replace hM := hM.addFact o1
      refine hK _ _ (fun _ => (hM.sm.sub (fun x hx => by repeat (first | exact hx | refine List.mem_cons_of_mem _ ?_)) (fun _ h => by repeat (first | exact h | refine List.mem_cons_of_mem _ ?_)))) ?_; clear hK
      refine t_one (i := 2) hF rfl (by kernel_rfl) rfl ?_
      intro K hK
      (apply x_call hF hM; exact rfl; exact rfl; exact rfl; exact rfl; exact (hcc as_ cs hM.lt (hM.facts (RdF id a5 (cellsW ts)) (by (repeat (first | with_reducible exact List.mem_cons_self | refine List.mem_cons_of_mem _ ?_)))) (hM.facts (RdF (Value.int .i64) a3 pos) (by (repeat (first | with_reducible exact List.mem_cons_self | refine List.mem_cons_of_mem _ ?_)))) (hM.facts (RdF (Value.int .i64) as_ szs) (by (repeat (first | with_reducible exact List.mem_cons_self | refine List.mem_cons_of_mem _ ?_))))); clear hF hM a; rintro v w a rfl - hM hF)
      refine hK _ _ (fun _ => (hM.sm.sub (fun x hx => by repeat (first | exact hx | refine List.mem_cons_of_mem _ ?_)) (fun _ h => by repeat (first | exact h | refine List.mem_cons_of_mem _ ?_)))) ?_; clear hK
      refine t_one (i := 3) hF rfl (by kernel_rfl) rfl ?_
      intro K hK
      (apply x_call hF hM; exact rfl; exact rfl; exact rfl; exact rfl; exact (pass_t _ _ hM.lt); clear hF hM a; rintro v w a - - hM hF)
      refine hK _ _ (fun _ => (hM.sm.sub (fun x hx => by repeat (first | exact hx | refine List.mem_cons_of_mem _ ?_)) (fun _ h => by repeat (first | exact h | refine List.mem_cons_of_mem _ ?_)))) ?_; clear hK
      refine t_done (by kernel_rfl) ?_
      (repeat (first | fail))
      exact q_cut ⟨hF.sub (by repeat (first | exact Sub.nil | refine Sub.cons rfl (by first | with_reducible rfl | (refine congrArg (Value.int _) ?_; omega) | exact rfl) ?_)), hM.sub (.refl _) (.refl _) (by intro f hf; simp only [List.mem_cons, List.not_mem_nil, or_false] at hf; (repeat (rcases hf with rfl | hf; · (repeat (first | exact List.mem_cons_self | refine List.mem_cons_of_mem _ ?_)))); first | (subst hf; (repeat (first | exact List.mem_cons_self | refine List.mem_cons_of_mem _ ?_)); done) | (repeat (first | exact hf | refine List.mem_cons_of_mem _ ?_)))⟩
    clear hF hM a
    rintro a w ⟨hF, hM⟩
    (repeat' (first | (with_reducible refine w_seq ?_) | (with_reducible refine c_region ?_) | (with_reducible refine s_nil ?_) | (with_reducible refine q_then_n ?_) | ((with_reducible apply s_load hF hM); exact rfl; exact rfl; (repeat (first | exact List.mem_cons_self | refine List.mem_cons_of_mem _ ?_)); exact rfl; exact rfl; clear hF a; intro a hF) | ((with_reducible apply s_store hF hM); exact rfl; exact rfl; exact rfl; exact rfl; (repeat (first | exact Upd.z | apply Upd.s)); exact rfl; exact rfl; exact rfl; clear hM; intro w hM) | (with_reducible refine w_ret ?_)))
    apply f_leaveC (hr := Try.results71) (hF := hF) (he := rfl) (hu := fun h => by cases h) (hD := (cyD1_ret _ _ hM))
    · (repeat (first | exact RL.nil | (apply RL.tmp; exact rfl) | (apply RL.cell; exact rfl; (repeat (first | exact List.mem_cons_self | refine List.mem_cons_of_mem _ ?_)); exact rfl)))
    intro w' hM'
    refine Ret.mk hM'.since ?_
    exact ⟨ts, a3, c3, a5, c5, rfl, rfl, (hM'.facts (RdF (Value.int .i64) a3 pos) (by (repeat (first | with_reducible exact List.mem_cons_self | refine List.mem_cons_of_mem _ ?_)))).own_eq (fun _ h => .inl h), (hM'.facts (RdF id a5 (cellsW ts)) (by (repeat (first | with_reducible exact List.mem_cons_self | refine List.mem_cons_of_mem _ ?_)))).own_eq (fun _ h => .inl h), (hM'.facts (DatF (wP ts)) (by (repeat (first | with_reducible exact List.mem_cons_self | refine List.mem_cons_of_mem _ ?_)))).own_eq (fun _ h => .inl h), j3, i5⟩
end
end Go.Proofs.Ytadfdpkhehdikaa


/- slices.Contains at flags; slices.Grow, Concat at bytes. -/
namespace Go.Proofs.Ytadfdpkhehdikaa
open Go.RowKit Go.Shelf D29 B31
namespace B31
/-- A row is cut to nothing; its room stays. -/
theorem Mm.rowZero {own : Nat → Prop} {w0 w : World} {bs : List BoxE} {L : List Ent} {Fs : List (World → Prop)} {e : TypeId} {size g n c : Nat} {xs : List Value} (m : Mm own w0 bs (⟨e, size, .slice (some ⟨g, 0, none⟩) n c, n, xs⟩ :: L) Fs w) :
    Mm own w0 bs (⟨e, size, .slice (some ⟨g, 0, none⟩) 0 c, 0, []⟩ :: L) Fs w := by
  refine ⟨⟨m.mem.since, m.mem.box, m.mem.new, m.mem.two, ⟨?_, ?_⟩, ?_⟩, m.low, fun f hf => (m.facts f hf).own_eq ?_⟩
  · intro x hx
    rcases List.mem_cons.1 hx with rfl | hx
    · rcases (m.mem.own.own _ List.mem_cons_self).2 with ⟨h1, -⟩ | ⟨g', cap, cur, h1, h2, h3, h4, h5, h6, -⟩
      · cases h1
      · injection h1 with h1 _ h7
        injection h1 with h1
        injection h1 with h1
        subst h1 h7
        refine ⟨by simp, .inr ⟨g, c, cur, rfl, h2, h3, Nat.zero_le _, h5, h6, ?_⟩⟩
        show cur.toList.take (0 * size) = []
        rw [Nat.zero_mul, List.take_zero]
    · exact m.mem.own.own x (List.mem_cons_of_mem _ hx)
  · have h := m.mem.own.apart
    rw [List.pairwise_cons] at h ⊢
    exact ⟨fun y hy => h.1 y hy, h.2⟩
  · intro x hx y hy
    rcases List.mem_cons.1 hy with rfl | hy
    · exact m.mem.far x hx ⟨e, size, .slice (some ⟨g, 0, none⟩) n c, n, xs⟩ List.mem_cons_self
    · exact m.mem.far x hx y (List.mem_cons_of_mem _ hy)
  · rintro c (h | ⟨x, hx, h⟩ | ⟨y, hy, he⟩)
    · exact .inl h
    · exact .inr (.inl ⟨x, hx, h⟩)
    · rcases List.mem_cons.1 hy with rfl | hy
      · exact .inr (.inr ⟨_, List.mem_cons_self, he⟩)
      · exact .inr (.inr ⟨y, List.mem_cons_of_mem _ hy, he⟩)
end B31
section
variable {n : Nat} {ds : List Deferred} {l : List (Nat × Value)} {a : Act} {w : World}
variable {os rest : List Oper} {Q : Exit → Act → World → Prop}
variable {d : Nat} {ty : TypeId} {pos : String} {af : Array Edge} {g : Option (Nat × Bool)}
theorem s_eqBo {t t' : TypeId} {X Y : Operand} {x y : Bool} (hF : Fr n ds l a) (hg : wantO os l g = some true) (hX : ev l X = some (.bool x)) (hY : ev l Y = some (.bool y)) (hu : Try.prog.underlying t = some .bool) (hq : Try.prog.eqGuardType Try.prog.depth t = false) (hd : Nat.blt d n = true)
    (kk : ∀ a, Fr n ds ((d, .bool (decide (x = y))) :: l) a → wl ⟨os⟩ Q rest a w) : wl ⟨os⟩ Q (⟨some d, .binOp .eql t X Y t', ty, pos, af, g⟩ :: rest) a w := by
  refine s_op hF hg fun _ hK => upon_value ?_ (hK _ _ (kk _ (hF.put hd _)))
  have h : ∀ d : Nat, (Op.equalIn (d + 1) t (.bool x) (.bool y)).run Try.prog w = .ok (decide (x = y)) w := fun d => by
    cases x <;> cases y <;> simp [Op.equalIn, run_underlying hu]
  have he : (Op.equal t (.bool x) (.bool y)).run Try.prog w = .ok (decide (x = y)) w := h 9999
  simp [execOp, hF.eval hX, hF.eval hY, eqGuard, Sem.run_bind, Result.andThen, hq, binOp, he]
/-- The room of a slice. -/
theorem s_cap {t e : TypeId} {X : Operand} {ao : Option Addr} {m c : Nat} (hF : Fr n ds l a) (hg : wantO os l g = some true) (hX : ev l X = some (.slice ao m c)) (ht : tyD t = some (.slice e)) (hd : Nat.blt d n = true)
    (kk : ∀ a, Fr n ds ((d, .int .i64 c) :: l) a → wl ⟨os⟩ Q rest a w) : wl ⟨os⟩ Q (⟨some d, .call ⟨.builtin .cap, ⟨[X]⟩, ⟨[t]⟩⟩, ty, pos, af, g⟩ :: rest) a w := by
  refine s_op hF hg fun _ hK => upon_value ?_ (hK _ _ (kk _ (hF.put hd _)))
  have hu := tyD_ok ht
  have he : Try.prog.elem t = e := by unfold Program.elem; rw [hu]
  have hr := run_cap_slice (P := Try.prog) (w := w) t ty ao m c (by rw [he]; exact hu)
  have h1 : a.eval X = .slice ao m c := hF.eval hX
  simp [execOp, resolve, Deferred.ofValue, invoke, h1, Sem.run_bind, Result.andThen, builtin, hr, goInt]
end
set_option maxRecDepth 20000 in
theorem Grow_c (n : Nat) (hn : 1 ≤ n ∧ n ≤ 100000) (own : Nat → Prop) (W : World) (hl : ∀ b, own b → b < W.heap.size) :
    Calls Try.prog 103 ⟨[.slice none 0 0, .int .i64 n]⟩ W (Ret W fun v w' => ∃ a c, v = .slice a 0 c ∧ Owns w' W.heap.size [⟨5, 1, .slice a 0 c, 0, []⟩]) := by
  have hM := (Mm.start hl).nilRow 5 1
  refine f_start Try.func103 rfl Try.ntmps103 rfl rfl ?_; intro a hF
  (repeat (first | (with_reducible refine w_seq ?_) | (with_reducible refine c_region ?_) | (with_reducible refine s_nil ?_) | (with_reducible refine q_then_n ?_) | ((with_reducible apply s_pure hF); exact rfl; exact rfl; exact rfl; (first | exact trivial | omega | exact ⟨Int.natCast_nonneg _, Int.ofNat_lt.2 (by assumption)⟩ | decide); clear hF a; intro a hF) | (with_reducible refine w_skip ?_) | ((with_reducible apply c_false2 hF); exact rfl; (first | with_reducible rfl | (refine congrArg Value.bool ?_; focus (simp; done))))))
  refine s_cap hF rfl rfl rfl rfl ?_
  clear hF a
  intro a hF
  (repeat (first | (with_reducible refine w_seq ?_) | (with_reducible refine c_region ?_) | (with_reducible refine s_nil ?_) | (with_reducible refine q_then_n ?_) | ((with_reducible apply s_pure hF); exact rfl; exact rfl; exact rfl; (first | exact trivial | omega | exact ⟨Int.natCast_nonneg _, Int.ofNat_lt.2 (by assumption)⟩ | decide); clear hF a; intro a hF)))
  rw [show (n : Int) - (((0 : Nat) : Int) - ((0 : Nat) : Int)) = (n : Int) by omega] at hF
  (repeat (first | fail))
  rw [decide_eq_true (show (0 : Int) < (n : Int) by omega)] at hF
  (repeat (first | (with_reducible refine c_region ?_) | ((with_reducible apply s_pure hF); exact rfl; exact rfl; exact rfl; (first | exact trivial | omega | exact ⟨Int.natCast_nonneg _, Int.ofNat_lt.2 (by assumption)⟩ | decide); clear hF a; intro a hF) | ((with_reducible apply c_true2 hF); exact rfl; (first | with_reducible rfl | (refine congrArg Value.bool ?_; focus (simp; done))))))
  refine s_cap hF rfl rfl rfl rfl ?_
  clear hF a
  intro a hF
  (repeat (first | ((with_reducible apply s_pure hF); exact rfl; exact rfl; exact rfl; (first | exact trivial | omega | exact ⟨Int.natCast_nonneg _, Int.ofNat_lt.2 (by assumption)⟩ | decide); clear hF a; intro a hF)))
  rw [show Value.slice (sadr none (Int.toNat 0) 0 1) (((0 : Nat) : Int).toNat - Int.toNat 0) (0 - Int.toNat 0) = .slice none 0 0 by simp [sadr]] at hF
  (repeat (first | (with_reducible refine w_seq ?_) | (with_reducible refine c_region ?_) | (with_reducible refine s_nil ?_) | ((with_reducible apply s_appZ hF hM); exact rfl; exact rfl; exact rfl; exact rfl; exact rfl; exact rfl; exact rfl; (repeat (first | exact Kth.z | apply Kth.s)); exact rfl; omega; omega; clear hF hM a; intro g cap w a hM hF; dsimp only [List.set] at hM) | (with_reducible refine q_then_n ?_) | ((with_reducible apply s_pure hF); exact rfl; exact rfl; exact rfl; (first | exact trivial | omega | exact ⟨Int.natCast_nonneg _, Int.ofNat_lt.2 (by assumption)⟩ | decide); clear hF a; intro a hF) | (with_reducible refine w_ret ?_)))
  have hcap := row_capC hM (i := 0) rfl
  have he : Value.slice (sadr (some ⟨g, 0, none⟩) (Int.toNat 0) cap 1) (((0 : Nat) : Int).toNat - Int.toNat 0) (cap - Int.toNat 0) = .slice (some ⟨g, 0, none⟩) 0 cap := by
    unfold sadr
    rw [if_neg (by simp; omega)]
    simp [add_lit]
  rw [he] at hF
  replace hM := Mm.rowZero hM
  (apply f_ret Try.results103 hF hM; (repeat (first | exact RL.nil | (apply RL.tmp; exact rfl) | (apply RL.cell; exact rfl; (repeat (first | exact List.mem_cons_self | refine List.mem_cons_of_mem _ ?_)); exact rfl))); refine Ret.mk hM.since ?_; dsimp only [resV])
  exact ⟨_, cap, rfl, hM.mem.own⟩
theorem conBo_c (xs : List Bool) (n : Nat) (hn : xs.length = n) (hn6 : n ≤ 100000) (hx : ∀ x ∈ xs, x = true) (a0 : Option Addr) (c0 : Nat) (own : Nat → Prop) (W : World) (hl : ∀ b, own b → b < W.heap.size) (hv : Has own W (RdF Value.bool a0 xs)) :
    Calls Try.prog 69 ⟨[.slice a0 n c0, .bool false]⟩ W (Ret W fun v _ => v = .bool false) := by
  have hI : ∀ (own : Nat → Prop) (W : World) (_ : ∀ b, own b → b < W.heap.size) (_ : Has own W (RdF Value.bool a0 xs)), Calls Try.prog 102 ⟨[.slice a0 n c0, .bool false]⟩ W (Ret W fun v _ => v = .int .i64 (-1)) := by
    intro own W hl hv
    have hM := (Mm.start hl).known hv
    refine f_start Try.func102 rfl Try.ntmps102 rfl rfl ?_; intro a hF
    (repeat' (first | (with_reducible refine w_seq ?_) | (with_reducible refine c_region ?_) | (with_reducible refine s_nil ?_) | (with_reducible refine q_then_n ?_) | ((with_reducible apply s_pure hF); exact rfl; exact rfl; exact rfl; (first | exact trivial | omega | exact ⟨Int.natCast_nonneg _, Int.ofNat_lt.2 (by assumption)⟩ | decide); clear hF a; intro a hF) | (with_reducible refine w_block ?_)))
    refine c_loop (m := n) (fun z a w' => ∃ (k : Nat), z + k = n ∧
      Fr 19 [] [(8, .int .i64 k), (7, .int .i64 n), (0, .slice a0 n c0), (1, .bool false)] a ∧ Mm own W [] [] [RdF Value.bool a0 xs] w') ⟨0, by omega, hF.sub (by repeat (first | exact Sub.nil | refine Sub.cons rfl (by first | with_reducible rfl | (refine congrArg (Value.int _) ?_; omega) | exact rfl) ?_)), hM⟩ ?_
    clear hF hM a
    rintro z a w' ⟨k, hz, hF, hM⟩
    by_cases hk : k < n
    · obtain ⟨x, hx1⟩ := get_of_lt (l := xs) (i := k) (by omega)
      obtain rfl := hx x (List.mem_of_getElem? hx1)
      obtain ⟨ad, rfl⟩ : ∃ ad, a0 = some ad := rd_some hM (enc := Value.bool) (a := a0) (xs := xs) (by (repeat (first | exact List.mem_cons_self | refine List.mem_cons_of_mem _ ?_))) hx1
      (repeat' (first | (with_reducible refine w_seq ?_) | (with_reducible refine c_region ?_) | (with_reducible refine s_nil ?_) | ((with_reducible apply s_eqBo hF); exact rfl; exact rfl; exact rfl; kernel_rfl; kernel_rfl; exact rfl; clear hF a; intro a hF) | (with_reducible refine q_then_n ?_) | ((with_reducible apply s_pure hF); exact rfl; exact rfl; exact rfl; (first | exact trivial | omega | exact ⟨Int.natCast_nonneg _, Int.ofNat_lt.2 (by assumption)⟩ | decide); clear hF a; intro a hF) | ((with_reducible apply s_loadF hF hM); exact rfl; exact rfl; (repeat (first | exact List.mem_cons_self | refine List.mem_cons_of_mem _ ?_)); exact rfl; exact rfl; (first | with_reducible assumption | (simp only [Int.toNat_natCast]; with_reducible assumption)); clear hF a; intro a hF) | (with_reducible refine w_skip ?_) | (with_reducible refine w_block ?_) | (with_reducible refine q_blk_n ?_) | ((with_reducible apply c_false2 hF); exact rfl; (first | with_reducible rfl | (refine congrArg Value.bool ?_; focus (simp; done)))) | ((with_reducible apply c_dec hF); exact rfl; all_goals intro hc; all_goals (try (exfalso; omega)))))
      exact ⟨z - 1, by omega, k + 1, by omega, hF.sub (by repeat (first | exact Sub.nil | refine Sub.cons rfl (by first | with_reducible rfl | (refine congrArg (Value.int _) ?_; omega) | exact rfl) ?_)), hM⟩
    · (repeat' (first | (with_reducible refine w_seq ?_) | (with_reducible refine c_region ?_) | (with_reducible refine s_nil ?_) | (with_reducible refine q_then_n ?_) | ((with_reducible apply s_pure hF); exact rfl; exact rfl; exact rfl; (first | exact trivial | omega | exact ⟨Int.natCast_nonneg _, Int.ofNat_lt.2 (by assumption)⟩ | decide); clear hF a; intro a hF) | (with_reducible refine w_exit ?_) | (with_reducible refine w_ret ?_) | (with_reducible refine q_then_x ?_) | (with_reducible refine q_blk_x ?_) | ((with_reducible apply c_dec hF); exact rfl; all_goals intro hc; all_goals (try (exfalso; omega)))))
      (apply f_ret Try.results102 hF hM; (repeat (first | exact RL.nil | (apply RL.tmp; exact rfl) | (apply RL.cell; exact rfl; (repeat (first | exact List.mem_cons_self | refine List.mem_cons_of_mem _ ?_)); exact rfl))); refine Ret.mk hM.since ?_; dsimp only [resV])
  have hM := (Mm.start hl).known hv
  refine f_start Try.func69 rfl Try.ntmps69 rfl rfl ?_; intro a hF
  (repeat' (first | (with_reducible refine w_seq ?_) | (with_reducible refine c_region ?_) | (with_reducible refine s_nil ?_) | ((with_reducible apply s_call (f := 102) hF hM); exact rfl; exact rfl; exact rfl; exact rfl; exact rfl; exact (hI _ _ hM.lt (hM.facts _ (by (repeat (first | exact List.mem_cons_self | refine List.mem_cons_of_mem _ ?_))))); clear hF hM a; rintro v w a rfl - hM hF) | (with_reducible refine q_then_n ?_) | ((with_reducible apply s_pure hF); exact rfl; exact rfl; exact rfl; (first | exact trivial | omega | exact ⟨Int.natCast_nonneg _, Int.ofNat_lt.2 (by assumption)⟩ | decide); clear hF a; intro a hF) | (with_reducible refine w_ret ?_)))
  (apply f_ret Try.results69 hF hM; (repeat (first | exact RL.nil | (apply RL.tmp; exact rfl) | (apply RL.cell; exact rfl; (repeat (first | exact List.mem_cons_self | refine List.mem_cons_of_mem _ ?_)); exact rfl))); refine Ret.mk hM.since ?_; dsimp only [resV])
  rfl
end Go.Proofs.Ytadfdpkhehdikaa


/- slices.Concat at bytes. -/
namespace Go.Proofs.Ytadfdpkhehdikaa
open Go.RowKit Go.Shelf D29 B31
section
variable (hs : List BP) (n : Nat) (hn : hs.length = n) (hn6 : n ≤ 100000) (h4 : ∀ q ∈ hs, q.1.length ≤ 4096) (E : List Int) (hE : (hs.map (·.1)).flatten = E) (hEl : 1 ≤ E.length ∧ E.length ≤ 60000)
include hn hn6 h4 hE hEl
set_option maxRecDepth 20000 in
set_option maxHeartbeats 4000000 in
theorem Concat_c (a0 : Option Addr) (c0 : Nat) (own : Nat → Prop) (W : World) (hl : ∀ b, own b → b < W.heap.size) (k1 : Has own W (RdF encBP a0 hs)) (k2 : Has own W (BytF hs)) :
    Calls Try.prog 70 ⟨[.slice a0 n c0]⟩ W (Ret W fun v w' => ∃ a c, v = .slice a E.length c ∧ Has own w' (RdF (Value.int .u8) a E) ∧ E.length ≤ c) := by
  have hM := ((Mm.start hl).known k2).known k1
  have hst : ∀ {k : Nat} {q : BP}, hs[k]? = some q → ((hs.take (k + 1)).map (·.1)).flatten = ((hs.take k).map (·.1)).flatten ++ q.1 := fun {k q} hq => by rw [take_snoc hq]; simp
  have hle : ∀ k, (((hs.take k).map (·.1)).flatten).length ≤ E.length := fun k => by
    rw [← hE]
    have := congrArg (fun l : List BP => ((l.map (·.1)).flatten).length) (List.take_append_drop k hs)
    simp only [List.map_append, List.flatten_append, List.length_append] at this
    omega
  refine f_start Try.func70 rfl Try.ntmps70 rfl rfl ?_; intro a hF
  (repeat' (first | (with_reducible refine w_seq ?_) | (with_reducible refine c_region ?_) | (with_reducible refine s_nil ?_) | (with_reducible refine q_then_n ?_) | ((with_reducible apply s_pure hF); exact rfl; exact rfl; exact rfl; (first | exact trivial | omega | exact ⟨Int.natCast_nonneg _, Int.ofNat_lt.2 (by assumption)⟩ | decide); clear hF a; intro a hF) | (with_reducible refine w_block ?_)))
  refine c_loop (m := n) (fun z a w' => ∃ (k : Nat), z + k = n ∧ Fr 36 [] [(11, .int .i64 k), (10, .int .i64 n), (9, .slice a0 n c0), (3, .int .i64 (((hs.take k).map (·.1)).flatten.length : Nat)), (0, .slice a0 n c0)] a ∧ Mm own W [] [] [RdF encBP a0 hs, BytF hs] w') ⟨0, by omega, hF.sub (by repeat (first | exact Sub.nil | refine Sub.cons rfl (by first | with_reducible rfl | (refine congrArg (Value.int _) ?_; omega) | exact rfl) ?_)), hM⟩ ?_
  clear hF hM a
  rintro z a w' ⟨k, hz, hF, hM⟩
  by_cases hk : k < n
  · obtain ⟨q, hq⟩ := get_of_lt (l := hs) (i := k) (by omega)
    have hq4 := h4 q (List.mem_of_getElem? hq)
    have hl1 := hle k
    have hs1 := congrArg List.length (hst hq)
    rw [List.length_append] at hs1
    obtain ⟨ad1, rfl⟩ : ∃ ad, a0 = some ad := rd_some hM (enc := encBP) (a := a0) (xs := hs) (by (repeat (first | exact List.mem_cons_self | refine List.mem_cons_of_mem _ ?_))) hq
    generalize ((hs.take k).map (·.1)).flatten.length = u at *
    obtain ⟨u2, hu2⟩ : ∃ u2, ((hs.take (k + 1)).map (·.1)).flatten.length = u2 := ⟨_, rfl⟩
    rw [hu2] at hs1
    (repeat (first | (with_reducible refine w_seq ?_) | (with_reducible refine c_region ?_) | (with_reducible refine s_nil ?_) | (with_reducible refine q_then_n ?_) | ((with_reducible apply s_pure hF); exact rfl; exact rfl; exact rfl; (first | exact trivial | omega | exact ⟨Int.natCast_nonneg _, Int.ofNat_lt.2 (by assumption)⟩ | decide); clear hF a; intro a hF)))
    rw [decide_eq_true (show (k : Int) < (n : Int) by omega)] at hF
    (repeat (first | (with_reducible refine w_seq ?_) | (with_reducible refine c_region ?_) | (with_reducible refine s_nil ?_) | (with_reducible refine q_then_n ?_) | ((with_reducible apply s_pure hF); exact rfl; exact rfl; exact rfl; (first | exact trivial | omega | exact ⟨Int.natCast_nonneg _, Int.ofNat_lt.2 (by assumption)⟩ | decide); clear hF a; intro a hF) | ((with_reducible apply s_loadF hF hM); exact rfl; exact rfl; (repeat (first | exact List.mem_cons_self | refine List.mem_cons_of_mem _ ?_)); exact rfl; exact rfl; (first | with_reducible assumption | (simp only [Int.toNat_natCast]; with_reducible assumption)); clear hF a; intro a hF) | (with_reducible refine w_skip ?_) | (with_reducible refine w_block ?_) | ((with_reducible apply c_true2 hF); exact rfl; (first | with_reducible rfl | (refine congrArg Value.bool ?_; focus (simp; done))))))
    unfold encBP at hF
    try dsimp only at hF
    (repeat' (first | (with_reducible refine c_region ?_) | (with_reducible refine s_nil ?_) | (with_reducible refine q_then_n ?_) | ((with_reducible apply s_pure hF); exact rfl; exact rfl; exact rfl; (first | exact trivial | omega | exact ⟨Int.natCast_nonneg _, Int.ofNat_lt.2 (by assumption)⟩ | decide); clear hF a; intro a hF) | (with_reducible refine w_skip ?_) | (with_reducible refine q_blk_n ?_) | ((with_reducible apply c_dec hF); exact rfl; all_goals intro hc; all_goals (try (exfalso; omega)))))
    rw [show (u : Int) + (q.1.length : Int) = (u2 : Int) by omega] at hF
    exact ⟨z - 1, by omega, k + 1, by omega, by rw [hu2]; exact hF.sub (by repeat (first | exact Sub.nil | refine Sub.cons rfl (by first | with_reducible rfl | (refine congrArg (Value.int _) ?_; omega) | exact rfl) ?_)), hM⟩
  · obtain rfl : n = k := by omega
    rw [List.take_of_length_le (Nat.le_of_eq hn), hE] at hF
    (repeat' (first | (with_reducible refine w_seq ?_) | (with_reducible refine c_region ?_) | (with_reducible refine s_nil ?_) | ((with_reducible apply s_callO (f := 103) hF); exact rfl; exact rfl; exact rfl; exact rfl; exact rfl; exact (Grow_c E.length (by omega) _ _ hM.lt); clear hF a; rintro v wn a ⟨a2, c2, rfl, hO⟩ hS hF; replace hM := hM.addRows hS hO; clear hS hO; dsimp only [List.cons_append, List.nil_append] at hM) | (with_reducible refine q_then_n ?_) | ((with_reducible apply s_pure hF); exact rfl; exact rfl; exact rfl; (first | exact trivial | omega | exact ⟨Int.natCast_nonneg _, Int.ofNat_lt.2 (by assumption)⟩ | decide); clear hF a; intro a hF) | (with_reducible refine w_block ?_) | (with_reducible refine w_exit ?_) | (with_reducible refine q_then_x ?_) | (with_reducible refine q_blk_x ?_) | ((with_reducible apply c_false2 hF); exact rfl; (first | with_reducible rfl | (refine congrArg Value.bool ?_; focus (simp; done))))))
    refine c_loop (m := n) (fun z a w' => ∃ (k u : Nat) (v : Value), z + k = n ∧ u = ((hs.take k).map (·.1)).flatten.length ∧ Fr 36 [] [(27, .int .i64 k), (26, .int .i64 n), (25, .slice a0 n c0), (6, v)] a ∧ Mm own W [] [⟨5, 1, v, u, (((hs.take k).map (·.1)).flatten).map (Value.int .u8)⟩] [RdF encBP a0 hs, BytF hs] w') ⟨0, 0, _, by omega, rfl, hF.sub (by repeat (first | exact Sub.nil | refine Sub.cons rfl (by first | with_reducible rfl | (refine congrArg (Value.int _) ?_; omega) | exact rfl) ?_)), hM⟩ ?_
    clear hF hM a
    rintro z a w' ⟨k, u, v, hz, hu, hF, hM⟩
    by_cases hk : k < n
    · obtain ⟨q, hq⟩ := get_of_lt (l := hs) (i := k) (by omega)
      have hq4 := h4 q (List.mem_of_getElem? hq)
      have hl1 := hle k
      have hs1 := hst hq
      have hqf := byt_one (hM.facts (BytF hs) (by (repeat (first | exact List.mem_cons_self | refine List.mem_cons_of_mem _ ?_)))) (List.mem_of_getElem? hq)
      obtain ⟨ad1, rfl⟩ : ∃ ad, a0 = some ad := rd_some hM (enc := encBP) (a := a0) (xs := hs) (by (repeat (first | exact List.mem_cons_self | refine List.mem_cons_of_mem _ ?_))) hq
      replace hM := hM.addFact hqf
      (repeat (first | (with_reducible refine w_seq ?_) | (with_reducible refine c_region ?_) | (with_reducible refine s_nil ?_) | (with_reducible refine q_then_n ?_) | ((with_reducible apply s_pure hF); exact rfl; exact rfl; exact rfl; (first | exact trivial | omega | exact ⟨Int.natCast_nonneg _, Int.ofNat_lt.2 (by assumption)⟩ | decide); clear hF a; intro a hF)))
      rw [decide_eq_true (show (k : Int) < (n : Int) by omega)] at hF
      (repeat (first | (with_reducible refine w_seq ?_) | (with_reducible refine c_region ?_) | (with_reducible refine s_nil ?_) | ((with_reducible apply s_appF hF hM); exact rfl; exact rfl; (repeat (first | exact List.mem_cons_self | refine List.mem_cons_of_mem _ ?_)); exact rfl; exact rfl; (repeat (first | exact Kth.z | apply Kth.s)); (intro _; exact rfl); exact rfl; omega; clear hF hM a; intro g cap w a hM hF; dsimp only [List.set] at hM) | (with_reducible refine q_then_n ?_) | ((with_reducible apply s_pure hF); exact rfl; exact rfl; exact rfl; (first | exact trivial | omega | exact ⟨Int.natCast_nonneg _, Int.ofNat_lt.2 (by assumption)⟩ | decide); clear hF a; intro a hF) | ((with_reducible apply s_loadF hF hM); exact rfl; exact rfl; (repeat (first | exact List.mem_cons_self | refine List.mem_cons_of_mem _ ?_)); exact rfl; exact rfl; (first | with_reducible assumption | (simp only [Int.toNat_natCast]; with_reducible assumption)); clear hF a; intro a hF) | (with_reducible refine w_skip ?_) | (with_reducible refine w_block ?_) | (with_reducible refine q_blk_n ?_) | ((with_reducible apply c_true2 hF); exact rfl; (first | with_reducible rfl | (refine congrArg Value.bool ?_; focus (simp; done))))))
      unfold encBP at hF
      try dsimp only at hF
      (repeat' (first | fail))
      rw [← List.map_append, ← hs1] at hM
      exact ⟨z - 1, by omega, k + 1, u + q.1.length, _, by omega, by rw [hs1, List.length_append, hu], hF.sub (by repeat (first | exact Sub.nil | refine Sub.cons rfl (by first | with_reducible rfl | (refine congrArg (Value.int _) ?_; omega) | exact rfl) ?_)), hM.sub (.refl _) (.refl _) (by intro f hf; simp only [List.mem_cons, List.not_mem_nil, or_false] at hf; (repeat (rcases hf with rfl | hf; · (repeat (first | exact List.mem_cons_self | refine List.mem_cons_of_mem _ ?_)))); first | (subst hf; (repeat (first | exact List.mem_cons_self | refine List.mem_cons_of_mem _ ?_)); done) | (repeat (first | exact hf | refine List.mem_cons_of_mem _ ?_)))⟩
    · obtain rfl : n = k := by omega
      rw [List.take_of_length_le (Nat.le_of_eq hn), hE] at hM hu
      obtain ⟨av, cv, rfl, hcv, -⟩ := OffR.shape hM (k := 0) rfl (OffR.plain hM List.mem_cons_self)
      (repeat' (first | (with_reducible refine w_seq ?_) | (with_reducible refine c_region ?_) | (with_reducible refine s_nil ?_) | (with_reducible refine q_then_n ?_) | ((with_reducible apply s_pure hF); exact rfl; exact rfl; exact rfl; (first | exact trivial | omega | exact ⟨Int.natCast_nonneg _, Int.ofNat_lt.2 (by assumption)⟩ | decide); clear hF a; intro a hF) | (with_reducible refine w_exit ?_) | (with_reducible refine w_ret ?_) | (with_reducible refine q_then_x ?_) | (with_reducible refine q_blk_x ?_) | ((with_reducible apply c_false2 hF); exact rfl; (first | with_reducible rfl | (refine congrArg Value.bool ?_; focus (simp; done))))))
      (apply f_ret Try.results70 hF hM; (repeat (first | exact RL.nil | (apply RL.tmp; exact rfl) | (apply RL.cell; exact rfl; (repeat (first | exact List.mem_cons_self | refine List.mem_cons_of_mem _ ?_)); exact rfl))); refine Ret.mk hM.since ?_; dsimp only [resV])
      subst hu
      exact ⟨av, cv, rfl, hM.rowFact List.mem_cons_self, hcv⟩
end
end Go.Proofs.Ytadfdpkhehdikaa

