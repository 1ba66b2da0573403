/- Texts of this seat, one behind the other: Df Mb Dg Dh Di Dj Dk. -/
import Derived.Test.YtocgpllmfdnfjaaQ4
import Derived.Test.YtocgpllmfdnfjaaQ1
set_option linter.unusedSimpArgs false
set_option linter.unusedVariables false
set_option linter.unusedSectionVars false
set_option maxRecDepth 3000
/- Plain laws of dictionary: what is encoded is decoded. -/
namespace Go.Proofs.Ytocgpllmfdnfjaa
theorem copyN_take {all : List Int} {d t : Nat} (hd : 1 ≤ d) (hdt : d ≤ t) : ∀ (n : Nat), t + n ≤ all.length → (∀ j, j < n → all[t - d + j]? = all[t + j]?) → copyN d n (all.take t) = all.take (t + n)
  | 0, _, _ => rfl
  | n + 1, h, hj => by
    rw [copyN_succ, copyN_take hd hdt n (by omega) (fun j h2 => hj j (by omega))]
    have hl : (all.take (t + n)).length = t + n := by rw [List.length_take]; omega
    have hx := hj n (by omega)
    have hlt : t + n < all.length := by omega
    rw [hl, ← Nat.add_assoc, List.take_add_one, List.getD_eq_getElem?_getD, List.getElem?_take, if_pos (by omega), show t + n - d = t - d + n by omega, hx, List.getElem?_eq_getElem hlt]
    rfl
theorem dcF_fuel {dl : Nat} {most : Int} : ∀ (f g : Nat) (xs al : List Int), xs.length ≤ f → xs.length ≤ g → dcF dl most f xs al = dcF dl most g xs al
  | 0, g, xs, al, h, _ => by rw [List.length_eq_zero_iff.1 (by omega : xs.length = 0), dcF_nil, dcF_nil]
  | f + 1, 0, xs, al, _, h => by rw [List.length_eq_zero_iff.1 (by omega : xs.length = 0), dcF_nil, dcF_nil]
  | f + 1, g + 1, [], al, _, _ => rfl
  | f + 1, g + 1, x :: b, al, h1, h2 => by
    have hb1 : b.length ≤ f := by simpa using h1
    have hb2 : b.length ≤ g := by simpa using h2
    rw [dcF, dcF, dcF_fuel f g (b.drop x.toNat) _ (by rw [List.length_drop]; omega) (by rw [List.length_drop]; omega), dcF_fuel f g (b.drop (rdNum b).2.2) _ (by rw [List.length_drop]; omega) (by rw [List.length_drop]; omega)]
def dc (dl : Nat) (most : Int) (xs al : List Int) : Except Int (List Int) := dcF dl most xs.length xs al
section
variable {dl : Nat} {most : Int}
theorem dc_lit (l rest al : List Int) (h1 : 1 ≤ l.length) (h2 : l.length ≤ 127) : dc dl most ((l.length : Int) :: (l ++ rest)) al = if most < (al.length : Int) + l.length - dl then .error 5 else dc dl most rest (al ++ l) := by
  unfold dc
  rw [List.length_cons, dcF, if_neg (by omega), if_pos (by omega), if_neg (by rw [List.length_append]; omega), Int.toNat_natCast, List.drop_left, List.take_left, dcF_fuel _ rest.length rest _ (by rw [List.length_append]; omega) (Nat.le_refl _)]
theorem dc_lits (rest : List Int) : ∀ (f : Nat) (l al : List Int), l.length ≤ f → (al.length : Int) - dl ≤ most → dc dl most (litsB f l ++ rest) al = if most < (al.length : Int) + l.length - dl then .error 5 else dc dl most rest (al ++ l)
  | 0, l, al, h, h2 => by
    obtain rfl : l = [] := List.length_eq_zero_iff.1 (by omega)
    rw [litsB, List.nil_append, List.append_nil, if_neg (by simp; omega)]
  | f + 1, l, al, h, h2 => by
    rw [litsB]
    by_cases e : l = []
    · subst e
      rw [if_pos rfl, List.nil_append, List.append_nil, if_neg (by simp; omega)]
    · have hp : 0 < l.length := List.length_pos_iff.2 e
      obtain ⟨q, hq⟩ : ∃ q, min l.length 127 = q := ⟨_, rfl⟩
      rw [if_neg e, hq, List.cons_append, List.append_assoc]
      have hql : (l.take q).length = q := by rw [List.length_take]; omega
      have hdl : (l.drop q).length = l.length - q := List.length_drop
      have := dc_lit (dl := dl) (most := most) (l.take q) (litsB f (l.drop q) ++ rest) al (by omega) (by omega)
      rw [hql] at this
      rw [this]
      by_cases hm : most < (al.length : Int) + q - dl
      · rw [if_pos hm, if_pos (by omega)]
      · rw [if_neg hm, dc_lits rest f (l.drop q) (al ++ l.take q) (by omega) (by rw [List.length_append, hql]; omega), List.append_assoc, List.take_append_drop, List.length_append, hql, hdl]
        have e2 : ((al.length + q : Nat) : Int) + ((l.length - q : Nat) : Int) - dl = (al.length : Int) + l.length - dl := by omega
        rw [e2]
theorem dc_litz (rest l al : List Int) (h : (al.length : Int) - dl ≤ most) : dc dl most (litz l ++ rest) al = if most < (al.length : Int) + l.length - dl then .error 5 else dc dl most rest (al ++ l) := dc_lits rest _ l al (Nat.le_refl _) h
theorem dc_match {n d : Nat} (hn : 4 ≤ n ∧ n ≤ 131) (hd : 1 ≤ d ∧ d ≤ 4096) (rest al : List Int) (hdl : d ≤ al.length) : dc dl most ((124 + n : Int) :: (puts d ++ rest)) al = if most < (al.length : Int) + n - dl then .error 5 else dc dl most rest (copyN d n al) := by
  unfold dc
  rw [List.length_cons, dcF, if_neg (by omega), if_neg (by omega), rdNum_puts (by omega)]
  simp only
  rw [if_neg (by simp), if_neg (by omega), show (124 + (n : Int) - 124) = n by omega, Int.toNat_natCast, Int.toNat_natCast, List.drop_left, dcF_fuel _ rest.length rest _ (by rw [List.length_append]; omega) (Nat.le_refl _)]
end
theorem encF_toks (all : List Int) : ∀ (f t : Nat) (toks run : List Int), encF all f t toks run = toks ++ encF all f t [] run
  | 0, t, toks, run => by rw [encF, encF, List.nil_append]
  | f + 1, t, toks, run => by
    rw [encF, encF]
    split
    · split
      · exact encF_toks all f _ toks _
      · rw [encF_toks all f _ (toks ++ litz run ++ _ ++ _), encF_toks all f _ ([] ++ litz run ++ _ ++ _)]
        simp only [List.nil_append, List.append_assoc]
    · rw [List.nil_append]
theorem best_get {all : List Int} {t : Nat} (h : (best all t).2 ≠ 0) : ∀ j, j < (best all t).2 → all[t - (best all t).1 + j]? = all[t + j]? := by
  obtain ⟨_, h2, _, _, _, _, h7⟩ := best_ok h
  intro j hj
  exact ((mlen_ge (all := all) (p := t - (best all t).1) (t := t) h2).1 (Nat.le_of_eq h7) j hj).2
theorem dc_encF {all : List Int} {dl : Nat} {most : Int} (rest : List Int) : ∀ (f t : Nat) (run al : List Int), all.length ≤ f + t → t ≤ all.length → al ++ run = all.take t → (al.length : Int) - dl ≤ most → dc dl most (encF all f t [] run ++ rest) al = if most < (all.length : Int) - dl then .error 5 else dc dl most rest all
  | 0, t, run, al, h1, h2, h3, h4 => by
    have e := congrArg List.length h3
    rw [List.length_append, List.length_take] at e
    rw [encF, List.nil_append, dc_litz _ _ _ h4, h3, List.take_of_length_le (by omega), show (al.length : Int) + run.length = all.length by omega]
  | f + 1, t, run, al, h1, h2, h3, h4 => by
    have e := congrArg List.length h3
    rw [List.length_append, List.length_take] at e
    rw [encF]
    by_cases ht : t < all.length
    · rw [if_pos ht]
      by_cases h0 : (best all t).2 = 0
      · rw [if_pos h0]
        refine dc_encF rest f (t + 1) _ al (by omega) ht ?_ h4
        rw [← List.append_assoc, h3, List.take_add_one, List.getD_eq_getElem?_getD, List.getElem?_eq_getElem ht]
        rfl
      · rw [if_neg h0]
        obtain ⟨b1, b2, b3, b4, b5, b6, _⟩ := best_ok h0
        have hg := best_get h0
        generalize (best all t).2 = n at *
        generalize (best all t).1 = d at *
        have hlt : (all.take t).length = t := by rw [List.length_take]; omega
        rw [encF_toks, List.nil_append]
        simp only [List.append_assoc]
        rw [dc_litz _ _ _ h4, h3, List.singleton_append]
        by_cases hm1 : most < (al.length : Int) + run.length - dl
        · rw [if_pos hm1, if_pos (by omega)]
        · rw [if_neg hm1, dc_match ⟨b1, b2⟩ ⟨b3, b4⟩ _ _ (by omega), hlt]
          by_cases hm2 : most < (t : Int) + n - dl
          · rw [if_pos hm2, if_pos (by omega)]
          · rw [if_neg hm2, copyN_take b3 b5 n b6 hg]
            have hl2 : (all.take (t + n)).length = t + n := by rw [List.length_take]; omega
            exact dc_encF rest f (t + n) [] (all.take (t + n)) (by omega) b6 (by rw [List.append_nil]) (by rw [hl2]; omega)
    · rw [if_neg ht, List.nil_append, dc_litz _ _ _ h4, h3, List.take_of_length_le (by omega), show (al.length : Int) + run.length = all.length by omega]
theorem dc_encD {dl : Nat} {most : Int} (dict b rest : List Int) (h : (dict.length : Int) - dl ≤ most) : dc dl most (encD dict b ++ rest) dict = if most < (dict.length : Int) + b.length - dl then .error 5 else dc dl most rest (dict ++ b) := by
  have := dc_encF (all := dict ++ b) (dl := dl) (most := most) rest b.length dict.length [] dict (by rw [List.length_append]; omega) (by rw [List.length_append]; omega) (by rw [List.append_nil, List.take_left]) h
  rw [List.length_append, Int.natCast_add] at this
  exact this
theorem decD_dc {dict y : List Int} {most : Int} (h : 0 ≤ most) : decD dict y most = finD dict.length (dc dict.length most y dict) := by
  unfold decD dc
  rw [if_neg (by omega)]
theorem dc_nil (dl : Nat) (most : Int) (al : List Int) : dc dl most [] al = .ok al := rfl
/-- What is encoded is decoded. -/
theorem decD_encD (dict b : List Int) {most : Int} (h : (b.length : Int) ≤ most) : decD dict (encD dict b) most = .ok b := by
  rw [decD_dc (by omega)]
  have := dc_encD (dl := dict.length) (most := most) dict b [] (by omega)
  rw [List.append_nil, if_neg (by omega), dc_nil] at this
  rw [this, finD, List.drop_left]
theorem decD_short (dict b : List Int) {most : Int} (h0 : 0 ≤ most) (h : most < b.length) : decD dict (encD dict b) most = .error 5 := by
  rw [decD_dc h0]
  have := dc_encD (dl := dict.length) (most := most) dict b [] (by omega)
  rw [List.append_nil, if_pos (by omega)] at this
  rw [this, finD]
theorem decD_two (dict a b : List Int) {most : Int} (h : most = a.length + b.length) : decD dict (encD dict a ++ encD (dict ++ a) b) most = .ok (a ++ b) := by
  rw [decD_dc (by omega), dc_encD dict a _ (by omega), if_neg (by omega)]
  have := dc_encD (dl := dict.length) (most := most) (dict ++ a) b [] (by rw [List.length_append]; omega)
  rw [List.append_nil, if_neg (by rw [List.length_append]; omega), dc_nil] at this
  rw [this, finD, List.append_assoc, List.drop_left]
theorem litsB_By : ∀ (f : Nat) (l : List Int), By l → By (litsB f l)
  | 0, l, h => by rw [litsB]; intro x hx; cases hx
  | f + 1, l, h => by
    rw [litsB]
    split
    · intro x hx; cases hx
    · intro x hx
      rcases List.mem_cons.1 hx with rfl | hx
      · omega
      · rcases List.mem_append.1 hx with hx | hx
        · exact h.take _ x hx
        · exact litsB_By f _ (h.drop _) x hx
theorem By.app {xs ys : List Int} (h1 : By xs) (h2 : By ys) : By (xs ++ ys) := fun x hx => (List.mem_append.1 hx).elim (h1 x) (h2 x)
theorem encF_By {all : List Int} (h : By all) : ∀ (f t : Nat) (toks run : List Int), By toks → By run → By (encF all f t toks run)
  | 0, t, toks, run, h1, h2 => by rw [encF]; exact h1.app (litsB_By _ _ h2)
  | f + 1, t, toks, run, h1, h2 => by
    rw [encF]
    split
    · rename_i ht
      split
      · refine encF_By h f _ _ _ h1 (h2.app ?_)
        intro x hx
        rw [List.mem_singleton] at hx
        rw [hx, List.getD_eq_getElem?_getD, List.getElem?_eq_getElem ht]
        exact h _ (List.getElem_mem ht)
      · rename_i h0
        have := best_ok h0
        refine encF_By h f _ _ _ (((h1.app (litsB_By _ _ h2)).app ?_).app (puts_By _)) (fun x hx => by cases hx)
        intro x hx
        rw [List.mem_singleton] at hx
        omega
    · exact h1.app (litsB_By _ _ h2)
theorem encD_By {dict b : List Int} (h1 : By dict) (h2 : By b) : By (encD dict b) := encF_By (h1.app h2) _ _ _ _ (fun x hx => by cases hx) (fun x hx => by cases hx)
theorem copyN_By (d : Nat) : ∀ (n : Nat) (al : List Int), By al → By (copyN d n al)
  | 0, al, h => h
  | n + 1, al, h => by
    rw [copyN]
    refine copyN_By d n _ (h.app ?_)
    intro x hx
    rw [List.mem_singleton] at hx
    rw [hx, List.getD_eq_getElem?_getD]
    cases hg : al[al.length - d]? with
    | none => exact ⟨by decide, by decide⟩
    | some y => exact h y (List.mem_of_getElem? hg)
theorem dcF_By {dl : Nat} {most : Int} : ∀ (f : Nat) (xs al r : List Int), dcF dl most f xs al = .ok r → By xs → By al → By r
  | 0, _, _, _, h, _, h2 => by injection h with h; subst h; exact h2
  | f + 1, [], _, _, h, _, h2 => by injection h with h; subst h; exact h2
  | f + 1, x :: b, al, r, h, hb, h2 => by
    have hbb : By b := fun z hz => hb z (List.mem_cons_of_mem _ hz)
    rw [dcF] at h
    split at h
    · cases h
    · split at h
      · split at h
        · cases h
        · split at h
          · cases h
          · exact dcF_By f _ _ r h (hbb.drop _) (h2.app (hbb.take _))
      · split at h
        · cases h
        · split at h
          · cases h
          · split at h
            · cases h
            · exact dcF_By f _ _ r h (hbb.drop _) (copyN_By _ _ _ h2)
theorem decD_By {dict b r : List Int} {most : Int} (h1 : By dict) (h2 : By b) (h : decD dict b most = .ok r) : By r := by
  unfold decD at h
  split at h
  · cases h
  · unfold finD at h
    split at h
    · cases h
    · rename_i hd
      injection h with h
      subst h
      exact (dcF_By _ _ _ _ hd h2 h1).drop _
/-- What stands at the end of the dictionary is a single match. -/
theorem bestTo_ge {all : List Int} {t : Nat} : ∀ (D d : Nat), 1 ≤ d → d ≤ D → 4 ≤ mlen all (t - d) t → mlen all (t - d) t ≤ (bestTo all t D).2
  | 0, d, h1, h2, _ => by omega
  | D + 1, d, h1, h2, h3 => by
    rw [bestTo, bstep]
    by_cases e : d = D + 1
    · subst e
      split
      · exact Nat.le_refl _
      · omega
    · have := bestTo_ge D d h1 (by omega) h3
      split
      · simp only; omega
      · exact this
theorem encD_knows (dict b : List Int) (h : 4 ≤ b.length ∧ b.length ≤ 131) : ∃ d, 1 ≤ d ∧ d ≤ 4096 ∧ encD (dict ++ b) b = (124 + b.length : Int) :: puts d := by
  obtain ⟨all, hall⟩ : ∃ all, all = dict ++ b ++ b := ⟨_, rfl⟩
  obtain ⟨t, ht⟩ : ∃ t, t = dict.length + b.length := ⟨_, rfl⟩
  have hal : all.length = t + b.length := by rw [hall, List.length_append, List.length_append]; omega
  have hm : b.length ≤ mlen all (t - b.length) t := by
    refine (mlen_ge h.2).2 fun j hj => ⟨by omega, ?_⟩
    rw [hall, List.getElem?_append_right (i := t + j) (by rw [List.length_append]; omega), List.length_append, List.append_assoc, List.getElem?_append_right (by omega), List.getElem?_append_left (by omega)]
    congr 1
    omega
  have hb := bestTo_ge (all := all) (t := t) (min 4096 t) b.length (by omega) (by omega) (by omega)
  have h0 : (best all t).2 ≠ 0 := by unfold best; omega
  obtain ⟨b1, b2, b3, b4, b5, b6, b7⟩ := best_ok h0
  have he : (best all t).2 = b.length := by
    have : b.length ≤ (best all t).2 := by unfold best; omega
    omega
  refine ⟨(best all t).1, b3, b4, ?_⟩
  obtain ⟨k, hk⟩ : ∃ k, b.length = k + 1 := ⟨b.length - 1, by omega⟩
  unfold encD
  rw [← hall, List.length_append, ← ht, hk, encF, if_pos (by omega), if_neg h0, he, encF_fuel all k 0 _ _ _ (by omega) (by omega), encF, ← hk]
  show [] ++ litz [] ++ _ ++ _ ++ litz [] = _
  rw [show litz [] = [] from rfl]
  simp
theorem secsD_flat {l : List (List Int)} (hw : W8 l) {most : Int} (h : (l.length : Int) ≤ most) : secsD l.flatten most = .ok l := by
  have hf := flat_len hw
  have h8 : l.flatten.length / 8 = l.length := by omega
  have := chunks_flat l [] hw
  rw [List.append_nil] at this
  unfold secsD
  rw [if_neg (by omega), h8, if_neg (by omega), this]
/-- What is packed is unpacked. -/
theorem unpD_pack {dict : List Int} {l : List (List Int)} (hw : W8 l) (hlen : l.length ≤ 4096) : unpD dict (packD dict l) l.length = .ok l := by
  have hf := flat_len hw
  have h1 : dec (mst (l.length : Int)) (enc l) = .ok l := by
    rw [show mst (l.length : Int) = l.length by unfold mst; omega]
    exact dec_enc hw (by omega) _ (Nat.le_refl _)
  have h2 : decD dict (encD dict l.flatten) (8 * (l.length : Int)) = .ok l.flatten := decD_encD dict _ (by omega)
  have h3 := secsD_flat hw (Int.le_refl (l.length : Int))
  unfold unpD packD pack3
  rw [if_neg (by omega)]
  by_cases h4 : (encD dict l.flatten).length + 1 < (pack2 l.flatten (enc l)).length
  · rw [if_pos h4]
    show unp1 dict 2 _ _ = _
    unfold unp1
    rw [if_neg (by decide), if_neg (by decide), if_pos rfl, h2, thenS_ok, h3]
  · rw [if_neg h4]
    unfold pack2
    by_cases h5 : (enc l).length < l.flatten.length
    · rw [if_pos h5]
      show unp1 dict 1 _ _ = _
      unfold unp1
      rw [if_neg (by decide), if_pos rfl, h1]
    · rw [if_neg h5]
      show unp1 dict 0 _ _ = _
      unfold unp1
      rw [if_pos rfl, h3]
theorem W8_nil : W8 [] := by intro y hy; cases hy
theorem secsD_ok {xs : List Int} {most : Int} {l : List (List Int)} (h : secsD xs most = .ok l) : W8 l ∧ (l.length : Int) ≤ most := by
  unfold secsD at h
  split at h
  · cases h
  · split at h
    · cases h
    · injection h with h
      subst h
      exact ⟨chunks_8 _ _ (by omega), by rw [chunks_len]; omega⟩
theorem unpD_ok {dict b : List Int} {most : Int} {l : List (List Int)} (h : unpD dict b most = .ok l) : W8 l ∧ l.length ≤ 4096 := by
  unfold unpD at h
  split at h
  · cases h
  · rename_i hm
    split at h
    · cases h
    · rename_i x d
      unfold unp1 at h
      split at h
      · have := secsD_ok h
        exact ⟨this.1, by omega⟩
      · split at h
        · have := dec_good h
          have h2 : mst most ≤ 4096 := by unfold mst; omega
          exact ⟨this.2.1, by omega⟩
        · split at h
          · cases hd : decD dict d (8 * most) with
            | error e => rw [hd, thenS_err] at h; cases h
            | ok r =>
              rw [hd, thenS_ok] at h
              have := secsD_ok h
              exact ⟨this.1, by omega⟩
          · cases h
theorem pack2_len (A B : List Int) : 1 ≤ (pack2 A B).length ∧ (pack2 A B).length ≤ 1 + A.length := by
  unfold pack2
  split <;> simp only [List.length_cons] <;> omega
theorem packD_len {dict : List Int} {l : List (List Int)} (hw : W8 l) : 1 ≤ (packD dict l).length ∧ (packD dict l).length ≤ 1 + 8 * l.length := by
  have hf := flat_len hw
  have := pack2_len l.flatten (enc l)
  unfold packD pack3
  split
  · simp only [List.length_cons]; omega
  · omega
theorem packD_By {dict : List Int} {l : List (List Int)} (h1 : By dict) (h2 : B8 l) : By (packD dict l) := by
  have hf : By l.flatten := by
    intro x hx
    obtain ⟨s, hs, hx⟩ := List.mem_flatten.1 hx
    exact h2 s hs x hx
  have hc : ∀ (k : Int) (xs : List Int), 0 ≤ k → k < 256 → By xs → By (k :: xs) := fun k xs h3 h4 h5 x hx => by
    rcases List.mem_cons.1 hx with rfl | hx
    · exact ⟨h3, h4⟩
    · exact h5 x hx
  have h2p : By (pack2 l.flatten (enc l)) := by
    unfold pack2
    split
    · exact hc 1 _ (by decide) (by decide) (enc_bytes h2)
    · exact hc 0 _ (by decide) (by decide) hf
  unfold packD pack3
  split
  · exact hc 2 _ (by decide) (by decide) (encD_By h1 hf)
  · exact h2p
end Go.Proofs.Ytocgpllmfdnfjaa

/- The bytes of a constant string: a literal that is marked. -/
namespace Go.Proofs.Ytocgpllmfdnfjaa
open Go.RowKit Go.Shelf
theorem heap_freeze_other (w : World) (a : Addr) (n k : Nat) (h : k ≠ a.block) : (w.freeze a n).heap[k]? = w.heap[k]? := by
  unfold World.freeze
  split
  · rfl
  · simp only [Array.getElem?_modify]
    rw [if_neg (by omega)]
theorem heap_freeze_size (w : World) (a : Addr) (n : Nat) : (w.freeze a n).heap.size = w.heap.size := by
  unfold World.freeze
  split
  · rfl
  · simp
theorem cell_freeze (w : World) (a p : Addr) (n : Nat) : (w.freeze a n).cell? p = w.cell? p := by
  by_cases h : p.block = a.block
  · unfold World.freeze
    split
    · rfl
    · simp only [World.cell?, Array.getElem?_modify, h, if_true]
      cases w.heap[a.block]? with
      | none => rfl
      | some o => cases o <;> rfl
  · exact World.cell?_of_block (w := w) (heap_freeze_other w a n _ h)
theorem Mm.mark {α : Type} {enc : α → Value} {own : Nat → Prop} {w0 w : World} {bs : List BoxE} {L : List Ent} {Fs : List (World → Prop)} {b : Nat} {e : TypeId} {xs : List α} (m : Mm own w0 (⟨b, ⟨xs.map enc⟩, e⟩ :: bs) L Fs w) (k n : Nat) : Mm own w0 bs L (RdF enc (some ⟨b, 0, none⟩) xs :: Fs) (w.freeze ⟨b, k, none⟩ n) := by
  have hbox := m.mem.box _ List.mem_cons_self
  have hnew : w0.heap.size ≤ b := m.mem.new _ List.mem_cons_self
  have htwo := m.mem.two
  rw [List.pairwise_cons] at htwo
  have hoth := fun j (h : j ≠ b) => heap_freeze_other w ⟨b, k, none⟩ n j h
  have hsz := heap_freeze_size w ⟨b, k, none⟩ n
  have hnot : ¬ ownOf own bs L b := by
    rintro (h | ⟨x, hx, h⟩ | ⟨y, hy, h⟩)
    · have := m.low b h; omega
    · exact htwo.1 x hx h.symm
    · exact m.mem.far _ List.mem_cons_self y hy h
  refine ⟨⟨?_, fun x hx => (m.mem.box x (List.mem_cons_of_mem _ hx)).of_block (hoth _ (fun h => htwo.1 x hx h.symm)), fun x hx => m.mem.new x (List.mem_cons_of_mem _ hx), htwo.2, m.mem.own.of2 fun x hx j hj => hoth j (fun h => m.mem.far _ List.mem_cons_self x hx (by rw [hj, h])), fun x hx => m.mem.far x (List.mem_cons_of_mem _ hx)⟩, m.low, fun f hf => ?_⟩
  · refine Below.trans m.mem.since ⟨?_, ?_, ?_, by rw [hsz]; exact Nat.le_refl _, fun j hj => hoth j (by omega)⟩ <;> (unfold World.freeze; split <;> rfl)
  · rcases List.mem_cons.1 hf with rfl | hf
    · refine RdF.has (fun i x hx => ⟨b, 0, rfl, by rw [hsz]; exact hbox.lt, ?_⟩) (by rintro ad h; injection h with h; subst h; exact hnot)
      rw [cell_freeze, hbox.rules.1]
      simp [hx]
    · refine ((m.facts f hf).step (fun j hj hno => hoth j (fun h => hno (.inr (.inl ⟨_, List.mem_cons_self, h.symm⟩)))) (by rw [hsz]; exact Nat.le_refl _)).own_eq ?_
      rintro j (h | ⟨x, hx, h⟩ | h)
      · exact .inl h
      · exact .inr (.inl ⟨x, List.mem_cons_of_mem _ hx, h⟩)
      · exact .inr (.inr h)
section
variable {n : Nat} {ds : List Deferred} {l : List (Nat × Value)} {a : Act} {w w0 : World} {own : Nat → Prop} {bs : List BoxE} {L : List Ent} {Fs : List (World → Prop)} {os rest : List Oper} {Q : Exit → Act → World → Prop} {ty : TypeId} {pos : String} {af : Array Edge} {g : Option (Nat × Bool)} {d : Nat}
theorem s_cnvB {T e T' : TypeId} {X : Operand} {b q c : Nat} {cs : List Value} (xs : List Int) (hF : Fr n ds l a) (hM : Mm own w0 (⟨b, ⟨cs⟩, T'⟩ :: bs) L Fs w) (hg : wantO os l g = some true) (hX : ev l X = some (.slice (some ⟨b, 0, none⟩) q c)) (h1 : tyD T = some (.slice e)) (h2 : tyD e = some (.int .u8)) (hd : Nat.blt d n = true) (hc : cs = xs.map (Value.int .u8))
    (kk : ∀ w' a, Mm own w0 bs L (RdF (Value.int .u8) (some ⟨b, 0, none⟩) xs :: Fs) w' → Fr n ds ((d, .slice (some ⟨b, 0, none⟩) q c) :: l) a → wl ⟨os⟩ Q rest a w') : wl ⟨os⟩ Q (⟨some d, .convert T T X, ty, pos, af, g⟩ :: rest) a w := by
  subst hc
  have hbox : Box w b ⟨xs.map (Value.int .u8)⟩ T' := hM.mem.box _ List.mem_cons_self
  have hsh : w.shape? b = some (T', (xs.map (Value.int .u8)).length) := by
    unfold World.shape?
    rw [show w.heap[b]? = _ from hbox]
    rfl
  refine s_op hF hg fun _ hK => upon_value (v := .slice (some ⟨b, 0, none⟩) q c) (w' := w.freeze ⟨b, (xs.map (Value.int .u8)).length, none⟩ 1) ?_ (hK _ _ (kk _ _ (hM.mark _ _) (hF.put hd _)))
  have key : (convert T T (.slice (some ⟨b, 0, none⟩) q c)).run Try.prog w = .ok (.slice (some ⟨b, 0, none⟩) q c) (w.freeze ⟨b, (xs.map (Value.int .u8)).length, none⟩ 1) := by
    simp [convert, run_underlying (tyD_ok h1), run_underlying (tyD_ok h2), markStringish, hsh]
  simp only [execOp, hF.eval hX]
  simp [Sem.run_bind, key, Result.andThen]
end
end Go.Proofs.Ytocgpllmfdnfjaa

/- Layer 6's law helpers and examples. -/
namespace Go.Proofs.Ytocgpllmfdnfjaa
open Go.RowKit Go.Shelf
set_option maxRecDepth 20000 in
theorem same_c (l m : List (List Int)) (hl8 : W8 l) (hm8 : W8 m) (a1 a2 : Option Addr) (q1 q2 c1 c2 : Nat) (h1 : l.length = q1) (h2 : m.length = q2) (hq : q1 ≤ 1000000) (own : Nat → Prop) (W : World) (hl : ∀ b, own b → b < W.heap.size) (hv1 : Has own W (RdF (Value.int .u8) a1 l.flatten)) (hv2 : Has own W (RdF (Value.int .u8) a2 m.flatten)) :
    Calls Try.prog 22 ⟨[.slice a1 q1 c1, .slice a2 q2 c2]⟩ W (Ret W fun v _ => v = .bool (decide (l = m))) := by
  subst h1 h2
  have hM := ((Mm.start hl).known hv1).known hv2
  have hw1 : ∀ y ∈ l, y.length = 8 := hl8
  have hw2 : ∀ y ∈ m, y.length = 8 := hm8
  refine f_start Try.func22 rfl Try.ntmps22 rfl rfl ?_; intro a hF
  (repeat' (first | (with_reducible refine w_seq ?_) | (with_reducible refine c_region ?_) | (with_reducible refine s_nil ?_) | (with_reducible refine q_then_n ?_) | ((with_reducible apply s_pure hF); exact rfl; exact rfl; exact rfl; (first | exact trivial | omega | exact ⟨Int.natCast_nonneg _, Int.ofNat_lt.2 (by assumption)⟩ | decide); clear hF a; intro a hF) | (with_reducible refine w_skip ?_) | (with_reducible refine w_block ?_) | (with_reducible refine w_ret ?_) | (with_reducible refine q_then_r ?_) | ((with_reducible apply c_dec hF); exact rfl; all_goals intro hc; all_goals (try (exfalso; omega)))))
  · rw [show decide (l = m) = false from decide_eq_false (fun e => by subst e; omega)]
    (apply f_ret Try.results22 hF hM; (repeat (first | exact RL.nil | (apply RL.tmp; exact rfl) | (apply RL.cell; exact rfl; (repeat (first | exact List.mem_cons_self | refine List.mem_cons_of_mem _ ?_)); exact rfl))); refine Ret.mk hM.since ?_; dsimp only [resV])
  have hlm : l.length = m.length := by omega
  refine c_loop (m := l.length) (fun mm a w' => ∃ i : Nat, mm + i = l.length ∧ l.take i = m.take i ∧ Fr 26 [] [(5, .int .i64 i), (0, .slice a1 l.length c1), (1, .slice a2 m.length c2)] a ∧ Mm own W [] [] [RdF (Value.int .u8) a2 m.flatten, RdF (Value.int .u8) a1 l.flatten] w') ⟨0, by omega, rfl, hF.sub (by repeat (first | exact Sub.nil | refine Sub.cons rfl (by first | with_reducible rfl | (refine congrArg (Value.int _) ?_; omega) | exact rfl) ?_)), hM⟩ ?_
  clear hF hM a
  rintro mm a w' ⟨i, hmi, hlt, hF, hM⟩
  by_cases hi : i < l.length
  · obtain ⟨s, hs⟩ := get_of_lt hi
    obtain ⟨t, ht⟩ := get_of_lt (l := m) (i := i) (by omega)
    have hs8 := hw1 s (List.mem_of_getElem? hs)
    have ht8 := hw2 t (List.mem_of_getElem? ht)
    obtain ⟨ad1, rfl⟩ : ∃ ad, a1 = some ad := rd_some hM (by (repeat (first | exact List.mem_cons_self | refine List.mem_cons_of_mem _ ?_))) (flat_get (q := 0) hl8 hs (List.getElem?_eq_getElem (by omega)))
    obtain ⟨ad2, rfl⟩ : ∃ ad, a2 = some ad := rd_some hM (enc := Value.int .u8) (a := a2) (xs := m.flatten) (by (repeat (first | exact List.mem_cons_self | refine List.mem_cons_of_mem _ ?_))) (flat_get (q := 0) hm8 ht (List.getElem?_eq_getElem (by omega)))
    have hst : (l.take (i + 1) = m.take (i + 1)) ↔ s = t := by
      rw [List.take_add_one, List.take_add_one, hs, ht, hlt]
      simp
    (repeat' (first | (with_reducible refine w_seq ?_) | (with_reducible refine c_region ?_) | (with_reducible refine s_nil ?_) | (with_reducible refine q_then_n ?_) | ((with_reducible apply s_pure hF); exact rfl; exact rfl; exact rfl; (first | exact trivial | omega | exact ⟨Int.natCast_nonneg _, Int.ofNat_lt.2 (by assumption)⟩ | decide); clear hF a; intro a hF) | (with_reducible refine w_skip ?_) | (with_reducible refine w_block ?_) | ((with_reducible apply c_dec hF); exact rfl; all_goals intro hc; all_goals (try (exfalso; omega)))))
    refine c_draw (fun i => Nat.ble 9 i) hM ?_; clear hM; intro w hM
    (first | (refine t_pure (i := 0) hF rfl rfl rfl rfl (by kernel_rfl) hM.sm (fun _ _ _ h => h) ?_ ?_; (first | exact trivial | omega | decide); clear hF a; intro a hF))
    (first | (refine t_pure (i := 1) hF rfl rfl rfl rfl (by kernel_rfl) hM.sm (fun _ _ _ h => h) ?_ ?_; (first | exact trivial | omega | decide); clear hF a; intro a hF))
    (first | (refine t_pure (i := 2) hF rfl rfl rfl rfl (by kernel_rfl) hM.sm (fun _ _ _ h => h) ?_ ?_; (first | exact trivial | omega | decide); clear hF a; intro a hF))
    (first | (apply t_loadS (i := 3) hF rfl rfl rfl; (repeat (first | exact List.mem_cons_self | refine List.mem_cons_of_mem _ ?_)); (first | with_reducible assumption | (simp only [Int.toNat_natCast]; with_reducible assumption)); (with_reducible assumption); exact rfl; exact rfl; kernel_rfl; exact hM.sm; exact (fun _ _ _ h => h); clear hF a; intro a hF))
    (first | (refine t_pure (i := 4) hF rfl rfl rfl rfl (by kernel_rfl) hM.sm (fun _ _ _ h => h) ?_ ?_; (first | exact trivial | omega | decide); clear hF a; intro a hF))
    (first | (refine t_pure (i := 5) hF rfl rfl rfl rfl (by kernel_rfl) hM.sm (fun _ _ _ h => h) ?_ ?_; (first | exact trivial | omega | decide); clear hF a; intro a hF))
    (first | (refine t_pure (i := 6) hF rfl rfl rfl rfl (by kernel_rfl) hM.sm (fun _ _ _ h => h) ?_ ?_; (first | exact trivial | omega | decide); clear hF a; intro a hF))
    (first | (apply t_loadS (i := 7) hF rfl rfl rfl; (repeat (first | exact List.mem_cons_self | refine List.mem_cons_of_mem _ ?_)); (first | with_reducible assumption | (simp only [Int.toNat_natCast]; with_reducible assumption)); (with_reducible assumption); exact rfl; exact rfl; kernel_rfl; exact hM.sm; exact (fun _ _ _ h => h); clear hF a; intro a hF))
    (first | (apply t_eqA (i := 8) hF rfl rfl rfl rfl rfl; kernel_rfl; exact rfl; exact rfl; kernel_rfl; (first | with_reducible assumption | rfl); (first | with_reducible assumption | rfl); exact hM.sm; exact (fun _ _ _ h => h); clear hF a; intro a hF))
    refine t_done (by kernel_rfl) ?_
    (repeat' (first | (with_reducible refine w_seq ?_) | (with_reducible refine c_region ?_) | (with_reducible refine s_nil ?_) | (with_reducible refine q_then_n ?_) | ((with_reducible apply s_pure hF); exact rfl; exact rfl; exact rfl; (first | exact trivial | omega | exact ⟨Int.natCast_nonneg _, Int.ofNat_lt.2 (by assumption)⟩ | decide); clear hF a; intro a hF) | (with_reducible refine w_skip ?_) | (with_reducible refine w_ret ?_) | (with_reducible refine q_then_r ?_) | (with_reducible refine q_blk_n ?_) | (with_reducible refine q_blk_r ?_) | ((with_reducible apply c_ndec hF); exact rfl; all_goals intro hc; all_goals (try (exfalso; omega)))))
    · rw [show decide (l = m) = false from decide_eq_false (fun e => by subst e; rw [hs] at ht; injection ht with ht; contradiction)]
      (apply f_ret Try.results22 hF hM; (repeat (first | exact RL.nil | (apply RL.tmp; exact rfl) | (apply RL.cell; exact rfl; (repeat (first | exact List.mem_cons_self | refine List.mem_cons_of_mem _ ?_)); exact rfl))); refine Ret.mk hM.since ?_; dsimp only [resV])
    · exact ⟨mm - 1, by omega, i + 1, by omega, hst.2 (by assumption), hF.sub (by repeat (first | exact Sub.nil | refine Sub.cons rfl (by first | with_reducible rfl | (refine congrArg (Value.int _) ?_; omega) | exact rfl) ?_)), hM⟩
  · rw [List.take_of_length_le (by omega), List.take_of_length_le (by omega)] at hlt
    rw [decide_eq_true hlt]
    (repeat' (first | (with_reducible refine w_seq ?_) | (with_reducible refine c_region ?_) | (with_reducible refine s_nil ?_) | (with_reducible refine q_then_n ?_) | ((with_reducible apply s_pure hF); exact rfl; exact rfl; exact rfl; (first | exact trivial | omega | exact ⟨Int.natCast_nonneg _, Int.ofNat_lt.2 (by assumption)⟩ | decide); clear hF a; intro a hF) | (with_reducible refine w_exit ?_) | (with_reducible refine w_ret ?_) | (with_reducible refine q_then_x ?_) | (with_reducible refine q_blk_x ?_) | ((with_reducible apply c_dec hF); exact rfl; all_goals intro hc; all_goals (try (exfalso; omega)))))
    (apply f_ret Try.results22 hF hM; (repeat (first | exact RL.nil | (apply RL.tmp; exact rfl) | (apply RL.cell; exact rfl; (repeat (first | exact List.mem_cons_self | refine List.mem_cons_of_mem _ ?_)); exact rfl))); refine Ret.mk hM.since ?_; dsimp only [resV])

abbrev slV (p : Option Addr × Nat × Nat) : Value := .slice p.1 p.2.1 p.2.2
set_option maxRecDepth 20000 in
theorem small_c (ps : List (Option Addr × Nat × Nat)) (hlen : ps.length ≤ 10) (hps : ∀ p ∈ ps, p.2.1 ≤ 9223372036854775807) (a0 : Option Addr) (n c0 : Nat) (hn : ps.length = n) (own : Nat → Prop) (W : World) (hl : ∀ b, own b → b < W.heap.size) (hv : Has own W (RdF slV a0 ps)) :
    Calls Try.prog 11 ⟨[.slice a0 n c0]⟩ W (Ret W fun v _ => v = .bool (ps.all fun p => decide (p.2.1 ≤ 400))) := by
  subst hn
  have hM := (Mm.start hl).known hv
  refine f_start Try.func11 rfl Try.ntmps11 rfl rfl ?_; intro a hF
  (repeat (first | (with_reducible refine w_seq ?_) | (with_reducible refine c_region ?_) | (with_reducible refine s_nil ?_) | (with_reducible refine q_then_n ?_) | ((with_reducible apply s_pure hF); exact rfl; exact rfl; exact rfl; (first | exact trivial | omega | exact ⟨Int.natCast_nonneg _, Int.ofNat_lt.2 (by assumption)⟩ | decide); clear hF a; intro a hF) | (with_reducible refine w_block ?_)))
  refine c_loop (m := ps.length) (fun m a w' => ∃ i : Nat, m + i = ps.length ∧ (∀ j p, j < i → ps[j]? = some p → p.2.1 ≤ 400) ∧ Fr 16 [] [(3, .int .i64 i), (0, .slice a0 ps.length c0)] a ∧ Mm own W [] [] [RdF slV a0 ps] w') ⟨0, by omega, fun j p h => by omega, hF.sub (by repeat (first | exact Sub.nil | refine Sub.cons rfl (by first | with_reducible rfl | (refine congrArg (Value.int _) ?_; omega) | exact rfl) ?_)), hM⟩ ?_
  clear hF hM a
  rintro m a w' ⟨i, hm, hall, hF, hM⟩
  by_cases hi : i < ps.length
  · obtain ⟨⟨pa, pn, pc⟩, hx⟩ := get_of_lt hi
    have hpn : pn ≤ 9223372036854775807 := hps _ (List.mem_of_getElem? hx)
    have hx' : ps[((i : Int)).toNat]? = some (pa, pn, pc) := by rw [Int.toNat_natCast]; exact hx
    obtain ⟨ad, rfl⟩ := rd_some hM (by (repeat (first | exact List.mem_cons_self | refine List.mem_cons_of_mem _ ?_))) hx
    (repeat' (first | (with_reducible refine w_seq ?_) | (with_reducible refine c_region ?_) | (with_reducible refine s_nil ?_) | (with_reducible refine q_then_n ?_) | ((with_reducible apply s_pure hF); exact rfl; exact rfl; exact rfl; (first | exact trivial | omega | exact ⟨Int.natCast_nonneg _, Int.ofNat_lt.2 (by assumption)⟩ | decide); clear hF a; intro a hF) | ((with_reducible apply s_loadF hF hM); exact rfl; exact rfl; (repeat (first | exact List.mem_cons_self | refine List.mem_cons_of_mem _ ?_)); exact rfl; exact rfl; (first | with_reducible assumption | (simp only [Int.toNat_natCast]; with_reducible assumption)); clear hF a; intro a hF) | (with_reducible refine w_skip ?_) | (with_reducible refine w_block ?_) | (with_reducible refine w_ret ?_) | (with_reducible refine q_then_r ?_) | (with_reducible refine q_blk_n ?_) | (with_reducible refine q_blk_r ?_) | ((with_reducible apply c_dec hF); exact rfl; all_goals intro hc; all_goals (try (exfalso; omega)))))
    · replace hc : (400 : Int) < (pn : Int) := hc
      have : (ps.all fun p => decide (p.2.1 ≤ 400)) = false := by
        rw [List.all_eq_false]
        exact ⟨_, List.mem_of_getElem? hx, by rw [decide_eq_true_eq]; show ¬ pn ≤ 400; omega⟩
      rw [this]
      (apply f_ret Try.results11 hF hM; (repeat (first | exact RL.nil | (apply RL.tmp; exact rfl) | (apply RL.cell; exact rfl; (repeat (first | exact List.mem_cons_self | refine List.mem_cons_of_mem _ ?_)); exact rfl))); refine Ret.mk hM.since ?_; dsimp only [resV])
    · replace hc : ¬ (400 : Int) < (pn : Int) := hc
      refine ⟨m - 1, by omega, i + 1, by omega, fun j p hj hp => ?_, hF.sub (by repeat (first | exact Sub.nil | refine Sub.cons rfl (by first | with_reducible rfl | (refine congrArg (Value.int _) ?_; omega) | exact rfl) ?_)), hM⟩
      by_cases e : j = i
      · subst e
        rw [hx] at hp
        injection hp with hp
        subst hp
        show pn ≤ 400
        omega
      · exact hall j p (by omega) hp
  · have : (ps.all fun p => decide (p.2.1 ≤ 400)) = true := by
      rw [List.all_eq_true]
      intro p hp
      obtain ⟨j, hj⟩ := List.getElem?_of_mem hp
      have := (List.getElem?_eq_some_iff.1 hj).1
      exact decide_eq_true (hall j p (by omega) hj)
    rw [this]
    (repeat' (first | (with_reducible refine w_seq ?_) | (with_reducible refine c_region ?_) | (with_reducible refine s_nil ?_) | (with_reducible refine q_then_n ?_) | ((with_reducible apply s_pure hF); exact rfl; exact rfl; exact rfl; (first | exact trivial | omega | exact ⟨Int.natCast_nonneg _, Int.ofNat_lt.2 (by assumption)⟩ | decide); clear hF a; intro a hF) | (with_reducible refine w_exit ?_) | (with_reducible refine w_ret ?_) | (with_reducible refine q_then_x ?_) | (with_reducible refine q_blk_x ?_) | ((with_reducible apply c_dec hF); exact rfl; all_goals intro hc; all_goals (try (exfalso; omega)))))
    (apply f_ret Try.results11 hF hM; (repeat (first | exact RL.nil | (apply RL.tmp; exact rfl) | (apply RL.cell; exact rfl; (repeat (first | exact List.mem_cons_self | refine List.mem_cons_of_mem _ ?_)); exact rfl))); refine Ret.mk hM.since ?_; dsimp only [resV])
section
variable {own : Nat → Prop} {W : World} {a0 : Option Addr} {n c0 : Nat} {ps : List (Option Addr × Nat × Nat)}
theorem small_t (hv : Has own W (RdF slV a0 ps)) (hlen : n ≤ 10) (h : (ps.all fun p => decide (p.2.1 ≤ 400)) = true) (hn : ps.length = n) (hl : ∀ b, own b → b < W.heap.size) :
    Calls Try.prog 11 ⟨[.slice a0 n c0]⟩ W (Ret W fun v _ => v = .bool true) := by
  have := small_c ps (by omega) (fun p hp => by have := of_decide_eq_true (List.all_eq_true.1 h p hp); omega) a0 n c0 hn own W hl hv
  rw [h] at this
  exact this
theorem small_n (hv : Has own W (RdF slV a0 ps)) (hlen : n ≤ 10) (hps : ∀ p ∈ ps, p.2.1 ≤ 9223372036854775807) (h : (ps.all fun p => decide (p.2.1 ≤ 400)) = false) (hn : ps.length = n) (hl : ∀ b, own b → b < W.heap.size) :
    Calls Try.prog 11 ⟨[.slice a0 n c0]⟩ W (Ret W fun v _ => v = .bool false) := by
  have := small_c ps (by omega) hps a0 n c0 hn own W hl hv
  rw [h] at this
  exact this
end
section
variable {own : Nat → Prop} {W : World} {dict b : List Int} {a1 a2 : Option Addr} {n1 n2 c1 c2 : Nat}
theorem EncodeD_f (hv1 : Has own W (RdF (Value.int .u8) a1 dict)) (hv2 : Has own W (RdF (Value.int .u8) a2 b)) (h1 : dict.length = n1) (h2 : b.length = n2) (hlen : n1 ≤ 10000 ∧ n2 ≤ 10000) (hl : ∀ b, own b → b < W.heap.size) :
    Calls Try.prog 14 ⟨[.slice a1 n1 c1, .slice a2 n2 c2]⟩ W (Ret W (Sl (Value.int .u8) own (encD dict b) (encD dict b).length)) := by
  subst h1 h2
  exact Ret.sl (EncodeD_c dict b hlen a1 a2 c1 c2 own W hl hv1 hv2) hl
theorem EncodeDR_f (hv1 : Has own W (RdF (Value.int .u8) a1 dict)) (hv2 : Has own W (RdF (Value.int .u8) a2 b)) (h1 : dict.length = n1) (h2 : b.length = n2) (hlen : n1 ≤ 10000 ∧ n2 ≤ 10000) (hl : ∀ b, own b → b < W.heap.size) :
    Calls Try.prog 15 ⟨[.slice a1 n1 c1, .slice a2 n2 c2]⟩ W (Ret W (Sl (Value.int .u8) own (encD dict b) (encD dict b).length)) := by
  subst h1 h2
  exact Ret.sl (EncodeDR_c dict b hlen a1 a2 c1 c2 own W hl hv1 hv2) hl
theorem EncodeD_e {y : List Int} (hv1 : Has own W (RdF (Value.int .u8) a1 dict)) (hv2 : Has own W (RdF (Value.int .u8) a2 b)) (he : encD dict b = y) (h1 : dict.length = n1) (h2 : b.length = n2) (hlen : n1 ≤ 10000 ∧ n2 ≤ 10000) (hl : ∀ b, own b → b < W.heap.size) :
    Calls Try.prog 14 ⟨[.slice a1 n1 c1, .slice a2 n2 c2]⟩ W (Ret W (Sl (Value.int .u8) own y y.length)) := he ▸ EncodeD_f hv1 hv2 h1 h2 hlen hl
theorem DecodeD_ok {xs : List Int} {most : Int} (hv1 : Has own W (RdF (Value.int .u8) a1 dict)) (hv2 : Has own W (RdF (Value.int .u8) a2 b)) (he : decD dict b most = .ok xs) (hb : By b) (h1 : dict.length = n1) (h2 : b.length = n2) (hlen : n1 ≤ 10000 ∧ n2 ≤ 10000) (hm : most ≤ 9223372036854775807 ∧ -9223372036854775808 ≤ most) (hc : n2 ≤ c2) (hl : ∀ b, own b → b < W.heap.size) :
    Calls Try.prog 16 ⟨[.slice a1 n1 c1, .slice a2 n2 c2, .int .i64 most]⟩ W (Ret W fun v w' => ∃ a' c', v = .tuple #[.slice a' xs.length c', .int .i64 0] ∧ xs.length ≤ c' ∧ Has own w' (RdF (Value.int .u8) a' xs)) := by
  subst h1 h2
  exact bdec_ok (DecodeD_c dict b hb hlen most hm a1 a2 c1 c2 hc own W hl hv1 hv2) he
theorem DecodeD_err {most e : Int} (hv1 : Has own W (RdF (Value.int .u8) a1 dict)) (hv2 : Has own W (RdF (Value.int .u8) a2 b)) (he : decD dict b most = .error e) (hb : By b) (h1 : dict.length = n1) (h2 : b.length = n2) (hlen : n1 ≤ 10000 ∧ n2 ≤ 10000) (hm : most ≤ 9223372036854775807 ∧ -9223372036854775808 ≤ most) (hc : n2 ≤ c2) (hl : ∀ b, own b → b < W.heap.size) :
    Calls Try.prog 16 ⟨[.slice a1 n1 c1, .slice a2 n2 c2, .int .i64 most]⟩ W (Ret W fun v _ => v = .tuple #[.slice none 0 0, .int .i64 e]) := by
  subst h1 h2
  exact bdec_err (DecodeD_c dict b hb hlen most hm a1 a2 c1 c2 hc own W hl hv1 hv2) he
theorem DecodeDR_ok {xs : List Int} {most : Int} (hv1 : Has own W (RdF (Value.int .u8) a1 dict)) (hv2 : Has own W (RdF (Value.int .u8) a2 b)) (he : decD dict b most = .ok xs) (hb : By b) (h1 : dict.length = n1) (h2 : b.length = n2) (hlen : n1 ≤ 10000 ∧ n2 ≤ 10000) (hm : most ≤ 9223372036854775807 ∧ -9223372036854775808 ≤ most) (hc : n2 ≤ c2) (hl : ∀ b, own b → b < W.heap.size) :
    Calls Try.prog 17 ⟨[.slice a1 n1 c1, .slice a2 n2 c2, .int .i64 most]⟩ W (Ret W fun v w' => ∃ a' c', v = .tuple #[.slice a' xs.length c', .int .i64 0] ∧ xs.length ≤ c' ∧ Has own w' (RdF (Value.int .u8) a' xs)) := by
  subst h1 h2
  exact bdec_ok (DecodeDR_c dict b hb hlen most hm a1 a2 c1 c2 hc own W hl hv1 hv2) he
theorem DecodeDR_err {most e : Int} (hv1 : Has own W (RdF (Value.int .u8) a1 dict)) (hv2 : Has own W (RdF (Value.int .u8) a2 b)) (he : decD dict b most = .error e) (hb : By b) (h1 : dict.length = n1) (h2 : b.length = n2) (hlen : n1 ≤ 10000 ∧ n2 ≤ 10000) (hm : most ≤ 9223372036854775807 ∧ -9223372036854775808 ≤ most) (hc : n2 ≤ c2) (hl : ∀ b, own b → b < W.heap.size) :
    Calls Try.prog 17 ⟨[.slice a1 n1 c1, .slice a2 n2 c2, .int .i64 most]⟩ W (Ret W fun v _ => v = .tuple #[.slice none 0 0, .int .i64 e]) := by
  subst h1 h2
  exact bdec_err (DecodeDR_c dict b hb hlen most hm a1 a2 c1 c2 hc own W hl hv1 hv2) he
theorem Equal_t {xs : List Int} (hv1 : Has own W (RdF (Value.int .u8) a1 xs)) (hv2 : Has own W (RdF (Value.int .u8) a2 xs)) (hb : By xs) (h1 : xs.length = n1) (h2 : xs.length = n2) (hl : ∀ b, own b → b < W.heap.size) :
    Calls Try.prog 13 ⟨[.slice a1 n1 c1, .slice a2 n2 c2]⟩ W (Ret W fun v _ => v = .bool true) := equalB_t hl hb rfl a1 a2 n1 n2 c1 c2 h1 h2 hv1 hv2
section
variable {l : List (List Int)}
theorem Pack_f (hv1 : Has own W (RdF (Value.int .u8) a1 dict)) (hv2 : Has own W (RdF (Value.int .u8) a2 l.flatten)) (hw : W8 l) (h1 : dict.length = n1) (h2 : l.length = n2) (hlen : n1 ≤ 10000 ∧ n2 ≤ 1000) (hc : n2 ≤ c2) (hl : ∀ b, own b → b < W.heap.size) :
    Calls Try.prog 18 ⟨[.slice a1 n1 c1, .slice a2 n2 c2]⟩ W (Ret W (Sl (Value.int .u8) own (packD dict l) (packD dict l).length)) := by
  subst h1 h2
  exact Ret.sl (Pack_c dict l hw hlen a1 a2 c1 c2 hc own W hl hv1 hv2) hl
theorem PackR_f (hv1 : Has own W (RdF (Value.int .u8) a1 dict)) (hv2 : Has own W (RdF (Value.int .u8) a2 l.flatten)) (hw : W8 l) (h1 : dict.length = n1) (h2 : l.length = n2) (hlen : n1 ≤ 10000 ∧ n2 ≤ 1000) (hc : n2 ≤ c2) (hl : ∀ b, own b → b < W.heap.size) :
    Calls Try.prog 19 ⟨[.slice a1 n1 c1, .slice a2 n2 c2]⟩ W (Ret W (Sl (Value.int .u8) own (packD dict l) (packD dict l).length)) := by
  subst h1 h2
  exact Ret.sl (PackR_c dict l hw hlen a1 a2 c1 c2 hc own W hl hv1 hv2) hl
theorem Pack_e {y : List Int} (hv1 : Has own W (RdF (Value.int .u8) a1 dict)) (hv2 : Has own W (RdF (Value.int .u8) a2 l.flatten)) (he : packD dict l = y) (hw : W8 l) (h1 : dict.length = n1) (h2 : l.length = n2) (hlen : n1 ≤ 10000 ∧ n2 ≤ 1000) (hc : n2 ≤ c2) (hl : ∀ b, own b → b < W.heap.size) :
    Calls Try.prog 18 ⟨[.slice a1 n1 c1, .slice a2 n2 c2]⟩ W (Ret W (Sl (Value.int .u8) own y y.length)) := he ▸ Pack_f hv1 hv2 hw h1 h2 hlen hc hl
theorem Unpack_ok {most : Int} (hv1 : Has own W (RdF (Value.int .u8) a1 dict)) (hv2 : Has own W (RdF (Value.int .u8) a2 b)) (he : unpD dict b most = .ok l) (hb : By b) (h1 : dict.length = n1) (h2 : b.length = n2) (hlen : n1 ≤ 10000 ∧ n2 ≤ 10000) (hm : most ≤ 9223372036854775807 ∧ -9223372036854775808 ≤ most) (hc : n2 ≤ c2) (hl : ∀ b, own b → b < W.heap.size) :
    Calls Try.prog 20 ⟨[.slice a1 n1 c1, .slice a2 n2 c2, .int .i64 most]⟩ W (Ret W fun v w' => ∃ a' c', v = .tuple #[.slice a' l.length c', .int .i64 0] ∧ l.length ≤ c' ∧ Has own w' (RdF (Value.int .u8) a' l.flatten)) := by
  subst h1 h2
  exact decf_ok (Unpack_c dict b hb hlen most hm a1 a2 c1 c2 hc own W hl hv1 hv2) he
theorem Unpack_err {most e : Int} (hv1 : Has own W (RdF (Value.int .u8) a1 dict)) (hv2 : Has own W (RdF (Value.int .u8) a2 b)) (he : unpD dict b most = .error e) (hb : By b) (h1 : dict.length = n1) (h2 : b.length = n2) (hlen : n1 ≤ 10000 ∧ n2 ≤ 10000) (hm : most ≤ 9223372036854775807 ∧ -9223372036854775808 ≤ most) (hc : n2 ≤ c2) (hl : ∀ b, own b → b < W.heap.size) :
    Calls Try.prog 20 ⟨[.slice a1 n1 c1, .slice a2 n2 c2, .int .i64 most]⟩ W (Ret W fun v _ => v = .tuple #[.slice none 0 0, .int .i64 e]) := by
  subst h1 h2
  exact decf_err (Unpack_c dict b hb hlen most hm a1 a2 c1 c2 hc own W hl hv1 hv2) he
theorem UnpackR_ok {most : Int} (hv1 : Has own W (RdF (Value.int .u8) a1 dict)) (hv2 : Has own W (RdF (Value.int .u8) a2 b)) (he : unpD dict b most = .ok l) (hb : By b) (h1 : dict.length = n1) (h2 : b.length = n2) (hlen : n1 ≤ 10000 ∧ n2 ≤ 10000) (hm : most ≤ 9223372036854775807 ∧ -9223372036854775808 ≤ most) (hc : n2 ≤ c2) (hl : ∀ b, own b → b < W.heap.size) :
    Calls Try.prog 21 ⟨[.slice a1 n1 c1, .slice a2 n2 c2, .int .i64 most]⟩ W (Ret W fun v w' => ∃ a' c', v = .tuple #[.slice a' l.length c', .int .i64 0] ∧ l.length ≤ c' ∧ Has own w' (RdF (Value.int .u8) a' l.flatten)) := by
  subst h1 h2
  exact decf_ok (UnpackR_c dict b hb hlen most hm a1 a2 c1 c2 hc own W hl hv1 hv2) he
theorem UnpackR_err {most e : Int} (hv1 : Has own W (RdF (Value.int .u8) a1 dict)) (hv2 : Has own W (RdF (Value.int .u8) a2 b)) (he : unpD dict b most = .error e) (hb : By b) (h1 : dict.length = n1) (h2 : b.length = n2) (hlen : n1 ≤ 10000 ∧ n2 ≤ 10000) (hm : most ≤ 9223372036854775807 ∧ -9223372036854775808 ≤ most) (hc : n2 ≤ c2) (hl : ∀ b, own b → b < W.heap.size) :
    Calls Try.prog 21 ⟨[.slice a1 n1 c1, .slice a2 n2 c2, .int .i64 most]⟩ W (Ret W fun v _ => v = .tuple #[.slice none 0 0, .int .i64 e]) := by
  subst h1 h2
  exact decf_err (UnpackR_c dict b hb hlen most hm a1 a2 c1 c2 hc own W hl hv1 hv2) he
theorem same_t (hv1 : Has own W (RdF (Value.int .u8) a1 l.flatten)) (hv2 : Has own W (RdF (Value.int .u8) a2 l.flatten)) (hw : W8 l) (h1 : l.length = n1) (h2 : l.length = n2) (hq : n1 ≤ 1000000) (hl : ∀ b, own b → b < W.heap.size) :
    Calls Try.prog 22 ⟨[.slice a1 n1 c1, .slice a2 n2 c2]⟩ W (Ret W fun v _ => v = .bool true) := by
  have := same_c l l hw hw a1 a2 n1 n2 c1 c2 h1 h2 hq own W hl hv1 hv2
  rw [decide_eq_true rfl] at this
  exact this
end
end
def encFV (all : List Int) : Nat → Nat → List Int → List Int → List Int
  | 0, _, toks, run => toks ++ litz run
  | f + 1, t, toks, run =>
    if t < all.length then
      (if (best all t).2 = 0 then encFV all f (t + 1) toks (run ++ [all.getD t 0])
       else encFV all f (t + (best all t).2) (toks ++ litz run ++ [(124 + (best all t).2 : Int)] ++ putsF 1 (best all t).1) [])
    else toks ++ litz run
theorem encF_V (all : List Int) : ∀ (f t : Nat) (toks run : List Int), encF all f t toks run = encFV all f t toks run
  | 0, t, toks, run => rfl
  | f + 1, t, toks, run => by
    rw [encF, encFV]
    by_cases h0 : (best all t).2 = 0
    · rw [if_pos h0, if_pos h0, encF_V all f]
    · have := best_ok h0
      rw [if_neg h0, if_neg h0, encF_V all f, puts_F 1 (best all t).1 (by omega)]
def encDV (dict b : List Int) : List Int := encFV (dict ++ b) b.length dict.length [] []
theorem encD_V (dict b : List Int) : encD dict b = encDV dict b := encF_V _ _ _ _ _
abbrev X1 : List Int := [97, 98, 99, 97, 98, 99, 97, 98, 99, 100]
abbrev X2 : List Int := [97, 98, 99, 100]
abbrev X3 : List (List Int) := [[1, 2, 3, 4, 5, 6, 7, 8], [9, 10, 11, 12, 13, 14, 15, 16]]
abbrev Y1 : List Int := [3, 97, 98, 99, 130, 3, 1, 100]
abbrev Y3 : List Int := [0, 1, 2, 3, 4, 5, 6, 7, 8, 9, 10, 11, 12, 13, 14, 15, 16]
theorem exd1 : encD [] X1 = Y1 := (encD_V _ _).trans (by decide +kernel)
theorem exd2 : encD X2 X2 = [128, 4] := (encD_V _ _).trans (by decide +kernel)
theorem exd3 : decD [] [128, 1] 100 = .error 3 := by kernel_rfl
theorem exd4 : decD [] [2, 97] 100 = .error 10 := by kernel_rfl
theorem exd5 : packD [] X3 = Y3 := by
  unfold packD
  rw [encD_V, enc_V _ (by decide)]
  decide +kernel
end Go.Proofs.Ytocgpllmfdnfjaa

/- Layer 6's examples. -/
namespace Go.Proofs.Ytocgpllmfdnfjaa
open Go.RowKit Go.Shelf
theorem X3_W8 : W8 X3 := by intro y hy; simp only [X3, List.mem_cons, List.not_mem_nil, or_false] at hy; rcases hy with rfl | rfl <;> rfl
set_option maxRecDepth 40000 in
set_option maxHeartbeats 1000000 in
theorem awake_c (own : Nat → Prop) (W : World) (hl : ∀ b, own b → b < W.heap.size) : Calls Try.prog 12 ⟨[]⟩ W (Ret W fun v _ => v = .bool true) := by
  have hM := Mm.start hl
  refine f_start Try.func12 rfl Try.ntmps12 rfl rfl ?_; intro a hF
  (repeat (first | (with_reducible refine w_seq ?_) | (with_reducible refine c_region ?_) | (with_reducible refine s_nil ?_) | (with_reducible refine q_then_n ?_) | ((with_reducible apply s_pure hF); exact rfl; exact rfl; exact rfl; (first | exact trivial | omega | exact ⟨Int.natCast_nonneg _, Int.ofNat_lt.2 (by assumption)⟩ | decide); clear hF a; intro a hF) | ((with_reducible apply s_lit hF hM); exact rfl; exact rfl; exact rfl; exact rfl; clear hF hM a; intro bl w a hM hF)))
  apply s_cnvB X1 hF hM
  iterate 6 exact rfl
  clear hF hM a
  intro w a hM hF
  (repeat (first | fail))
  (((with_reducible apply s_call (f := 14) hF hM); exact rfl; exact rfl; exact rfl; exact rfl; exact rfl; exact (EncodeD_e RdF.nil (hM.facts _ (by with_reducible (repeat (first | exact List.mem_cons_self | refine List.mem_cons_of_mem _ ?_)); all_goals fail)) (by exact exd1) (by exact rfl) (by exact rfl) (by decide) hM.lt); clear hF hM a; rintro v w a ⟨a', c', rfl, hc, hx⟩ - hM hF; replace hM := hM.addFact hx))
  (repeat (first | (with_reducible refine w_seq ?_) | (with_reducible refine c_region ?_) | (with_reducible refine s_nil ?_) | (with_reducible refine q_then_n ?_) | ((with_reducible apply s_pure hF); exact rfl; exact rfl; exact rfl; (first | exact trivial | omega | exact ⟨Int.natCast_nonneg _, Int.ofNat_lt.2 (by assumption)⟩ | decide); clear hF a; intro a hF) | ((with_reducible apply s_lit hF hM); exact rfl; exact rfl; exact rfl; exact rfl; clear hF hM a; intro bl w a hM hF)))
  apply s_cnvB X2 hF hM
  iterate 6 exact rfl
  clear hF hM a
  intro w a hM hF
  (repeat (first | ((with_reducible apply s_lit hF hM); exact rfl; exact rfl; exact rfl; exact rfl; clear hF hM a; intro bl w a hM hF)))
  apply s_cnvB X2 hF hM
  iterate 6 exact rfl
  clear hF hM a
  intro w a hM hF
  (repeat (first | fail))
  (((with_reducible apply s_call (f := 14) hF hM); exact rfl; exact rfl; exact rfl; exact rfl; exact rfl; exact (EncodeD_e (hM.facts _ (by with_reducible (repeat (first | exact List.mem_cons_self | refine List.mem_cons_of_mem _ ?_)); all_goals fail)) (hM.facts _ (by with_reducible (repeat (first | exact List.mem_cons_self | refine List.mem_cons_of_mem _ ?_)); all_goals fail)) (by exact exd2) (by exact rfl) (by exact rfl) (by decide) hM.lt); clear hF hM a; rintro v w a ⟨a', c', rfl, hc, hx⟩ - hM hF; replace hM := hM.addFact hx))
  (repeat (first | (with_reducible refine w_seq ?_) | (with_reducible refine c_region ?_) | (with_reducible refine s_nil ?_) | (with_reducible refine q_then_n ?_) | ((with_reducible apply s_pure hF); exact rfl; exact rfl; exact rfl; (first | exact trivial | omega | exact ⟨Int.natCast_nonneg _, Int.ofNat_lt.2 (by assumption)⟩ | decide); clear hF a; intro a hF) | ((with_reducible apply s_lit hF hM); exact rfl; exact rfl; exact rfl; exact rfl; clear hF hM a; intro bl w a hM hF)))
  replace hM := Mm.freeze hM
  replace hM := hM.addFact (Has.lit (hM.facts _ List.mem_cons_self) ([128, 1] : List Int) rfl)
  (repeat (first | fail))
  (((with_reducible apply s_call (f := 16) hF hM); exact rfl; exact rfl; exact rfl; exact rfl; exact rfl; exact (DecodeD_err RdF.nil (hM.facts _ (by with_reducible (repeat (first | exact List.mem_cons_self | refine List.mem_cons_of_mem _ ?_)); all_goals fail)) (by exact exd3) (By_dec (by exact rfl)) (by exact rfl) (by exact rfl) (by decide) (by decide) (by decide) hM.lt); clear hF hM a; rintro v w a rfl - hM hF))
  (repeat (first | (with_reducible refine w_seq ?_) | (with_reducible refine c_region ?_) | (with_reducible refine s_nil ?_) | (with_reducible refine q_then_n ?_) | ((with_reducible apply s_pure hF); exact rfl; exact rfl; exact rfl; (first | exact trivial | omega | exact ⟨Int.natCast_nonneg _, Int.ofNat_lt.2 (by assumption)⟩ | decide); clear hF a; intro a hF) | ((with_reducible apply s_lit hF hM); exact rfl; exact rfl; exact rfl; exact rfl; clear hF hM a; intro bl w a hM hF)))
  replace hM := Mm.freeze hM
  replace hM := hM.addFact (Has.lit (hM.facts _ List.mem_cons_self) ([2, 97] : List Int) rfl)
  (repeat (first | fail))
  (((with_reducible apply s_call (f := 16) hF hM); exact rfl; exact rfl; exact rfl; exact rfl; exact rfl; exact (DecodeD_err RdF.nil (hM.facts _ (by with_reducible (repeat (first | exact List.mem_cons_self | refine List.mem_cons_of_mem _ ?_)); all_goals fail)) (by exact exd4) (By_dec (by exact rfl)) (by exact rfl) (by exact rfl) (by decide) (by decide) (by decide) hM.lt); clear hF hM a; rintro v w a rfl - hM hF))
  (repeat (first | (with_reducible refine w_seq ?_) | (with_reducible refine c_region ?_) | (with_reducible refine s_nil ?_) | (with_reducible refine q_then_n ?_) | ((with_reducible apply s_pure hF); exact rfl; exact rfl; exact rfl; (first | exact trivial | omega | exact ⟨Int.natCast_nonneg _, Int.ofNat_lt.2 (by assumption)⟩ | decide); clear hF a; intro a hF) | ((with_reducible apply s_lit hF hM); exact rfl; exact rfl; exact rfl; exact rfl; clear hF hM a; intro bl w a hM hF)))
  replace hM := Mm.freeze hM
  replace hM := hM.addFact (Has.lit (hM.facts _ List.mem_cons_self) X3.flatten rfl)
  have hy0 : Y3[((0 : Int)).toNat]? = some 0 := rfl
  (repeat (first | fail))
  (((with_reducible apply s_call (f := 18) hF hM); exact rfl; exact rfl; exact rfl; exact rfl; exact rfl; exact (Pack_e RdF.nil (hM.facts _ (by with_reducible (repeat (first | exact List.mem_cons_self | refine List.mem_cons_of_mem _ ?_)); all_goals fail)) (by exact exd5) X3_W8 (by exact rfl) (by exact rfl) (by decide) (by decide) hM.lt); clear hF hM a; rintro v w a ⟨aP, cP, rfl, hcP, hx⟩ - hM hF; replace hM := hM.addFact hx))
  (repeat (first | (with_reducible refine w_seq ?_) | (with_reducible refine c_region ?_) | (with_reducible refine s_nil ?_) | (with_reducible refine q_then_n ?_) | ((with_reducible apply s_pure hF); exact rfl; exact rfl; exact rfl; (first | exact trivial | omega | exact ⟨Int.natCast_nonneg _, Int.ofNat_lt.2 (by assumption)⟩ | decide); clear hF a; intro a hF) | ((with_reducible apply s_lit hF hM); exact rfl; exact rfl; exact rfl; exact rfl; clear hF hM a; intro bl w a hM hF)))
  replace hM := Mm.freeze hM
  replace hM := hM.addFact (Has.lit (hM.facts _ List.mem_cons_self) Y1 rfl)
  obtain ⟨adP, rfl⟩ : ∃ ad, aP = some ad := rd_some hM (enc := Value.int .u8) (xs := Y3) (by (repeat (first | exact List.mem_cons_self | refine List.mem_cons_of_mem _ ?_))) (k := 0) rfl
  (repeat (first | fail))
  (((with_reducible apply s_call (f := 13) hF hM); exact rfl; exact rfl; exact rfl; exact rfl; exact rfl; exact (Equal_t (hM.facts _ (by with_reducible (repeat (first | exact List.mem_cons_self | refine List.mem_cons_of_mem _ ?_)); all_goals fail)) (hM.facts _ (by with_reducible (repeat (first | exact List.mem_cons_self | refine List.mem_cons_of_mem _ ?_)); all_goals fail)) (By_dec (by exact rfl)) (by exact rfl) (by exact rfl) hM.lt); clear hF hM a; rintro v w a rfl - hM hF))
  (repeat (first | ((with_reducible apply s_pure hF); exact rfl; exact rfl; exact rfl; (first | exact trivial | omega | exact ⟨Int.natCast_nonneg _, Int.ofNat_lt.2 (by assumption)⟩ | decide); clear hF a; intro a hF) | ((with_reducible apply s_lit hF hM); exact rfl; exact rfl; exact rfl; exact rfl; clear hF hM a; intro bl w a hM hF)))
  replace hM := Mm.freeze hM
  replace hM := hM.addFact (Has.lit (hM.facts _ List.mem_cons_self) ([128, 4] : List Int) rfl)
  (repeat (first | fail))
  (((with_reducible apply s_call (f := 13) hF hM); exact rfl; exact rfl; exact rfl; exact rfl; exact rfl; exact (Equal_t (hM.facts _ (by with_reducible (repeat (first | exact List.mem_cons_self | refine List.mem_cons_of_mem _ ?_)); all_goals fail)) (hM.facts _ (by with_reducible (repeat (first | exact List.mem_cons_self | refine List.mem_cons_of_mem _ ?_)); all_goals fail)) (By_dec (by exact rfl)) (by exact rfl) (by exact rfl) hM.lt); clear hF hM a; rintro v w a rfl - hM hF))
  (repeat (first | (with_reducible refine s_nil ?_) | (with_reducible refine q_then_n ?_) | ((with_reducible apply s_pure hF); exact rfl; exact rfl; exact rfl; (first | exact trivial | omega | exact ⟨Int.natCast_nonneg _, Int.ofNat_lt.2 (by assumption)⟩ | decide); clear hF a; intro a hF) | ((with_reducible apply s_loadF hF hM); exact rfl; exact rfl; (repeat (first | exact List.mem_cons_self | refine List.mem_cons_of_mem _ ?_)); exact rfl; exact rfl; (first | with_reducible assumption | (simp only [Int.toNat_natCast]; with_reducible assumption)); clear hF a; intro a hF) | (with_reducible refine w_ret ?_)))
  (apply f_ret Try.results12 hF hM; (repeat (first | exact RL.nil | (apply RL.tmp; exact rfl) | (apply RL.cell; exact rfl; (repeat (first | exact List.mem_cons_self | refine List.mem_cons_of_mem _ ?_)); exact rfl))); refine Ret.mk hM.since ?_; dsimp only [resV])
  rfl
end Go.Proofs.Ytocgpllmfdnfjaa

/- Layer 6's laws of equal results. -/
namespace Go.Proofs.Ytocgpllmfdnfjaa
open Go.RowKit Go.Shelf
theorem By_nil : By [] := fun _ h => by cases h
section
variable (dict b : List Int) (hd : By dict) (hb : By b) (a1 a2 : Option Addr) (c1 c2 : Nat) (hc1 : dict.length ≤ c1) (hc2 : b.length ≤ c2) (hdl : dict.length ≤ 9223372036854775807) (hbl : b.length ≤ 9223372036854775807) (W : World) (hv1 : Has (fun _ => False) W (RdF (Value.int .u8) a1 dict)) (hv2 : Has (fun _ => False) W (RdF (Value.int .u8) a2 b))
include hd hb hc1 hc2 hdl hbl hv1 hv2
set_option maxRecDepth 20000 in
theorem encodes_c : Calls Try.prog 3 ⟨[.slice a1 dict.length c1, .slice a2 b.length c2]⟩ W (Ret W fun x _ => x = .bool true) := by
  have hM := ((Mm.start (fun _ h => h.elim)).known hv1).known hv2
  refine f_start Try.func3 rfl Try.ntmps3 rfl rfl ?_; intro a hF
  (repeat (first | (with_reducible refine w_seq ?_) | (with_reducible refine c_region ?_) | (with_reducible refine s_nil ?_) | (with_reducible refine q_then_n ?_) | ((with_reducible apply s_pure hF); exact rfl; exact rfl; exact rfl; (first | exact trivial | omega | exact ⟨Int.natCast_nonneg _, Int.ofNat_lt.2 (by assumption)⟩ | decide); clear hF a; intro a hF) | ((with_reducible apply s_lit hF hM); exact rfl; exact rfl; exact rfl; exact rfl; clear hF hM a; intro bl w a hM hF)))
  replace hM := Mm.freeze hM
  replace hM := hM.addFact (Has.lit (enc := slV) (hM.facts _ List.mem_cons_self) [(a1, dict.length, c1), (a2, b.length, c2)] rfl)
  by_cases hs : dict.length ≤ 400 ∧ b.length ≤ 400
  case neg =>
    have hsa : ([(a1, dict.length, c1), (a2, b.length, c2)] : List (Option Addr × Nat × Nat)).all (fun p => decide (p.2.1 ≤ 400)) = false := by
      rw [Bool.eq_false_iff]
      intro h
      simp at h
      omega
    have hps : ∀ p ∈ ([(a1, dict.length, c1), (a2, b.length, c2)] : List (Option Addr × Nat × Nat)), p.2.1 ≤ 9223372036854775807 := by simp; omega
    (((with_reducible apply s_call (f := 11) hF hM); exact rfl; exact rfl; exact rfl; exact rfl; exact rfl; exact (small_n (hM.facts _ (by with_reducible (repeat (first | exact List.mem_cons_self | refine List.mem_cons_of_mem _ ?_)); all_goals fail)) (by decide) hps hsa rfl hM.lt); clear hF hM a; rintro v w a rfl - hM hF))
    (repeat' (first | (with_reducible refine w_seq ?_) | (with_reducible refine c_region ?_) | (with_reducible refine s_nil ?_) | ((with_reducible apply s_call (f := 12) hF hM); exact rfl; exact rfl; exact rfl; exact rfl; exact rfl; exact (awake_c _ _ hM.lt); clear hF hM a; rintro v w a rfl - hM hF) | (with_reducible refine q_then_n ?_) | ((with_reducible apply s_pure hF); exact rfl; exact rfl; exact rfl; (first | exact trivial | omega | exact ⟨Int.natCast_nonneg _, Int.ofNat_lt.2 (by assumption)⟩ | decide); clear hF a; intro a hF) | (with_reducible refine w_ret ?_) | (with_reducible refine q_then_r ?_) | ((with_reducible apply c_true2 hF); exact rfl; (first | with_reducible rfl | (refine congrArg Value.bool ?_; focus (simp; done))))))
    all_goals (apply f_ret Try.results3 hF hM; (repeat (first | exact RL.nil | (apply RL.tmp; exact rfl) | (apply RL.cell; exact rfl; (repeat (first | exact List.mem_cons_self | refine List.mem_cons_of_mem _ ?_)); exact rfl))); refine Ret.mk hM.since ?_; dsimp only [resV])
  obtain ⟨hs1, hs2⟩ := hs
  have hsa : ([(a1, dict.length, c1), (a2, b.length, c2)] : List (Option Addr × Nat × Nat)).all (fun p => decide (p.2.1 ≤ 400)) = true := by simp [hs1, hs2]
  (((with_reducible apply s_call (f := 11) hF hM); exact rfl; exact rfl; exact rfl; exact rfl; exact rfl; exact (small_t (hM.facts _ (by with_reducible (repeat (first | exact List.mem_cons_self | refine List.mem_cons_of_mem _ ?_)); all_goals fail)) (by decide) hsa rfl hM.lt); clear hF hM a; rintro v w a rfl - hM hF))
  (repeat' (first | (with_reducible refine w_seq ?_) | (with_reducible refine c_region ?_) | (with_reducible refine s_nil ?_) | ((with_reducible apply s_call (f := 12) hF hM); exact rfl; exact rfl; exact rfl; exact rfl; exact rfl; exact (awake_c _ _ hM.lt); clear hF hM a; rintro v w a rfl - hM hF) | ((with_reducible apply s_call (f := 14) hF hM); exact rfl; exact rfl; exact rfl; exact rfl; exact rfl; exact (EncodeD_f (hM.facts (RdF (Value.int .u8) a1 dict) (by with_reducible (repeat (first | exact List.mem_cons_self | refine List.mem_cons_of_mem _ ?_)); all_goals fail)) (hM.facts (RdF (Value.int .u8) a2 b) (by with_reducible (repeat (first | exact List.mem_cons_self | refine List.mem_cons_of_mem _ ?_)); all_goals fail)) rfl rfl ⟨by omega, by omega⟩ hM.lt); clear hF hM a; rintro v w a ⟨a', c', rfl, hc, hx⟩ - hM hF; replace hM := hM.addFact hx) | ((with_reducible apply s_call (f := 15) hF hM); exact rfl; exact rfl; exact rfl; exact rfl; exact rfl; exact (EncodeDR_f (hM.facts (RdF (Value.int .u8) a1 dict) (by with_reducible (repeat (first | exact List.mem_cons_self | refine List.mem_cons_of_mem _ ?_)); all_goals fail)) (hM.facts (RdF (Value.int .u8) a2 b) (by with_reducible (repeat (first | exact List.mem_cons_self | refine List.mem_cons_of_mem _ ?_)); all_goals fail)) rfl rfl ⟨by omega, by omega⟩ hM.lt); clear hF hM a; rintro v w a ⟨a', c', rfl, hc, hx⟩ - hM hF; replace hM := hM.addFact hx) | ((with_reducible apply s_call (f := 13) hF hM); exact rfl; exact rfl; exact rfl; exact rfl; exact rfl; exact (Equal_t (hM.facts _ (by with_reducible (repeat (first | exact List.mem_cons_self | refine List.mem_cons_of_mem _ ?_)); all_goals fail)) (hM.facts _ (by with_reducible (repeat (first | exact List.mem_cons_self | refine List.mem_cons_of_mem _ ?_)); all_goals fail)) (encD_By hd hb) rfl rfl hM.lt); clear hF hM a; rintro v w a rfl - hM hF) | (with_reducible refine q_then_n ?_) | ((with_reducible apply s_pure hF); exact rfl; exact rfl; exact rfl; (first | exact trivial | omega | exact ⟨Int.natCast_nonneg _, Int.ofNat_lt.2 (by assumption)⟩ | decide); clear hF a; intro a hF) | (with_reducible refine w_skip ?_) | (with_reducible refine w_ret ?_) | ((with_reducible apply c_false2 hF); exact rfl; (first | with_reducible rfl | (refine congrArg Value.bool ?_; focus (simp; done))))))
  all_goals (apply f_ret Try.results3 hF hM; (repeat (first | exact RL.nil | (apply RL.tmp; exact rfl) | (apply RL.cell; exact rfl; (repeat (first | exact List.mem_cons_self | refine List.mem_cons_of_mem _ ?_)); exact rfl))); refine Ret.mk hM.since ?_; dsimp only [resV])
set_option maxRecDepth 20000 in
theorem decodes_c (most : Int) (hm : most ≤ 9223372036854775807 ∧ -9223372036854775808 ≤ most) : Calls Try.prog 4 ⟨[.slice a1 dict.length c1, .slice a2 b.length c2, .int .i64 most]⟩ W (Ret W fun x _ => x = .bool true) := by
  have hM := ((Mm.start (fun _ h => h.elim)).known hv1).known hv2
  refine f_start Try.func4 rfl Try.ntmps4 rfl rfl ?_; intro a hF
  (repeat (first | (with_reducible refine w_seq ?_) | (with_reducible refine c_region ?_) | (with_reducible refine s_nil ?_) | (with_reducible refine q_then_n ?_) | ((with_reducible apply s_pure hF); exact rfl; exact rfl; exact rfl; (first | exact trivial | omega | exact ⟨Int.natCast_nonneg _, Int.ofNat_lt.2 (by assumption)⟩ | decide); clear hF a; intro a hF) | ((with_reducible apply s_lit hF hM); exact rfl; exact rfl; exact rfl; exact rfl; clear hF hM a; intro bl w a hM hF)))
  replace hM := Mm.freeze hM
  replace hM := hM.addFact (Has.lit (enc := slV) (hM.facts _ List.mem_cons_self) [(a1, dict.length, c1), (a2, b.length, c2)] rfl)
  by_cases hs : dict.length ≤ 400 ∧ b.length ≤ 400
  case neg =>
    have hsa : ([(a1, dict.length, c1), (a2, b.length, c2)] : List (Option Addr × Nat × Nat)).all (fun p => decide (p.2.1 ≤ 400)) = false := by
      rw [Bool.eq_false_iff]
      intro h
      simp at h
      omega
    have hps : ∀ p ∈ ([(a1, dict.length, c1), (a2, b.length, c2)] : List (Option Addr × Nat × Nat)), p.2.1 ≤ 9223372036854775807 := by simp; omega
    (((with_reducible apply s_call (f := 11) hF hM); exact rfl; exact rfl; exact rfl; exact rfl; exact rfl; exact (small_n (hM.facts _ (by with_reducible (repeat (first | exact List.mem_cons_self | refine List.mem_cons_of_mem _ ?_)); all_goals fail)) (by decide) hps hsa rfl hM.lt); clear hF hM a; rintro v w a rfl - hM hF))
    (repeat' (first | (with_reducible refine w_seq ?_) | (with_reducible refine c_region ?_) | (with_reducible refine s_nil ?_) | ((with_reducible apply s_call (f := 12) hF hM); exact rfl; exact rfl; exact rfl; exact rfl; exact rfl; exact (awake_c _ _ hM.lt); clear hF hM a; rintro v w a rfl - hM hF) | (with_reducible refine q_then_n ?_) | ((with_reducible apply s_pure hF); exact rfl; exact rfl; exact rfl; (first | exact trivial | omega | exact ⟨Int.natCast_nonneg _, Int.ofNat_lt.2 (by assumption)⟩ | decide); clear hF a; intro a hF) | (with_reducible refine w_ret ?_) | (with_reducible refine q_then_r ?_) | ((with_reducible apply c_true2 hF); exact rfl; (first | with_reducible rfl | (refine congrArg Value.bool ?_; focus (simp; done)))) | ((with_reducible apply s_skip hF); exact rfl; exact rfl; clear hF a; intro a hF)))
    all_goals (apply f_ret Try.results4 hF hM; (repeat (first | exact RL.nil | (apply RL.tmp; exact rfl) | (apply RL.cell; exact rfl; (repeat (first | exact List.mem_cons_self | refine List.mem_cons_of_mem _ ?_)); exact rfl))); refine Ret.mk hM.since ?_; dsimp only [resV])
  obtain ⟨hs1, hs2⟩ := hs
  have hsa : ([(a1, dict.length, c1), (a2, b.length, c2)] : List (Option Addr × Nat × Nat)).all (fun p => decide (p.2.1 ≤ 400)) = true := by simp [hs1, hs2]
  (((with_reducible apply s_call (f := 11) hF hM); exact rfl; exact rfl; exact rfl; exact rfl; exact rfl; exact (small_t (hM.facts _ (by with_reducible (repeat (first | exact List.mem_cons_self | refine List.mem_cons_of_mem _ ?_)); all_goals fail)) (by decide) hsa rfl hM.lt); clear hF hM a; rintro v w a rfl - hM hF))
  cases he : decD dict b most with
  | error e =>
    (repeat' (first | (with_reducible refine w_seq ?_) | (with_reducible refine c_region ?_) | (with_reducible refine s_nil ?_) | ((with_reducible apply s_call (f := 12) hF hM); exact rfl; exact rfl; exact rfl; exact rfl; exact rfl; exact (awake_c _ _ hM.lt); clear hF hM a; rintro v w a rfl - hM hF) | ((with_reducible apply s_call (f := 16) hF hM); exact rfl; exact rfl; exact rfl; exact rfl; exact rfl; exact (DecodeD_err (hM.facts (RdF (Value.int .u8) a1 dict) (by with_reducible (repeat (first | exact List.mem_cons_self | refine List.mem_cons_of_mem _ ?_)); all_goals fail)) (hM.facts (RdF (Value.int .u8) a2 b) (by with_reducible (repeat (first | exact List.mem_cons_self | refine List.mem_cons_of_mem _ ?_)); all_goals fail)) he hb rfl rfl ⟨by omega, by omega⟩ hm hc2 hM.lt); clear hF hM a; rintro v w a rfl - hM hF) | ((with_reducible apply s_call (f := 17) hF hM); exact rfl; exact rfl; exact rfl; exact rfl; exact rfl; exact (DecodeDR_err (hM.facts (RdF (Value.int .u8) a1 dict) (by with_reducible (repeat (first | exact List.mem_cons_self | refine List.mem_cons_of_mem _ ?_)); all_goals fail)) (hM.facts (RdF (Value.int .u8) a2 b) (by with_reducible (repeat (first | exact List.mem_cons_self | refine List.mem_cons_of_mem _ ?_)); all_goals fail)) he hb rfl rfl ⟨by omega, by omega⟩ hm hc2 hM.lt); clear hF hM a; rintro v w a rfl - hM hF) | ((with_reducible apply s_call (f := 13) hF hM); exact rfl; exact rfl; exact rfl; exact rfl; exact rfl; exact (Equal_t (xs := []) RdF.nil RdF.nil By_nil rfl rfl hM.lt); clear hF hM a; rintro v w a rfl - hM hF) | (with_reducible refine q_then_n ?_) | ((with_reducible apply s_pure hF); exact rfl; exact rfl; exact rfl; (first | exact trivial | omega | exact ⟨Int.natCast_nonneg _, Int.ofNat_lt.2 (by assumption)⟩ | decide); clear hF a; intro a hF) | (with_reducible refine w_skip ?_) | (with_reducible refine w_ret ?_) | (with_reducible refine q_then_r ?_) | ((with_reducible apply c_dec hF); exact rfl; all_goals intro hc; all_goals (try (exfalso; omega)))))
    all_goals (apply f_ret Try.results4 hF hM; (repeat (first | exact RL.nil | (apply RL.tmp; exact rfl) | (apply RL.cell; exact rfl; (repeat (first | exact List.mem_cons_self | refine List.mem_cons_of_mem _ ?_)); exact rfl))); refine Ret.mk hM.since ?_; dsimp only [resV])
    all_goals simp
  | ok r =>
    have hr := decD_By hd hb he
    (repeat' (first | (with_reducible refine w_seq ?_) | (with_reducible refine c_region ?_) | (with_reducible refine s_nil ?_) | ((with_reducible apply s_call (f := 12) hF hM); exact rfl; exact rfl; exact rfl; exact rfl; exact rfl; exact (awake_c _ _ hM.lt); clear hF hM a; rintro v w a rfl - hM hF) | ((with_reducible apply s_call (f := 16) hF hM); exact rfl; exact rfl; exact rfl; exact rfl; exact rfl; exact (DecodeD_ok (hM.facts (RdF (Value.int .u8) a1 dict) (by with_reducible (repeat (first | exact List.mem_cons_self | refine List.mem_cons_of_mem _ ?_)); all_goals fail)) (hM.facts (RdF (Value.int .u8) a2 b) (by with_reducible (repeat (first | exact List.mem_cons_self | refine List.mem_cons_of_mem _ ?_)); all_goals fail)) he hb rfl rfl ⟨by omega, by omega⟩ hm hc2 hM.lt); clear hF hM a; rintro v w a ⟨a', c', rfl, hc, hx⟩ - hM hF; replace hM := hM.addFact hx) | ((with_reducible apply s_call (f := 17) hF hM); exact rfl; exact rfl; exact rfl; exact rfl; exact rfl; exact (DecodeDR_ok (hM.facts (RdF (Value.int .u8) a1 dict) (by with_reducible (repeat (first | exact List.mem_cons_self | refine List.mem_cons_of_mem _ ?_)); all_goals fail)) (hM.facts (RdF (Value.int .u8) a2 b) (by with_reducible (repeat (first | exact List.mem_cons_self | refine List.mem_cons_of_mem _ ?_)); all_goals fail)) he hb rfl rfl ⟨by omega, by omega⟩ hm hc2 hM.lt); clear hF hM a; rintro v w a ⟨a', c', rfl, hc, hx⟩ - hM hF; replace hM := hM.addFact hx) | ((with_reducible apply s_call (f := 13) hF hM); exact rfl; exact rfl; exact rfl; exact rfl; exact rfl; exact (Equal_t (hM.facts _ (by with_reducible (repeat (first | exact List.mem_cons_self | refine List.mem_cons_of_mem _ ?_)); all_goals fail)) (hM.facts _ (by with_reducible (repeat (first | exact List.mem_cons_self | refine List.mem_cons_of_mem _ ?_)); all_goals fail)) hr rfl rfl hM.lt); clear hF hM a; rintro v w a rfl - hM hF) | (with_reducible refine q_then_n ?_) | ((with_reducible apply s_pure hF); exact rfl; exact rfl; exact rfl; (first | exact trivial | omega | exact ⟨Int.natCast_nonneg _, Int.ofNat_lt.2 (by assumption)⟩ | decide); clear hF a; intro a hF) | (with_reducible refine w_skip ?_) | (with_reducible refine w_ret ?_) | (with_reducible refine q_then_r ?_) | ((with_reducible apply c_dec hF); exact rfl; all_goals intro hc; all_goals (try (exfalso; omega)))))
    all_goals (apply f_ret Try.results4 hF hM; (repeat (first | exact RL.nil | (apply RL.tmp; exact rfl) | (apply RL.cell; exact rfl; (repeat (first | exact List.mem_cons_self | refine List.mem_cons_of_mem _ ?_)); exact rfl))); refine Ret.mk hM.since ?_; dsimp only [resV])
    all_goals simp
set_option maxRecDepth 20000 in
theorem returns_c : Calls Try.prog 6 ⟨[.slice a1 dict.length c1, .slice a2 b.length c2]⟩ W (Ret W fun x _ => x = .bool true) := by
  have hM := ((Mm.start (fun _ h => h.elim)).known hv1).known hv2
  refine f_start Try.func6 rfl Try.ntmps6 rfl rfl ?_; intro a hF
  (repeat (first | (with_reducible refine w_seq ?_) | (with_reducible refine c_region ?_) | (with_reducible refine s_nil ?_) | (with_reducible refine q_then_n ?_) | ((with_reducible apply s_pure hF); exact rfl; exact rfl; exact rfl; (first | exact trivial | omega | exact ⟨Int.natCast_nonneg _, Int.ofNat_lt.2 (by assumption)⟩ | decide); clear hF a; intro a hF) | ((with_reducible apply s_lit hF hM); exact rfl; exact rfl; exact rfl; exact rfl; clear hF hM a; intro bl w a hM hF)))
  replace hM := Mm.freeze hM
  replace hM := hM.addFact (Has.lit (enc := slV) (hM.facts _ List.mem_cons_self) [(a1, dict.length, c1), (a2, b.length, c2)] rfl)
  by_cases hs : dict.length ≤ 400 ∧ b.length ≤ 400
  case neg =>
    have hsa : ([(a1, dict.length, c1), (a2, b.length, c2)] : List (Option Addr × Nat × Nat)).all (fun p => decide (p.2.1 ≤ 400)) = false := by
      rw [Bool.eq_false_iff]
      intro h
      simp at h
      omega
    have hps : ∀ p ∈ ([(a1, dict.length, c1), (a2, b.length, c2)] : List (Option Addr × Nat × Nat)), p.2.1 ≤ 9223372036854775807 := by simp; omega
    (((with_reducible apply s_call (f := 11) hF hM); exact rfl; exact rfl; exact rfl; exact rfl; exact rfl; exact (small_n (hM.facts _ (by with_reducible (repeat (first | exact List.mem_cons_self | refine List.mem_cons_of_mem _ ?_)); all_goals fail)) (by decide) hps hsa rfl hM.lt); clear hF hM a; rintro v w a rfl - hM hF))
    (repeat' (first | (with_reducible refine w_seq ?_) | (with_reducible refine c_region ?_) | (with_reducible refine s_nil ?_) | ((with_reducible apply s_call (f := 12) hF hM); exact rfl; exact rfl; exact rfl; exact rfl; exact rfl; exact (awake_c _ _ hM.lt); clear hF hM a; rintro v w a rfl - hM hF) | (with_reducible refine q_then_n ?_) | ((with_reducible apply s_pure hF); exact rfl; exact rfl; exact rfl; (first | exact trivial | omega | exact ⟨Int.natCast_nonneg _, Int.ofNat_lt.2 (by assumption)⟩ | decide); clear hF a; intro a hF) | (with_reducible refine w_ret ?_) | (with_reducible refine q_then_r ?_) | ((with_reducible apply c_true2 hF); exact rfl; (first | with_reducible rfl | (refine congrArg Value.bool ?_; focus (simp; done))))))
    all_goals (apply f_ret Try.results6 hF hM; (repeat (first | exact RL.nil | (apply RL.tmp; exact rfl) | (apply RL.cell; exact rfl; (repeat (first | exact List.mem_cons_self | refine List.mem_cons_of_mem _ ?_)); exact rfl))); refine Ret.mk hM.since ?_; dsimp only [resV])
  obtain ⟨hs1, hs2⟩ := hs
  have hsa : ([(a1, dict.length, c1), (a2, b.length, c2)] : List (Option Addr × Nat × Nat)).all (fun p => decide (p.2.1 ≤ 400)) = true := by simp [hs1, hs2]
  (((with_reducible apply s_call (f := 11) hF hM); exact rfl; exact rfl; exact rfl; exact rfl; exact rfl; exact (small_t (hM.facts _ (by with_reducible (repeat (first | exact List.mem_cons_self | refine List.mem_cons_of_mem _ ?_)); all_goals fail)) (by decide) hsa rfl hM.lt); clear hF hM a; rintro v w a rfl - hM hF))
  have he := decD_encD dict b (most := b.length) (Int.le_refl _)
  have hle := encD_len dict b
  have hbe := encD_By hd hb
  by_cases h0 : b.length = 0
  · (repeat' (first | (with_reducible refine w_seq ?_) | (with_reducible refine c_region ?_) | (with_reducible refine s_nil ?_) | ((with_reducible apply s_call (f := 14) hF hM); exact rfl; exact rfl; exact rfl; exact rfl; exact rfl; exact (EncodeD_f (hM.facts (RdF (Value.int .u8) a1 dict) (by with_reducible (repeat (first | exact List.mem_cons_self | refine List.mem_cons_of_mem _ ?_)); all_goals fail)) (hM.facts (RdF (Value.int .u8) a2 b) (by with_reducible (repeat (first | exact List.mem_cons_self | refine List.mem_cons_of_mem _ ?_)); all_goals fail)) rfl rfl ⟨by omega, by omega⟩ hM.lt); clear hF hM a; rintro v w a ⟨a', c', rfl, hc, hx⟩ - hM hF; replace hM := hM.addFact hx) | ((with_reducible apply s_call (f := 16) hF hM); exact rfl; exact rfl; exact rfl; exact rfl; exact rfl; exact (DecodeD_ok (hM.facts (RdF (Value.int .u8) a1 dict) (by with_reducible (repeat (first | exact List.mem_cons_self | refine List.mem_cons_of_mem _ ?_)); all_goals fail)) (hM.facts (RdF (Value.int .u8) a' (encD dict b)) (by with_reducible (repeat (first | exact List.mem_cons_self | refine List.mem_cons_of_mem _ ?_)); all_goals fail)) he hbe rfl rfl ⟨by omega, by omega⟩ ⟨by omega, by omega⟩ hc hM.lt); clear hF hM a; rintro v w a ⟨a2', c2', rfl, hc3, hx⟩ - hM hF; replace hM := hM.addFact hx) | ((with_reducible apply s_call (f := 13) hF hM); exact rfl; exact rfl; exact rfl; exact rfl; exact rfl; exact (Equal_t (hM.facts _ (by with_reducible (repeat (first | exact List.mem_cons_self | refine List.mem_cons_of_mem _ ?_)); all_goals fail)) (hM.facts _ (by with_reducible (repeat (first | exact List.mem_cons_self | refine List.mem_cons_of_mem _ ?_)); all_goals fail)) hb rfl rfl hM.lt); clear hF hM a; rintro v w a rfl - hM hF) | ((with_reducible apply s_call (f := 12) hF hM); exact rfl; exact rfl; exact rfl; exact rfl; exact rfl; exact (awake_c _ _ hM.lt); clear hF hM a; rintro v w a rfl - hM hF) | (with_reducible refine q_then_n ?_) | ((with_reducible apply s_pure hF); exact rfl; exact rfl; exact rfl; (first | exact trivial | omega | exact ⟨Int.natCast_nonneg _, Int.ofNat_lt.2 (by assumption)⟩ | decide); clear hF a; intro a hF) | (with_reducible refine w_skip ?_) | (with_reducible refine w_ret ?_) | (with_reducible refine q_then_r ?_) | ((with_reducible apply c_false2 hF); exact rfl; (first | with_reducible rfl | (refine congrArg Value.bool ?_; focus (simp; done)))) | ((with_reducible apply c_dec hF); exact rfl; all_goals intro hc; all_goals (try (exfalso; omega)))))
    all_goals (apply f_ret Try.results6 hF hM; (repeat (first | exact RL.nil | (apply RL.tmp; exact rfl) | (apply RL.cell; exact rfl; (repeat (first | exact List.mem_cons_self | refine List.mem_cons_of_mem _ ?_)); exact rfl))); refine Ret.mk hM.since ?_; dsimp only [resV])
    all_goals simp
  · have he2 := decD_short dict b (most := b.length - 1) (by omega) (by omega)
    (repeat (first | (with_reducible refine w_seq ?_) | (with_reducible refine c_region ?_) | (with_reducible refine s_nil ?_) | ((with_reducible apply s_call (f := 14) hF hM); exact rfl; exact rfl; exact rfl; exact rfl; exact rfl; exact (EncodeD_f (hM.facts (RdF (Value.int .u8) a1 dict) (by with_reducible (repeat (first | exact List.mem_cons_self | refine List.mem_cons_of_mem _ ?_)); all_goals fail)) (hM.facts (RdF (Value.int .u8) a2 b) (by with_reducible (repeat (first | exact List.mem_cons_self | refine List.mem_cons_of_mem _ ?_)); all_goals fail)) rfl rfl ⟨by omega, by omega⟩ hM.lt); clear hF hM a; rintro v w a ⟨a', c', rfl, hc, hx⟩ - hM hF; replace hM := hM.addFact hx) | ((with_reducible apply s_call (f := 16) hF hM); exact rfl; exact rfl; exact rfl; exact rfl; exact rfl; exact (DecodeD_ok (hM.facts (RdF (Value.int .u8) a1 dict) (by with_reducible (repeat (first | exact List.mem_cons_self | refine List.mem_cons_of_mem _ ?_)); all_goals fail)) (hM.facts (RdF (Value.int .u8) a' (encD dict b)) (by with_reducible (repeat (first | exact List.mem_cons_self | refine List.mem_cons_of_mem _ ?_)); all_goals fail)) he hbe rfl rfl ⟨by omega, by omega⟩ ⟨by omega, by omega⟩ hc hM.lt); clear hF hM a; rintro v w a ⟨a2', c2', rfl, hc3, hx⟩ - hM hF; replace hM := hM.addFact hx) | ((with_reducible apply s_call (f := 13) hF hM); exact rfl; exact rfl; exact rfl; exact rfl; exact rfl; exact (Equal_t (hM.facts _ (by with_reducible (repeat (first | exact List.mem_cons_self | refine List.mem_cons_of_mem _ ?_)); all_goals fail)) (hM.facts _ (by with_reducible (repeat (first | exact List.mem_cons_self | refine List.mem_cons_of_mem _ ?_)); all_goals fail)) hb rfl rfl hM.lt); clear hF hM a; rintro v w a rfl - hM hF) | (with_reducible refine q_then_n ?_) | ((with_reducible apply s_pure hF); exact rfl; exact rfl; exact rfl; (first | exact trivial | omega | exact ⟨Int.natCast_nonneg _, Int.ofNat_lt.2 (by assumption)⟩ | decide); clear hF a; intro a hF) | (with_reducible refine w_skip ?_) | ((with_reducible apply c_false2 hF); exact rfl; (first | with_reducible rfl | (refine congrArg Value.bool ?_; focus (simp; done))))))
    (repeat' (first | (with_reducible refine w_seq ?_) | (with_reducible refine c_region ?_) | (with_reducible refine s_nil ?_) | ((with_reducible apply s_call (f := 14) hF hM); exact rfl; exact rfl; exact rfl; exact rfl; exact rfl; exact (EncodeD_f (hM.facts (RdF (Value.int .u8) a1 dict) (by with_reducible (repeat (first | exact List.mem_cons_self | refine List.mem_cons_of_mem _ ?_)); all_goals fail)) (hM.facts (RdF (Value.int .u8) a2 b) (by with_reducible (repeat (first | exact List.mem_cons_self | refine List.mem_cons_of_mem _ ?_)); all_goals fail)) rfl rfl ⟨by omega, by omega⟩ hM.lt); clear hF hM a; rintro v w a ⟨ae, ce, rfl, hce, hx⟩ - hM hF; replace hM := hM.addFact hx) | ((with_reducible apply s_call (f := 16) hF hM); exact rfl; exact rfl; exact rfl; exact rfl; exact rfl; exact (DecodeD_err (hM.facts (RdF (Value.int .u8) a1 dict) (by with_reducible (repeat (first | exact List.mem_cons_self | refine List.mem_cons_of_mem _ ?_)); all_goals fail)) (hM.facts (RdF (Value.int .u8) ae (encD dict b)) (by with_reducible (repeat (first | exact List.mem_cons_self | refine List.mem_cons_of_mem _ ?_)); all_goals fail)) he2 hbe rfl rfl ⟨by omega, by omega⟩ ⟨by omega, by omega⟩ hce hM.lt); clear hF hM a; rintro v w a rfl - hM hF) | ((with_reducible apply s_call (f := 12) hF hM); exact rfl; exact rfl; exact rfl; exact rfl; exact rfl; exact (awake_c _ _ hM.lt); clear hF hM a; rintro v w a rfl - hM hF) | (with_reducible refine q_then_n ?_) | ((with_reducible apply s_pure hF); exact rfl; exact rfl; exact rfl; (first | exact trivial | omega | exact ⟨Int.natCast_nonneg _, Int.ofNat_lt.2 (by assumption)⟩ | decide); clear hF a; intro a hF) | (with_reducible refine w_skip ?_) | (with_reducible refine w_ret ?_) | ((with_reducible apply c_dec hF); exact rfl; all_goals intro hc; all_goals (try (exfalso; omega)))))
    all_goals (apply f_ret Try.results6 hF hM; (repeat (first | exact RL.nil | (apply RL.tmp; exact rfl) | (apply RL.cell; exact rfl; (repeat (first | exact List.mem_cons_self | refine List.mem_cons_of_mem _ ?_)); exact rfl))); refine Ret.mk hM.since ?_; dsimp only [resV])
    all_goals simp
set_option maxRecDepth 20000 in
theorem unpacks_c (most : Int) (hm : most ≤ 9223372036854775807 ∧ -9223372036854775808 ≤ most) : Calls Try.prog 9 ⟨[.slice a1 dict.length c1, .slice a2 b.length c2, .int .i64 most]⟩ W (Ret W fun x _ => x = .bool true) := by
  have hM := ((Mm.start (fun _ h => h.elim)).known hv1).known hv2
  refine f_start Try.func9 rfl Try.ntmps9 rfl rfl ?_; intro a hF
  (repeat (first | (with_reducible refine w_seq ?_) | (with_reducible refine c_region ?_) | (with_reducible refine s_nil ?_) | (with_reducible refine q_then_n ?_) | ((with_reducible apply s_pure hF); exact rfl; exact rfl; exact rfl; (first | exact trivial | omega | exact ⟨Int.natCast_nonneg _, Int.ofNat_lt.2 (by assumption)⟩ | decide); clear hF a; intro a hF) | ((with_reducible apply s_lit hF hM); exact rfl; exact rfl; exact rfl; exact rfl; clear hF hM a; intro bl w a hM hF)))
  replace hM := Mm.freeze hM
  replace hM := hM.addFact (Has.lit (enc := slV) (hM.facts _ List.mem_cons_self) [(a1, dict.length, c1), (a2, b.length, c2)] rfl)
  by_cases hs : dict.length ≤ 400 ∧ b.length ≤ 400
  case neg =>
    have hsa : ([(a1, dict.length, c1), (a2, b.length, c2)] : List (Option Addr × Nat × Nat)).all (fun p => decide (p.2.1 ≤ 400)) = false := by
      rw [Bool.eq_false_iff]
      intro h
      simp at h
      omega
    have hps : ∀ p ∈ ([(a1, dict.length, c1), (a2, b.length, c2)] : List (Option Addr × Nat × Nat)), p.2.1 ≤ 9223372036854775807 := by simp; omega
    (((with_reducible apply s_call (f := 11) hF hM); exact rfl; exact rfl; exact rfl; exact rfl; exact rfl; exact (small_n (hM.facts _ (by with_reducible (repeat (first | exact List.mem_cons_self | refine List.mem_cons_of_mem _ ?_)); all_goals fail)) (by decide) hps hsa rfl hM.lt); clear hF hM a; rintro v w a rfl - hM hF))
    (repeat' (first | (with_reducible refine w_seq ?_) | (with_reducible refine c_region ?_) | (with_reducible refine s_nil ?_) | ((with_reducible apply s_call (f := 12) hF hM); exact rfl; exact rfl; exact rfl; exact rfl; exact rfl; exact (awake_c _ _ hM.lt); clear hF hM a; rintro v w a rfl - hM hF) | (with_reducible refine q_then_n ?_) | ((with_reducible apply s_pure hF); exact rfl; exact rfl; exact rfl; (first | exact trivial | omega | exact ⟨Int.natCast_nonneg _, Int.ofNat_lt.2 (by assumption)⟩ | decide); clear hF a; intro a hF) | (with_reducible refine w_ret ?_) | (with_reducible refine q_then_r ?_) | ((with_reducible apply c_true2 hF); exact rfl; (first | with_reducible rfl | (refine congrArg Value.bool ?_; focus (simp; done)))) | ((with_reducible apply s_skip hF); exact rfl; exact rfl; clear hF a; intro a hF)))
    all_goals (apply f_ret Try.results9 hF hM; (repeat (first | exact RL.nil | (apply RL.tmp; exact rfl) | (apply RL.cell; exact rfl; (repeat (first | exact List.mem_cons_self | refine List.mem_cons_of_mem _ ?_)); exact rfl))); refine Ret.mk hM.since ?_; dsimp only [resV])
  obtain ⟨hs1, hs2⟩ := hs
  have hsa : ([(a1, dict.length, c1), (a2, b.length, c2)] : List (Option Addr × Nat × Nat)).all (fun p => decide (p.2.1 ≤ 400)) = true := by simp [hs1, hs2]
  (((with_reducible apply s_call (f := 11) hF hM); exact rfl; exact rfl; exact rfl; exact rfl; exact rfl; exact (small_t (hM.facts _ (by with_reducible (repeat (first | exact List.mem_cons_self | refine List.mem_cons_of_mem _ ?_)); all_goals fail)) (by decide) hsa rfl hM.lt); clear hF hM a; rintro v w a rfl - hM hF))
  cases he : unpD dict b most with
  | error e =>
    (repeat' (first | (with_reducible refine w_seq ?_) | (with_reducible refine c_region ?_) | (with_reducible refine s_nil ?_) | ((with_reducible apply s_call (f := 12) hF hM); exact rfl; exact rfl; exact rfl; exact rfl; exact rfl; exact (awake_c _ _ hM.lt); clear hF hM a; rintro v w a rfl - hM hF) | ((with_reducible apply s_call (f := 20) hF hM); exact rfl; exact rfl; exact rfl; exact rfl; exact rfl; exact (Unpack_err (hM.facts (RdF (Value.int .u8) a1 dict) (by with_reducible (repeat (first | exact List.mem_cons_self | refine List.mem_cons_of_mem _ ?_)); all_goals fail)) (hM.facts (RdF (Value.int .u8) a2 b) (by with_reducible (repeat (first | exact List.mem_cons_self | refine List.mem_cons_of_mem _ ?_)); all_goals fail)) he hb rfl rfl ⟨by omega, by omega⟩ hm hc2 hM.lt); clear hF hM a; rintro v w a rfl - hM hF) | ((with_reducible apply s_call (f := 21) hF hM); exact rfl; exact rfl; exact rfl; exact rfl; exact rfl; exact (UnpackR_err (hM.facts (RdF (Value.int .u8) a1 dict) (by with_reducible (repeat (first | exact List.mem_cons_self | refine List.mem_cons_of_mem _ ?_)); all_goals fail)) (hM.facts (RdF (Value.int .u8) a2 b) (by with_reducible (repeat (first | exact List.mem_cons_self | refine List.mem_cons_of_mem _ ?_)); all_goals fail)) he hb rfl rfl ⟨by omega, by omega⟩ hm hc2 hM.lt); clear hF hM a; rintro v w a rfl - hM hF) | ((with_reducible apply s_call (f := 22) hF hM); exact rfl; exact rfl; exact rfl; exact rfl; exact rfl; exact (same_t (l := []) RdF.nil RdF.nil W8_nil rfl rfl (by decide) hM.lt); clear hF hM a; rintro v w a rfl - hM hF) | (with_reducible refine q_then_n ?_) | ((with_reducible apply s_pure hF); exact rfl; exact rfl; exact rfl; (first | exact trivial | omega | exact ⟨Int.natCast_nonneg _, Int.ofNat_lt.2 (by assumption)⟩ | decide); clear hF a; intro a hF) | (with_reducible refine w_skip ?_) | (with_reducible refine w_ret ?_) | (with_reducible refine q_then_r ?_) | ((with_reducible apply c_false2 hF); exact rfl; (first | with_reducible rfl | (refine congrArg Value.bool ?_; focus (simp; done)))) | ((with_reducible apply s_skip hF); exact rfl; exact rfl; clear hF a; intro a hF) | ((with_reducible apply g_dec hF); exact rfl; exact rfl; all_goals (clear hF; intro hc hF); all_goals (try (exfalso; omega))) | ((with_reducible apply c_dec hF); exact rfl; all_goals intro hc; all_goals (try (exfalso; omega)))))
    all_goals (apply f_ret Try.results9 hF hM; (repeat (first | exact RL.nil | (apply RL.tmp; exact rfl) | (apply RL.cell; exact rfl; (repeat (first | exact List.mem_cons_self | refine List.mem_cons_of_mem _ ?_)); exact rfl))); refine Ret.mk hM.since ?_; dsimp only [resV])
    all_goals simp
  | ok r =>
    obtain ⟨hr1, hr2⟩ := unpD_ok he
    (repeat' (first | (with_reducible refine w_seq ?_) | (with_reducible refine c_region ?_) | (with_reducible refine s_nil ?_) | ((with_reducible apply s_call (f := 12) hF hM); exact rfl; exact rfl; exact rfl; exact rfl; exact rfl; exact (awake_c _ _ hM.lt); clear hF hM a; rintro v w a rfl - hM hF) | ((with_reducible apply s_call (f := 20) hF hM); exact rfl; exact rfl; exact rfl; exact rfl; exact rfl; exact (Unpack_ok (hM.facts (RdF (Value.int .u8) a1 dict) (by with_reducible (repeat (first | exact List.mem_cons_self | refine List.mem_cons_of_mem _ ?_)); all_goals fail)) (hM.facts (RdF (Value.int .u8) a2 b) (by with_reducible (repeat (first | exact List.mem_cons_self | refine List.mem_cons_of_mem _ ?_)); all_goals fail)) he hb rfl rfl ⟨by omega, by omega⟩ hm hc2 hM.lt); clear hF hM a; rintro v w a ⟨a', c', rfl, hc, hx⟩ - hM hF; replace hM := hM.addFact hx) | ((with_reducible apply s_call (f := 21) hF hM); exact rfl; exact rfl; exact rfl; exact rfl; exact rfl; exact (UnpackR_ok (hM.facts (RdF (Value.int .u8) a1 dict) (by with_reducible (repeat (first | exact List.mem_cons_self | refine List.mem_cons_of_mem _ ?_)); all_goals fail)) (hM.facts (RdF (Value.int .u8) a2 b) (by with_reducible (repeat (first | exact List.mem_cons_self | refine List.mem_cons_of_mem _ ?_)); all_goals fail)) he hb rfl rfl ⟨by omega, by omega⟩ hm hc2 hM.lt); clear hF hM a; rintro v w a ⟨a', c', rfl, hc, hx⟩ - hM hF; replace hM := hM.addFact hx) | ((with_reducible apply s_call (f := 22) hF hM); exact rfl; exact rfl; exact rfl; exact rfl; exact rfl; exact (same_t (hM.facts _ (by with_reducible (repeat (first | exact List.mem_cons_self | refine List.mem_cons_of_mem _ ?_)); all_goals fail)) (hM.facts _ (by with_reducible (repeat (first | exact List.mem_cons_self | refine List.mem_cons_of_mem _ ?_)); all_goals fail)) hr1 rfl rfl (by omega) hM.lt); clear hF hM a; rintro v w a rfl - hM hF) | (with_reducible refine q_then_n ?_) | ((with_reducible apply s_pure hF); exact rfl; exact rfl; exact rfl; (first | exact trivial | omega | exact ⟨Int.natCast_nonneg _, Int.ofNat_lt.2 (by assumption)⟩ | decide); clear hF a; intro a hF) | (with_reducible refine w_skip ?_) | (with_reducible refine w_ret ?_) | (with_reducible refine q_then_r ?_) | ((with_reducible apply c_false2 hF); exact rfl; (first | with_reducible rfl | (refine congrArg Value.bool ?_; focus (simp; done)))) | ((with_reducible apply s_skip hF); exact rfl; exact rfl; clear hF a; intro a hF) | ((with_reducible apply g_dec hF); exact rfl; exact rfl; all_goals (clear hF; intro hc hF); all_goals (try (exfalso; omega))) | ((with_reducible apply c_dec hF); exact rfl; all_goals intro hc; all_goals (try (exfalso; omega)))))
    all_goals (apply f_ret Try.results9 hF hM; (repeat (first | exact RL.nil | (apply RL.tmp; exact rfl) | (apply RL.cell; exact rfl; (repeat (first | exact List.mem_cons_self | refine List.mem_cons_of_mem _ ?_)); exact rfl))); refine Ret.mk hM.since ?_; dsimp only [resV])
    all_goals simp
end
end Go.Proofs.Ytocgpllmfdnfjaa

/- Layer 6's laws of packed forms, of known strings and of tokens. -/
namespace Go.Proofs.Ytocgpllmfdnfjaa
open Go.RowKit Go.Shelf
section
variable (dict : List Int) (hd : By dict) (a1 : Option Addr) (c1 : Nat) (hc1 : dict.length ≤ c1) (hdl : dict.length ≤ 9223372036854775807) (W : World) (hv1 : Has (fun _ => False) W (RdF (Value.int .u8) a1 dict))
include hd hc1 hdl hv1
section
variable (l : List (List Int)) (hw : W8 l) (hb8 : B8 l) (a2 : Option Addr) (c2 : Nat) (hc2 : l.length ≤ c2) (hv2 : Has (fun _ => False) W (RdF (Value.int .u8) a2 l.flatten))
include hw hb8 hc2 hv2
set_option maxRecDepth 20000 in
theorem packs_c : Calls Try.prog 5 ⟨[.slice a1 dict.length c1, .slice a2 l.length c2]⟩ W (Ret W fun x _ => x = .bool true) := by
  have hM := ((Mm.start (fun _ h => h.elim)).known hv1).known hv2
  refine f_start Try.func5 rfl Try.ntmps5 rfl rfl ?_; intro a hF
  (repeat (first | (with_reducible refine w_seq ?_) | (with_reducible refine c_region ?_) | (with_reducible refine s_nil ?_) | (with_reducible refine q_then_n ?_) | ((with_reducible apply s_pure hF); exact rfl; exact rfl; exact rfl; (first | exact trivial | omega | exact ⟨Int.natCast_nonneg _, Int.ofNat_lt.2 (by assumption)⟩ | decide); clear hF a; intro a hF) | ((with_reducible apply s_lit hF hM); exact rfl; exact rfl; exact rfl; exact rfl; clear hF hM a; intro bl w a hM hF)))
  replace hM := Mm.freeze hM
  replace hM := hM.addFact (Has.lit (enc := slV) (hM.facts _ List.mem_cons_self) [(a1, dict.length, c1)] rfl)
  by_cases hs : dict.length ≤ 400
  case neg =>
    have hsa : ([(a1, dict.length, c1)] : List (Option Addr × Nat × Nat)).all (fun p => decide (p.2.1 ≤ 400)) = false := by
      rw [Bool.eq_false_iff]
      intro h
      simp at h
      omega
    have hps : ∀ p ∈ ([(a1, dict.length, c1)] : List (Option Addr × Nat × Nat)), p.2.1 ≤ 9223372036854775807 := by simp; omega
    (((with_reducible apply s_call (f := 11) hF hM); exact rfl; exact rfl; exact rfl; exact rfl; exact rfl; exact (small_n (hM.facts _ (by with_reducible (repeat (first | exact List.mem_cons_self | refine List.mem_cons_of_mem _ ?_)); all_goals fail)) (by decide) hps hsa rfl hM.lt); clear hF hM a; rintro v w a rfl - hM hF))
    (repeat' (first | (with_reducible refine w_seq ?_) | (with_reducible refine c_region ?_) | (with_reducible refine s_nil ?_) | ((with_reducible apply s_call (f := 12) hF hM); exact rfl; exact rfl; exact rfl; exact rfl; exact rfl; exact (awake_c _ _ hM.lt); clear hF hM a; rintro v w a rfl - hM hF) | (with_reducible refine q_then_n ?_) | ((with_reducible apply s_pure hF); exact rfl; exact rfl; exact rfl; (first | exact trivial | omega | exact ⟨Int.natCast_nonneg _, Int.ofNat_lt.2 (by assumption)⟩ | decide); clear hF a; intro a hF) | (with_reducible refine w_ret ?_) | (with_reducible refine q_then_r ?_) | ((with_reducible apply c_true2 hF); exact rfl; (first | with_reducible rfl | (refine congrArg Value.bool ?_; focus (simp; done)))) | ((with_reducible apply s_skip hF); exact rfl; exact rfl; clear hF a; intro a hF)))
    all_goals (apply f_ret Try.results5 hF hM; (repeat (first | exact RL.nil | (apply RL.tmp; exact rfl) | (apply RL.cell; exact rfl; (repeat (first | exact List.mem_cons_self | refine List.mem_cons_of_mem _ ?_)); exact rfl))); refine Ret.mk hM.since ?_; dsimp only [resV])
  have hsa : ([(a1, dict.length, c1)] : List (Option Addr × Nat × Nat)).all (fun p => decide (p.2.1 ≤ 400)) = true := by simp [hs]
  (((with_reducible apply s_call (f := 11) hF hM); exact rfl; exact rfl; exact rfl; exact rfl; exact rfl; exact (small_t (hM.facts _ (by with_reducible (repeat (first | exact List.mem_cons_self | refine List.mem_cons_of_mem _ ?_)); all_goals fail)) (by decide) hsa rfl hM.lt); clear hF hM a; rintro v w a rfl - hM hF))
  (repeat' (first | (with_reducible refine w_seq ?_) | (with_reducible refine c_region ?_) | (with_reducible refine s_nil ?_) | ((with_reducible apply s_call (f := 12) hF hM); exact rfl; exact rfl; exact rfl; exact rfl; exact rfl; exact (awake_c _ _ hM.lt); clear hF hM a; rintro v w a rfl - hM hF) | ((with_reducible apply s_call (f := 18) hF hM); exact rfl; exact rfl; exact rfl; exact rfl; exact rfl; exact (Pack_f (hM.facts (RdF (Value.int .u8) a1 dict) (by with_reducible (repeat (first | exact List.mem_cons_self | refine List.mem_cons_of_mem _ ?_)); all_goals fail)) (hM.facts (RdF (Value.int .u8) a2 l.flatten) (by with_reducible (repeat (first | exact List.mem_cons_self | refine List.mem_cons_of_mem _ ?_)); all_goals fail)) hw rfl rfl ⟨by omega, by omega⟩ hc2 hM.lt); clear hF hM a; rintro v w a ⟨a', c', rfl, hc, hx⟩ - hM hF; replace hM := hM.addFact hx) | ((with_reducible apply s_call (f := 19) hF hM); exact rfl; exact rfl; exact rfl; exact rfl; exact rfl; exact (PackR_f (hM.facts (RdF (Value.int .u8) a1 dict) (by with_reducible (repeat (first | exact List.mem_cons_self | refine List.mem_cons_of_mem _ ?_)); all_goals fail)) (hM.facts (RdF (Value.int .u8) a2 l.flatten) (by with_reducible (repeat (first | exact List.mem_cons_self | refine List.mem_cons_of_mem _ ?_)); all_goals fail)) hw rfl rfl ⟨by omega, by omega⟩ hc2 hM.lt); clear hF hM a; rintro v w a ⟨a', c', rfl, hc, hx⟩ - hM hF; replace hM := hM.addFact hx) | ((with_reducible apply s_call (f := 13) hF hM); exact rfl; exact rfl; exact rfl; exact rfl; exact rfl; exact (Equal_t (hM.facts _ (by with_reducible (repeat (first | exact List.mem_cons_self | refine List.mem_cons_of_mem _ ?_)); all_goals fail)) (hM.facts _ (by with_reducible (repeat (first | exact List.mem_cons_self | refine List.mem_cons_of_mem _ ?_)); all_goals fail)) (packD_By hd hb8) rfl rfl hM.lt); clear hF hM a; rintro v w a rfl - hM hF) | (with_reducible refine q_then_n ?_) | ((with_reducible apply s_pure hF); exact rfl; exact rfl; exact rfl; (first | exact trivial | omega | exact ⟨Int.natCast_nonneg _, Int.ofNat_lt.2 (by assumption)⟩ | decide); clear hF a; intro a hF) | (with_reducible refine w_skip ?_) | (with_reducible refine w_ret ?_) | (with_reducible refine q_then_r ?_) | ((with_reducible apply c_dec hF); exact rfl; all_goals intro hc; all_goals (try (exfalso; omega)))))
  all_goals (apply f_ret Try.results5 hF hM; (repeat (first | exact RL.nil | (apply RL.tmp; exact rfl) | (apply RL.cell; exact rfl; (repeat (first | exact List.mem_cons_self | refine List.mem_cons_of_mem _ ?_)); exact rfl))); refine Ret.mk hM.since ?_; dsimp only [resV])
set_option maxRecDepth 20000 in
theorem restores_c : Calls Try.prog 10 ⟨[.slice a1 dict.length c1, .slice a2 l.length c2]⟩ W (Ret W fun x _ => x = .bool true) := by
  have hM := ((Mm.start (fun _ h => h.elim)).known hv1).known hv2
  refine f_start Try.func10 rfl Try.ntmps10 rfl rfl ?_; intro a hF
  (repeat (first | (with_reducible refine w_seq ?_) | (with_reducible refine c_region ?_) | (with_reducible refine s_nil ?_) | (with_reducible refine q_then_n ?_) | ((with_reducible apply s_pure hF); exact rfl; exact rfl; exact rfl; (first | exact trivial | omega | exact ⟨Int.natCast_nonneg _, Int.ofNat_lt.2 (by assumption)⟩ | decide); clear hF a; intro a hF) | ((with_reducible apply s_lit hF hM); exact rfl; exact rfl; exact rfl; exact rfl; clear hF hM a; intro bl w a hM hF)))
  replace hM := Mm.freeze hM
  replace hM := hM.addFact (Has.lit (enc := slV) (hM.facts _ List.mem_cons_self) [(a1, dict.length, c1)] rfl)
  by_cases hs : dict.length ≤ 400
  case neg =>
    have hsa : ([(a1, dict.length, c1)] : List (Option Addr × Nat × Nat)).all (fun p => decide (p.2.1 ≤ 400)) = false := by
      rw [Bool.eq_false_iff]
      intro h
      simp at h
      omega
    have hps : ∀ p ∈ ([(a1, dict.length, c1)] : List (Option Addr × Nat × Nat)), p.2.1 ≤ 9223372036854775807 := by simp; omega
    (((with_reducible apply s_call (f := 11) hF hM); exact rfl; exact rfl; exact rfl; exact rfl; exact rfl; exact (small_n (hM.facts _ (by with_reducible (repeat (first | exact List.mem_cons_self | refine List.mem_cons_of_mem _ ?_)); all_goals fail)) (by decide) hps hsa rfl hM.lt); clear hF hM a; rintro v w a rfl - hM hF))
    (repeat' (first | (with_reducible refine w_seq ?_) | (with_reducible refine c_region ?_) | (with_reducible refine s_nil ?_) | ((with_reducible apply s_call (f := 12) hF hM); exact rfl; exact rfl; exact rfl; exact rfl; exact rfl; exact (awake_c _ _ hM.lt); clear hF hM a; rintro v w a rfl - hM hF) | (with_reducible refine q_then_n ?_) | ((with_reducible apply s_pure hF); exact rfl; exact rfl; exact rfl; (first | exact trivial | omega | exact ⟨Int.natCast_nonneg _, Int.ofNat_lt.2 (by assumption)⟩ | decide); clear hF a; intro a hF) | (with_reducible refine w_ret ?_) | (with_reducible refine q_then_r ?_) | ((with_reducible apply c_true2 hF); exact rfl; (first | with_reducible rfl | (refine congrArg Value.bool ?_; focus (simp; done)))) | ((with_reducible apply s_skip hF); exact rfl; exact rfl; clear hF a; intro a hF)))
    all_goals (apply f_ret Try.results10 hF hM; (repeat (first | exact RL.nil | (apply RL.tmp; exact rfl) | (apply RL.cell; exact rfl; (repeat (first | exact List.mem_cons_self | refine List.mem_cons_of_mem _ ?_)); exact rfl))); refine Ret.mk hM.since ?_; dsimp only [resV])
  have hsa : ([(a1, dict.length, c1)] : List (Option Addr × Nat × Nat)).all (fun p => decide (p.2.1 ≤ 400)) = true := by simp [hs]
  (((with_reducible apply s_call (f := 11) hF hM); exact rfl; exact rfl; exact rfl; exact rfl; exact rfl; exact (small_t (hM.facts _ (by with_reducible (repeat (first | exact List.mem_cons_self | refine List.mem_cons_of_mem _ ?_)); all_goals fail)) (by decide) hsa rfl hM.lt); clear hF hM a; rintro v w a rfl - hM hF))
  by_cases hl40 : l.length ≤ 40
  case neg =>
    (repeat' (first | (with_reducible refine w_seq ?_) | (with_reducible refine c_region ?_) | (with_reducible refine s_nil ?_) | ((with_reducible apply s_call (f := 12) hF hM); exact rfl; exact rfl; exact rfl; exact rfl; exact rfl; exact (awake_c _ _ hM.lt); clear hF hM a; rintro v w a rfl - hM hF) | (with_reducible refine q_then_n ?_) | ((with_reducible apply s_pure hF); exact rfl; exact rfl; exact rfl; (first | exact trivial | omega | exact ⟨Int.natCast_nonneg _, Int.ofNat_lt.2 (by assumption)⟩ | decide); clear hF a; intro a hF) | (with_reducible refine w_ret ?_) | (with_reducible refine q_then_r ?_) | ((with_reducible apply c_dec hF); exact rfl; all_goals intro hc; all_goals (try (exfalso; omega)))))
    all_goals (apply f_ret Try.results10 hF hM; (repeat (first | exact RL.nil | (apply RL.tmp; exact rfl) | (apply RL.cell; exact rfl; (repeat (first | exact List.mem_cons_self | refine List.mem_cons_of_mem _ ?_)); exact rfl))); refine Ret.mk hM.since ?_; dsimp only [resV])
  have he := unpD_pack (dict := dict) hw (by omega)
  have hpl := packD_len (dict := dict) hw
  have hpb := packD_By hd hb8
  obtain ⟨P, hPe⟩ : ∃ P, packD dict l = P := ⟨_, rfl⟩
  rw [hPe] at he hpl hpb
  (repeat' (first | (with_reducible refine w_seq ?_) | (with_reducible refine c_region ?_) | (with_reducible refine s_nil ?_) | ((with_reducible apply s_call (f := 12) hF hM); exact rfl; exact rfl; exact rfl; exact rfl; exact rfl; exact (awake_c _ _ hM.lt); clear hF hM a; rintro v w a rfl - hM hF) | ((with_reducible apply s_call (f := 18) hF hM); exact rfl; exact rfl; exact rfl; exact rfl; exact rfl; exact (Pack_e (hM.facts (RdF (Value.int .u8) a1 dict) (by with_reducible (repeat (first | exact List.mem_cons_self | refine List.mem_cons_of_mem _ ?_)); all_goals fail)) (hM.facts (RdF (Value.int .u8) a2 l.flatten) (by with_reducible (repeat (first | exact List.mem_cons_self | refine List.mem_cons_of_mem _ ?_)); all_goals fail)) hPe hw rfl rfl ⟨by omega, by omega⟩ hc2 hM.lt); clear hF hM a; rintro v w a ⟨a', c', rfl, hc, hx⟩ - hM hF; replace hM := hM.addFact hx) | ((with_reducible apply s_call (f := 20) hF hM); exact rfl; exact rfl; exact rfl; exact rfl; exact rfl; exact (Unpack_ok (hM.facts (RdF (Value.int .u8) a1 dict) (by with_reducible (repeat (first | exact List.mem_cons_self | refine List.mem_cons_of_mem _ ?_)); all_goals fail)) (hM.facts (RdF (Value.int .u8) a' P) (by with_reducible (repeat (first | exact List.mem_cons_self | refine List.mem_cons_of_mem _ ?_)); all_goals fail)) he hpb rfl rfl ⟨by omega, by omega⟩ ⟨by omega, by omega⟩ hc hM.lt); clear hF hM a; rintro v w a ⟨a3, c3, rfl, hc3, hx⟩ - hM hF; replace hM := hM.addFact hx) | ((with_reducible apply s_call (f := 22) hF hM); exact rfl; exact rfl; exact rfl; exact rfl; exact rfl; exact (same_t (hM.facts _ (by with_reducible (repeat (first | exact List.mem_cons_self | refine List.mem_cons_of_mem _ ?_)); all_goals fail)) (hM.facts _ (by with_reducible (repeat (first | exact List.mem_cons_self | refine List.mem_cons_of_mem _ ?_)); all_goals fail)) hw rfl rfl (by omega) hM.lt); clear hF hM a; rintro v w a rfl - hM hF) | (with_reducible refine q_then_n ?_) | ((with_reducible apply s_pure hF); exact rfl; exact rfl; exact rfl; (first | exact trivial | omega | exact ⟨Int.natCast_nonneg _, Int.ofNat_lt.2 (by assumption)⟩ | decide); clear hF a; intro a hF) | (with_reducible refine w_skip ?_) | (with_reducible refine w_ret ?_) | ((with_reducible apply g_dec hF); exact rfl; exact rfl; all_goals (clear hF; intro hc hF); all_goals (try (exfalso; omega))) | ((with_reducible apply c_dec hF); exact rfl; all_goals intro hc; all_goals (try (exfalso; omega)))))
  all_goals (apply f_ret Try.results10 hF hM; (repeat (first | exact RL.nil | (apply RL.tmp; exact rfl) | (apply RL.cell; exact rfl; (repeat (first | exact List.mem_cons_self | refine List.mem_cons_of_mem _ ?_)); exact rfl))); refine Ret.mk hM.since ?_; dsimp only [resV])
  all_goals simp
  all_goals omega
end
section
variable (b : List Int) (hb : By b) (a2 : Option Addr) (c2 : Nat) (hc2 : b.length ≤ c2) (hbl : b.length ≤ 9223372036854775807) (hv2 : Has (fun _ => False) W (RdF (Value.int .u8) a2 b))
include hb hc2 hbl hv2
set_option maxRecDepth 20000 in
theorem knows_c : Calls Try.prog 7 ⟨[.slice a1 dict.length c1, .slice a2 b.length c2]⟩ W (Ret W fun x _ => x = .bool true) := by
  have hM := ((Mm.start (fun _ h => h.elim)).known hv1).known hv2
  refine f_start Try.func7 rfl Try.ntmps7 rfl rfl ?_; intro a hF
  (repeat (first | (with_reducible refine w_seq ?_) | (with_reducible refine c_region ?_) | (with_reducible refine s_nil ?_) | (with_reducible refine q_then_n ?_) | ((with_reducible apply s_pure hF); exact rfl; exact rfl; exact rfl; (first | exact trivial | omega | exact ⟨Int.natCast_nonneg _, Int.ofNat_lt.2 (by assumption)⟩ | decide); clear hF a; intro a hF) | ((with_reducible apply s_lit hF hM); exact rfl; exact rfl; exact rfl; exact rfl; clear hF hM a; intro bl w a hM hF)))
  replace hM := Mm.freeze hM
  replace hM := hM.addFact (Has.lit (enc := slV) (hM.facts _ List.mem_cons_self) [(a1, dict.length, c1)] rfl)
  by_cases hs : dict.length ≤ 400
  case neg =>
    have hsa : ([(a1, dict.length, c1)] : List (Option Addr × Nat × Nat)).all (fun p => decide (p.2.1 ≤ 400)) = false := by
      rw [Bool.eq_false_iff]
      intro h
      simp at h
      omega
    have hps : ∀ p ∈ ([(a1, dict.length, c1)] : List (Option Addr × Nat × Nat)), p.2.1 ≤ 9223372036854775807 := by simp; omega
    (((with_reducible apply s_call (f := 11) hF hM); exact rfl; exact rfl; exact rfl; exact rfl; exact rfl; exact (small_n (hM.facts _ (by with_reducible (repeat (first | exact List.mem_cons_self | refine List.mem_cons_of_mem _ ?_)); all_goals fail)) (by decide) hps hsa rfl hM.lt); clear hF hM a; rintro v w a rfl - hM hF))
    (repeat' (first | (with_reducible refine w_seq ?_) | (with_reducible refine c_region ?_) | (with_reducible refine s_nil ?_) | ((with_reducible apply s_call (f := 12) hF hM); exact rfl; exact rfl; exact rfl; exact rfl; exact rfl; exact (awake_c _ _ hM.lt); clear hF hM a; rintro v w a rfl - hM hF) | (with_reducible refine q_then_n ?_) | ((with_reducible apply s_pure hF); exact rfl; exact rfl; exact rfl; (first | exact trivial | omega | exact ⟨Int.natCast_nonneg _, Int.ofNat_lt.2 (by assumption)⟩ | decide); clear hF a; intro a hF) | (with_reducible refine w_ret ?_) | (with_reducible refine q_then_r ?_) | ((with_reducible apply c_true2 hF); exact rfl; (first | with_reducible rfl | (refine congrArg Value.bool ?_; focus (simp; done)))) | ((with_reducible apply s_skip hF); exact rfl; exact rfl; clear hF a; intro a hF)))
    all_goals (apply f_ret Try.results7 hF hM; (repeat (first | exact RL.nil | (apply RL.tmp; exact rfl) | (apply RL.cell; exact rfl; (repeat (first | exact List.mem_cons_self | refine List.mem_cons_of_mem _ ?_)); exact rfl))); refine Ret.mk hM.since ?_; dsimp only [resV])
  have hsa : ([(a1, dict.length, c1)] : List (Option Addr × Nat × Nat)).all (fun p => decide (p.2.1 ≤ 400)) = true := by simp [hs]
  (((with_reducible apply s_call (f := 11) hF hM); exact rfl; exact rfl; exact rfl; exact rfl; exact rfl; exact (small_t (hM.facts _ (by with_reducible (repeat (first | exact List.mem_cons_self | refine List.mem_cons_of_mem _ ?_)); all_goals fail)) (by decide) hsa rfl hM.lt); clear hF hM a; rintro v w a rfl - hM hF))
  by_cases hk : 4 ≤ b.length ∧ b.length ≤ 131
  case neg =>
    (repeat' (first | (with_reducible refine w_seq ?_) | (with_reducible refine c_region ?_) | (with_reducible refine s_nil ?_) | ((with_reducible apply s_call (f := 12) hF hM); exact rfl; exact rfl; exact rfl; exact rfl; exact rfl; exact (awake_c _ _ hM.lt); clear hF hM a; rintro v w a rfl - hM hF) | (with_reducible refine q_then_n ?_) | ((with_reducible apply s_pure hF); exact rfl; exact rfl; exact rfl; (first | exact trivial | omega | exact ⟨Int.natCast_nonneg _, Int.ofNat_lt.2 (by assumption)⟩ | decide); clear hF a; intro a hF) | (with_reducible refine w_ret ?_) | (with_reducible refine q_then_r ?_) | ((with_reducible apply c_true2 hF); exact rfl; (first | with_reducible rfl | (refine congrArg Value.bool ?_; focus (simp; done)))) | ((with_reducible apply s_skip hF); exact rfl; exact rfl; clear hF a; intro a hF) | ((with_reducible apply g_dec hF); exact rfl; exact rfl; all_goals (clear hF; intro hc hF); all_goals (try (exfalso; omega))) | ((with_reducible apply c_dec hF); exact rfl; all_goals intro hc; all_goals (try (exfalso; omega)))))
    all_goals (apply f_ret Try.results7 hF hM; (repeat (first | exact RL.nil | (apply RL.tmp; exact rfl) | (apply RL.cell; exact rfl; (repeat (first | exact List.mem_cons_self | refine List.mem_cons_of_mem _ ?_)); exact rfl))); refine Ret.mk hM.since ?_; dsimp only [resV])
  obtain ⟨d, hd1, hd2, he⟩ := encD_knows dict b hk
  have hpl := puts_len 1 d (by omega)
  have hpp := puts_pos d
  (repeat' (first | (with_reducible refine w_seq ?_) | (with_reducible refine c_region ?_) | (with_reducible refine s_nil ?_) | ((with_reducible apply s_lit0 hF hM); exact rfl; exact rfl; exact rfl; exact rfl; clear hF hM a; intro bl w a hM hF) | ((with_reducible apply s_appF hF hM); exact rfl; exact rfl; (repeat (first | exact List.mem_cons_self | refine List.mem_cons_of_mem _ ?_)); exact rfl; exact rfl; (repeat (first | exact Kth.z | apply Kth.s)); (intro _; exact rfl); exact rfl; omega; clear hF hM a; intro g cap w a hM hF; dsimp only [List.set] at hM) | (with_reducible refine q_then_n ?_) | ((with_reducible apply s_pure hF); exact rfl; exact rfl; exact rfl; (first | exact trivial | omega | exact ⟨Int.natCast_nonneg _, Int.ofNat_lt.2 (by assumption)⟩ | decide); clear hF a; intro a hF) | (with_reducible refine w_skip ?_) | ((with_reducible apply g_dec hF); exact rfl; exact rfl; all_goals (clear hF; intro hc hF); all_goals (try (exfalso; omega))) | ((with_reducible apply c_dec hF); exact rfl; all_goals intro hc; all_goals (try (exfalso; omega)))))
  obtain ⟨all, hall⟩ : ∃ all, all = dict ++ b := ⟨_, rfl⟩
  have hal : all.length = dict.length + b.length := by rw [hall, List.length_append]
  rw [Nat.zero_add, List.nil_append, ← List.map_append, ← hall, ← hal] at hM
  rw [Nat.zero_add, ← hal] at hF
  rw [← hall] at he
  replace hM := hM.freezeRow
  obtain ⟨X, hX⟩ : ∃ X, X = (124 + b.length : Int) :: puts d := ⟨_, rfl⟩
  rw [← hX] at he
  have hX0 : X[((0 : Int)).toNat]? = some (124 + b.length : Int) := by rw [hX]; rfl
  have hXl : 2 ≤ X.length ∧ X.length ≤ 3 := by rw [hX, List.length_cons]; omega
  clear hX
  (((with_reducible apply s_call (f := 14) hF hM); exact rfl; exact rfl; exact rfl; exact rfl; exact rfl; exact (EncodeD_e (hM.facts (RdF (Value.int .u8) g all) (by with_reducible (repeat (first | exact List.mem_cons_self | refine List.mem_cons_of_mem _ ?_)); all_goals fail)) (hM.facts (RdF (Value.int .u8) a2 b) (by with_reducible (repeat (first | exact List.mem_cons_self | refine List.mem_cons_of_mem _ ?_)); all_goals fail)) he rfl rfl ⟨by omega, by omega⟩ hM.lt); clear hF hM a; rintro v w a ⟨aX, cX, rfl, hc, hx⟩ - hM hF; replace hM := hM.addFact hx))
  obtain ⟨ad, rfl⟩ : ∃ ad, aX = some ad := rd_some hM (xs := X) (enc := Value.int .u8) (by (repeat (first | exact List.mem_cons_self | refine List.mem_cons_of_mem _ ?_))) hX0
  (repeat' (first | (with_reducible refine w_seq ?_) | (with_reducible refine c_region ?_) | (with_reducible refine s_nil ?_) | ((with_reducible apply s_call (f := 12) hF hM); exact rfl; exact rfl; exact rfl; exact rfl; exact rfl; exact (awake_c _ _ hM.lt); clear hF hM a; rintro v w a rfl - hM hF) | (with_reducible refine q_then_n ?_) | ((with_reducible apply s_pure hF); exact rfl; exact rfl; exact rfl; (first | exact trivial | omega | exact ⟨Int.natCast_nonneg _, Int.ofNat_lt.2 (by assumption)⟩ | decide); clear hF a; intro a hF) | ((with_reducible apply s_loadF hF hM); exact rfl; exact rfl; (repeat (first | exact List.mem_cons_self | refine List.mem_cons_of_mem _ ?_)); exact rfl; exact rfl; (first | with_reducible assumption | (simp only [Int.toNat_natCast]; with_reducible assumption)); clear hF a; intro a hF) | (with_reducible refine w_ret ?_) | ((with_reducible apply g_dec hF); exact rfl; exact rfl; all_goals (clear hF; intro hc hF); all_goals (try (exfalso; omega)))))
  all_goals (apply f_ret Try.results7 hF hM; (repeat (first | exact RL.nil | (apply RL.tmp; exact rfl) | (apply RL.cell; exact rfl; (repeat (first | exact List.mem_cons_self | refine List.mem_cons_of_mem _ ?_)); exact rfl))); refine Ret.mk hM.since ?_; dsimp only [resV])
  all_goals simp
  all_goals omega
end
end
end Go.Proofs.Ytocgpllmfdnfjaa

/- Layer 6's law of tokens. -/
namespace Go.Proofs.Ytocgpllmfdnfjaa
open Go.RowKit Go.Shelf
set_option maxRecDepth 20000 in
theorem tokens_c (dict a b : List Int) (hd : By dict) (ha : By a) (hb : By b) (a1 a2 a3 : Option Addr) (c1 c2 c3 : Nat) (hc1 : dict.length ≤ c1) (hc2 : a.length ≤ c2) (hc3 : b.length ≤ c3) (hdl : dict.length ≤ 9223372036854775807) (hal : a.length ≤ 9223372036854775807) (hbl : b.length ≤ 9223372036854775807) (W : World)
    (hv1 : Has (fun _ => False) W (RdF (Value.int .u8) a1 dict)) (hv2 : Has (fun _ => False) W (RdF (Value.int .u8) a2 a)) (hv3 : Has (fun _ => False) W (RdF (Value.int .u8) a3 b)) :
    Calls Try.prog 8 ⟨[.slice a1 dict.length c1, .slice a2 a.length c2, .slice a3 b.length c3]⟩ W (Ret W fun x _ => x = .bool true) := by
  generalize a = sa at *
  have hM := (((Mm.start (fun _ h => h.elim)).known hv1).known hv2).known hv3
  refine f_start Try.func8 rfl Try.ntmps8 rfl rfl ?_; intro a hF
  (repeat (first | (with_reducible refine w_seq ?_) | (with_reducible refine c_region ?_) | (with_reducible refine s_nil ?_) | (with_reducible refine q_then_n ?_) | ((with_reducible apply s_pure hF); exact rfl; exact rfl; exact rfl; (first | exact trivial | omega | exact ⟨Int.natCast_nonneg _, Int.ofNat_lt.2 (by assumption)⟩ | decide); clear hF a; intro a hF) | ((with_reducible apply s_lit hF hM); exact rfl; exact rfl; exact rfl; exact rfl; clear hF hM a; intro bl w a hM hF)))
  replace hM := Mm.freeze hM
  replace hM := hM.addFact (Has.lit (enc := slV) (hM.facts _ List.mem_cons_self) [(a1, dict.length, c1), (a2, sa.length, c2), (a3, b.length, c3)] rfl)
  by_cases hs : dict.length ≤ 400 ∧ sa.length ≤ 400 ∧ b.length ≤ 400
  case neg =>
    have hsa : ([(a1, dict.length, c1), (a2, sa.length, c2), (a3, b.length, c3)] : List (Option Addr × Nat × Nat)).all (fun p => decide (p.2.1 ≤ 400)) = false := by
      rw [Bool.eq_false_iff]
      intro h
      simp at h
      omega
    have hps : ∀ p ∈ ([(a1, dict.length, c1), (a2, sa.length, c2), (a3, b.length, c3)] : List (Option Addr × Nat × Nat)), p.2.1 ≤ 9223372036854775807 := by simp; omega
    (((with_reducible apply s_call (f := 11) hF hM); exact rfl; exact rfl; exact rfl; exact rfl; exact rfl; exact (small_n (hM.facts _ (by with_reducible (repeat (first | exact List.mem_cons_self | refine List.mem_cons_of_mem _ ?_)); all_goals fail)) (by decide) hps hsa rfl hM.lt); clear hF hM a; rintro v w a rfl - hM hF))
    (repeat' (first | (with_reducible refine w_seq ?_) | (with_reducible refine c_region ?_) | (with_reducible refine s_nil ?_) | ((with_reducible apply s_call (f := 12) hF hM); exact rfl; exact rfl; exact rfl; exact rfl; exact rfl; exact (awake_c _ _ hM.lt); clear hF hM a; rintro v w a rfl - hM hF) | (with_reducible refine q_then_n ?_) | ((with_reducible apply s_pure hF); exact rfl; exact rfl; exact rfl; (first | exact trivial | omega | exact ⟨Int.natCast_nonneg _, Int.ofNat_lt.2 (by assumption)⟩ | decide); clear hF a; intro a hF) | (with_reducible refine w_ret ?_) | (with_reducible refine q_then_r ?_) | ((with_reducible apply c_true2 hF); exact rfl; (first | with_reducible rfl | (refine congrArg Value.bool ?_; focus (simp; done))))))
    all_goals (apply f_ret Try.results8 hF hM; (repeat (first | exact RL.nil | (apply RL.tmp; exact rfl) | (apply RL.cell; exact rfl; (repeat (first | exact List.mem_cons_self | refine List.mem_cons_of_mem _ ?_)); exact rfl))); refine Ret.mk hM.since ?_; dsimp only [resV])
  obtain ⟨hs1, hs2, hs3⟩ := hs
  have hsa : ([(a1, dict.length, c1), (a2, sa.length, c2), (a3, b.length, c3)] : List (Option Addr × Nat × Nat)).all (fun p => decide (p.2.1 ≤ 400)) = true := by simp [hs1, hs2, hs3]
  (((with_reducible apply s_call (f := 11) hF hM); exact rfl; exact rfl; exact rfl; exact rfl; exact rfl; exact (small_t (hM.facts _ (by with_reducible (repeat (first | exact List.mem_cons_self | refine List.mem_cons_of_mem _ ?_)); all_goals fail)) (by decide) hsa rfl hM.lt); clear hF hM a; rintro v w a rfl - hM hF))
  have hl1 := encD_len dict sa
  have hl2 := encD_len (dict ++ sa) b
  have hb1 := encD_By hd ha
  have hb2 := encD_By (hd.app ha) hb
  obtain ⟨all, hall⟩ : ∃ all, all = dict ++ sa := ⟨_, rfl⟩
  have hall2 : all.length = dict.length + sa.length := by rw [hall, List.length_append]
  have he := decD_two dict sa b rfl
  rw [← hall] at hl2 hb2 he
  obtain ⟨E1, hE1⟩ : ∃ E, encD dict sa = E := ⟨_, rfl⟩
  obtain ⟨E2, hE2⟩ : ∃ E, encD all b = E := ⟨_, rfl⟩
  rw [hE1] at hl1 hb1 he
  rw [hE2] at hl2 hb2 he
  (repeat (first | (with_reducible refine w_seq ?_) | (with_reducible refine c_region ?_) | (with_reducible refine s_nil ?_) | ((with_reducible apply s_call (f := 14) hF hM); exact rfl; exact rfl; exact rfl; exact rfl; exact rfl; exact (EncodeD_e (hM.facts (RdF (Value.int .u8) a1 dict) (by with_reducible (repeat (first | exact List.mem_cons_self | refine List.mem_cons_of_mem _ ?_)); all_goals fail)) (hM.facts (RdF (Value.int .u8) a2 sa) (by with_reducible (repeat (first | exact List.mem_cons_self | refine List.mem_cons_of_mem _ ?_)); all_goals fail)) hE1 rfl rfl ⟨by omega, by omega⟩ hM.lt); clear hF hM a; rintro v w a ⟨aX, cX, rfl, hcX, hx⟩ - hM hF; replace hM := hM.addFact hx) | ((with_reducible apply s_lit0 hF hM); exact rfl; exact rfl; exact rfl; exact rfl; clear hF hM a; intro bl w a hM hF) | ((with_reducible apply s_appF hF hM); exact rfl; exact rfl; (repeat (first | exact List.mem_cons_self | refine List.mem_cons_of_mem _ ?_)); exact rfl; exact rfl; (repeat (first | exact Kth.z | apply Kth.s)); (intro _; exact rfl); exact rfl; omega; clear hF hM a; intro g cap w a hM hF; dsimp only [List.set] at hM) | (with_reducible refine q_then_n ?_) | ((with_reducible apply s_pure hF); exact rfl; exact rfl; exact rfl; (first | exact trivial | omega | exact ⟨Int.natCast_nonneg _, Int.ofNat_lt.2 (by assumption)⟩ | decide); clear hF a; intro a hF) | (with_reducible refine w_skip ?_) | ((with_reducible apply c_false2 hF); exact rfl; (first | with_reducible rfl | (refine congrArg Value.bool ?_; focus (simp; done))))))
  replace hM := hM.permL (List.Perm.swap _ _ _)
  simp only [Nat.zero_add, List.nil_append, ← List.map_append] at hM hF
  rw [← hall, ← hall2] at hM
  rw [← hall2] at hF
  replace hM := hM.freezeRow
  (((with_reducible apply s_call (f := 14) hF hM); exact rfl; exact rfl; exact rfl; exact rfl; exact rfl; exact (EncodeD_e (dict := all) (b := b) (hM.facts _ (by with_reducible (repeat (first | exact List.mem_cons_self | refine List.mem_cons_of_mem _ ?_)); all_goals fail)) (hM.facts (RdF (Value.int .u8) a3 b) (by with_reducible (repeat (first | exact List.mem_cons_self | refine List.mem_cons_of_mem _ ?_)); all_goals fail)) hE2 rfl rfl ⟨by omega, by omega⟩ hM.lt); clear hF hM a; rintro v w a ⟨aY, cY, rfl, hcY, hx⟩ - hM hF; replace hM := hM.addFact hx))
  (repeat (first | (with_reducible refine w_seq ?_) | (with_reducible refine c_region ?_) | (with_reducible refine s_nil ?_) | ((with_reducible apply s_appF hF hM); exact rfl; exact rfl; (repeat (first | exact List.mem_cons_self | refine List.mem_cons_of_mem _ ?_)); exact rfl; exact rfl; (repeat (first | exact Kth.z | apply Kth.s)); (intro _; exact rfl); exact rfl; omega; clear hF hM a; intro g cap w a hM hF; dsimp only [List.set] at hM) | (with_reducible refine q_then_n ?_) | ((with_reducible apply s_pure hF); exact rfl; exact rfl; exact rfl; (first | exact trivial | omega | exact ⟨Int.natCast_nonneg _, Int.ofNat_lt.2 (by assumption)⟩ | decide); clear hF a; intro a hF)))
  obtain ⟨T, hT⟩ : ∃ T, E1 ++ E2 = T := ⟨_, rfl⟩
  have hTl : T.length = E1.length + E2.length := by rw [← hT, List.length_append]
  have hTb : By T := by rw [← hT]; exact hb1.app hb2
  simp only [← List.map_append] at hM
  rw [hT, ← hTl] at hM
  rw [← hTl] at hF
  rw [hT] at he
  have hcT := row_capB hM List.mem_cons_self
  replace hM := hM.freezeRow
  (((with_reducible apply s_call (f := 16) hF hM); exact rfl; exact rfl; exact rfl; exact rfl; exact rfl; exact (DecodeD_ok (hM.facts (RdF (Value.int .u8) a1 dict) (by with_reducible (repeat (first | exact List.mem_cons_self | refine List.mem_cons_of_mem _ ?_)); all_goals fail)) (b := T) (hM.facts _ (by with_reducible (repeat (first | exact List.mem_cons_self | refine List.mem_cons_of_mem _ ?_)); all_goals fail)) he hTb rfl rfl ⟨by omega, by omega⟩ ⟨by omega, by omega⟩ hcT hM.lt); clear hF hM a; rintro v w a ⟨aR, cR, rfl, hcR, hx⟩ - hM hF; replace hM := hM.addFact hx))
  (repeat (first | (with_reducible refine w_seq ?_) | (with_reducible refine c_region ?_) | (with_reducible refine s_nil ?_) | ((with_reducible apply s_call (f := 12) hF hM); exact rfl; exact rfl; exact rfl; exact rfl; exact rfl; exact (awake_c _ _ hM.lt); clear hF hM a; rintro v w a rfl - hM hF) | ((with_reducible apply s_lit0 hF hM); exact rfl; exact rfl; exact rfl; exact rfl; clear hF hM a; intro bl w a hM hF) | ((with_reducible apply s_appF hF hM); exact rfl; exact rfl; (repeat (first | exact List.mem_cons_self | refine List.mem_cons_of_mem _ ?_)); exact rfl; exact rfl; (repeat (first | exact Kth.z | apply Kth.s)); (intro _; exact rfl); exact rfl; omega; clear hF hM a; intro g cap w a hM hF; dsimp only [List.set] at hM) | (with_reducible refine q_then_n ?_) | ((with_reducible apply s_pure hF); exact rfl; exact rfl; exact rfl; (first | exact trivial | omega | exact ⟨Int.natCast_nonneg _, Int.ofNat_lt.2 (by assumption)⟩ | decide); clear hF a; intro a hF)))
  have hAB : (sa ++ b).length = sa.length + b.length := List.length_append
  have hBy := ha.app hb
  simp only [Nat.zero_add, List.nil_append, ← List.map_append] at hM hF
  rw [← hAB] at hM
  replace hF := Fr.same (t := 54) (u := .slice g (sa ++ b).length cap) hF rfl (by rw [hAB])
  replace hM := hM.freezeRow
  (((with_reducible apply s_call (f := 13) hF hM); exact rfl; exact rfl; exact rfl; exact rfl; exact rfl; exact (Equal_t (xs := sa ++ b) (hM.facts _ (by with_reducible (repeat (first | exact List.mem_cons_self | refine List.mem_cons_of_mem _ ?_)); all_goals fail)) (hM.facts _ (by with_reducible (repeat (first | exact List.mem_cons_self | refine List.mem_cons_of_mem _ ?_)); all_goals fail)) hBy rfl rfl hM.lt); clear hF hM a; rintro v w a rfl - hM hF))
  (repeat (first | (with_reducible refine s_nil ?_) | (with_reducible refine q_then_n ?_) | ((with_reducible apply s_pure hF); exact rfl; exact rfl; exact rfl; (first | exact trivial | omega | exact ⟨Int.natCast_nonneg _, Int.ofNat_lt.2 (by assumption)⟩ | decide); clear hF a; intro a hF) | (with_reducible refine w_ret ?_)))
  (apply f_ret Try.results8 hF hM; (repeat (first | exact RL.nil | (apply RL.tmp; exact rfl) | (apply RL.cell; exact rfl; (repeat (first | exact List.mem_cons_self | refine List.mem_cons_of_mem _ ?_)); exact rfl))); refine Ret.mk hM.since ?_; dsimp only [resV])
end Go.Proofs.Ytocgpllmfdnfjaa
