/- Plain laws of the encoding of sectors: it is decoded to itself. -/
import Derived.Test.YthcnnedgfndklaaY7
set_option linter.unusedSimpArgs false
set_option linter.unusedVariables false
set_option linter.unusedSectionVars false
namespace Go.Proofs.Ythcnnedgfndklaa
theorem takeWhile_get {α : Type} {p : α → Bool} : ∀ {L : List α} {j : Nat}, j < (L.takeWhile p).length → ∃ x, L[j]? = some x ∧ p x = true
  | [], j, h => by simp at h
  | x :: L, j, h => by
    by_cases hp : p x = true
    · rw [List.takeWhile_cons_of_pos hp] at h
      cases j with
      | zero => exact ⟨x, rfl, hp⟩
      | succ j => exact takeWhile_get (L := L) (by simpa using h)
    · rw [List.takeWhile_cons_of_neg hp] at h
      simp at h
theorem takeWhile_stop {α : Type} {p : α → Bool} : ∀ {L : List α} {x : α}, L[(L.takeWhile p).length]? = some x → p x = false
  | [], x, h => by simp at h
  | y :: L, x, h => by
    by_cases hp : p y = true
    · rw [List.takeWhile_cons_of_pos hp] at h
      exact takeWhile_stop (L := L) (by simpa using h)
    · rw [List.takeWhile_cons_of_neg hp] at h
      simp at h
      subst h
      simpa using hp
theorem rl_all {l : List (List Int)} {i j : Nat} (hi : i < l.length) (h : j < rl l i) : l[i + j]? = l[i]? := by
  cases j with
  | zero => rfl
  | succ j =>
    unfold rl at h
    obtain ⟨x, h1, h2⟩ := takeWhile_get (L := l.drop (i + 1)) (p := fun s => decide (l[i]? = some s)) (j := j) (by omega)
    rw [List.getElem?_drop] at h1
    rw [show i + (j + 1) = i + 1 + j by omega, h1]
    exact (of_decide_eq_true h2).symm
theorem rl_stop {l : List (List Int)} {i : Nat} (h : i + rl l i < l.length) : l[i + rl l i]? ≠ l[i]? := by
  obtain ⟨x, hx⟩ := get_of_lt h
  intro e
  unfold rl at hx e h
  have hs := takeWhile_stop (L := l.drop (i + 1)) (p := fun s => decide (l[i]? = some s)) (x := x) (by rw [List.getElem?_drop, Nat.add_assoc]; exact hx)
  have := of_decide_eq_false hs
  rw [hx] at e
  exact this e.symm
/-- Numbers that are put are read. -/
theorem rdN_puts (n : Nat) : ∀ (i f : Nat) (acc : Int) (xs ys : List Int), xs.drop i = puts n ++ ys → (puts n).length ≤ f → 0 ≤ acc → acc + n * 128 ^ i ≤ 9007199254740991 → (n = 0 → i = 0) → rdN xs f i acc = (acc + n * 128 ^ i, 0, i + (puts n).length) := by
  induction n using Nat.strongRecOn with
  | _ n ih =>
    intro i f acc xs ys hd hf ha hb h0
    have get0 : ∀ (b : Int) (r : List Int), puts n = b :: r → xs[i]? = some b := by
      intro b r e
      have : (xs.drop i)[0]? = some b := by rw [hd, e]; rfl
      rw [List.getElem?_drop] at this
      exact this
    by_cases h : n < 128
    · have e := puts_lt h
      rw [e] at hf ⊢
      simp only [List.length_cons, List.length_nil] at hf ⊢
      obtain ⟨f, rfl⟩ : ∃ k, f = k + 1 := ⟨f - 1, by omega⟩
      rw [rdN_some (get0 _ _ e), if_neg (by omega), if_neg]
      · rw [show ((n : Int)) % 128 = n by omega]
      · rw [show ((n : Int)) % 128 = n by omega]
        rintro (⟨h1, h2⟩ | h1)
        · have := h0 (by omega); omega
        · omega
    · have e := puts_ge h
      rw [e] at hf ⊢
      simp only [List.length_cons] at hf ⊢
      obtain ⟨f, rfl⟩ : ∃ k, f = k + 1 := ⟨f - 1, by omega⟩
      rw [rdN_some (get0 _ _ e), if_pos (by omega)]
      have hm : ((n % 128 + 128 : Nat) : Int) % 128 = ((n % 128 : Nat) : Int) := by omega
      rw [hm]
      have hp : (0 : Int) ≤ 128 ^ i := Int.pow_nonneg (by decide)
      have hq : ((n % 128 : Nat) : Int) * 128 ^ i + ((n / 128 : Nat) : Int) * 128 ^ (i + 1) = (n : Int) * 128 ^ i := by
        rw [Int.pow_succ, Int.mul_comm (128 ^ i) 128, ← Int.mul_assoc, ← Int.add_mul]
        congr 1
        omega
      have := ih (n / 128) (by omega) (i + 1) f (acc + ((n % 128 : Nat) : Int) * 128 ^ i) xs ys (by
        have h2 : xs.drop (i + 1) = (xs.drop i).drop 1 := by rw [List.drop_drop]
        rw [h2, hd, e]
        rfl) (by omega) (Int.add_nonneg ha (Int.mul_nonneg (by omega) hp)) (by rw [Int.add_assoc, hq]; exact hb) (fun h => by omega)
      rw [this, Int.add_assoc, hq]
      congr 2
      omega
theorem rdNum_puts {n : Nat} (hn : n ≤ 9007199254740991) (ys : List Int) : rdNum (puts n ++ ys) = ((n : Int), 0, (puts n).length) := by
  have := rdN_puts n 0 8 0 (puts n ++ ys) ys (by simp) (puts_len 7 n (by omega)) (by omega) (by omega) (fun _ => rfl)
  unfold rdNum
  rw [this]
  simp
theorem puts_pos (n : Nat) : 1 ≤ (puts n).length := by
  by_cases h : n < 128
  · rw [puts_lt h]; simp
  · rw [puts_ge h]; simp
theorem chunks_flat : ∀ (D : List (List Int)) (rest : List Int), W8 D → chunks D.length (D.flatten ++ rest) = D
  | [], _, _ => rfl
  | s :: D, rest, h => by
    have hs : s.length = 8 := h s (by simp)
    rw [List.length_cons, chunks, List.flatten_cons, List.append_assoc, List.take_left' hs, List.drop_left' hs, chunks_flat D rest fun y hy => h y (by simp [hy])]
theorem rep_of {α : Type} {s : α} : ∀ {L : List α} {n : Nat}, L.length = n → (∀ j, j < n → L[j]? = some s) → L = List.replicate n s
  | [], n, h, _ => by simp at h; subst h; rfl
  | x :: L, n, h, hj => by
    cases n with
    | zero => simp at h
    | succ n =>
      have h0 := hj 0 (by omega)
      simp at h0
      subst h0
      rw [List.replicate_succ, rep_of (L := L) (n := n) (by simpa using h) fun j hlt => by have := hj (j + 1) (by omega); simpa using this]
theorem take_more {α : Type} (l : List α) (i n : Nat) : l.take i ++ (l.drop i).take n = l.take (i + n) := by
  rw [List.take_add]
theorem run_rep {l : List (List Int)} {i : Nat} {s : List Int} (hi : i < l.length) (hs : l[i]? = some s) : (l.drop i).take (rl l i) = List.replicate (rl l i) s := by
  have h1 := rl_le hi
  refine rep_of (by rw [List.length_take, List.length_drop]; omega) fun j hj => ?_
  rw [List.getElem?_take, if_pos hj, List.getElem?_drop, rl_all hi hj, hs]
/-- A group of an encoding is read. -/
theorem grpD_enc {l : List (List Int)} (hw : W8 l) (hlen : l.length ≤ 30000) {i : Nat} (hi : i < l.length) (most : Nat) (rest : List Int) :
    grpD most (encG l i ++ rest) (l.take i) = if (most : Int) - i < (nx l i).2 then .error 5 else .ok (rest, l.take (i + (nx l i).2)) := by
  have hp := nx_pos (l := l) (i := i)
  have hl := nx_le hi
  have hk := nx_kind (l := l) (i := i)
  obtain ⟨s, hs⟩ := get_of_lt hi
  have hs8 := hw s (List.mem_of_getElem? hs)
  have hti : (l.take i).length = i := by rw [List.length_take]; omega
  unfold encG
  rw [List.append_assoc]
  unfold grpD
  rw [rdNum_puts (by omega)]
  simp only [ne_eq, not_true_eq_false, if_false, Int.toNat_natCast, List.drop_left]
  have h4 : (4 * (nx l i).2 + (nx l i).1) % 4 = (nx l i).1 := by omega
  have h5 : (4 * (nx l i).2 + (nx l i).1) / 4 = (nx l i).2 := by omega
  rw [h4, h5, hti, if_neg (by omega)]
  by_cases hm : (most : Int) - i < (nx l i).2
  · rw [if_pos hm, if_pos hm]
  rw [if_neg hm, if_neg hm]
  have hD8 : W8 ((l.drop i).take (lits l i)) := (hw.drop _).take _
  have hDl : ((l.drop i).take (lits l i)).length = lits l i := by
    have := lits_le (l := l) (i := i)
    rw [List.length_take, List.length_drop]; omega
  have hfl := flat_len hD8
  rw [hDl] at hfl
  unfold encS
  by_cases h0 : (nx l i).1 = 0
  · have hli : lits l i = (nx l i).2 := by unfold lits; rw [if_pos h0]
    rw [if_pos h0, List.length_append, hfl, if_neg (by omega)]
    rw [hli] at hDl hfl hD8 ⊢
    have hc := chunks_flat ((l.drop i).take (nx l i).2) rest hD8
    rw [hDl] at hc
    rw [hc, take_more, List.drop_left' (by omega)]
  · by_cases h1 : (nx l i).1 = 1
    · have hli : lits l i = 1 := by unfold lits; rw [if_neg h0, if_pos h1]
      have hn2 : (nx l i).2 = rl l i := by
        unfold nx at h0 h1 ⊢
        split
        · rfl
        · split
          · rfl
          · rename_i h2 h3; rw [if_neg h2, if_neg h3] at h1; cases h1
      rw [if_neg h0, if_pos h1, List.length_append, hfl, hli, if_neg (by omega)]
      have hd1 : ((l.drop i).take 1).flatten = s := by
        rw [List.take_one, List.head?_drop, hs]
        simp
      rw [hd1, List.take_left' hs8, List.drop_left' hs8, hn2, ← run_rep hi hs, take_more]
    · have h2 : (nx l i).1 = 2 := by omega
      have hli : lits l i = 0 := by unfold lits; rw [if_neg h0, if_neg h1]
      have hz : l[i]? = some zr ∧ (nx l i).2 = rl l i := by
        unfold nx at h2 ⊢
        split
        · rename_i h3; exact ⟨h3, rfl⟩
        · rename_i h3
          rw [if_neg h3] at h2
          split at h2
          · cases h2
          · cases h2
      rw [if_neg h0, if_neg h1, hli, hz.2, List.take_zero, List.flatten_nil, List.nil_append]
      rw [hz.1] at hs
      rw [← run_rep hi hz.1, take_more]
theorem encG_pos {l : List (List Int)} {i : Nat} : 1 ≤ (encG l i).length := by
  unfold encG
  have := puts_pos (4 * (nx l i).2 + (nx l i).1)
  rw [List.length_append]
  omega
theorem decF_enc {l : List (List Int)} (hw : W8 l) (hlen : l.length ≤ 30000) (most : Nat) (hm : l.length ≤ most) : ∀ (f i g : Nat), l.length ≤ i + f → i ≤ l.length → ((grpF l f i).flatMap fun (j : Fin l.length) => encG l j).length ≤ g → decF most g ((grpF l f i).flatMap fun (j : Fin l.length) => encG l j) (l.take i) = .ok l
  | 0, i, g, h, hi, _ => by
    rw [grpF, List.flatMap_nil, decF_nil rfl, List.take_of_length_le (by omega)]
  | f + 1, i, g, h, hi, hg => by
    rw [grpF] at hg ⊢
    by_cases hlt : i < l.length
    · rw [dif_pos hlt, List.flatMap_cons] at hg ⊢
      simp only at hg ⊢
      have hp := encG_pos (l := l) (i := i)
      have hn := nx_le hlt
      have hnp := nx_pos (l := l) (i := i)
      rw [List.length_append] at hg
      obtain ⟨g, rfl⟩ : ∃ k, g = k + 1 := ⟨g - 1, by omega⟩
      have := grpD_enc hw hlen hlt most ((grpF l f (i + (nx l i).2)).flatMap fun (j : Fin l.length) => encG l j)
      rw [if_neg (by omega)] at this
      rw [decF_ok (by rw [List.length_append]; omega) this]
      exact decF_enc hw hlen most hm f (i + (nx l i).2) g (by omega) (by omega) (by omega)
    · rw [dif_neg hlt, List.flatMap_nil, decF_nil rfl, List.take_of_length_le (by omega)]
theorem decF_short {l : List (List Int)} (hw : W8 l) (hlen : l.length ≤ 30000) (most : Nat) (hm : most + 1 = l.length) : ∀ (f i g : Nat), l.length ≤ i + f → i < l.length → ((grpF l f i).flatMap fun (j : Fin l.length) => encG l j).length ≤ g → decF most g ((grpF l f i).flatMap fun (j : Fin l.length) => encG l j) (l.take i) = .error 5
  | 0, i, g, h, hi, _ => by omega
  | f + 1, i, g, h, hlt, hg => by
    rw [grpF] at hg ⊢
    rw [dif_pos hlt, List.flatMap_cons] at hg ⊢
    simp only at hg ⊢
    have hp := encG_pos (l := l) (i := i)
    have hn := nx_le hlt
    have hnp := nx_pos (l := l) (i := i)
    rw [List.length_append] at hg
    obtain ⟨g, rfl⟩ : ∃ k, g = k + 1 := ⟨g - 1, by omega⟩
    have := grpD_enc hw hlen hlt most ((grpF l f (i + (nx l i).2)).flatMap fun (j : Fin l.length) => encG l j)
    by_cases hlast : i + (nx l i).2 < l.length
    · rw [if_neg (by omega)] at this
      rw [decF_ok (by rw [List.length_append]; omega) this]
      exact decF_short hw hlen most hm f (i + (nx l i).2) g (by omega) hlast (by omega)
    · rw [if_pos (by omega)] at this
      exact decF_err (by rw [List.length_append]; omega) this
theorem dec_enc {l : List (List Int)} (hw : W8 l) (hlen : l.length ≤ 30000) (most : Nat) (hm : l.length ≤ most) : dec most (enc l) = .ok l := by
  have := decF_enc hw hlen most hm l.length 0 (enc l).length (by omega) (by omega) (Nat.le_refl _)
  rw [List.take_zero] at this
  rw [dec_ok this, if_pos rfl]
theorem dec_short {l : List (List Int)} (hw : W8 l) (hlen : l.length ≤ 30000) (most : Nat) (hm : most + 1 = l.length) : dec most (enc l) = .error 5 := by
  have := decF_short hw hlen most hm l.length 0 (enc l).length (by omega) (by omega) (Nat.le_refl _)
  rw [List.take_zero] at this
  exact dec_err this
end Go.Proofs.Ythcnnedgfndklaa
