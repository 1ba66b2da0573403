/- Layer 55 in plain terms: values grow; delays and backlogs bound what they are to bound. -/
import Derived.Test.YtpkledpnicocmaaV9
set_option linter.unusedSimpArgs false
set_option linter.unusedVariables false
namespace Go.Proofs.Ytpkledpnicocmaa
open C55
namespace C55
theorem vl_in {c : Cu} {k : Nat} (h : k < c.V.length) : c.V[k]? = some (vl c k) := by
  unfold vl val
  rw [if_pos (by omega), Int.toNat_natCast, List.getD_eq_getElem?_getD, List.getElem?_eq_getElem h]
  rfl
theorem vl_out {c : Cu} {k : Nat} (h : c.V.length ≤ k) (h0 : 1 ≤ c.V.length) : vl c k = vl c (c.V.length - 1) + ((k : Int) - c.V.length + 1) * c.S := by
  have e := vl_in (c := c) (k := c.V.length - 1) (by omega)
  have e2 : c.V.getD (c.V.length - 1) 0 = vl c (c.V.length - 1) := by rw [List.getD_eq_getElem?_getD, e]; rfl
  rw [← e2]
  unfold vl val
  rw [if_neg (by omega)]
/-- From its last value on a curve is a line. -/
theorem vl_line {c : Cu} (h0 : 1 ≤ c.V.length) {k : Nat} (h : c.V.length ≤ k + 1) (u : Nat) : vl c (k + u) = vl c k + (u : Int) * c.S := by
  rcases Nat.lt_or_ge k c.V.length with g | g
  · obtain rfl : k = c.V.length - 1 := by omega
    rcases Nat.eq_zero_or_pos u with hu | hu
    · subst hu; simp
    · rw [vl_out (k := c.V.length - 1 + u) (by omega) h0]
      congr 2
      omega
  · rw [vl_out g h0, vl_out (k := k + u) (by omega) h0]
    rw [show ((k + u : Nat) : Int) - c.V.length + 1 = ((k : Int) - c.V.length + 1) + u by omega, Int.add_mul]
    omega
theorem mul_nn {a b : Int} (ha : 0 ≤ a) (hb : 0 ≤ b) : 0 ≤ a * b := Int.mul_nonneg ha hb
theorem vl_step {c : Cu} (h : Ok c) (k : Nat) : vl c k ≤ vl c (k + 1) := by
  have h0 := h.l0
  rcases Nat.lt_or_ge (k + 1) c.V.length with g | g
  · exact (srt_iff c.V).1 h.m k _ _ (vl_in (by omega)) (vl_in g)
  · rw [vl_line h0 g 1]
    have := h.s
    omega
theorem vl_mono {c : Cu} (h : Ok c) (k : Nat) : ∀ d, vl c k ≤ vl c (k + d)
  | 0 => Int.le_refl _
  | d + 1 => Int.le_trans (vl_mono h k d) (vl_step h (k + d))
theorem vl_le {c : Cu} (h : Ok c) {k j : Nat} (hk : k ≤ j) : vl c k ≤ vl c j := by
  have := vl_mono h k (j - k)
  rwa [show k + (j - k) = j by omega] at this
theorem lastV_eq {c : Cu} (h : Ok c) : lastV c = vl c (c.V.length - 1) := by
  have h0 := h.l0
  have e := vl_in (c := c) (k := c.V.length - 1) (by omega)
  unfold lastV
  rw [List.getD_eq_getElem?_getD, e]
  rfl
theorem ceil_ge {a b : Int} (hb : 1 ≤ b) : a ≤ ((a + b - 1) / b) * b := by
  have := Int.lt_ediv_add_one_mul_self (a + b - 1) (show 0 < b by omega)
  rw [Int.add_mul] at this
  omega
theorem ceil_lt {a b t : Int} (hb : 1 ≤ b) (ht : t < (a + b - 1) / b) : t * b < a := by
  have h1 : (t + 1) * b ≤ a + b - 1 := by
    have := (Int.le_ediv_iff_mul_le (show 0 < b by omega)).1 (show t + 1 ≤ (a + b - 1) / b by omega)
    exact this
  rw [Int.add_mul] at h1
  omega
theorem rch_nat {c : Cu} (h : Ok c) {x : Int} (hz : c.S = 0 → fpos c.V x < c.V.length) : ∃ r : Nat, rch c x = r ∧ x ≤ vl c r ∧ ∀ t, t < r → vl c t < x := by
  have h0 := h.l0
  unfold rch
  by_cases hin : fpos c.V x < c.V.length
  · rw [if_pos hin]
    refine ⟨_, rfl, fpos_ge (vl_in hin), fun t ht => fpos_lt ht (vl_in (by omega))⟩
  · rw [if_neg hin]
    have hS : 1 ≤ c.S := by
      have := h.s
      by_cases e : c.S = 0
      · exact absurd (hz e) hin
      · omega
    have hfp : fpos c.V x = c.V.length := by have := fpos_le c.V x; omega
    have hl : lastV c < x := by
      rw [lastV_eq h]
      exact fpos_lt (by omega) (vl_in (by omega))
    have hle := lastV_eq h
    unfold lastV at hl hle
    have hc := ceil_ge (a := x - c.V.getD (c.V.length - 1) 0) hS
    have hc2 := fun t => ceil_lt (a := x - c.V.getD (c.V.length - 1) 0) (t := t) hS
    have hnn : 0 ≤ (x - c.V.getD (c.V.length - 1) 0 + c.S - 1) / c.S := Int.ediv_nonneg (by omega) (by omega)
    obtain ⟨q, hq⟩ : ∃ q : Nat, (x - c.V.getD (c.V.length - 1) 0 + c.S - 1) / c.S = q := ⟨((x - c.V.getD (c.V.length - 1) 0 + c.S - 1) / c.S).toNat, by omega⟩
    rw [hq] at hc hc2 ⊢
    rw [hle] at hc hc2 hl
    refine ⟨c.V.length - 1 + q, by omega, ?_, ?_⟩
    · rw [vl_line h0 (by omega) q]
      omega
    · intro t ht
      rcases Nat.lt_or_ge t (c.V.length - 1) with g | g
      · have := vl_le h (k := t) (j := c.V.length - 1) (by omega)
        omega
      · have e := vl_line h0 (k := c.V.length - 1) (by omega) (t - (c.V.length - 1))
        rw [show c.V.length - 1 + (t - (c.V.length - 1)) = t by omega] at e
        have := hc2 (t - (c.V.length - 1) : Nat) (by omega)
        omega
theorem grt_nn (F : Nat → Int) : ∀ n, 0 ≤ grt F n
  | 0 => by simp [grt]
  | n + 1 => by have := grt_nn F n; unfold grt; omega
theorem grt_ge (F : Nat → Int) : ∀ n k, k < n → F k ≤ grt F n
  | n + 1, k, h => by
    unfold grt
    by_cases e : k = n
    · subst e; omega
    · have := grt_ge F n k (by omega); omega
theorem grt_one (F : Nat → Int) : ∀ n, grt F n = 0 ∨ ∃ k, k < n ∧ grt F n = F k
  | 0 => .inl rfl
  | n + 1 => by
    unfold grt
    by_cases e : grt F n ≤ F n
    · exact .inr ⟨n, by omega, by omega⟩
    · rcases grt_one F n with g | ⟨k, g1, g2⟩
      · exact .inl (by omega)
      · exact .inr ⟨k, by omega, by omega⟩
theorem pairE_zero {A B : Cu} (ha : Ok A) (hb : Ok B) : pairE A B = 0 := by
  unfold pairE
  rw [check_ok.2 ha, check_ok.2 hb]
  simp
/-- What a delay says. -/
theorem delay_says {A B : Cu} (ha : Ok A) (hb : Ok B) {d : Int} (h : delayR A B = (d, 0)) : ∃ n : Nat, d = n ∧ (∀ k, vl A k ≤ vl B (k + n)) ∧ (n = 0 ∨ ∃ k, k < max A.V.length B.V.length ∧ vl B (k + n - 1) < vl A k) := by
  have a0 := ha.l0
  have b0 := hb.l0
  unfold delayR at h
  rw [if_neg (by rw [pairE_zero ha hb]; simp)] at h
  split at h
  · simp at h
  · rename_i hno
    simp only [Prod.mk.injEq, and_true] at h
    obtain ⟨n, hn⟩ : ∃ n : Nat, d = n := ⟨d.toNat, by have := grt_nn (fun t => rch B (vl A t) - t) (max A.V.length B.V.length); omega⟩
    have hall : ∀ k, k < max A.V.length B.V.length → vl A k ≤ vl B (k + n) := by
      intro k hk
      obtain ⟨r, hr, hr2, _⟩ := rch_nat hb (x := vl A k) (reach_ok ha hb hno k)
      have := grt_ge (fun t => rch B (vl A t) - t) _ k hk
      try simp only at this
      exact Int.le_trans hr2 (vl_le hb (by omega))
    refine ⟨n, hn, fun k => ?_, ?_⟩
    · rcases Nat.lt_or_ge k (max A.V.length B.V.length) with g | g
      · exact hall k g
      · obtain ⟨N, hN⟩ : ∃ N, max A.V.length B.V.length = N + 1 := ⟨max A.V.length B.V.length - 1, by omega⟩
        have h1 := hall N (by omega)
        have e1 := vl_line a0 (k := N) (by omega) (k - N)
        have e2 := vl_line b0 (k := N + n) (by omega) (k - N)
        rw [show N + (k - N) = k by omega] at e1
        rw [show N + n + (k - N) = k + n by omega] at e2
        have h3 : ((k - N : Nat) : Int) * A.S ≤ ((k - N : Nat) : Int) * B.S := Int.mul_le_mul_of_nonneg_left (by omega) (by omega)
        omega
    · rcases grt_one (fun t => rch B (vl A t) - t) (max A.V.length B.V.length) with g | ⟨k, g1, g2⟩
      · exact .inl (by omega)
      · by_cases e : n = 0
        · exact .inl e
        · refine .inr ⟨k, g1, ?_⟩
          obtain ⟨r, hr, _, hr3⟩ := rch_nat hb (x := vl A k) (reach_ok ha hb hno k)
          try simp only at g2
          exact hr3 _ (by omega)
theorem backlog_says {A B : Cu} (ha : Ok A) (hb : Ok B) {d : Int} (h : backlogR A B = (d, 0)) : 0 ≤ d ∧ (∀ k, vl A k - vl B k ≤ d) ∧ (d = 0 ∨ ∃ k, k < max A.V.length B.V.length ∧ vl A k - vl B k = d) := by
  have a0 := ha.l0
  have b0 := hb.l0
  unfold backlogR at h
  rw [if_neg (by rw [pairE_zero ha hb]; simp)] at h
  split at h
  · simp at h
  · rename_i hno
    simp only [Prod.mk.injEq, and_true] at h
    have hall : ∀ k, k < max A.V.length B.V.length → vl A k - vl B k ≤ d := fun k hk => by
      have := grt_ge (fun t => vl A t - vl B t) _ k hk
      try simp only at this
      omega
    refine ⟨by have := grt_nn (fun t => vl A t - vl B t) (max A.V.length B.V.length); omega, fun k => ?_, ?_⟩
    · rcases Nat.lt_or_ge k (max A.V.length B.V.length) with g | g
      · exact hall k g
      · obtain ⟨N, hN⟩ : ∃ N, max A.V.length B.V.length = N + 1 := ⟨max A.V.length B.V.length - 1, by omega⟩
        have h1 := hall N (by omega)
        have e1 := vl_line a0 (k := N) (by omega) (k - N)
        have e2 := vl_line b0 (k := N) (by omega) (k - N)
        rw [show N + (k - N) = k by omega] at e1 e2
        have h3 : ((k - N : Nat) : Int) * A.S ≤ ((k - N : Nat) : Int) * B.S := Int.mul_le_mul_of_nonneg_left (by omega) (by omega)
        omega
    · rcases grt_one (fun t => vl A t - vl B t) (max A.V.length B.V.length) with g | ⟨k, g1, g2⟩
      · exact .inl (by omega)
      · exact .inr ⟨k, g1, by (try simp only at g2); omega⟩
end C55
end Go.Proofs.Ytpkledpnicocmaa
