/- Layer 55 in plain terms: minima, sums and convolutions, at every time. -/
import Derived.Test.YtpkledpnicocmaaC5d
set_option linter.unusedSimpArgs false
set_option linter.unusedVariables false
namespace Go.Proofs.Ytpkledpnicocmaa
open C55
namespace C55
theorem fin_inv {l : List Int} {S : Int} {c : Cu} (h : fin l S = (c, 0)) : c = ⟨l, S⟩ ∧ l.length ≤ 4096 ∧ (∀ x ∈ l, x ≤ 1073741824) ∧ S ≤ 1073741824 := by
  unfold fin at h
  split at h
  · simp at h
  · split at h
    · simp at h
    · rename_i h1 h2
      simp only [Prod.mk.injEq, and_true] at h
      rw [Bool.not_eq_true, Bool.or_eq_false_iff, List.any_eq_false] at h2
      refine ⟨h.symm, by omega, fun x hx => ?_, ?_⟩
      · have := h2.1 x hx
        simp only [decide_eq_true_eq] at this
        omega
      · have := h2.2
        simp only [decide_eq_false_iff_not] at this
        omega
theorem tab_at {F : Nat → Int} {n k : Nat} (h : k < n) : (tab F n)[k]? = some (F k) := by simp [tab, h]
theorem tab_vl {F : Nat → Int} {n : Nat} {S : Int} {k : Nat} (h : k < n) : vl ⟨tab F n, S⟩ k = F k := by
  have h1 := vl_in (c := ⟨tab F n, S⟩) (k := k) (by simp only [tab_len]; exact h)
  simp only [tab_at h, Option.some.injEq] at h1
  exact h1.symm
/-- A table of a function that is a line from its last place on is the function. -/
theorem tab_curve {F : Nat → Int} {L : Nat} {S : Int} (hl : ∀ u : Nat, F (L + u) = F L + (u : Int) * S) (k : Nat) : vl ⟨tab F (L + 1), S⟩ k = F k := by
  rcases Nat.lt_or_ge k (L + 1) with h | h
  · exact tab_vl h
  · have h2 := vl_line (c := ⟨tab F (L + 1), S⟩) (by simp only [tab_len]; omega) (k := L) (by simp only [tab_len]; omega) (k - L)
    rw [show L + (k - L) = k by omega, tab_vl (show L < L + 1 by omega)] at h2
    have h3 := hl (k - L)
    rw [show L + (k - L) = k by omega] at h3
    rw [h2, h3]
theorem tab_ok {F : Nat → Int} {n : Nat} {S : Int} {c : Cu} (hn : 1 ≤ n) (hf : fin (tab F n) S = (c, 0)) (h0 : ∀ k, 0 ≤ F k) (hm : ∀ k, F k ≤ F (k + 1)) (hs : 0 ≤ S) : c = ⟨tab F n, S⟩ ∧ Ok c := by
  obtain ⟨rfl, h1, h2, h3⟩ := fin_inv hf
  rw [tab_len] at h1
  refine ⟨rfl, by simp only [tab_len]; exact hn, by simp only [tab_len]; exact h1, fun x hx => ⟨?_, h2 x hx⟩, ⟨hs, h3⟩, srt_step fun i x y hx hy => ?_⟩
  · obtain ⟨k, hk, rfl⟩ := List.mem_map.1 hx
    exact h0 k
  · have g := (List.getElem?_eq_some_iff.1 hy).1
    simp only [tab_len] at g
    simp only [tab_at (show i < n by omega), Option.some.injEq] at hx
    simp only [tab_at g, Option.some.injEq] at hy
    rw [← hx, ← hy]
    exact hm i
/-! Two lines -/
theorem cross_sym (p sp q sq : Int) : cross p sp q sq = cross q sq p sp := by
  unfold cross
  by_cases h : sp = sq
  · rw [if_pos h, if_pos h.symm]
  · rw [if_neg h, if_neg (fun e : sq = sp => h e.symm)]
    by_cases h2 : sq < sp
    · rw [if_pos h2, if_neg (show ¬ sp < sq by omega)]
    · rw [if_neg h2, if_pos (show sp < sq by omega)]
theorem mul_split (a b c : Int) : (a + b) * c = a * c + b * c := Int.add_mul a b c
/-- From the crossing on, the line with the lesser slope is the lesser one. -/
theorem cross_says {p sp q sq : Int} {K : Nat} (hK : cross p sp q sq = K) (u : Nat) : min (p + ((K + u : Nat) : Int) * sp) (q + ((K + u : Nat) : Int) * sq) = min (p + (K : Int) * sp) (q + (K : Int) * sq) + (u : Int) * min sp sq := by
  have e1 := mul_split (K : Int) (u : Int) sp
  have e2 := mul_split (K : Int) (u : Int) sq
  rw [← Int.natCast_add] at e1 e2
  rw [e1, e2]
  have key : ∀ {a b x y : Int}, y < x → (b ≤ a ∧ K = 0 ∨ a < b ∧ (b - a + (x - y) - 1) / (x - y) = (K : Int)) → b + (K : Int) * y ≤ a + (K : Int) * x ∧ (u : Int) * y ≤ (u : Int) * x := by
    intro a b x y hxy h
    refine ⟨?_, Int.mul_le_mul_of_nonneg_left (by omega) (by omega)⟩
    rcases h with ⟨h1, h2⟩ | ⟨h1, h2⟩
    · subst h2
      simp
      exact h1
    · have := ceil_ge (a := b - a) (b := x - y) (by omega)
      rw [h2, Int.mul_sub] at this
      omega
  unfold cross at hK
  split at hK
  · rename_i h
    subst h
    rw [Int.min_self]
    omega
  · rename_i hne
    split at hK
    · rename_i hlt
      have := key (a := p) (b := q) hlt (by
        split at hK
        · exact .inl ⟨by assumption, by omega⟩
        · exact .inr ⟨by omega, hK⟩)
      rw [Int.min_eq_right (show sq ≤ sp by omega)]
      omega
    · rename_i hlt
      have := key (a := q) (b := p) (x := sq) (y := sp) (by omega) (by
        split at hK
        · exact .inl ⟨by assumption, by omega⟩
        · exact .inr ⟨by omega, hK⟩)
      rw [Int.min_eq_left (show sp ≤ sq by omega)]
      omega
theorem cross_nat {p sp q sq : Int} (hp : 0 ≤ p ∧ p ≤ 4000000000000000000) (hq : 0 ≤ q ∧ q ≤ 4000000000000000000) (hs : 0 ≤ sp ∧ sp ≤ 1073741824) (hs2 : 0 ≤ sq ∧ sq ≤ 1073741824) : ∃ K : Nat, cross p sp q sq = K :=
  ⟨(cross p sp q sq).toNat, by have := cross_bd hp hq hs hs2; omega⟩
theorem vl_nn {c : Cu} (h : Ok c) (k : Nat) : 0 ≤ vl c k := by
  have h0 := h.l0
  have h1 := vl_le h (k := 0) (j := k) (by omega)
  have h2 := vl_in (c := c) (k := 0) (by omega)
  have h3 := h.v _ (List.mem_of_getElem? h2)
  omega
/-- The minimum. -/
theorem min_says {A B : Cu} (ha : Ok A) (hb : Ok B) {c : Cu} (h : minR A B = (c, 0)) : Ok c ∧ ∀ k, vl c k = min (vl A k) (vl B k) := by
  have a0 := ha.l0
  have b0 := hb.l0
  unfold minR at h
  rw [if_neg (by rw [pairE_zero ha hb]; simp)] at h
  obtain ⟨L, hL⟩ : ∃ L, max A.V.length B.V.length = L + 1 := ⟨max A.V.length B.V.length - 1, by omega⟩
  have hLz : max (A.V.length : Int) B.V.length - 1 = (L : Int) := by omega
  rw [hL, hLz, show val A (L : Int) = vl A L from rfl, show val B (L : Int) = vl B L from rfl] at h
  have k1 := ha.l1
  have k2 := hb.l1
  have b1 := vl_bd ha (k := L) (by omega)
  have b2 := vl_bd hb (k := L) (by omega)
  obtain ⟨K, hK⟩ := cross_nat (p := vl A L) (sp := A.S) (q := vl B L) (sq := B.S) (by omega) (by omega) ha.s hb.s
  rw [hK, Int.toNat_natCast, show L + 1 + K = L + K + 1 by omega] at h
  have sA := ha.s
  have sB := hb.s
  obtain ⟨rfl, hok⟩ := tab_ok (F := fun t => min (vl A t) (vl B t)) (by omega) h (fun k => by have := vl_nn ha k; have := vl_nn hb k; (try dsimp only); omega) (fun k => by have := vl_step ha k; have := vl_step hb k; (try dsimp only); omega) (by omega)
  refine ⟨hok, tab_curve fun u => ?_⟩
  have e := cross_says hK u
  have l1 := vl_line a0 (k := L) (by omega) (K + u)
  have l2 := vl_line b0 (k := L) (by omega) (K + u)
  have l3 := vl_line a0 (k := L) (by omega) K
  have l4 := vl_line b0 (k := L) (by omega) K
  (try dsimp only)
  rw [show L + K + u = L + (K + u) by omega, l1, l2, l3, l4]
  exact e
/-- The sum. -/
theorem add_says {A B : Cu} (ha : Ok A) (hb : Ok B) {c : Cu} (h : addR A B = (c, 0)) : Ok c ∧ ∀ k, vl c k = vl A k + vl B k := by
  have a0 := ha.l0
  have b0 := hb.l0
  unfold addR at h
  rw [if_neg (by rw [pairE_zero ha hb]; simp)] at h
  obtain ⟨L, hL⟩ : ∃ L, max A.V.length B.V.length = L + 1 := ⟨max A.V.length B.V.length - 1, by omega⟩
  rw [hL] at h
  have sA := ha.s
  have sB := hb.s
  obtain ⟨rfl, hok⟩ := tab_ok (F := fun t => vl A t + vl B t) (by omega) h (fun k => by have := vl_nn ha k; have := vl_nn hb k; (try dsimp only); omega) (fun k => by have := vl_step ha k; have := vl_step hb k; (try dsimp only); omega) (by omega)
  refine ⟨hok, tab_curve fun u => ?_⟩
  have l1 := vl_line a0 (k := L) (by omega) u
  have l2 := vl_line b0 (k := L) (by omega) u
  (try dsimp only)
  rw [l1, l2, Int.mul_add]
  omega
/-! Convolutions -/
theorem lst_le (F G : Nat → Int) (r : Nat) : ∀ s i, i ≤ s → lst F G r s ≤ F i + G (r - i)
  | 0, i, h => by obtain rfl : i = 0 := by omega
                  exact Int.le_refl _
  | s + 1, i, h => by
    unfold lst
    by_cases e : i = s + 1
    · subst e; omega
    · have := lst_le F G r s i (by omega); omega
theorem lst_one (F G : Nat → Int) (r : Nat) : ∀ s, ∃ i, i ≤ s ∧ lst F G r s = F i + G (r - i)
  | 0 => ⟨0, by omega, rfl⟩
  | s + 1 => by
    unfold lst
    obtain ⟨i, h1, h2⟩ := lst_one F G r s
    by_cases e : lst F G r s ≤ F (s + 1) + G (r - (s + 1))
    · exact ⟨i, by omega, by omega⟩
    · exact ⟨s + 1, by omega, by omega⟩
def conv (A B : Cu) (t : Nat) : Int := lst (vl A) (vl B) t t
theorem conv_comm (A B : Cu) (t : Nat) : conv A B t = conv B A t := by
  have key : ∀ A B : Cu, conv A B t ≤ conv B A t := by
    intro A B
    obtain ⟨i, h1, h2⟩ := lst_one (vl B) (vl A) t t
    have := lst_le (vl A) (vl B) t t (t - i) (by omega)
    rw [show t - (t - i) = i by omega] at this
    unfold conv
    omega
  have := key A B
  have := key B A
  omega
theorem conv_nn {A B : Cu} (ha : Ok A) (hb : Ok B) (t : Nat) : 0 ≤ conv A B t := by
  obtain ⟨i, h1, h2⟩ := lst_one (vl A) (vl B) t t
  have := vl_nn ha i
  have := vl_nn hb (t - i)
  unfold conv
  omega
theorem conv_step {A B : Cu} (ha : Ok A) (hb : Ok B) (t : Nat) : conv A B t ≤ conv A B (t + 1) := by
  obtain ⟨i, h1, h2⟩ := lst_one (vl A) (vl B) (t + 1) (t + 1)
  unfold conv
  rw [h2]
  rcases Nat.lt_or_ge t i with g | g
  · obtain rfl : i = t + 1 := by omega
    have h3 := lst_le (vl A) (vl B) t t t (by omega)
    have h4 := vl_step ha t
    rw [show t - t = 0 by omega] at h3
    rw [show t + 1 - (t + 1) = 0 by omega]
    omega
  · have h3 := lst_le (vl A) (vl B) t t i g
    have h4 := vl_step hb (t - i)
    rw [show t - i + 1 = t + 1 - i by omega] at h4
    omega
/-- Behind the last values the convolution is the lesser one of two lines. -/
theorem conv_lines {A B : Cu} (ha : Ok A) (hb : Ok B) {la lb : Nat} (hla : A.V.length = la + 1) (hlb : B.V.length = lb + 1) (u : Nat) :
    conv A B (la + lb + u) = min (lst (vl A) (vl B) (la + lb) la + (u : Int) * B.S) (lst (vl B) (vl A) (la + lb) lb + (u : Int) * A.S) := by
  have a0 := ha.l0
  have b0 := hb.l0
  have sA := ha.s
  have sB := hb.s
  have hP : conv A B (la + lb + u) ≤ lst (vl A) (vl B) (la + lb) la + (u : Int) * B.S := by
    obtain ⟨i, h1, h2⟩ := lst_one (vl A) (vl B) (la + lb) la
    have h3 := lst_le (vl A) (vl B) (la + lb + u) (la + lb + u) i (by omega)
    have h4 := vl_line b0 (k := la + lb - i) (by omega) u
    rw [show la + lb - i + u = la + lb + u - i by omega] at h4
    unfold conv
    omega
  have hQ : conv A B (la + lb + u) ≤ lst (vl B) (vl A) (la + lb) lb + (u : Int) * A.S := by
    obtain ⟨j, h1, h2⟩ := lst_one (vl B) (vl A) (la + lb) lb
    have h3 := lst_le (vl A) (vl B) (la + lb + u) (la + lb + u) (la + lb + u - j) (by omega)
    have h4 := vl_line a0 (k := la + lb - j) (by omega) u
    rw [show la + lb - j + u = la + lb + u - j by omega] at h4
    rw [show la + lb + u - (la + lb + u - j) = j by omega] at h3
    unfold conv
    omega
  have hge : lst (vl A) (vl B) (la + lb) la + (u : Int) * B.S ≤ conv A B (la + lb + u) ∨ lst (vl B) (vl A) (la + lb) lb + (u : Int) * A.S ≤ conv A B (la + lb + u) := by
    obtain ⟨i, h1, h2⟩ := lst_one (vl A) (vl B) (la + lb + u) (la + lb + u)
    unfold conv
    rw [h2]
    by_cases c1 : i ≤ la
    · left
      have h3 := lst_le (vl A) (vl B) (la + lb) la i c1
      have h4 := vl_line b0 (k := la + lb - i) (by omega) u
      rw [show la + lb - i + u = la + lb + u - i by omega] at h4
      omega
    by_cases c2 : la + lb + u - i ≤ lb
    · right
      have h3 := lst_le (vl B) (vl A) (la + lb) lb (la + lb + u - i) c2
      have h4 := vl_line a0 (k := la + lb - (la + lb + u - i)) (by omega) u
      rw [show la + lb - (la + lb + u - i) + u = i by omega] at h4
      omega
    have h3 := vl_line a0 (k := la) (by omega) (i - la)
    have h4 := vl_line b0 (k := lb) (by omega) (la + lb + u - i - lb)
    rw [show la + (i - la) = i by omega] at h3
    rw [show lb + (la + lb + u - i - lb) = la + lb + u - i by omega] at h4
    obtain ⟨x, hx⟩ : ∃ x, i - la = x := ⟨_, rfl⟩
    obtain ⟨y, hy⟩ : ∃ y, la + lb + u - i - lb = y := ⟨_, rfl⟩
    rw [hx] at h3
    rw [hy] at h4
    obtain rfl : u = x + y := by omega
    have h5 := mul_split (x : Int) (y : Int) B.S
    have h6 := mul_split (x : Int) (y : Int) A.S
    rw [← Int.natCast_add] at h5 h6
    by_cases c3 : B.S ≤ A.S
    · left
      have h7 := lst_le (vl A) (vl B) (la + lb) la la (by omega)
      rw [show la + lb - la = lb by omega] at h7
      have h8 : (x : Int) * B.S ≤ (x : Int) * A.S := Int.mul_le_mul_of_nonneg_left c3 (by omega)
      omega
    · right
      have h7 := lst_le (vl B) (vl A) (la + lb) lb lb (by omega)
      rw [show la + lb - lb = la by omega] at h7
      have h8 : (y : Int) * A.S ≤ (y : Int) * B.S := Int.mul_le_mul_of_nonneg_left (by omega) (by omega)
      omega
  omega
theorem convR_comm {A B : Cu} (ha : Ok A) (hb : Ok B) : convR A B = convR B A := by
  unfold convR
  rw [pairE_zero ha hb, pairE_zero hb ha]
  have hk : convK A B = convK B A := by
    unfold convK
    rw [cross_sym, Nat.add_comm B.V.length]
  rw [hk, Nat.add_comm B.V.length, Int.min_comm A.S]
  have : (fun t => lst (vl A) (vl B) t t) = fun t => lst (vl B) (vl A) t t := funext (conv_comm A B)
  rw [this]
theorem conv_says {A B : Cu} (ha : Ok A) (hb : Ok B) {c : Cu} (h : convR A B = (c, 0)) : Ok c ∧ ∀ k, vl c k = conv A B k := by
  have a0 := ha.l0
  have b0 := hb.l0
  have a1 := ha.l1
  have b1 := hb.l1
  unfold convR at h
  rw [if_neg (by rw [pairE_zero ha hb]; simp)] at h
  obtain ⟨la, hla⟩ : ∃ la, A.V.length = la + 1 := ⟨A.V.length - 1, by omega⟩
  obtain ⟨lb, hlb⟩ : ∃ lb, B.V.length = lb + 1 := ⟨B.V.length - 1, by omega⟩
  have q1 := lst_bd' ha hb (r := la + lb) (s := la) (by omega) (by omega)
  have q2 := lst_bd' hb ha (r := la + lb) (s := lb) (by omega) (by omega)
  obtain ⟨K, hK⟩ := cross_nat (p := lst (vl A) (vl B) (la + lb) la) (sp := B.S) (q := lst (vl B) (vl A) (la + lb) lb) (sq := A.S) (by omega) (by omega) hb.s ha.s
  have hk : convK A B = K := by
    unfold convK
    rw [hla, hlb, show la + 1 + (lb + 1) - 2 = la + lb by omega]
    exact hK
  rw [hk, Int.toNat_natCast, hla, hlb, show la + 1 + (lb + 1) - 1 + K = la + lb + K + 1 by omega, Int.min_comm] at h
  have sA := ha.s
  have sB := hb.s
  obtain ⟨rfl, hok⟩ := tab_ok (F := fun t => lst (vl A) (vl B) t t) (by omega) h (fun k => conv_nn ha hb k) (fun k => conv_step ha hb k) (by omega)
  refine ⟨hok, tab_curve (F := conv A B) fun u => ?_⟩
  have e := cross_says hK u
  rw [show la + lb + K + u = la + lb + (K + u) by omega, conv_lines ha hb hla hlb, conv_lines ha hb hla hlb]
  exact e
end C55
end Go.Proofs.Ytpkledpnicocmaa
