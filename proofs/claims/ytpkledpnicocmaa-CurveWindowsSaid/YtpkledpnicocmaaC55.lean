/- Layer 55 in plain terms: curves, and what the functions of the layer answer. -/
import Derived.Test.YtpkledpnicocmaaBase
set_option linter.unusedSimpArgs false
set_option linter.unusedVariables false
namespace Go.Proofs.Ytpkledpnicocmaa
namespace C55
structure Cu where
  V : List Int
  S : Int
def tm (n : Int) : Bool := decide (0 ≤ n ∧ n ≤ 1073741824)
def srt : List Int → Bool
  | x :: y :: r => decide (x ≤ y) && srt (y :: r)
  | _ => true
theorem srt_iff : ∀ l : List Int, srt l = true ↔ ∀ (i : Nat) x y, l[i]? = some x → l[i + 1]? = some y → x ≤ y
  | [] => by simp [srt]
  | [x] => by simp [srt]
  | a :: b :: r => by
    unfold srt
    rw [Bool.and_eq_true, decide_eq_true_eq, srt_iff (b :: r)]
    constructor
    · rintro ⟨h1, h2⟩ i x y hx hy
      cases i with
      | zero => simp at hx hy; omega
      | succ i => exact h2 i x y (by simpa using hx) (by simpa using hy)
    · intro h
      exact ⟨h 0 a b rfl rfl, fun i x y hx hy => h (i + 1) x y (by simpa using hx) (by simpa using hy)⟩
theorem srt_false {l : List Int} {i : Nat} {x y : Int} (hx : l[i]? = some x) (hy : l[i + 1]? = some y) (h : y < x) : srt l = false := by
  cases hs : srt l with
  | false => rfl
  | true => have := (srt_iff l).1 hs i x y hx hy; omega
theorem mono_of {l : List Int} (h : srt l = true) : ∀ (d i : Nat) x y, l[i]? = some x → l[i + d]? = some y → x ≤ y
  | 0, i, x, y, hx, hy => by rw [Nat.add_zero, hx] at hy; injection hy with hy; omega
  | d + 1, i, x, y, hx, hy => by
    have hlt : i + d < l.length := by have := (List.getElem?_eq_some_iff.1 hy).1; omega
    have h1 := mono_of h d i x l[i + d] hx (List.getElem?_eq_getElem hlt)
    have h2 := (srt_iff l).1 h (i + d) _ y (List.getElem?_eq_getElem hlt) hy
    omega
/-- The number of a curve's error. -/
def check (c : Cu) : Int :=
  if c.V.length < 1 ∨ 4096 < c.V.length then 6
  else if (c.V.any fun n => !tm n) || !tm c.S then 2
  else if !srt c.V then 3 else 0
structure Ok (c : Cu) : Prop where
  l0 : 1 ≤ c.V.length
  l1 : c.V.length ≤ 4096
  v : ∀ x ∈ c.V, 0 ≤ x ∧ x ≤ 1073741824
  s : 0 ≤ c.S ∧ c.S ≤ 1073741824
  m : srt c.V = true
theorem tm_iff {n : Int} : tm n = true ↔ 0 ≤ n ∧ n ≤ 1073741824 := by simp [tm]
theorem any_tm {l : List Int} : (l.any fun n => !tm n) = false ↔ ∀ x ∈ l, 0 ≤ x ∧ x ≤ 1073741824 := by
  rw [List.any_eq_false]
  constructor
  · intro h x hx
    have := h x hx
    simpa [tm] using this
  · intro h x hx
    have := h x hx
    simp [tm, this]
theorem check_ok {c : Cu} : check c = 0 ↔ Ok c := by
  unfold check
  constructor
  · intro h
    split at h
    · omega
    · split at h
      · omega
      · split at h
        · omega
        · rename_i h1 h2 h3
          simp only [Bool.or_eq_true, not_or, Bool.not_eq_true, Bool.not_eq_false'] at h2 h3
          exact ⟨by omega, by omega, any_tm.1 h2.1, tm_iff.1 (by simpa using h2.2), by simpa using h3⟩
  · intro h
    rw [if_neg (by have := h.l0; have := h.l1; omega), if_neg (by simp [any_tm.2 h.v, tm_iff.2 h.s]), if_neg (by simp [h.m])]
/-- The value at a time that is not negative. -/
def val (c : Cu) (t : Int) : Int := if t < c.V.length then c.V.getD t.toNat 0 else c.V.getD (c.V.length - 1) 0 + (t - c.V.length + 1) * c.S
theorem getD_mem {l : List Int} {k : Nat} (h : k < l.length) : l.getD k 0 ∈ l := by
  rw [List.getD_eq_getElem?_getD, List.getElem?_eq_getElem h]
  exact List.getElem_mem h
theorem mul_bd {x y a b : Int} (hx : 0 ≤ x ∧ x ≤ a) (hy : 0 ≤ y ∧ y ≤ b) : 0 ≤ x * y ∧ x * y ≤ a * b :=
  ⟨Int.mul_nonneg hx.1 hy.1, Int.mul_le_mul hx.2 hy.2 hy.1 (by omega)⟩
theorem Ok.lastv {c : Cu} (h : Ok c) : 0 ≤ c.V.getD (c.V.length - 1) 0 ∧ c.V.getD (c.V.length - 1) 0 ≤ 1073741824 := h.v _ (getD_mem (by have := h.l0; omega))
theorem Ok.slope_bd {c : Cu} (h : Ok c) {t : Int} (h0 : (c.V.length : Int) ≤ t) (h1 : t ≤ 1073750000) : 0 ≤ (t - c.V.length + 1) * c.S ∧ (t - c.V.length + 1) * c.S ≤ 1152930300699869184 := by
  have := mul_bd (x := t - c.V.length + 1) (a := 1073750000) (y := c.S) (b := 1073741824) (by have := h.l0; omega) h.s
  omega
theorem Ok.val_bd {c : Cu} (h : Ok c) {t : Int} (h0 : 0 ≤ t) (h1 : t ≤ 1073750000) : 0 ≤ val c t ∧ val c t ≤ 1152930301773611008 := by
  unfold val
  split
  · have := h.v _ (getD_mem (l := c.V) (k := t.toNat) (by omega)); omega
  · have := h.slope_bd (t := t) (by omega) h1
    have := h.lastv
    omega
/-- Curve.At. -/
def atT (c : Cu) (t : Int) : Int := if check c ≠ 0 ∨ t < 0 then 0 else val c (min t 1073741824)
/-- The first tick from which on the line with the lesser slope is at most the other one. -/
def cross (p sp q sq : Int) : Int :=
  if sp = sq then 0
  else if sq < sp then (if q ≤ p then 0 else (q - p + (sp - sq) - 1) / (sp - sq))
  else (if p ≤ q then 0 else (p - q + (sq - sp) - 1) / (sq - sp))
theorem cross_bd {p sp q sq : Int} (hp : 0 ≤ p ∧ p ≤ 4000000000000000000) (hq : 0 ≤ q ∧ q ≤ 4000000000000000000) (hs : 0 ≤ sp ∧ sp ≤ 1073741824) (hs2 : 0 ≤ sq ∧ sq ≤ 1073741824) : 0 ≤ cross p sp q sq ∧ cross p sp q sq ≤ 4000000000000000000 := by
  have key : ∀ a b : Int, 0 ≤ a → a ≤ 4000000000000000000 → 1 ≤ b → 0 ≤ (a + b - 1) / b ∧ (a + b - 1) / b ≤ 4000000000000000000 := by
    intro a b h1 h2 h3
    refine ⟨Int.ediv_nonneg (by omega) (by omega), ?_⟩
    apply Int.ediv_le_of_le_mul (by omega)
    have : 4000000000000000000 * b ≥ 4000000000000000000 * 1 := Int.mul_le_mul_of_nonneg_left h3 (by omega)
    by_cases hb : a ≤ 3999999999999999999
    · have h4 : (4000000000000000000 - a) * b ≥ (4000000000000000000 - a) * 1 := Int.mul_le_mul_of_nonneg_left h3 (by omega)
      have h5 : a * b ≥ a * 1 := Int.mul_le_mul_of_nonneg_left h3 h1
      have h6 : (4000000000000000000 - a) * b = 4000000000000000000 * b - a * b := Int.sub_mul _ _ _
      have h7 : (4000000000000000000 - 1) * b ≥ (4000000000000000000 - 1) * 1 := Int.mul_le_mul_of_nonneg_left h3 (by omega)
      omega
    · have h7 : (4000000000000000000 - 1) * b ≥ (4000000000000000000 - 1) * 1 := Int.mul_le_mul_of_nonneg_left h3 (by omega)
      omega
  unfold cross
  split
  · omega
  · split
    · split
      · omega
      · exact key (q - p) (sp - sq) (by omega) (by omega) (by omega)
    · split
      · omega
      · exact key (p - q) (sq - sp) (by omega) (by omega) (by omega)
end C55
end Go.Proofs.Ytpkledpnicocmaa
