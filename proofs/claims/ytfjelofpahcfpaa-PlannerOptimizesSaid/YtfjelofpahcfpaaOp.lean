/- What Best's period is worth: plain laws. -/
import Derived.Test.YtfjelofpahcfpaaQl9
set_option linter.unusedSimpArgs false
set_option linter.unusedVariables false
namespace Go.Proofs.Ytfjelofpahcfpaa
open Go.RowKit Go.Shelf
theorem bestOf_is (t : P56.Tr) : ∀ n, (bestOf t n).1 ≠ 0 → P56.plan (TP t ((bestOf t n).1 : Int)) = ((bestOf t n).2, 0)
  | 0, h => absurd rfl h
  | n + 1, h => by
    unfold bestOf at h ⊢
    split
    · next hc =>
      rw [show (((n + 1 : Nat)) : Int) = (n : Int) + 1 by omega, ← hc.1]
    · next hc =>
      rw [if_neg hc] at h
      exact bestOf_is t n h
theorem bestOf_min (t : P56.Tr) : ∀ n i : Nat, 1 ≤ i → i ≤ n → (P56.plan (TP t (i : Int))).2 = 0 → (bestOf t n).1 ≠ 0 ∧ (bestOf t n).2.bound ≤ (P56.plan (TP t (i : Int))).1.bound
  | 0, i, h1, h2, _ => by omega
  | n + 1, i, h1, h2, h3 => by
    by_cases e : i = n + 1
    · subst e
      rw [show (((n + 1 : Nat)) : Int) = (n : Int) + 1 by omega] at h3 ⊢
      unfold bestOf
      split
      · exact ⟨by simp, Int.le_refl _⟩
      · next hc =>
        have : ¬ ((bestOf t n).1 = 0 ∨ (P56.plan (TP t ((n : Int) + 1))).1.bound < (bestOf t n).2.bound) := fun k => hc ⟨h3, k⟩
        exact ⟨fun k => this (.inl k), by have := fun k => this (.inr k); omega⟩
    · have ih := bestOf_min t n i h1 (by omega) h3
      unfold bestOf
      split
      · next hc =>
        rcases hc.2 with h | h
        · exact absurd h ih.1
        · exact ⟨by simp, by have := ih.2; simp only; omega⟩
      · exact ih
theorem verify_of_plan {t : P56.Tr} {p : P56.Pl} (h : P56.plan t = (p, 0)) : verify t p = 0 := by
  unfold verify
  rw [h]
  simp
end Go.Proofs.Ytfjelofpahcfpaa
