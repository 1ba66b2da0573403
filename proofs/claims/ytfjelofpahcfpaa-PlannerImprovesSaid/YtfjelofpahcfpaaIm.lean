/- More capacity, fewer writes, less latency: the plain law. -/
import Derived.Test.YtfjelofpahcfpaaSm
set_option linter.unusedSimpArgs false
set_option linter.unusedVariables false
namespace Go.Proofs.Ytfjelofpahcfpaa
open Go.RowKit Go.Shelf
theorem sum_le_sum : ∀ (R W : List Int), R.length = W.length → (∀ (j : Nat) x y, R[j]? = some x → W[j]? = some y → x ≤ y) → R.sum ≤ W.sum
  | [], [], _, _ => Int.le_refl _
  | [], _ :: _, h, _ => by simp at h
  | _ :: _, [], h, _ => by simp at h
  | x :: R, y :: W, h, k => by
    have h1 := k 0 x y rfl rfl
    have h2 := sum_le_sum R W (by simpa using h) (fun j a b ha hb => k (j + 1) a b (by simpa using ha) (by simpa using hb))
    simp only [List.sum_cons]
    omega
theorem part_le {R W : List Int} (h : R.length = W.length) (k : ∀ (j : Nat) x y, R[j]? = some x → W[j]? = some y → 0 ≤ x ∧ x ≤ y) (p q : Nat) : ((R.drop p).take q).sum ≤ ((W.drop p).take q).sum := by
  refine sum_le_sum _ _ (by simp [h]) fun j x y hx hy => ?_
  rw [List.getElem?_take] at hx hy
  split at hx
  · rw [if_pos (by assumption)] at hy
    rw [List.getElem?_drop] at hx hy
    exact (k _ x y hx hy).2
  · cases hx
theorem cap_le {C R : List Int} (h : R.length = C.length) (k : ∀ (j : Nat) x y, R[j]? = some x → C[j]? = some y → y ≤ x ∧ x ≤ y + 3) (p : Nat) : P56.capAt C p ≤ P56.capAt R p := by
  unfold P56.capAt
  by_cases hp : p < C.length
  · rw [dif_pos hp, dif_pos (by omega)]
    exact (k p _ _ (List.getElem?_eq_getElem (by omega)) (List.getElem?_eq_getElem hp)).1
  · rw [dif_neg hp, dif_neg (by omega)]
    unfold P56.last
    rcases Nat.eq_zero_or_pos C.length with h0 | h0
    · obtain rfl := List.length_eq_zero_iff.1 h0
      obtain rfl := List.length_eq_zero_iff.1 (h.trans h0)
      exact Int.le_refl _
    · have e1 : C.getLastD 0 = C[C.length - 1] := by
        rw [List.getLastD_eq_getLast?, List.getLast?_eq_getElem?, List.getElem?_eq_getElem (by omega)]
        rfl
      have e2 : R.getLastD 0 = R[C.length - 1] := by
        rw [List.getLastD_eq_getLast?, List.getLast?_eq_getElem?, show R.length - 1 = C.length - 1 by omega, List.getElem?_eq_getElem (by omega)]
        rfl
      rw [e1, e2]
      exact (k _ _ _ (List.getElem?_eq_getElem (by omega)) (List.getElem?_eq_getElem (by omega))).1
theorem improve_law {t u : P56.Tr} (S : Small t) (hP : u.P = t.P) (hA : u.A = t.A) (hL : 0 ≤ u.L ∧ u.L ≤ t.L) (wl : u.W.length = t.W.length) (cl : u.C.length = t.C.length)
    (hw : ∀ (j : Nat) x y, u.W[j]? = some x → t.W[j]? = some y → 0 ≤ x ∧ x ≤ y) (hc : ∀ (j : Nat) x y, u.C[j]? = some x → t.C[j]? = some y → y ≤ x ∧ x ≤ y + 3) :
    (P56.plan t).2 = 0 → (P56.plan u).2 = 0 ∧ (P56.plan u).1.bound ≤ (P56.plan t).1.bound := by
  have okt := S.ok
  have oku : P56.Ok u := by
    refine ⟨by have := okt.wlen; omega, by have := okt.clen0; omega, by have := okt.clen; omega, fun x hx => ?_, fun x hx => ?_, by have := okt.p0; omega, by have := okt.p; omega, hL.1, by have := okt.l; omega, by have := okt.a0; omega, by have := okt.a; omega⟩
    · obtain ⟨j, hj⟩ := List.getElem?_of_mem hx
      have hlt : j < u.W.length := (List.getElem?_eq_some_iff.1 hj).1
      have h1 := hw j x _ hj (List.getElem?_eq_getElem (by omega))
      have h2 := S.w _ (List.getElem_mem (by omega : j < t.W.length))
      omega
    · obtain ⟨j, hj⟩ := List.getElem?_of_mem hx
      have hlt : j < u.C.length := (List.getElem?_eq_some_iff.1 hj).1
      have h1 := hc j x _ hj (List.getElem?_eq_getElem (by omega))
      have h2 := S.c _ (List.getElem_mem (by omega : j < t.C.length))
      omega
  have e1 : P56.plan t = P56.planOk t := by unfold P56.plan; rw [if_pos (P56.check_ok.2 okt)]
  have e2 : P56.plan u = P56.planOk u := by unfold P56.plan; rw [if_pos (P56.check_ok.2 oku)]
  rw [e1, e2]
  intro h
  cases he : P56.endOf t (P56.cycles t) with
  | none => rw [P56.planOk_none (Nat.le_refl _) he] at h; simp at h
  | some e =>
    have hs : (P56.endOf t (P56.cycles t)).isSome := by rw [he]; rfl
    have hm := P56.bound_mono okt oku hP wl (fun k => by unfold P56.size; rw [hP]; exact part_le wl hw _ _) (fun x => cap_le cl hc x) (by omega) hs
    rw [P56.planOk_some (P56.endOf_some hs), P56.planOk_some (P56.endOf_some hm.1)]
    exact ⟨rfl, by simp only [P56.lists]; exact hm.2⟩
end Go.Proofs.Ytfjelofpahcfpaa
