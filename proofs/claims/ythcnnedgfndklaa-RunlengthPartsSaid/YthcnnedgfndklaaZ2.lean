/- Plain laws: how long encodings are; what ranges contain. -/
import Derived.Test.YthcnnedgfndklaaZ1
set_option linter.unusedSimpArgs false
set_option linter.unusedVariables false
set_option linter.unusedSectionVars false
namespace Go.Proofs.Ythcnnedgfndklaa
theorem encG_le {l : List (List Int)} (hw : W8 l) (hlen : l.length ≤ 300) {i : Nat} (hi : i < l.length) : (encG l i).length ≤ 9 * (nx l i).2 := by
  have hp := nx_pos (l := l) (i := i)
  have hl := nx_le hi
  have hk := nx_kind (l := l) (i := i)
  have hli := lits_le (l := l) (i := i)
  have h2 := puts_len 1 (4 * (nx l i).2 + (nx l i).1) (by omega)
  have hD := flat_len ((hw.drop i).take (lits l i))
  rw [List.length_take, List.length_drop] at hD
  have hmin : min (lits l i) (l.length - i) = lits l i := by omega
  rw [hmin] at hD
  unfold encG encS
  rw [List.length_append, hD]
  by_cases h0 : (nx l i).1 = 0
  · have hll : lits l i = (nx l i).2 := by unfold lits; rw [if_pos h0]
    rw [hll]
    by_cases h32 : (nx l i).2 < 32
    · have h1 := puts_len 0 (4 * (nx l i).2 + (nx l i).1) (by omega)
      omega
    · omega
  · by_cases h1 : (nx l i).1 = 1
    · have hll : lits l i = 1 := by unfold lits; rw [if_neg h0, if_pos h1]
      have hr : 2 ≤ (nx l i).2 := by
        unfold nx at h0 h1 ⊢
        split at h1
        · cases h1
        · rename_i h3
          rw [if_neg h3]
          split at h1
          · rename_i h4; rw [if_pos h4]; exact h4
          · cases h1
      omega
    · have hll : lits l i = 0 := by unfold lits; rw [if_neg h0, if_neg h1]
      omega
theorem encF_le {l : List (List Int)} (hw : W8 l) (hlen : l.length ≤ 300) : ∀ (f i : Nat), i ≤ l.length → ((grpF l f i).flatMap fun (j : Fin l.length) => encG l j).length ≤ 9 * (l.length - i)
  | 0, i, _ => by simp [grpF]
  | f + 1, i, hi => by
    rw [grpF]
    by_cases hlt : i < l.length
    · rw [dif_pos hlt, List.flatMap_cons, List.length_append]
      have := encF_le hw hlen f (i + (nx l i).2) (nx_le hlt)
      have := encG_le hw hlen hlt
      have := nx_le hlt
      simp only at *
      omega
    · rw [dif_neg hlt]; simp
theorem enc_le {l : List (List Int)} (hw : W8 l) (hlen : l.length ≤ 300) : (enc l).length ≤ 9 * l.length := encF_le hw hlen l.length 0 (by omega)
theorem grp_eq {l : List (List Int)} {m : Nat} (h : l.length = m) : grp l = grpF l m 0 := by subst h; rfl
theorem enc_pos {l : List (List Int)} (h : 0 < l.length) : 0 < (enc l).length := by
  unfold enc
  obtain ⟨m, hm⟩ : ∃ m, l.length = m + 1 := ⟨l.length - 1, by omega⟩
  have : grp l = ⟨0, h⟩ :: grpF l m (0 + (nx l 0).2) := by rw [grp_eq hm, grpF, dif_pos h]
  rw [this, List.flatMap_cons, List.length_append]
  have := encG_pos (l := l) (i := 0)
  simp only at *
  omega
theorem enc_nil : enc [] = [] := rfl
theorem rl_rep {s : List Int} {n : Nat} (hn : 1 ≤ n) : rl (List.replicate n s) 0 = n := by
  refine rl_eq (s := s) (by rw [List.getElem?_replicate, if_pos (by omega)]) hn (fun j hj => ?_) ?_
  · rw [Nat.zero_add, List.getElem?_replicate, if_pos hj]
  · rw [Nat.zero_add, List.getElem?_eq_none (by simp)]
    intro h; cases h
theorem enc_same {s : List Int} (hs : s.length = 8) {n : Nat} (hn : n ≤ 4096) : (enc (List.replicate n s)).length ≤ 11 := by
  cases n with
  | zero => exact Nat.zero_le _
  | succ n =>
    have hw : W8 (List.replicate (n + 1) s) := fun y hy => by rw [List.eq_of_mem_replicate hy]; exact hs
    have hr := rl_rep (s := s) (n := n + 1) (by omega)
    have hlen : (List.replicate (n + 1) s).length = n + 1 := by simp
    have hli := lits_le (l := List.replicate (n + 1) s) (i := 0)
    have hk := nx_kind (l := List.replicate (n + 1) s) (i := 0)
    generalize List.replicate (n + 1) s = l at *
    have hcnt : (nx l 0).2 = n + 1 ∧ lits l 0 ≤ 1 := by
      unfold lits nx
      rw [hr]
      by_cases h0 : l[0]? = some zr
      · simp [h0]
      · rw [if_neg h0]
        by_cases h2 : 2 ≤ n + 1
        · rw [if_pos h2]; simp
        · rw [if_neg h2]
          have : n = 0 := by omega
          subst this
          simp [lit, hlen, litF]
    have hg : grp l = [⟨0, by omega⟩] := by
      rw [grp_eq hlen, grpF, dif_pos (by omega), hcnt.1]
      congr 1
      cases n with
      | zero => rfl
      | succ n => rw [grpF, dif_neg (by omega)]
    unfold enc
    rw [hg]
    simp only [List.flatMap_cons, List.flatMap_nil, List.append_nil]
    unfold encG encS
    have h2 := puts_len 2 (4 * (nx l 0).2 + (nx l 0).1) (by omega)
    have hD := flat_len ((hw.drop 0).take (lits l 0))
    rw [List.length_take, List.length_drop] at hD
    rw [List.length_append, hD]
    have : min (lits l 0) (l.length - 0) ≤ 1 := by omega
    omega
/-- The place j lies in a range behind its first element. -/
def inR (p : List (Nat × Nat)) (j : Nat) : Bool := p.any fun e => decide (e.1 < j) && decide (j < e.1 + e.2)
theorem inR_app (p q : List (Nat × Nat)) (j : Nat) : inR (p ++ q) j = (inR p j || inR q j) := by simp [inR]
theorem runsF_low {l : List (List Int)} : ∀ (f i j : Nat), j ≤ i → inR (runsF l f i) j = false
  | 0, _, _, _ => rfl
  | f + 1, i, j, h => by
    rw [runsF]
    split
    · split
      · have := runsF_low (l := l) f (i + rl l i) j (by omega)
        unfold inR at this ⊢
        rw [List.any_cons, this]
        simp
        omega
      · exact runsF_low f _ j (by omega)
    · rfl
theorem runsF_in {l : List (List Int)} : ∀ (f i j : Nat), l.length ≤ i + f → i ≤ j → j < l.length → inR (runsF l f i) j = decide (i < j ∧ l[j]? = l[j - 1]?)
  | 0, i, j, h, hij, hj => by omega
  | f + 1, i, j, h, hij, hj => by
    have hi : i < l.length := by omega
    have h1 := rl_pos (l := l) (i := i)
    have h2 := rl_le hi
    rw [runsF, if_pos hi]
    have hcons : ∀ (b : Bool), b = inR (runsF l f (i + rl l i)) j → inR (if 2 ≤ rl l i then (i, rl l i) :: runsF l f (i + rl l i) else runsF l f (i + rl l i)) j = ((decide (i < j) && decide (j < i + rl l i)) || b) := by
      rintro b rfl
      split
      · rfl
      · have : (decide (i < j) && decide (j < i + rl l i)) = false := by
          simp; omega
        rw [this, Bool.false_or]
    rw [hcons _ rfl]
    by_cases hc : j < i + rl l i
    · rw [runsF_low f _ j (by omega), Bool.or_false, decide_eq_true hc, Bool.and_true]
      by_cases hij2 : i < j
      · have e1 := rl_all hi (j := j - i) (by omega)
        have e2 := rl_all hi (j := j - 1 - i) (by omega)
        rw [show i + (j - i) = j by omega] at e1
        rw [show i + (j - 1 - i) = j - 1 by omega] at e2
        rw [e1, e2]
        simp [hij2]
      · simp [hij2]
    · rw [runsF_in f (i + rl l i) j (by omega) (by omega) hj]
      have : decide (j < i + rl l i) = false := decide_eq_false hc
      rw [this, Bool.and_false, Bool.false_or]
      by_cases he : j = i + rl l i
      · subst he
        have hst := rl_stop (l := l) (i := i) hj
        have e2 := rl_all hi (j := rl l i - 1) (by omega)
        rw [show i + (rl l i - 1) = i + rl l i - 1 by omega] at e2
        rw [e2]
        simp [hst]
      · rw [decide_eq_decide]
        constructor
        · rintro ⟨_, h⟩; exact ⟨by omega, h⟩
        · rintro ⟨_, h⟩; exact ⟨by omega, h⟩
theorem runs_in {l : List (List Int)} {j : Nat} (h1 : 1 ≤ j) (hj : j < l.length) : inR (runs l) j = decide (l[j]? = l[j - 1]?) := by
  unfold runs
  rw [runsF_in l.length 0 j (by omega) (by omega) hj]
  rw [decide_eq_decide]
  constructor
  · exact fun h => h.2
  · exact fun h => ⟨by omega, h⟩
/-- The ranges stand one behind the other. -/
def Asc (len : Nat) : Nat → List (Nat × Nat) → Prop
  | _, [] => True
  | e, x :: r => e ≤ x.1 ∧ 2 ≤ x.2 ∧ x.1 + x.2 ≤ len ∧ Asc len (x.1 + x.2) r
theorem Asc.mono {len : Nat} : ∀ {r : List (Nat × Nat)} {e e' : Nat}, Asc len e r → e' ≤ e → Asc len e' r
  | [], _, _, _, _ => trivial
  | _ :: _, _, _, h, k => ⟨by have := h.1; omega, h.2⟩
theorem runsF_asc {l : List (List Int)} : ∀ (f i : Nat), Asc l.length i (runsF l f i)
  | 0, _ => trivial
  | f + 1, i => by
    rw [runsF]
    split
    · rename_i hi
      split
      · rename_i h2
        exact ⟨Nat.le_refl _, h2, rl_le hi, runsF_asc f _⟩
      · exact (runsF_asc f (i + rl l i)).mono (by omega)
    · trivial
end Go.Proofs.Ythcnnedgfndklaa
