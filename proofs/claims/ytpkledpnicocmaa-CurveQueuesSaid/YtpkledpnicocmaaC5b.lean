/- Layer 55 in plain terms: windows, minima, and curves that functions make. -/
import Derived.Test.YtpkledpnicocmaaC55
set_option linter.unusedSimpArgs false
set_option linter.unusedVariables false
namespace Go.Proofs.Ytpkledpnicocmaa
namespace C55
theorem sum_snoc (l : List Int) (x : Int) : (l ++ [x]).sum = l.sum + x := by simp
theorem take_snoc {l : List Int} {k : Nat} {x : Int} (h : l[k]? = some x) : l.take (k + 1) = l.take k ++ [x] := by
  rw [List.take_add_one, h]
  rfl
/-- The amount of the first ticks. -/
def up (l : List Int) (S : Int) (t : Nat) : Int := (l.take t).sum + ((t - l.length : Nat) : Int) * S
theorem up_le {l : List Int} {S : Int} {t : Nat} (h : t ≤ l.length) : up l S t = (l.take t).sum := by
  unfold up
  rw [Nat.sub_eq_zero_of_le h]
  simp
theorem up_ge {l : List Int} {S : Int} {t : Nat} (h : l.length ≤ t) : up l S t = l.sum + ((t : Int) - l.length) * S := by
  unfold up
  rw [List.take_of_length_le h, Int.ofNat_sub h]
theorem up_zero (l : List Int) (S : Int) : up l S 0 = 0 := by simp [up]
theorem up_step {l : List Int} {S : Int} {t : Nat} {x : Int} (h : l[t]? = some x) : up l S (t + 1) = up l S t + x := by
  have hlt := (List.getElem?_eq_some_iff.1 h).1
  rw [up_le hlt, up_le (Nat.le_of_lt hlt), take_snoc h, sum_snoc]
theorem up_over {l : List Int} {S : Int} {t : Nat} (h : l.length ≤ t) : up l S (t + 1) = up l S t + S := by
  rw [up_ge h, up_ge (by omega)]
  rw [show ((t + 1 : Nat) : Int) - l.length = (t - l.length) + 1 by omega, Int.add_mul]
  omega
def win (l : List Int) (S : Int) (s k : Nat) : Int := up l S (s + k) - up l S s
def bet (g : Bool) (a b : Int) : Int := if g then max a b else min a b
/-- The best of the windows that begin up to a time. -/
def bw (g : Bool) (l : List Int) (S : Int) (k : Nat) : Nat → Int
  | 0 => win l S 0 k
  | s + 1 => bet g (bw g l S k s) (win l S (s + 1) k)
/-- The same, begun with the last one. -/
def bwR (g : Bool) (l : List Int) (S : Int) (k : Nat) : Nat → Int
  | 0 => win l S l.length k
  | s + 1 => bet g (bwR g l S k s) (win l S s k)
def better (g : Bool) (a b : Int) : Prop := if g then a ≤ b else b ≤ a
theorem bet_better (g : Bool) (a b : Int) : better g a (bet g a b) ∧ better g b (bet g a b) ∧ (bet g a b = a ∨ bet g a b = b) := by
  cases g <;> simp only [better, bet, if_true, if_false, Bool.false_eq_true] <;> omega
theorem better_trans {g : Bool} {a b c : Int} (h : better g a b) (k : better g b c) : better g a c := by
  cases g <;> simp only [better, if_true, if_false, Bool.false_eq_true] at * <;> omega
theorem better_refl (g : Bool) (a : Int) : better g a a := by
  cases g <;> simp [better]
theorem better_anti {g : Bool} {a b : Int} (h : better g a b) (k : better g b a) : a = b := by
  cases g <;> simp only [better, if_true, if_false, Bool.false_eq_true] at * <;> omega
theorem bw_all (g : Bool) (l : List Int) (S : Int) (k : Nat) : ∀ n i, i ≤ n → better g (win l S i k) (bw g l S k n)
  | 0, i, h => by obtain rfl : i = 0 := by omega
                  exact better_refl _ _
  | n + 1, i, h => by
    have hb := bet_better g (bw g l S k n) (win l S (n + 1) k)
    rcases Nat.lt_or_ge n i with e | e
    · obtain rfl : i = n + 1 := by omega
      exact hb.2.1
    · exact better_trans (bw_all g l S k n i e) hb.1
theorem bw_one (g : Bool) (l : List Int) (S : Int) (k : Nat) : ∀ n, ∃ i, i ≤ n ∧ bw g l S k n = win l S i k
  | 0 => ⟨0, Nat.le_refl _, rfl⟩
  | n + 1 => by
    rcases (bet_better g (bw g l S k n) (win l S (n + 1) k)).2.2 with e | e
    · obtain ⟨i, h1, h2⟩ := bw_one g l S k n
      exact ⟨i, by omega, by rw [← h2]; exact e⟩
    · exact ⟨n + 1, Nat.le_refl _, e⟩
theorem bwR_all (g : Bool) (l : List Int) (S : Int) (k : Nat) : ∀ n i, i < n ∨ i = l.length → better g (win l S i k) (bwR g l S k n)
  | 0, i, h => by obtain rfl : i = l.length := by omega
                  exact better_refl _ _
  | n + 1, i, h => by
    have hb := bet_better g (bwR g l S k n) (win l S n k)
    by_cases e : i = n
    · subst e
      exact hb.2.1
    · exact better_trans (bwR_all g l S k n i (by omega)) hb.1
theorem bwR_one (g : Bool) (l : List Int) (S : Int) (k : Nat) : ∀ n, n ≤ l.length → ∃ i, i ≤ l.length ∧ bwR g l S k n = win l S i k
  | 0, _ => ⟨_, Nat.le_refl _, rfl⟩
  | n + 1, hn => by
    rcases (bet_better g (bwR g l S k n) (win l S n k)).2.2 with e | e
    · obtain ⟨i, h1, h2⟩ := bwR_one g l S k n (by omega)
      exact ⟨i, by omega, by rw [← h2]; exact e⟩
    · exact ⟨n, by omega, e⟩
theorem bwR_eq (g : Bool) (l : List Int) (S : Int) (k : Nat) : bwR g l S k l.length = bw g l S k l.length := by
  obtain ⟨i, h1, h2⟩ := bw_one g l S k l.length
  obtain ⟨j, h3, h4⟩ := bwR_one g l S k l.length (Nat.le_refl _)
  refine better_anti (g := g) ?_ ?_
  · rw [h4]; exact bw_all g l S k _ _ h3
  · rw [h2]; exact bwR_all g l S k _ _ (by omega)
/-- What the functions return where they return an error. -/
def zc : Cu := ⟨[], 0⟩
/-- The number of a sequence's error. -/
def seqE (l : List Int) (S : Int) : Int := if 4096 ≤ l.length then 6 else if (l.any fun n => !tm n) || !tm l.sum || !tm S then 2 else 0
def ws (g : Bool) (l : List Int) (S : Int) (n : Nat) : List Int := (List.range n).map fun k => bw g l S k l.length
/-- Arrival and Service. -/
def wins (g : Bool) (l : List Int) (S : Int) : Cu × Int :=
  if seqE l S ≠ 0 then (zc, seqE l S) else if (ws g l S (l.length + 1)).any (fun x => decide (1073741824 < x)) then (zc, 2) else (⟨ws g l S (l.length + 1), S⟩, 0)
structure SOk (l : List Int) (S : Int) : Prop where
  l1 : l.length ≤ 4095
  v : ∀ x ∈ l, 0 ≤ x ∧ x ≤ 1073741824
  m : 0 ≤ l.sum ∧ l.sum ≤ 1073741824
  s : 0 ≤ S ∧ S ≤ 1073741824
theorem seq_ok {l : List Int} {S : Int} : seqE l S = 0 ↔ SOk l S := by
  unfold seqE
  constructor
  · intro h
    split at h
    · omega
    · split at h
      · omega
      · rename_i h1 h2
        simp only [Bool.or_eq_true, not_or, Bool.not_eq_true, Bool.not_eq_false'] at h2
        exact ⟨by omega, any_tm.1 h2.1.1, tm_iff.1 (by simpa using h2.1.2), tm_iff.1 (by simpa using h2.2)⟩
  · intro h
    rw [if_neg (by have := h.l1; omega), if_neg (by simp [any_tm.2 h.v, tm_iff.2 h.s, tm_iff.2 h.m])]
theorem sum_nonneg : ∀ {l : List Int}, (∀ x ∈ l, 0 ≤ x) → 0 ≤ l.sum
  | [], _ => by simp
  | x :: l, h => by
    have h1 := h x (by simp)
    have h2 := sum_nonneg (l := l) fun y hy => h y (by simp [hy])
    simp only [List.sum_cons]
    omega
theorem sum_take_le {l : List Int} (h : ∀ x ∈ l, 0 ≤ x) (t : Nat) : 0 ≤ (l.take t).sum ∧ (l.take t).sum ≤ l.sum := by
  have h1 := sum_nonneg (l := l.take t) fun x hx => h x (List.mem_of_mem_take hx)
  have h2 := sum_nonneg (l := l.drop t) fun x hx => h x (List.mem_of_mem_drop hx)
  have h3 : l.sum = (l.take t).sum + (l.drop t).sum := by rw [← List.sum_append, List.take_append_drop]
  omega
theorem SOk.up_bd {l : List Int} {S : Int} (h : SOk l S) {t : Nat} (ht : t ≤ 20000) : 0 ≤ up l S t ∧ up l S t ≤ 21474836480000 + 1073741824 := by
  unfold up
  have h1 := sum_take_le (l := l) (fun x hx => (h.v x hx).1) t
  have h2 := mul_bd (x := ((t - l.length : Nat) : Int)) (a := 20000) (y := S) (b := 1073741824) (by omega) h.s
  have h3 := h.m
  omega
theorem SOk.up_mono {l : List Int} {S : Int} (h : SOk l S) (t : Nat) : ∀ d, up l S t ≤ up l S (t + d)
  | 0 => Int.le_refl _
  | d + 1 => by
    have := h.up_mono t d
    rcases Nat.lt_or_ge (t + d) l.length with e | e
    · have h2 := up_step (S := S) (List.getElem?_eq_getElem e)
      have h3 := h.v _ (List.getElem_mem e)
      rw [← Nat.add_assoc, h2]
      omega
    · have h2 := up_over (S := S) e
      have h3 := h.s
      rw [← Nat.add_assoc, h2]
      omega
theorem SOk.win_bd {l : List Int} {S : Int} (h : SOk l S) {s k : Nat} (hs : s ≤ 10000) (hk : k ≤ 10000) : 0 ≤ win l S s k ∧ win l S s k ≤ 21474836480000 + 1073741824 := by
  unfold win
  have h1 := h.up_bd (t := s) (by omega)
  have h2 := h.up_bd (t := s + k) (by omega)
  have h3 := h.up_mono s k
  omega
theorem SOk.bw_bd {l : List Int} {S : Int} (h : SOk l S) (g : Bool) {k n : Nat} (hn : n ≤ 10000) (hk : k ≤ 10000) : 0 ≤ bw g l S k n ∧ bw g l S k n ≤ 21474836480000 + 1073741824 := by
  obtain ⟨i, h1, h2⟩ := bw_one g l S k n
  rw [h2]
  exact h.win_bd (by omega) hk
theorem SOk.bwR_bd {l : List Int} {S : Int} (h : SOk l S) (g : Bool) {k n : Nat} (hn : n ≤ l.length) (hk : k ≤ 10000) : 0 ≤ bwR g l S k n ∧ bwR g l S k n ≤ 21474836480000 + 1073741824 := by
  obtain ⟨i, h1, h2⟩ := bwR_one g l S k n hn
  rw [h2]
  exact h.win_bd (by have := h.l1; omega) hk
theorem ws_succ (g : Bool) (l : List Int) (S : Int) (n : Nat) : ws g l S (n + 1) = ws g l S n ++ [bw g l S n l.length] := by simp [ws, List.range_succ]
theorem ws_len (g : Bool) (l : List Int) (S : Int) (n : Nat) : (ws g l S n).length = n := by simp [ws]
/-- The curve of some values, if there are not too many or too great ones. -/
def fin (l : List Int) (S : Int) : Cu × Int :=
  if 4096 < l.length then (zc, 5) else if (l.any fun x => decide (1073741824 < x)) || decide (1073741824 < S) then (zc, 2) else (⟨l, S⟩, 0)
def tab (F : Nat → Int) (n : Nat) : List Int := (List.range n).map F
theorem tab_succ (F : Nat → Int) (n : Nat) : tab F (n + 1) = tab F n ++ [F n] := by simp [tab, List.range_succ]
theorem tab_len (F : Nat → Int) (n : Nat) : (tab F n).length = n := by simp [tab]
/-- The least of the sums of F at the first numbers, and G at the rest. -/
def lst (F G : Nat → Int) (r : Nat) : Nat → Int
  | 0 => F 0 + G r
  | s + 1 => min (lst F G r s) (F (s + 1) + G (r - (s + 1)))
/-- The greatest of some values, at least 0. -/
def grt (F : Nat → Int) : Nat → Int
  | 0 => 0
  | n + 1 => max (grt F n) (F n)
theorem lst_bd {F G : Nat → Int} {r : Nat} {B : Int} (hF : ∀ k, k ≤ r → 0 ≤ F k ∧ F k ≤ B) (hG : ∀ k, k ≤ r → 0 ≤ G k ∧ G k ≤ B) : ∀ s, s ≤ r → 0 ≤ lst F G r s ∧ lst F G r s ≤ B + B
  | 0, _ => by
    have := hF 0 (by omega)
    have := hG r (by omega)
    unfold lst
    omega
  | s + 1, hs => by
    have := lst_bd hF hG s (by omega)
    have := hF (s + 1) (by omega)
    have := hG (r - (s + 1)) (by omega)
    unfold lst
    omega
/-- The value at a number of ticks. -/
def vl (c : Cu) (k : Nat) : Int := val c k
end C55
end Go.Proofs.Ytpkledpnicocmaa
