/- Layer 55 in plain terms: windows, queues, and the curves of minima, sums and convolutions. -/
import Derived.Test.YtpkledpnicocmaaC5c
set_option linter.unusedSimpArgs false
set_option linter.unusedVariables false
namespace Go.Proofs.Ytpkledpnicocmaa
open C55
namespace C55
/-! Windows -/
theorem bet_mono {g : Bool} {a b c d : Int} (h : a ≤ c) (k : b ≤ d) : bet g a b ≤ bet g c d := by
  cases g <;> simp only [bet, if_true, if_false, Bool.false_eq_true] <;> omega
theorem bet_add (g : Bool) (a b c : Int) : bet g (a + c) (b + c) = bet g a b + c := by
  cases g <;> simp only [bet, if_true, if_false, Bool.false_eq_true] <;> omega
theorem bw_step {l : List Int} {S : Int} (ok : SOk l S) (g : Bool) (k : Nat) : ∀ n, bw g l S k n ≤ bw g l S (k + 1) n
  | 0 => by
    have := ok.up_mono (0 + k) 1
    unfold bw win
    rw [show 0 + (k + 1) = 0 + k + 1 by omega]
    omega
  | n + 1 => by
    have := ok.up_mono (n + 1 + k) 1
    unfold bw
    refine bet_mono (bw_step ok g k n) ?_
    unfold win
    rw [show n + 1 + (k + 1) = n + 1 + k + 1 by omega]
    omega
theorem win_over {l : List Int} {S : Int} {s k : Nat} (h : l.length ≤ s + k) (u : Nat) : win l S s (k + u) = win l S s k + (u : Int) * S := by
  unfold win
  rw [up_ge h, up_ge (t := s + (k + u)) (by omega), show ((s + (k + u) : Nat) : Int) - l.length = (((s + k : Nat) : Int) - l.length) + u by omega, Int.add_mul]
  omega
theorem bw_over {l : List Int} {S : Int} (g : Bool) {k : Nat} (h : l.length ≤ k) (u : Nat) : ∀ n, bw g l S (k + u) n = bw g l S k n + (u : Int) * S
  | 0 => by
    unfold bw
    rw [win_over (by omega)]
  | n + 1 => by
    unfold bw
    rw [bw_over g h u n, win_over (by omega), bet_add]
theorem win_tail (l : List Int) (S : Int) (d k : Nat) : win l S (l.length + d) k = win l S l.length k := by
  unfold win
  rw [up_ge (t := l.length + d + k) (by omega), up_ge (t := l.length + d) (by omega), up_ge (t := l.length + k) (by omega), up_ge (t := l.length) (by omega)]
  rw [show ((l.length + d + k : Nat) : Int) - l.length = d + k by omega, show ((l.length + d : Nat) : Int) - l.length = d by omega, show ((l.length + k : Nat) : Int) - l.length = k by omega, Int.add_mul]
  simp
  omega
theorem bw_tail (g : Bool) (l : List Int) (S : Int) (k : Nat) : ∀ d, bw g l S k (l.length + d) = bw g l S k l.length
  | 0 => rfl
  | d + 1 => by
    rw [← Nat.add_assoc, bw, bw_tail g l S k d, Nat.add_assoc, win_tail]
    have := bw_all g l S k l.length l.length (Nat.le_refl _)
    have h2 := bet_better g (bw g l S k l.length) (win l S l.length k)
    rcases h2.2.2 with e | e
    · exact e
    · rw [e]
      exact better_anti this (e ▸ h2.1)
theorem bw_every (g : Bool) (l : List Int) (S : Int) (k s : Nat) : better g (win l S s k) (bw g l S k l.length) := by
  rw [← bw_tail g l S k s]
  exact bw_all g l S k _ _ (by omega)
/-- The curve of windows. -/
def wc (g : Bool) (l : List Int) (S : Int) : Cu := ⟨ws g l S (l.length + 1), S⟩
theorem wc_len (g : Bool) (l : List Int) (S : Int) : (wc g l S).V.length = l.length + 1 := ws_len g l S _
theorem wc_get (g : Bool) (l : List Int) (S : Int) {k : Nat} (h : k ≤ l.length) : (wc g l S).V[k]? = some (bw g l S k l.length) := by
  unfold wc ws
  simp only [List.getElem?_map]
  rw [List.getElem?_range (by omega)]
  rfl
theorem wc_vl (g : Bool) (l : List Int) (S : Int) (k : Nat) : vl (wc g l S) k = bw g l S k l.length := by
  rcases Nat.lt_or_ge k (l.length + 1) with h | h
  · have h1 := vl_in (c := wc g l S) (k := k) (by rw [wc_len]; exact h)
    rw [wc_get g l S (by omega)] at h1
    injection h1 with h1
    exact h1.symm
  · have h1 := vl_in (c := wc g l S) (k := l.length) (by rw [wc_len]; omega)
    rw [wc_get g l S (by omega)] at h1
    injection h1 with h1
    have h2 := vl_line (c := wc g l S) (by rw [wc_len]; omega) (k := l.length) (by rw [wc_len]; omega) (k - l.length)
    have h3 := bw_over (l := l) (S := S) g (k := l.length) (by omega) (k - l.length) l.length
    rw [show l.length + (k - l.length) = k by omega] at h2 h3
    rw [h2, h3, ← h1]
    rfl
theorem srt_step {l : List Int} (h : ∀ (i : Nat) x y, l[i]? = some x → l[i + 1]? = some y → x ≤ y) : srt l = true := (srt_iff l).2 h
theorem wc_ok {g : Bool} {l : List Int} {S : Int} (ok : SOk l S) (h : ∀ k, k < l.length + 1 → bw g l S k l.length ≤ 1073741824) : Ok (wc g l S) := by
  refine ⟨by rw [wc_len]; omega, by rw [wc_len]; have := ok.l1; omega, ?_, ok.s, ?_⟩
  · intro x hx
    obtain ⟨k, hk⟩ := List.getElem?_of_mem hx
    have hlt := (List.getElem?_eq_some_iff.1 hk).1
    rw [wc_len] at hlt
    rw [wc_get g l S (by omega)] at hk
    injection hk with hk
    have := h k hlt
    have := (ok.bw_bd g (k := k) (n := l.length) (by have := ok.l1; omega) (by have := ok.l1; omega)).1
    omega
  · refine srt_step fun i x y hx hy => ?_
    have h2 := (List.getElem?_eq_some_iff.1 hy).1
    rw [wc_len] at h2
    rw [wc_get g l S (by omega)] at hx hy
    injection hx with hx
    injection hy with hy
    rw [← hx, ← hy]
    exact bw_step ok g i l.length
/-- A short sequence of small amounts. -/
structure Sml (l : List Int) (S : Int) : Prop where
  n : l.length ≤ 30
  v : ∀ x ∈ l, 0 ≤ x ∧ x ≤ 1000
  s : 0 ≤ S ∧ S ≤ 1000
theorem sum_small : ∀ {l : List Int}, (∀ x ∈ l, 0 ≤ x ∧ x ≤ 1000) → 0 ≤ l.sum ∧ l.sum ≤ (l.length : Int) * 1000
  | [], _ => by simp
  | x :: l, h => by
    have h1 := h x (by simp)
    have h2 := sum_small (l := l) fun y hy => h y (by simp [hy])
    simp only [List.sum_cons, List.length_cons]
    omega
theorem Sml.ok {l : List Int} {S : Int} (h : Sml l S) : SOk l S :=
  ⟨by have := h.n; omega, fun x hx => by have := h.v x hx; omega, by have := sum_small h.v; have := h.n; omega, by have := h.s; omega⟩
theorem Sml.up {l : List Int} {S : Int} (h : Sml l S) {t : Nat} (ht : t ≤ 1000) : 0 ≤ up l S t ∧ C55.up l S t ≤ 1030000 := by
  have h1 := sum_take_le (l := l) (fun x hx => (h.v x hx).1) t
  have h2 := mul_bd (x := ((t - l.length : Nat) : Int)) (a := 1000) (y := S) (b := 1000) (by omega) h.s
  have h3 := sum_small h.v
  have h4 := h.n
  unfold C55.up
  omega
theorem Sml.win {l : List Int} {S : Int} (h : Sml l S) {s k : Nat} (hs : s ≤ 500) (hk : k ≤ 500) : 0 ≤ win l S s k ∧ C55.win l S s k ≤ 1030000 := by
  have h1 := h.up (t := s) (by omega)
  have h2 := h.up (t := s + k) (by omega)
  have h3 := h.ok.up_mono s k
  unfold C55.win
  omega
theorem Sml.bw {l : List Int} {S : Int} (h : Sml l S) (g : Bool) {k n : Nat} (hk : k ≤ 500) (hn : n ≤ 500) : 0 ≤ bw g l S k n ∧ C55.bw g l S k n ≤ 1030000 := by
  obtain ⟨i, h1, h2⟩ := bw_one g l S k n
  rw [h2]
  exact h.win (by omega) hk
theorem Sml.wcOk {l : List Int} {S : Int} (h : Sml l S) (g : Bool) : Ok (wc g l S) := wc_ok h.ok fun k hk => by
  have := (h.bw g (k := k) (n := l.length) (by have := h.n; omega) (by have := h.n; omega)).2
  omega
theorem Sml.wins {l : List Int} {S : Int} (h : Sml l S) (g : Bool) : wins g l S = (wc g l S, 0) := by
  unfold C55.wins
  rw [if_neg (by rw [seq_ok.2 h.ok]; simp), if_neg]
  · rfl
  rw [Bool.not_eq_true, List.any_eq_false]
  intro x hx
  obtain ⟨k, hk, rfl⟩ := List.mem_map.1 hx
  have hk := List.mem_range.1 hk
  have := (h.bw g (k := k) (n := l.length) (by have := h.n; omega) (by have := h.n; omega)).2
  simp only [decide_eq_true_eq]
  omega
/-! Queues -/
/-- What has left a queue. -/
def lf (I O : List Int) (S : Int) : Nat → Int
  | 0 => 0
  | t + 1 => min (up I 0 (t + 1)) (lf I O S t + (up O S (t + 1) - up O S t))
theorem lf_some (I O : List Int) (S : Int) : ∀ t, ∃ s, s ≤ t ∧ lf I O S t = up I 0 s + (up O S t - up O S s)
  | 0 => ⟨0, by omega, by simp [lf, up_zero]⟩
  | t + 1 => by
    unfold lf
    obtain ⟨s, h1, h2⟩ := lf_some I O S t
    by_cases h : up I 0 (t + 1) ≤ lf I O S t + (up O S (t + 1) - up O S t)
    · exact ⟨t + 1, by omega, by omega⟩
    · exact ⟨s, by omega, by omega⟩
theorem queue_backlog {I O : List Int} {S m : Int} (hm : ∀ k, vl (wc true I 0) k - vl (wc false O S) k ≤ m) (t : Nat) : up I 0 t - lf I O S t ≤ m := by
  obtain ⟨s, h1, h2⟩ := lf_some I O S t
  have a := bw_every true I 0 (t - s) s
  have b := bw_every false O S (t - s) s
  have c := hm (t - s)
  rw [wc_vl, wc_vl] at c
  simp only [better, if_true, if_false, Bool.false_eq_true] at a b
  unfold win at a b
  rw [show s + (t - s) = t by omega] at a b
  omega
theorem queue_delay {I O : List Int} {S : Int} (ho : SOk O S) (hi : SOk I 0) {d : Nat} (hd : ∀ k, vl (wc true I 0) k ≤ vl (wc false O S) (k + d)) (t : Nat) : up I 0 t ≤ lf I O S (t + d) := by
  obtain ⟨s, h1, h2⟩ := lf_some I O S (t + d)
  rcases Nat.lt_or_ge s t with g | g
  · have a := bw_every true I 0 (t - s) s
    have b := bw_every false O S (t - s + d) s
    have c := hd (t - s)
    rw [wc_vl, wc_vl] at c
    simp only [better, if_true, if_false, Bool.false_eq_true] at a b
    unfold win at a b
    rw [show s + (t - s) = t by omega] at a
    rw [show s + (t - s + d) = t + d by omega] at b
    omega
  · have a := hi.up_mono t (s - t)
    have b := ho.up_mono s (t + d - s)
    rw [show t + (s - t) = s by omega] at a
    rw [show s + (t + d - s) = t + d by omega] at b
    omega
end C55
end Go.Proofs.Ytpkledpnicocmaa
