/- The plain law of PlannerSimulates: what a simulation, tick by tick, does. -/
import Derived.Test.YtfjelofpahcfpaaSm
set_option linter.unusedSimpArgs false
set_option linter.unusedVariables false
namespace Go.Proofs.Ytfjelofpahcfpaa
open P56
set_option linter.unusedSectionVars false
namespace Sim
/-- The end of a transfer is near. -/
theorem isEnd_near {C : List Int} (h : ∀ x ∈ C, 0 ≤ x ∧ x ≤ 4096) {s e : Nat} {n : Int} (hn : 0 ≤ n) (he : IsEnd C s n e) : (e : Int) ≤ max (s : Int) C.length + n := by
  obtain ⟨x, hx⟩ : ∃ x : Nat, max s C.length = x := ⟨_, rfl⟩
  obtain ⟨m, hm⟩ : ∃ m : Nat, n = m := ⟨n.toNat, by omega⟩
  rcases Nat.lt_or_ge (x + m) e with g | g
  · exfalso
    have hl := last_nonneg h
    have h1 := carr_far C x m (by omega)
    have h2 := carr_mono h (s := s) (t := x) (by omega)
    by_cases h0 : last C = 0
    · have h3 := carr_far C x (e - x) (by omega)
      rw [h0, Int.mul_zero, show x + (e - x) = e by omega] at h3
      have h4 := he.first x (by omega) (by omega)
      have h5 := he.enough
      omega
    · have h3 := he.first (x + m) (by omega) g
      have h4 : (m : Int) * 1 ≤ (m : Int) * last C := Int.mul_le_mul_of_nonneg_left (by omega) (by omega)
      omega
  · omega
theorem take_add_sum (l : List Int) (a b : Nat) : (l.take (a + b)).sum = (l.take a).sum + ((l.drop a).take b).sum := by
  rw [List.take_add, List.sum_append]
section
variable {t : Tr} (S : Small t) (he : (endOf t (cycles t)).isSome) {p : Nat} (hp : t.P.toNat = p) (hp1 : 1 ≤ p)
include S he
theorem isEnd {k : Nat} (hk : k < cycles t) : IsEnd t.C (st t k) (size t k) (en t (k + 1)) := by
  have h : (endOf t (k + 1)).isSome := endOf_pre (show k + 1 ≤ cycles t by omega) he
  have h1 := endOf_succ (endOf_some (endOf_pre (show k ≤ k + 1 by omega) h))
  have h2 := endOf_some h
  rw [h2] at h1
  exact finish_some S.ok.c h1.symm
theorem en_zero : en t 0 = 0 := rfl
theorem en_step {k : Nat} (hk : k < cycles t) : en t k ≤ en t (k + 1) ∧ st t k ≤ en t (k + 1) := by
  have h := (isEnd S he hk).le
  have : en t k ≤ st t k := by unfold st; omega
  omega
theorem en_mono : ∀ (d k : Nat), k + d ≤ cycles t → en t k ≤ en t (k + d)
  | 0, _, _ => Nat.le_refl _
  | d + 1, k, h => by
    have h1 := en_mono d k (by omega)
    have h2 := (en_step S he (k := k + d) (by omega)).1
    rw [← Nat.add_assoc]
    omega
theorem en_le' {k j : Nat} (h : k ≤ j) (hj : j ≤ cycles t) : en t k ≤ en t j := by
  have := en_mono S he (j - k) k (by omega)
  rwa [show k + (j - k) = j by omega] at this
theorem ap_le' {k j : Nat} (h : k ≤ j) (hj : j < cycles t) : ap t k ≤ ap t j := by
  have := en_le' S he (k := k + 1) (j := j + 1) (by omega) (by omega)
  unfold ap
  omega
include hp hp1
theorem st_def (k : Nat) : st t k = max ((k + 1) * p) (en t k) := by unfold st; rw [hp]
theorem ap_pos {k : Nat} (hk : k < cycles t) : (((k + 1) * p : Nat) : Int) ≤ ap t k ∧ (en t (k + 1) : Int) ≤ ap t k := by
  have h1 := (en_step S he hk).2
  rw [st_def S he hp hp1] at h1
  have h2 := S.ok.l0
  have h3 := S.ok.a0
  unfold ap
  omega
theorem cyc_mul {k : Nat} (hk : k < cycles t) : k * p < t.W.length := by
  unfold cycles at hk
  rw [hp] at hk
  have h1 : (k + 1) * p ≤ t.W.length + p - 1 := (Nat.le_div_iff_mul_le (by omega)).1 hk
  rw [Nat.add_mul] at h1
  omega
theorem cyc_of {m : Nat} (hm : m < t.W.length) : m / p < cycles t := by
  unfold cycles
  rw [hp]
  have h1 : m / p * p ≤ m := Nat.div_mul_le_self m p
  rw [Nat.lt_iff_add_one_le, Nat.le_div_iff_mul_le (by omega), Nat.add_mul]
  omega
theorem sizes_sum : ∀ k, (t.W.take ((k + 1) * p)).sum = (t.W.take (k * p)).sum + size t k := by
  intro k
  rw [Nat.add_mul, Nat.one_mul, take_add_sum]
  unfold size
  rw [hp]
theorem en_near : ∀ k, k ≤ cycles t → (en t k : Int) ≤ 100 + (t.W.take (k * p)).sum
  | 0, _ => by simp [en_zero S he]
  | k + 1, h => by
    have ih := en_near k (by omega)
    have h1 := isEnd_near S.ok.c (S.size k).1 (isEnd S he (k := k) (by omega))
    have h2 := cyc_mul S he hp hp1 (k := k) (by omega)
    have h3 := sizes_sum S he hp hp1 k
    have h4 := S.cl
    have h5 := S.wl
    have h6 : (k + 1) * p = k * p + p := by rw [Nat.add_mul, Nat.one_mul]
    have h7 : p ≤ 60 := by have := S.p; have := S.ok.p0; omega
    have h8 := (P56.sum_bd (l := t.W.take (k * p)) (b := 20) (fun x hx => S.w x (List.mem_of_mem_take hx))).1
    have h9 := S.size k
    rw [h3]
    rw [st_def S he hp hp1] at h1
    omega
theorem ap_near {k : Nat} (hk : k < cycles t) : ap t k ≤ 960 := by
  have h1 := en_near S he hp hp1 (k + 1) (by omega)
  have h2 := P56.sum_bd (l := t.W.take ((k + 1) * p)) (b := 20) (fun x hx => S.w x (List.mem_of_mem_take hx))
  have h3 : (t.W.take ((k + 1) * p)).length ≤ 40 := by simp; have := S.wl; omega
  have h4 := S.l
  have h5 := S.a
  unfold ap
  omega
omit S he hp1
/-- What is written into a cycle before a time. -/
def wr (t : Tr) (p g now : Nat) : Int := ((t.W.drop (g * p)).take (min p (now - g * p))).sum
/-- What is left of a cycle at a time. -/
def lv (t : Tr) (p g now : Nat) : Int := wr t p g now - (carr t.C (max now (st t g)) - carr t.C (st t g))
theorem wr_full {g now : Nat} (h : (g + 1) * p ≤ now) : wr t p g now = size t g := by
  rw [Nat.add_mul, Nat.one_mul] at h
  unfold wr size
  rw [hp, Nat.min_eq_left (by omega)]
omit hp
theorem wr_zero {g now : Nat} (h : now ≤ g * p) : wr t p g now = 0 := by
  unfold wr
  rw [show now - g * p = 0 by omega]
  simp
theorem wr_in {g now : Nat} (h1 : g * p ≤ now) (h2 : now < (g + 1) * p) {x : Int} (hx : t.W[now]? = some x) : wr t p g (now + 1) = wr t p g now + x := by
  rw [Nat.add_mul, Nat.one_mul] at h2
  unfold wr
  rw [show min p (now + 1 - g * p) = now - g * p + 1 by omega, show min p (now - g * p) = now - g * p by omega]
  refine P56.sum_take_step ?_
  rw [List.getElem?_drop, show g * p + (now - g * p) = now by omega]
  exact hx
theorem wr_out {g now : Nat} (h1 : t.W.length ≤ now) : wr t p g (now + 1) = wr t p g now := by
  unfold wr
  have key : ∀ m, now - g * p ≤ m → ((t.W.drop (g * p)).take (min p m)).sum = ((t.W.drop (g * p)).take (min p (now - g * p))).sum := by
    intro m hm
    rcases Nat.le_total p (now - g * p) with h | h
    · rw [Nat.min_eq_left h, Nat.min_eq_left (by omega)]
    · rw [Nat.min_eq_right h, List.take_of_length_le (by simp; omega), List.take_of_length_le (by simp; omega)]
  exact key _ (by omega)
include hp1
theorem wr_other {g now : Nat} (h : now / p ≠ g) : wr t p g (now + 1) = wr t p g now := by
  rcases Nat.lt_or_ge now (g * p) with g1 | g1
  · rw [wr_zero (by omega), wr_zero (by omega)]
  · have h2 : (g + 1) * p ≤ now := by
      have := (Nat.le_div_iff_mul_le (show 0 < p by omega)).2 g1
      exact (Nat.le_div_iff_mul_le (show 0 < p by omega)).1 (by omega)
    have h3 := h2
    rw [Nat.add_mul, Nat.one_mul] at h3
    unfold wr
    rw [Nat.min_eq_left (by omega), Nat.min_eq_left (by omega)]
theorem lv_zero (g : Nat) : lv t p g 0 = 0 := by
  unfold lv
  rw [wr_zero (by omega), Nat.max_eq_right (by omega)]
  omega
end
/-- The state of the simulation before a time: which cycles have ended. -/
structure At (t : Tr) (now f : Nat) : Prop where
  le : f ≤ cycles t
  before : ∀ k, k < f → en t (k + 1) < now
  after : f < cycles t → now ≤ en t (f + 1)
theorem at_zero (t : Tr) : At t 0 0 := ⟨by omega, fun k h => by omega, fun _ => by omega⟩
section
variable {t : Tr} (S : Small t) (he : (endOf t (cycles t)).isSome) {p : Nat} (hp : t.P.toNat = p) (hp1 : 1 ≤ p)
include S he hp hp1
theorem at_en {now f : Nat} (h : At t (now + 1) f) : en t f ≤ now := by
  cases f with
  | zero => rw [en_zero S he]; omega
  | succ f => have := h.before f (by omega); omega
theorem at_st {now f g : Nat} (h : At t (now + 1) f) (hg : f < g) (hgn : g < cycles t) : now + 1 ≤ st t g := by
  have h1 := h.after (by omega)
  have h2 := en_le' S he (k := f + 1) (j := g) (by omega) (by omega)
  have h3 := st_def S he hp hp1 g
  omega
/-- The link works on a closed cycle of which something is left. -/
theorem busy {now f : Nat} (h : At t (now + 1) f) (hf : f < cycles t) : (f + 1) * p ≤ now ↔ st t f ≤ now := by
  have h1 := at_en S he hp hp1 h
  have h2 := st_def S he hp hp1 f
  omega
theorem busy_left {now f : Nat} (h : At t (now + 1) f) (hf : f < cycles t) (hb : (f + 1) * p ≤ now) : 0 < lv t p f now := by
  have h0 := (busy S he hp hp1 h hf).1 hb
  have h1 := (isEnd S he hf).first now h0 (by have := h.after hf; omega)
  unfold lv
  rw [wr_full hp hb, Nat.max_eq_left h0]
  omega
/-- A tick. -/
theorem lv_step {now f g : Nat} (h : At t (now + 1) f) (hg : f ≤ g) (hgn : g < cycles t) : lv t p g (now + 1) = lv t p g now + (wr t p g (now + 1) - wr t p g now) - (if g = f ∧ (f + 1) * p ≤ now then capAt t.C now else 0) := by
  unfold lv
  by_cases e : g = f
  · subst e
    have hb := busy S he hp hp1 h hgn
    by_cases h2 : (g + 1) * p ≤ now
    · rw [if_pos ⟨rfl, h2⟩]
      have h3 := hb.1 h2
      rw [Nat.max_eq_left h3, Nat.max_eq_left (by omega), carr_succ]
      omega
    · rw [if_neg (fun k => h2 k.2)]
      have h3 : ¬ st t g ≤ now := fun k => h2 (hb.2 k)
      rw [Nat.max_eq_right (by omega), Nat.max_eq_right (by omega)]
      omega
  · rw [if_neg (fun k => e k.1)]
    have h3 := at_st S he hp hp1 h (g := g) (by omega) hgn
    rw [Nat.max_eq_right (by omega), Nat.max_eq_right (by omega)]
    omega
/-- Whether the next cycle has ended. -/
theorem ended {now g : Nat} (hg : g < cycles t) (h : en t g ≤ now) : ((g + 1) * p ≤ now ∧ lv t p g now ≤ 0) ↔ en t (g + 1) ≤ now := by
  have h2 := st_def S he hp hp1 g
  have hE := isEnd S he hg
  constructor
  · rintro ⟨h3, h4⟩
    unfold lv at h4
    rw [wr_full hp h3, Nat.max_eq_left (by omega)] at h4
    rcases Nat.lt_or_ge now (en t (g + 1)) with g1 | g1
    · have := hE.first now (by omega) g1
      omega
    · exact g1
  · intro h3
    have h4 := hE.le
    have h5 : (g + 1) * p ≤ now := by omega
    refine ⟨h5, ?_⟩
    unfold lv
    rw [wr_full hp h5, Nat.max_eq_left (by omega)]
    have h6 := carr_mono S.ok.c h3
    have h7 := hE.enough
    omega
omit S he hp hp1 in
theorem sum_bd20 {l : List Int} (h : ∀ x ∈ l, 0 ≤ x ∧ x ≤ 20) (hl : l.length ≤ 40) : 0 ≤ l.sum ∧ l.sum ≤ 800 := by
  have := P56.sum_bd (l := l) (b := 20) h
  omega
theorem lv_bd {now g : Nat} (hn : now ≤ 3000) (hg : g < cycles t) : -20000000 ≤ lv t p g now ∧ lv t p g now ≤ 20000000 := by
  have h1 : 0 ≤ wr t p g now ∧ wr t p g now ≤ 800 := by
    unfold wr
    exact sum_bd20 (fun x hx => S.w x (List.mem_of_mem_drop (List.mem_of_mem_take hx))) (by simp; have := S.wl; omega)
  have h2 := (en_step S he hg).2
  have h3 := (ap_pos S he hp hp1 hg).2
  have h4 := ap_near S he hp hp1 hg
  have h5 := carr_bd S.ok.c (max now (st t g))
  have h6 := carr_bd S.ok.c (st t g)
  unfold lv
  omega
/-- The cycle that is written into is not closed. -/
theorem at_open {now f : Nat} (h : At t (now + 1) f) : f ≤ now / p := by
  rcases Nat.eq_zero_or_pos f with g | g
  · rw [g]; exact Nat.zero_le _
  · have h1 := h.before (f - 1) (by omega)
    have h2 := (en_step S he (k := f - 1) (by have := h.le; omega)).2
    have h3 := st_def S he hp hp1 (f - 1)
    rw [show f - 1 + 1 = f by omega] at h1 h2 h3
    rw [Nat.le_div_iff_mul_le (by omega)]
    omega
/-- How many cycles are applied before a time. -/
structure Ap (t : Tr) (now : Nat) (K : Nat) : Prop where
  le : K ≤ cycles t
  before : ∀ k, k < K → ap t k < now
  after : ∀ k, K ≤ k → k < cycles t → (now : Int) ≤ ap t k
omit S he hp hp1 in
theorem Ap.mono_bd {now K : Nat} (h : Ap t (now + 1) K) {k : Nat} (hk : k < K) : ap t k ≤ now := by have := h.before k hk; omega
/-- The greatest age so far. -/
def age (t : Tr) (p : Nat) (now K : Nat) : Int := if now = 0 then 0 else max (bdR t K) ((now : Int) - 1 - ((K * p : Nat) : Int))
theorem age_step {now K K1 : Nat} (h : Ap t now K) (h1 : Ap t (now + 1) K1) : max (age t p now K) ((now : Int) - ((K1 * p : Nat) : Int)) = age t p (now + 1) K1 := by
  have hP : 1 ≤ t.P.toNat := by omega
  have hK : K ≤ K1 := by
    rcases Nat.lt_or_ge K1 K with g | g
    · have := h.before K1 g
      have := h1.after K1 (Nat.le_refl _) (by have := h.le; omega)
      omega
    · exact g
  unfold age
  rw [if_neg (show ¬ now + 1 = 0 by omega), show ((now + 1 : Nat) : Int) - 1 = now by omega]
  by_cases h0 : now = 0
  · subst h0
    rw [if_pos rfl]
    have : K1 = 0 := by
      rcases Nat.eq_zero_or_pos K1 with g | g
      · exact g
      · have h2 := h1.before 0 g
        have h3 := (ap_pos S he hp hp1 (k := 0) (by have := h1.le; omega)).1
        omega
    subst this
    simp [bdR]
  · rw [if_neg h0]
    have key : ∀ d, K + d ≤ K1 → max (bdR t (K + d)) ((now : Int) - 1 - ((K * p : Nat) : Int)) = max (bdR t K) ((now : Int) - 1 - ((K * p : Nat) : Int)) ∧ (0 < d → (now : Int) - 1 - ((K * p : Nat) : Int) ≤ bdR t (K + d)) := by
      intro d
      induction d with
      | zero => intro _; exact ⟨rfl, fun h => by omega⟩
      | succ d ih =>
        intro hd
        obtain ⟨i1, i2⟩ := ih (by omega)
        have e := bdR_succ t hP (K + d)
        rw [hp] at e
        have a1 := h.after (K + d) (by omega) (by have := h1.le; omega)
        have a2 := h1.before (K + d) (by omega)
        have e2 : (K + d) * p = K * p + d * p := Nat.add_mul _ _ _
        rw [← Nat.add_assoc, e]
        refine ⟨by omega, fun _ => ?_⟩
        rcases Nat.eq_zero_or_pos d with g | g
        · subst g
          simp only [Nat.add_zero, Nat.zero_mul] at *
          omega
        · have := i2 g
          omega
    obtain ⟨k1, k2⟩ := key (K1 - K) (by omega)
    rw [show K + (K1 - K) = K1 by omega] at k1 k2
    rcases Nat.lt_or_ge K K1 with g | g
    · have := k2 (by omega)
      omega
    · obtain rfl : K1 = K := by omega
      omega
theorem age_end {now : Nat} (h : Ap t now (cycles t)) (h0 : 0 < cycles t) (hn : (now : Int) = ap t (cycles t - 1) + 1) : age t p now (cycles t) = boundR t := by
  have hP : 1 ≤ t.P.toNat := by omega
  rw [boundR_eq t hP]
  unfold age
  rw [if_neg (by have := (ap_pos S he hp hp1 (k := cycles t - 1) (by omega)).2; omega)]
  have e := bdR_succ t hP (cycles t - 1)
  rw [show cycles t - 1 + 1 = cycles t by omega, hp] at e
  have e2 : cycles t * p = (cycles t - 1) * p + p := by
    have : cycles t = cycles t - 1 + 1 := by omega
    rw [this, Nat.add_mul, Nat.one_mul, Nat.add_sub_cancel]
  omega
end
end Sim
end Go.Proofs.Ytfjelofpahcfpaa
