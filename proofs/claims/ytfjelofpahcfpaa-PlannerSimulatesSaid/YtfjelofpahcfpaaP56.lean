/- Plain definitions and facts about traces and plans: what both texts of the planner compute; no program in sight. -/
set_option linter.unusedSimpArgs false
set_option linter.unusedVariables false
namespace P56

/-- A trace. -/
structure Tr where
  W : List Int
  C : List Int
  P : Int
  L : Int
  A : Int

/-- Is this no number of sectors? -/
def bad (x : Int) : Bool := decide (x < 0) || decide (4096 < x)

/-- The number of the error of a trace. -/
def check (t : Tr) : Int :=
  if 4096 < t.W.length ∨ t.C.length < 1 ∨ 4096 < t.C.length then 6
  else if t.W.any bad = true ∨ t.C.any bad = true ∨ t.P < 1 ∨ 4096 < t.P ∨ t.L < 0 ∨ 1073741824 < t.L ∨ t.A < 0 ∨ 1073741824 < t.A then 2
  else 0

/-- A trace in order. -/
structure Ok (t : Tr) : Prop where
  wlen : t.W.length ≤ 4096
  clen0 : 1 ≤ t.C.length
  clen : t.C.length ≤ 4096
  w : ∀ x ∈ t.W, 0 ≤ x ∧ x ≤ 4096
  c : ∀ x ∈ t.C, 0 ≤ x ∧ x ≤ 4096
  p0 : 1 ≤ t.P
  p : t.P ≤ 4096
  l0 : 0 ≤ t.L
  l : t.L ≤ 1073741824
  a0 : 0 ≤ t.A
  a : t.A ≤ 1073741824

theorem any_bad_false {l : List Int} : l.any bad = false ↔ ∀ x ∈ l, 0 ≤ x ∧ x ≤ 4096 := by
  rw [List.any_eq_false]
  constructor
  · intro h x hx
    have := h x hx
    simp [bad] at this
    omega
  · intro h x hx
    have := h x hx
    simp [bad]
    omega

theorem check_ok {t : Tr} : check t = 0 ↔ Ok t := by
  unfold check
  constructor
  · intro h
    split at h
    · simp at h
    · rename_i h1
      split at h
      · simp at h
      · rename_i h2
        have hw : t.W.any bad = false := by
          cases hb : t.W.any bad
          · rfl
          · exact absurd (.inl hb) h2
        have hc : t.C.any bad = false := by
          cases hb : t.C.any bad
          · rfl
          · exact absurd (.inr (.inl hb)) h2
        exact ⟨by omega, by omega, by omega, any_bad_false.1 hw, any_bad_false.1 hc, by omega, by omega, by omega, by omega, by omega, by omega⟩
  · intro h
    rw [if_neg (by have := h.wlen; have := h.clen; have := h.clen0; omega)]
    have hw := any_bad_false.2 h.w
    have hc := any_bad_false.2 h.c
    rw [if_neg (by rw [hw, hc]; have := h.p; have := h.p0; have := h.l; have := h.l0; have := h.a; have := h.a0; simp; omega)]

theorem check_6 {t : Tr} (h : 4096 < t.W.length ∨ t.C.length < 1 ∨ 4096 < t.C.length) : 6 = check t := by unfold check; rw [if_pos h]
theorem check_2 {t : Tr} (h : ¬ (4096 < t.W.length ∨ t.C.length < 1 ∨ 4096 < t.C.length)) (h2 : t.W.any bad = true ∨ t.C.any bad = true ∨ t.P < 1 ∨ 4096 < t.P ∨ t.L < 0 ∨ 1073741824 < t.L ∨ t.A < 0 ∨ 1073741824 < t.A) : 2 = check t := by
  unfold check; rw [if_neg h, if_pos h2]
theorem check_0 {t : Tr} (h : ¬ (4096 < t.W.length ∨ t.C.length < 1 ∨ 4096 < t.C.length)) (h1 : t.W.any bad = false) (h2 : t.C.any bad = false) (h3 : 1 ≤ t.P ∧ t.P ≤ 4096 ∧ 0 ≤ t.L ∧ t.L ≤ 1073741824 ∧ 0 ≤ t.A ∧ t.A ≤ 1073741824) : 0 = check t := by
  unfold check; rw [if_neg h, if_neg (by rw [h1, h2]; simp; omega)]

theorem any_bad_of {l : List Int} {k : Nat} {x : Int} (hx : l[k]? = some x) (h : bad x = true) : l.any bad = true := List.any_eq_true.2 ⟨x, List.mem_of_getElem? hx, h⟩
theorem bad_upto {l : List Int} {k : Nat} {x : Int} (h : ∀ (j : Nat) y, j < k → l[j]? = some y → bad y = false) (hx : l[k]? = some x) (hb : bad x = false) : ∀ (j : Nat) y, j < k + 1 → l[j]? = some y → bad y = false := by
  intro j y hj hy
  by_cases e : j = k
  · subst e; rw [hx] at hy; injection hy with hy; rw [← hy]; exact hb
  · exact h j y (by omega) hy
theorem any_of_upto {l : List Int} {k : Nat} (hk : l.length ≤ k) (h : ∀ (j : Nat) y, j < k → l[j]? = some y → bad y = false) : l.any bad = false := by
  rw [List.any_eq_false]
  intro x hx
  obtain ⟨j, hj⟩ := List.getElem?_of_mem hx
  have hlt : j < l.length := by
    rcases Nat.lt_or_ge j l.length with g | g
    · exact g
    · rw [List.getElem?_eq_none g] at hj; cases hj
  simp [h j x (by omega) hj]

theorem mul_bd {k p : Nat} (hk : k ≤ 4096) (hp : p ≤ 4096) : (0 : Int) ≤ (k : Int) * (p : Int) ∧ (k : Int) * (p : Int) ≤ 16777216 ∧ (0 : Int) ≤ ((k : Int) + 1) * (p : Int) ∧ ((k : Int) + 1) * (p : Int) ≤ 16781312 := by
  have h1 : k * p ≤ 4096 * 4096 := Nat.mul_le_mul hk hp
  have h2 : (k + 1) * p = k * p + p := Nat.succ_mul _ _
  have h3 : (k : Int) * (p : Int) = ((k * p : Nat) : Int) := (Int.natCast_mul _ _).symm
  have h4 : ((k : Int) + 1) * (p : Int) = (((k + 1) * p : Nat) : Int) := by rw [Int.natCast_mul]; simp
  omega
theorem mul_succ_int (k p : Nat) : ((k : Int) + 1) * (p : Int) = (k : Int) * (p : Int) + (p : Int) := by rw [Int.add_mul]; simp
theorem sum_take_step {D : List Int} {n : Nat} {x : Int} (h : D[n]? = some x) : (D.take (n + 1)).sum = (D.take n).sum + x := by
  rw [List.take_add_one, h, List.sum_append]; simp
theorem sum_take_bd {D : List Int} (h : ∀ x ∈ D, 0 ≤ x ∧ x ≤ 4096) (n : Nat) (hn : D.length ≤ 4096) : 0 ≤ (D.take n).sum ∧ (D.take n).sum ≤ 16777216 := by
  have : ∀ l : List Int, (∀ x ∈ l, 0 ≤ x ∧ x ≤ 4096) → 0 ≤ l.sum ∧ l.sum ≤ 4096 * (l.length : Int) := by
    intro l
    induction l with
    | nil => simp
    | cons a l ih =>
      intro hl
      have h1 := hl a (by simp)
      have h2 := ih (fun x hx => hl x (by simp [hx]))
      simp only [List.sum_cons, List.length_cons]
      have e : (4096 : Int) * ((l.length + 1 : Nat) : Int) = 4096 * (l.length : Int) + 4096 := by omega
      omega
  have h1 := this (D.take n) (fun x hx => h x (List.mem_of_mem_take hx))
  have h2 : (D.take n).length ≤ D.length := by rw [List.length_take]; omega
  omega

theorem div_up_cast {n p : Nat} (hn : 1 ≤ p) : ((n : Int) + (p : Int) - 1) / (p : Int) = (((n + p - 1) / p : Nat) : Int) := by
  rw [show (n : Int) + (p : Int) - 1 = ((n + p - 1 : Nat) : Int) from by omega, Int.natCast_ediv]

/-- How many sectors the link carries in the ticks before t. -/
def last (C : List Int) : Int := C.getLastD 0
def carr (C : List Int) (t : Nat) : Int := (C.take t).sum + ((t - C.length : Nat) : Int) * last C

/-- e is the first time from s on such that n sectors are carried in the ticks from s to e - 1. -/
structure IsEnd (C : List Int) (s : Nat) (n : Int) (e : Nat) : Prop where
  le : s ≤ e
  enough : carr C s + n ≤ carr C e
  first : ∀ x, s ≤ x → x < e → carr C x < carr C s + n

theorem IsEnd.unique {C s n e f} (h : IsEnd C s n e) (k : IsEnd C s n f) : e = f := by
  rcases Nat.lt_trichotomy e f with g | g | g
  · have := k.first e h.le g
    have := h.enough
    omega
  · exact g
  · have := h.first f k.le g
    have := k.enough
    omega

/-- What the reference's loop does: it goes on while something is left. -/
def run : List Int → Int → Nat × Int
  | [], n => (0, n)
  | c :: cs, n => if 0 < n then ((run cs (n - c)).1 + 1, (run cs (n - c)).2) else (0, n)

/-- The end of a transfer, as the reference finds it. -/
def finish (C : List Int) (s : Nat) (n : Int) : Option Nat :=
  let r := run (C.drop s) n
  if r.2 ≤ 0 then some (s + r.1)
  else if last C = 0 then none
  else some (s + r.1 + ((r.2 + last C - 1) / last C).toNat)

/-- The sectors of cycle k. -/
def size (t : Tr) (k : Nat) : Int := ((t.W.drop (k * t.P.toNat)).take t.P.toNat).sum

/-- The number of cycles. -/
def cycles (t : Tr) : Nat := (t.W.length + t.P.toNat - 1) / t.P.toNat

/-- The end of the transfers before cycle k; none if one of them never ends. -/
def endOf (t : Tr) : Nat → Option Nat
  | 0 => some 0
  | k + 1 => (endOf t k).bind fun e => finish t.C (max ((k + 1) * t.P.toNat) e) (size t k)

def en (t : Tr) (k : Nat) : Nat := (endOf t k).getD 0
def cl (t : Tr) (k : Nat) : Int := ((k + 1) * t.P.toNat : Nat)
def st (t : Tr) (k : Nat) : Nat := max ((k + 1) * t.P.toNat) (en t k)
def ap (t : Tr) (k : Nat) : Int := (en t (k + 1) : Int) + t.L + t.A

/-- The reference's bound after k rounds. -/
def bdR (t : Tr) : Nat → Int
  | 0 => 0
  | k + 1 => if k = 0 ∨ ap t (k - 1) < ap t k then max (bdR t k) (ap t k - 1 - ((k * t.P.toNat : Nat) : Int)) else bdR t k
def boundR (t : Tr) : Int := if 0 < cycles t then max (bdR t (cycles t)) (ap t (cycles t - 1) - ((cycles t * t.P.toNat : Nat) : Int)) else 0
/-- The program's bound after k rounds. -/
def bdP (t : Tr) : Nat → Int
  | 0 => 0
  | k + 1 => max (if k = 0 ∨ ap t (k - 1) < ap t k then max (bdP t k) (ap t k - 1 - ((k * t.P.toNat : Nat) : Int)) else bdP t k) (ap t k - cl t k)

/-- A plan. -/
structure Pl where
  close : List Int
  start : List Int
  fin : List Int
  applied : List Int
  bound : Int
deriving DecidableEq

def none : Pl := ⟨[], [], [], [], 0⟩
def lists (t : Tr) (k : Nat) (b : Int) : Pl :=
  ⟨(List.range k).map (cl t), (List.range k).map fun i => (st t i : Int), (List.range k).map fun i => (en t (i + 1) : Int), (List.range k).map (ap t), b⟩

/-- The plan of a trace that is in order, and the number of the error. -/
def planOk (t : Tr) : Pl × Int := if (endOf t (cycles t)).isSome then (lists t (cycles t) (boundR t), 0) else (none, 21)
def plan (t : Tr) : Pl × Int := if check t = 0 then planOk t else (none, check t)

theorem sum_take_succ (l : List Int) (k : Nat) (h : k < l.length) : (l.take (k + 1)).sum = (l.take k).sum + l[k] := by
  rw [List.take_succ_eq_append_getElem h, List.sum_append]; simp
/-- What the link carries in tick t. -/
def capAt (C : List Int) (t : Nat) : Int := if h : t < C.length then C[t] else last C
theorem carr_succ (C : List Int) (t : Nat) : carr C (t + 1) = carr C t + capAt C t := by
  unfold carr capAt
  by_cases h : t < C.length
  · rw [dif_pos h, sum_take_succ _ _ h]
    have e1 : t + 1 - C.length = 0 := by omega
    have e2 : t - C.length = 0 := by omega
    rw [e1, e2]; omega
  · rw [dif_neg h, List.take_of_length_le (by omega), List.take_of_length_le (by omega)]
    have e1 : t + 1 - C.length = (t - C.length) + 1 := by omega
    rw [e1]
    generalize last C = q
    have : (((t - C.length) + 1 : Nat) : Int) * q = ((t - C.length : Nat) : Int) * q + q := by
      rw [Int.natCast_add, Int.add_mul]; simp
    omega
theorem last_nonneg {C : List Int} (h : ∀ x ∈ C, 0 ≤ x ∧ x ≤ 4096) : 0 ≤ last C ∧ last C ≤ 4096 := by
  unfold last
  cases C with
  | nil => simp
  | cons a l =>
    rw [List.getLastD_eq_getLast?, List.getLast?_eq_some_getLast (by simp)]
    exact h _ (List.getLast_mem _)
theorem capAt_bd {C : List Int} (h : ∀ x ∈ C, 0 ≤ x ∧ x ≤ 4096) (t : Nat) : 0 ≤ capAt C t ∧ capAt C t ≤ 4096 := by
  unfold capAt
  split
  · exact h _ (List.getElem_mem _)
  · exact last_nonneg h
theorem carr_mono1 {C : List Int} (h : ∀ x ∈ C, 0 ≤ x ∧ x ≤ 4096) (t : Nat) : carr C t ≤ carr C (t + 1) := by
  have := carr_succ C t; have := capAt_bd h t; omega
theorem carr_mono {C : List Int} (h : ∀ x ∈ C, 0 ≤ x ∧ x ≤ 4096) {s t : Nat} (hs : s ≤ t) : carr C s ≤ carr C t := by
  induction t with
  | zero => have : s = 0 := by omega
            subst this; omega
  | succ t ih =>
    by_cases e : s = t + 1
    · subst e; omega
    · have := ih (by omega); have := carr_mono1 h t; omega
theorem carr_zero (C : List Int) : carr C 0 = 0 := by simp [carr]
theorem carr_bd {C : List Int} (h : ∀ x ∈ C, 0 ≤ x ∧ x ≤ 4096) (t : Nat) : 0 ≤ carr C t ∧ carr C t ≤ 4096 * (t : Int) := by
  induction t with
  | zero => simp [carr_zero]
  | succ t ih => have := carr_succ C t; have := capAt_bd h t; omega
theorem carr_far (C : List Int) (s d : Nat) (h : C.length ≤ s) : carr C (s + d) = carr C s + (d : Int) * last C := by
  induction d with
  | zero => simp
  | succ d ih =>
    rw [← Nat.add_assoc, carr_succ, ih]
    have : capAt C (s + d) = last C := by unfold capAt; rw [dif_neg (by omega)]
    rw [this, Int.natCast_add, Int.add_mul]; simp; omega

/-- The loop: how far it goes, what is left. -/
theorem run_spec (C : List Int) (_h : ∀ x ∈ C, 0 ≤ x ∧ x ≤ 4096) : ∀ (k s : Nat) (n : Int), C.length - s = k →
    (run (C.drop s) n).2 = n - (carr C (s + (run (C.drop s) n).1) - carr C s) ∧ (∀ x, s ≤ x → x < s + (run (C.drop s) n).1 → carr C x < carr C s + n) ∧
    (0 < (run (C.drop s) n).2 → C.length ≤ s + (run (C.drop s) n).1) := by
  intro k
  induction k with
  | zero =>
    intro s n hk
    rw [List.drop_eq_nil_of_le (by omega)]
    simp only [run, Nat.add_zero]
    exact ⟨by omega, fun x a b => by omega, fun _ => by omega⟩
  | succ k ih =>
    intro s n hk
    have hs : s < C.length := by omega
    rw [List.drop_eq_getElem_cons hs]
    simp only [run]
    split
    · rename_i hn
      obtain ⟨h1, h2, h3⟩ := ih (s + 1) (n - C[s]) (by omega)
      have hc := carr_succ C s
      have hca : capAt C s = C[s] := by unfold capAt; rw [dif_pos hs]
      rw [hca] at hc
      refine ⟨?_, ?_, ?_⟩
      · show (run (C.drop (s + 1)) (n - C[s])).2 = _
        rw [h1, show s + ((run (C.drop (s + 1)) (n - C[s])).1 + 1) = s + 1 + (run (C.drop (s + 1)) (n - C[s])).1 from by omega]
        omega
      · intro x hx hx'
        by_cases e : x = s
        · subst e; omega
        · have := h2 x (by omega) (by simp only at hx'; omega); omega
      · intro hp
        have := h3 hp
        simp only; omega
    · rename_i hn
      refine ⟨by simp, fun x a b => by simp only at b; omega, fun hp => by simp only at hp; omega⟩

theorem ceil_spec {a b : Int} (ha : 0 < a) (hb : 0 < b) : 0 < (a + b - 1) / b ∧ a ≤ ((a + b - 1) / b) * b ∧ ((a + b - 1) / b - 1) * b < a := by
  have h1 := Int.mul_ediv_add_emod (a + b - 1) b
  have h2 := Int.emod_nonneg (a + b - 1) (by omega : b ≠ 0)
  have h3 := Int.emod_lt_of_pos (a + b - 1) hb
  have e : b * ((a + b - 1) / b) = ((a + b - 1) / b) * b := Int.mul_comm _ _
  have e2 : ((a + b - 1) / b - 1) * b = ((a + b - 1) / b) * b - b := by rw [Int.sub_mul]; omega
  refine ⟨?_, by omega, by omega⟩
  by_cases hq : (a + b - 1) / b ≤ 0
  · have := Int.mul_le_mul_of_nonneg_right hq (by omega : 0 ≤ b)
    omega
  · omega

theorem finish_some {C : List Int} (h : ∀ x ∈ C, 0 ≤ x ∧ x ≤ 4096) {s e : Nat} {n : Int} (hf : finish C s n = some e) : IsEnd C s n e := by
  unfold finish at hf
  obtain ⟨h1, h2, h3⟩ := run_spec C h _ s n rfl
  generalize run (C.drop s) n = r at hf h1 h2 h3
  simp only at hf
  split at hf
  · rename_i hr
    injection hf with hf
    subst hf
    exact ⟨by omega, by omega, h2⟩
  · rename_i hr
    split at hf
    · cases hf
    · rename_i hl
      injection hf with hf
      have hl' := last_nonneg h
      obtain ⟨c1, c2, c3⟩ := ceil_spec (a := r.2) (b := last C) (by omega) (by omega)
      generalize hq : (r.2 + last C - 1) / last C = q at hf c1 c2 c3
      subst hf
      have hfar := carr_far C (s + r.1) q.toNat (h3 (by omega))
      have eq : (q.toNat : Int) = q := Int.toNat_of_nonneg (by omega)
      rw [eq] at hfar
      refine ⟨by omega, by omega, fun x hx hx' => ?_⟩
      by_cases hxx : x < s + r.1
      · exact h2 x hx hxx
      · have hfar2 := carr_far C (s + r.1) (x - (s + r.1)) (h3 (by omega))
        rw [show s + r.1 + (x - (s + r.1)) = x from by omega] at hfar2
        have hle : ((x - (s + r.1) : Nat) : Int) ≤ q - 1 := by omega
        have := Int.mul_le_mul_of_nonneg_right hle (by omega : 0 ≤ last C)
        omega

theorem finish_none {C : List Int} (h : ∀ x ∈ C, 0 ≤ x ∧ x ≤ 4096) {s : Nat} {n : Int} (hf : finish C s n = Option.none) :
    last C = 0 ∧ ∀ x, s ≤ x → carr C x < carr C s + n := by
  unfold finish at hf
  obtain ⟨h1, h2, h3⟩ := run_spec C h _ s n rfl
  generalize run (C.drop s) n = r at hf h1 h2 h3
  simp only at hf
  split at hf
  · cases hf
  · rename_i hr
    split at hf
    · rename_i hl
      refine ⟨hl, fun x hx => ?_⟩
      by_cases hxx : x < s + r.1
      · exact h2 x hx hxx
      · have hfar2 := carr_far C (s + r.1) (x - (s + r.1)) (h3 (by omega))
        rw [show s + r.1 + (x - (s + r.1)) = x from by omega, hl] at hfar2
        omega
    · cases hf

/-- Whatever finds the first time, finds the reference's. -/
theorem finish_of_isEnd {C : List Int} (h : ∀ x ∈ C, 0 ≤ x ∧ x ≤ 4096) {s e : Nat} {n : Int} (he : IsEnd C s n e) : finish C s n = some e := by
  cases hf : finish C s n with
  | none => have := (finish_none h hf).2 e he.le; have := he.enough; omega
  | some f => rw [(finish_some h hf).unique he]

theorem finish_of_never {C : List Int} (h : ∀ x ∈ C, 0 ≤ x ∧ x ≤ 4096) {s : Nat} {n : Int} (he : ∀ x, s ≤ x → carr C x < carr C s + n) : finish C s n = Option.none := by
  cases hf : finish C s n with
  | none => rfl
  | some f => have := (finish_some h hf); have := he f this.le; have := (finish_some h hf).enough; omega

/-- How far an end lies: at most the list's length and the sectors behind. -/
theorem isEnd_bd {C : List Int} (h : ∀ x ∈ C, 0 ≤ x ∧ x ≤ 4096) {s e : Nat} {n : Int} (hn : 0 ≤ n) (he : IsEnd C s n e) : (e : Int) ≤ (s : Int) + C.length + n := by
  by_cases hl : e ≤ max s C.length
  · omega
  · have hfar := carr_far C (max s C.length) (e - 1 - max s C.length) (by omega)
    rw [show max s C.length + (e - 1 - max s C.length) = e - 1 from by omega] at hfar
    have h1 := he.first (e - 1) (by omega) (by omega)
    have hm := carr_mono h (show s ≤ max s C.length by omega)
    have hl0 := last_nonneg h
    by_cases hz : last C = 0
    · have h2 := he.enough
      have hfar2 := carr_far C (max s C.length) (e - max s C.length) (by omega)
      rw [show max s C.length + (e - max s C.length) = e from by omega, hz] at hfar2
      rw [hz] at hfar
      omega
    · have := Int.mul_le_mul_of_nonneg_left (show (1 : Int) ≤ last C by omega) (show (0 : Int) ≤ ((e - 1 - max s C.length : Nat) : Int) by omega)
      omega

theorem bdR_ge (t : Tr) (hP : 1 ≤ t.P.toNat) : ∀ k, ap t k - (((k + 1) * t.P.toNat : Nat) : Int) ≤ bdR t (k + 1) := by
  intro k
  induction k with
  | zero => simp [bdR]; omega
  | succ k ih =>
    rw [bdR]
    have e : (k + 1 + 1) * t.P.toNat = (k + 1) * t.P.toNat + t.P.toNat := Nat.succ_mul _ _
    rw [e]
    simp only [Nat.add_sub_cancel]
    split <;> omega
theorem bdP_eq (t : Tr) (hP : 1 ≤ t.P.toNat) : ∀ k, bdP t k = bdR t k := by
  intro k
  induction k with
  | zero => rfl
  | succ k ih =>
    have h := bdR_ge t hP k
    rw [bdP, ih]
    rw [bdR] at h ⊢
    unfold cl
    omega
theorem boundR_eq (t : Tr) (hP : 1 ≤ t.P.toNat) : boundR t = bdR t (cycles t) := by
  unfold boundR
  split
  · rename_i h
    obtain ⟨k, hk⟩ : ∃ k, cycles t = k + 1 := ⟨cycles t - 1, by omega⟩
    have := bdR_ge t hP k
    rw [hk]
    simp only [Nat.add_sub_cancel]
    omega
  · rename_i h
    rw [show cycles t = 0 from by omega]; rfl

theorem sum_bd {l : List Int} {b : Int} (h : ∀ x ∈ l, 0 ≤ x ∧ x ≤ b) : 0 ≤ l.sum ∧ l.sum ≤ b * (l.length : Int) := by
  induction l with
  | nil => simp
  | cons a l ih =>
    have h1 := h a (by simp)
    have h2 := ih (fun x hx => h x (by simp [hx]))
    simp only [List.sum_cons, List.length_cons]
    have e : b * ((l.length + 1 : Nat) : Int) = b * (l.length : Int) + b := by rw [Int.natCast_add, Int.mul_add]; simp
    omega
theorem size_bd {t : Tr} (h : Ok t) (k : Nat) : 0 ≤ size t k ∧ size t k ≤ 16777216 := by
  have h1 := sum_bd (l := (t.W.drop (k * t.P.toNat)).take t.P.toNat) (b := 4096) (fun x hx => h.w x (List.mem_of_mem_drop (List.mem_of_mem_take hx)))
  have h2 : ((t.W.drop (k * t.P.toNat)).take t.P.toNat).length ≤ t.W.length := by rw [List.length_take, List.length_drop]; omega
  have := h.wlen
  unfold size
  omega
theorem en_bd {t : Tr} (h : Ok t) : ∀ k, en t k ≤ k * (t.P.toNat + 16781312) := by
  intro k
  induction k with
  | zero => simp [en, endOf]
  | succ k ih =>
    have e : (k + 1) * (t.P.toNat + 16781312) = k * (t.P.toNat + 16781312) + (t.P.toNat + 16781312) := Nat.succ_mul _ _
    have e2 : (k + 1) * t.P.toNat = k * t.P.toNat + t.P.toNat := Nat.succ_mul _ _
    have e3 : k * t.P.toNat ≤ k * (t.P.toNat + 16781312) := Nat.mul_le_mul_left _ (by omega)
    unfold en at ih ⊢
    rw [endOf]
    cases hk : endOf t k with
    | none => simp
    | some x =>
      rw [hk] at ih
      simp only [Option.getD_some, Option.bind_some] at ih ⊢
      cases hf : finish t.C (max ((k + 1) * t.P.toNat) x) (size t k) with
      | none => simp
      | some f =>
        have h1 := isEnd_bd h.c (size_bd h k).1 (finish_some h.c hf)
        have h2 := (size_bd h k).2
        have h3 := h.clen
        simp only [Option.getD_some]
        omega
theorem cycles_le {t : Tr} (h : Ok t) : cycles t ≤ 4096 := by
  unfold cycles
  have hp := h.p0
  have hw := h.wlen
  apply Nat.le_of_lt_succ
  rw [Nat.div_lt_iff_lt_mul (by omega)]
  have : 4097 * 1 ≤ 4097 * t.P.toNat := Nat.mul_le_mul_left _ (by omega)
  have : 4097 * t.P.toNat = 4096 * t.P.toNat + t.P.toNat := by omega
  omega
/-- Everything before is some. -/
theorem endOf_pre {t : Tr} : ∀ {k j : Nat}, j ≤ k → (endOf t k).isSome → (endOf t j).isSome := by
  intro k
  induction k with
  | zero => intro j hj h; rw [show j = 0 from by omega]; exact h
  | succ k ih =>
    intro j hj h
    by_cases e : j = k + 1
    · rw [e]; exact h
    · apply ih (by omega)
      rw [endOf] at h
      cases hk : endOf t k with
      | none => rw [hk] at h; simp at h
      | some x => rfl
theorem endOf_some {t : Tr} {k : Nat} (h : (endOf t k).isSome) : endOf t k = some (en t k) := by
  unfold en
  cases hk : endOf t k with
  | none => rw [hk] at h; simp at h
  | some x => rfl
theorem endOf_succ {t : Tr} {k : Nat} (h : endOf t k = some (en t k)) : endOf t (k + 1) = finish t.C (st t k) (size t k) := by
  rw [endOf, h]; rfl
theorem lists_succ (t : Tr) (k : Nat) (b : Int) : lists t (k + 1) b = ⟨(lists t k b).close ++ [cl t k], (lists t k b).start ++ [(st t k : Int)], (lists t k b).fin ++ [(en t (k + 1) : Int)], (lists t k b).applied ++ [ap t k], b⟩ := by
  simp [lists, List.range_succ]

theorem bdR_succ (t : Tr) (_hP : 1 ≤ t.P.toNat) : ∀ k, bdR t (k + 1) = max (bdR t k) (ap t k - 1 - ((k * t.P.toNat : Nat) : Int)) := by
  intro k
  have key : ∀ k, ap t k - 1 - ((k * t.P.toNat : Nat) : Int) ≤ bdR t (k + 1) := by
    intro k
    induction k with
    | zero => simp [bdR]; omega
    | succ k ih =>
      rw [bdR]
      have e : (k + 1) * t.P.toNat = k * t.P.toNat + t.P.toNat := Nat.succ_mul _ _
      rw [e]
      simp only [Nat.add_sub_cancel]
      split <;> omega
  have h := key k
  rw [bdR] at h ⊢
  split at h
  · rename_i h1; rw [if_pos h1]
  · rename_i h1; rw [if_neg h1]; omega
theorem bdR_nonneg (t : Tr) (hP : 1 ≤ t.P.toNat) (k : Nat) : 0 ≤ bdR t k := by
  induction k with
  | zero => simp [bdR]
  | succ k ih => rw [bdR_succ t hP]; omega
theorem ap_bd {t : Tr} (h : Ok t) (k : Nat) (hk : k < 4096) : 0 ≤ ap t k ∧ ap t k ≤ 70000000000000 := by
  have h1 := en_bd h (k + 1)
  have h2 : (k + 1) * (t.P.toNat + 16781312) ≤ 4096 * (t.P.toNat + 16781312) := Nat.mul_le_mul_right _ (by omega)
  have := h.p; have := h.p0; have := h.l; have := h.l0; have := h.a; have := h.a0
  unfold ap
  omega
theorem bdR_le (t : Tr) (hP : 1 ≤ t.P.toNat) (k : Nat) (b : Int) (hb : 0 ≤ b) : bdR t k ≤ b ↔ ∀ i, i < k → ap t i - 1 - ((i * t.P.toNat : Nat) : Int) ≤ b := by
  induction k with
  | zero => simp [bdR, hb]
  | succ k ih =>
    rw [bdR_succ t hP, Int.max_le, ih]
    constructor
    · rintro ⟨h1, h2⟩ i hi
      by_cases e : i = k
      · subst e; exact h2
      · exact h1 i (by omega)
    · intro h
      exact ⟨fun i hi => h i (by omega), h k (by omega)⟩
theorem carr_diff_mono {C D : List Int} (hC : ∀ x, capAt C x ≤ capAt D x) (s d : Nat) : carr C (s + d) - carr C s ≤ carr D (s + d) - carr D s := by
  induction d with
  | zero => simp
  | succ d ih => rw [← Nat.add_assoc, carr_succ, carr_succ]; have := hC (s + d); omega
theorem finish_mono {C D : List Int} (hc : ∀ x ∈ C, 0 ≤ x ∧ x ≤ 4096) (hd : ∀ x ∈ D, 0 ≤ x ∧ x ≤ 4096) (hC : ∀ x, capAt C x ≤ capAt D x) {s s' e : Nat} {n n' : Int} (hs : s' ≤ s) (hn : n' ≤ n)
    (hf : finish C s n = some e) : ∃ e', finish D s' n' = some e' ∧ e' ≤ e := by
  have h := finish_some hc hf
  have h1 := carr_diff_mono hC s (e - s)
  rw [show s + (e - s) = e from by have := h.le; omega] at h1
  have h2 := carr_mono hd hs
  have h3 := h.enough
  cases hg : finish D s' n' with
  | none => have := (finish_none hd hg).2 e (by have := h.le; omega); omega
  | some e' =>
    refine ⟨e', rfl, ?_⟩
    have k := finish_some hd hg
    by_cases hle : e' ≤ e
    · exact hle
    · have := k.first e (by have := h.le; omega) (by omega); omega
/-- More capacity, fewer writes, less latency. -/
theorem endOf_mono {t u : Tr} (ht : Ok t) (hu : Ok u) (hP : u.P = t.P) (hS : ∀ k, size u k ≤ size t k) (hC : ∀ x, capAt t.C x ≤ capAt u.C x) :
    ∀ k, (endOf t k).isSome → (endOf u k).isSome ∧ en u k ≤ en t k := by
  intro k
  induction k with
  | zero => intro _; exact ⟨rfl, by simp [en, endOf]⟩
  | succ k ih =>
    intro h
    have hp := endOf_pre (show k ≤ k + 1 by omega) h
    obtain ⟨i1, i2⟩ := ih hp
    have e1 := endOf_succ (endOf_some hp)
    have e2 := endOf_succ (endOf_some i1)
    have h' := endOf_some h
    rw [e1] at h'
    obtain ⟨e', h1, h2⟩ := finish_mono ht.c hu.c hC (s := st t k) (s' := st u k) (by unfold st; rw [hP]; omega) (hS k) h'
    rw [h1] at e2
    refine ⟨by rw [e2]; rfl, ?_⟩
    have : en u (k + 1) = e' := by unfold en; rw [e2]; rfl
    omega
theorem bound_mono {t u : Tr} (ht : Ok t) (hu : Ok u) (hP : u.P = t.P) (hl : u.W.length = t.W.length) (hS : ∀ k, size u k ≤ size t k) (hC : ∀ x, capAt t.C x ≤ capAt u.C x) (hL : u.L + u.A ≤ t.L + t.A)
    (h : (endOf t (cycles t)).isSome) : (endOf u (cycles u)).isSome ∧ boundR u ≤ boundR t := by
  have hc : cycles u = cycles t := by unfold cycles; rw [hl, hP]
  have hp : 1 ≤ t.P.toNat := by have := ht.p0; omega
  rw [hc]
  refine ⟨(endOf_mono ht hu hP hS hC _ h).1, ?_⟩
  rw [boundR_eq t hp, boundR_eq u (by rw [hP]; exact hp), hc]
  rw [bdR_le u (by rw [hP]; exact hp) _ _ (bdR_nonneg t hp _)]
  intro i hi
  have h1 := (bdR_le t hp (cycles t) _ (bdR_nonneg t hp _)).1 (Int.le_refl _) i hi
  have h2 := (endOf_mono ht hu hP hS hC (i + 1) (endOf_pre (by omega) h)).2
  rw [hP]
  unfold ap at h1 ⊢
  omega

def cls (t : Tr) (k : Nat) : List Int := (List.range k).map (cl t)
def sts (t : Tr) (k : Nat) : List Int := (List.range k).map fun i => (st t i : Int)
def ens (t : Tr) (k : Nat) : List Int := (List.range k).map fun i => (en t (i + 1) : Int)
def aps (t : Tr) (k : Nat) : List Int := (List.range k).map (ap t)
theorem cls_succ (t : Tr) (k : Nat) : cls t (k + 1) = cls t k ++ [cl t k] := by simp [cls, List.range_succ]
theorem sts_succ (t : Tr) (k : Nat) : sts t (k + 1) = sts t k ++ [(st t k : Int)] := by simp [sts, List.range_succ]
theorem ens_succ (t : Tr) (k : Nat) : ens t (k + 1) = ens t k ++ [(en t (k + 1) : Int)] := by simp [ens, List.range_succ]
theorem aps_succ (t : Tr) (k : Nat) : aps t (k + 1) = aps t k ++ [ap t k] := by simp [aps, List.range_succ]
theorem cls_length (t : Tr) (k : Nat) : (cls t k).length = k := by simp [cls]
theorem sts_length (t : Tr) (k : Nat) : (sts t k).length = k := by simp [sts]
theorem ens_length (t : Tr) (k : Nat) : (ens t k).length = k := by simp [ens]
theorem aps_length (t : Tr) (k : Nat) : (aps t k).length = k := by simp [aps]
theorem en_le {t : Tr} (h : Ok t) {k : Nat} (hk : k ≤ 4097) : en t k ≤ 80000000000 := by
  have h1 := en_bd h k
  have h2 : k * (t.P.toNat + 16781312) ≤ 4097 * (t.P.toNat + 16781312) := Nat.mul_le_mul_right _ hk
  have := h.p
  omega
theorem aps_last (t : Tr) (k : Nat) (h : 0 < k) : (aps t k)[k - 1]? = some (ap t (k - 1)) := by
  rw [aps, List.getElem?_map, List.getElem?_range (by omega)]; rfl
theorem st_if {t : Tr} {p : Nat} (hp : t.P = (p : Int)) {k : Nat} : (if ((k : Int) + 1) * (p : Int) < (en t k : Int) then (en t k : Int) else ((k : Int) + 1) * (p : Int)) = (st t k : Int) := by
  unfold st
  rw [show t.P.toNat = p from by omega]
  have h4 : ((k : Int) + 1) * (p : Int) = (((k + 1) * p : Nat) : Int) := by rw [Int.natCast_mul]; simp
  rw [h4]
  split <;> omega
theorem st_le {t : Tr} (h : Ok t) {k : Nat} (hk : k ≤ 4096) : st t k ≤ 1000000000000 := by
  have h1 := en_le h (k := k) (by omega)
  have h2 : (k + 1) * t.P.toNat ≤ 4097 * t.P.toNat := Nat.mul_le_mul_right _ (by omega)
  have := h.p
  unfold st
  omega
theorem planOk_none {t : Tr} {k : Nat} (hk : k ≤ cycles t) (h : endOf t k = Option.none) : planOk t = (none, 21) := by
  unfold planOk
  rw [if_neg]
  intro hs
  have := endOf_pre hk hs
  rw [h] at this
  cases this
theorem planOk_some {t : Tr} (h : endOf t (cycles t) = some (en t (cycles t))) : planOk t = (lists t (cycles t) (boundR t), 0) := by
  unfold planOk
  rw [if_pos (by rw [h]; rfl)]
theorem aps_get (t : Tr) {k : Nat} (h : 0 < k) : (aps t (k + 1))[k - 1]? = some (ap t (k - 1)) := by
  rw [aps, List.getElem?_map, List.getElem?_range (by omega)]; rfl
theorem cls_step {t : Tr} {p : Nat} (hp : t.P = (p : Int)) (k : Nat) : cls t (k + 1) = cls t k ++ [((k : Int) + 1) * (p : Int)] := by
  rw [cls_succ]
  unfold cl
  rw [show t.P.toNat = p from by omega, Int.natCast_mul]
  simp
theorem bd_yes {t : Tr} {p : Nat} (hp : t.P = (p : Int)) {k : Nat} {y : Int} (hy : ap t k = y) (h : k = 0 ∨ ap t (k - 1) < y) : (if bdR t k < y - 1 - (k : Int) * (p : Int) then y - 1 - (k : Int) * (p : Int) else bdR t k) = bdR t (k + 1) := by
  rw [bdR, hy, if_pos h, show t.P.toNat = p from by omega, Int.natCast_mul]
  split <;> omega
theorem bd_no {t : Tr} {k : Nat} {y : Int} (hy : ap t k = y) (h : ¬ (k = 0 ∨ ap t (k - 1) < y)) : bdR t k = bdR t (k + 1) := by
  rw [bdR, hy, if_neg h]
theorem bd_end {t : Tr} {p : Nat} (hp : t.P = (p : Int)) (h0 : 0 < cycles t) : (if bdR t (cycles t) < (en t (cycles t) : Int) + t.L + t.A - (cycles t : Int) * (p : Int) then (en t (cycles t) : Int) + t.L + t.A - (cycles t : Int) * (p : Int) else bdR t (cycles t)) = boundR t := by
  unfold boundR
  rw [if_pos h0, show t.P.toNat = p from by omega, Int.natCast_mul]
  have : ap t (cycles t - 1) = (en t (cycles t) : Int) + t.L + t.A := by unfold ap; rw [show cycles t - 1 + 1 = cycles t from by omega]
  rw [this]
  split <;> omega
theorem bd_end0 {t : Tr} (h0 : ¬ 0 < cycles t) : bdR t (cycles t) = boundR t := by
  unfold boundR
  rw [if_neg h0, show cycles t = 0 from by omega]
  rfl
theorem lists_eq (t : Tr) (k : Nat) (b : Int) : lists t k b = ⟨cls t k, sts t k, ens t k, aps t k, b⟩ := rfl
end P56
