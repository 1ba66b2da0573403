/- throttle: what it computes, and its law. -/
import Derived.Test.YtobflnjbdghnhaaHb
set_option linter.unusedSimpArgs false
set_option linter.unusedVariables false
set_option linter.unusedSectionVars false
namespace Go.Proofs.Ytobflnjbdghnhaa
/-- A throttle. -/
structure Th where
  O : Int
  R : Int
  T : Int
  B : Int
  ms : Mk
def Th.conf (s : Th) : Int := tot s.ms - s.B
def chain (T : Int) : Int × Int → Mk → Prop
  | _, [] => True
  | p, m :: r => p.1 < m.1 ∧ m.1 ≤ T ∧ p.2 < m.2 ∧ m.2 ≤ 1073741824 ∧ chain T m r
structure Th.Ok (s : Th) : Prop where
  hO : 1 ≤ s.O ∧ s.O ≤ 1073741824
  hR : 1 ≤ s.R ∧ s.R ≤ 4096
  hT : 0 ≤ s.T ∧ s.T ≤ 1073741824
  hB : 0 ≤ s.B ∧ s.B ≤ tot s.ms
  hn : s.ms.length ≤ 4096
  hc : chain s.T (-1, 0) s.ms
  ho : 1 < s.ms.length → opn s.conf s.ms = 0
theorem chain_mono {T T' : Int} (h : T ≤ T') : ∀ {ms : Mk} {p : Int × Int}, chain T p ms → chain T' p ms
  | [], _, _ => trivial
  | m :: r, p, hc => ⟨hc.1, Int.le_trans hc.2.1 h, hc.2.2.1, hc.2.2.2.1, chain_mono h hc.2.2.2.2⟩
theorem chain_weak {T : Int} {p q : Int × Int} (h1 : q.1 ≤ p.1) (h2 : q.2 ≤ p.2) : ∀ {ms : Mk}, chain T p ms → chain T q ms
  | [], _ => trivial
  | m :: r, hc => ⟨Int.lt_of_le_of_lt h1 hc.1, hc.2.1, Int.lt_of_le_of_lt h2 hc.2.2.1, hc.2.2.2.1, hc.2.2.2.2⟩
theorem chain_tail {T : Int} {p m : Int × Int} {r : Mk} (h : chain T p (m :: r)) : chain T p r := chain_weak (Int.le_of_lt h.1) (Int.le_of_lt h.2.2.1) h.2.2.2.2
theorem chain_drop {T : Int} {p : Int × Int} : ∀ (k : Nat) {ms : Mk}, chain T p ms → chain T p (ms.drop k)
  | 0, _, h => h
  | k + 1, [], h => h
  | k + 1, m :: r, h => chain_drop k (chain_tail h)
theorem chain_get {T : Int} : ∀ {ms : Mk} {p : Int × Int} {k : Nat} {m q : Int × Int}, chain T p ms → ms[k]? = some m → (p :: ms)[k]? = some q → q.1 < m.1 ∧ m.1 ≤ T ∧ q.2 < m.2 ∧ m.2 ≤ 1073741824
  | [], _, _, _, _, _, h, _ => by simp at h
  | x :: r, p, 0, m, q, hc, h, hq => by
    simp at h hq
    subst h hq
    exact ⟨hc.1, hc.2.1, hc.2.2.1, hc.2.2.2.1⟩
  | x :: r, p, k + 1, m, q, hc, h, hq => chain_get hc.2.2.2.2 (by simpa using h) (by simpa using hq)
theorem chain_mem {T : Int} : ∀ {ms : Mk} {p m : Int × Int}, chain T p ms → m ∈ ms → p.1 < m.1 ∧ m.1 ≤ T ∧ p.2 < m.2 ∧ m.2 ≤ 1073741824
  | [], _, _, _, h => by cases h
  | x :: r, p, m, hc, h => by
    rcases List.mem_cons.1 h with rfl | h
    · exact ⟨hc.1, hc.2.1, hc.2.2.1, hc.2.2.2.1⟩
    · obtain ⟨a, b, c, d⟩ := chain_mem hc.2.2.2.2 h
      exact ⟨Int.lt_trans hc.1 a, b, Int.lt_trans hc.2.2.1 c, d⟩
theorem tot_cons {m : Int × Int} {r : Mk} (h : r ≠ []) : tot (m :: r) = tot r := by
  cases r with
  | nil => exact absurd rfl h
  | cons x r => simp [tot, List.getLast?_cons_cons]
theorem tot_one (m : Int × Int) : tot [m] = m.2 := rfl
theorem tot_app (ms : Mk) (x : Int × Int) : tot (ms ++ [x]) = x.2 := by simp [tot]
theorem tot_drop : ∀ {ms : Mk} {k : Nat}, k < ms.length → tot (ms.drop k) = tot ms
  | _, 0, _ => rfl
  | [], k + 1, h => by simp at h
  | m :: r, k + 1, h => by
    have hk : k < r.length := by simpa using h
    rw [List.drop_succ_cons, tot_drop hk, tot_cons (by intro e; subst e; simp at hk)]
theorem chain_tot {T : Int} : ∀ {ms : Mk} {p m : Int × Int}, chain T p ms → m ∈ ms → m.2 ≤ tot ms ∧ p.2 < tot ms
  | [], _, _, _, h => by cases h
  | [x], p, m, hc, h => by
    simp at h
    subst h
    exact ⟨Int.le_refl _, hc.2.2.1⟩
  | x :: y :: r, p, m, hc, h => by
    rw [tot_cons (by simp)]
    have hy := chain_tot hc.2.2.2.2 List.mem_cons_self
    rcases List.mem_cons.1 h with rfl | h
    · exact ⟨Int.le_of_lt hy.2, Int.lt_trans hc.2.2.1 hy.2⟩
    · have := chain_tot hc.2.2.2.2 h
      exact ⟨this.1, Int.lt_trans hc.2.2.1 this.2⟩
theorem tot_last {ms : Mk} (h : ms ≠ []) : ∃ m, m ∈ ms ∧ tot ms = m.2 ∧ ms[ms.length - 1]? = some m := by
  refine ⟨ms.getLast h, List.getLast_mem h, ?_, ?_⟩
  · unfold tot; rw [List.getLast?_eq_some_getLast h]
  · rw [← List.getLast?_eq_getElem?, List.getLast?_eq_some_getLast h]
theorem tot_nn {T : Int} {ms : Mk} (h : chain T (-1, 0) ms) : 0 ≤ tot ms ∧ tot ms ≤ 1073741824 := by
  cases ms with
  | nil => exact ⟨Int.le_refl _, by decide⟩
  | cons m r =>
    obtain ⟨x, hx, he, _⟩ := tot_last (ms := m :: r) (by simp)
    have := chain_mem h hx
    have h2 := this.2.2.1
    simp only at h2
    exact ⟨by omega, by omega⟩
/-- The last mark's total replaced. -/
def setLast : Mk → Int → Mk
  | [], _ => []
  | [m], u => [(m.1, u)]
  | m :: x :: r, u => m :: setLast (x :: r) u
theorem setLast_len : ∀ (ms : Mk) (u : Int), (setLast ms u).length = ms.length
  | [], _ => rfl
  | [_], _ => rfl
  | m :: x :: r, u => by
    have := setLast_len (x :: r) u
    simp only [setLast, List.length_cons] at this ⊢
    omega
theorem setLast_ne {ms : Mk} {u : Int} (h : ms ≠ []) : setLast ms u ≠ [] := by
  intro e
  have := setLast_len ms u
  rw [e] at this
  exact h (List.length_eq_zero_iff.1 this.symm)
theorem setLast_tot : ∀ {ms : Mk} (u : Int), ms ≠ [] → tot (setLast ms u) = u
  | [], _, h => absurd rfl h
  | [_], _, _ => rfl
  | m :: x :: r, u, _ => by
    show tot (m :: setLast (x :: r) u) = u
    rw [tot_cons (setLast_ne (by simp)), setLast_tot u (by simp)]
theorem setLast_chain {T : Int} {u : Int} (hu : u ≤ 1073741824) : ∀ {ms : Mk} {p : Int × Int}, chain T p ms → tot ms < u → chain T p (setLast ms u)
  | [], _, _, _ => trivial
  | [m], p, hc, h => ⟨hc.1, hc.2.1, by have h2 := hc.2.2.1; rw [tot_one] at h; show p.2 < u; omega, hu, trivial⟩
  | m :: x :: r, p, hc, h => ⟨hc.1, hc.2.1, hc.2.2.1, hc.2.2.2.1, setLast_chain (ms := x :: r) hu hc.2.2.2.2 (by rw [tot_cons (by simp)] at h; exact h)⟩
theorem setLast_mem {u : Int} : ∀ {ms : Mk} {m : Int × Int}, m ∈ setLast ms u → m ∈ ms ∨ (m.2 = u ∧ ∃ y, ms[ms.length - 1]? = some y ∧ y.1 = m.1)
  | [], _, h => by cases h
  | [x], m, h => by
    simp [setLast] at h
    subst h
    exact .inr ⟨rfl, x, rfl, rfl⟩
  | x :: y :: r, m, h => by
    rcases List.mem_cons.1 (show m ∈ x :: setLast (y :: r) u from h) with rfl | h
    · exact .inl List.mem_cons_self
    · rcases setLast_mem h with h | ⟨h1, z, h2, h3⟩
      · exact .inl (List.mem_cons_of_mem _ h)
      · exact .inr ⟨h1, z, by simpa using h2, h3⟩
theorem chain_app {T : Int} {x : Int × Int} (h1 : x.1 ≤ T) (h2 : x.2 ≤ 1073741824) : ∀ {ms : Mk} {p : Int × Int}, chain T p ms → (∀ y, (p :: ms)[ms.length]? = some y → y.1 < x.1 ∧ y.2 < x.2) → chain T p (ms ++ [x])
  | [], p, _, h => ⟨(h p rfl).1, h1, (h p rfl).2, h2, trivial⟩
  | m :: r, p, hc, h => ⟨hc.1, hc.2.1, hc.2.2.1, hc.2.2.2.1, chain_app (ms := r) h1 h2 hc.2.2.2.2 fun y hy => h y (by simpa using hy)⟩
theorem opn_of_head {cf : Int} {m : Int × Int} {r : Mk} (h : cf < m.2) : opn cf (m :: r) = 0 := by unfold opn; rw [if_pos h]
theorem opn_drop0 {cf : Int} {ms : Mk} {k : Nat} (hk : k = opn cf ms) (hl : k < ms.length) : opn cf (ms.drop k) = 0 := by
  have hg : ms[k]? = some ms[k] := List.getElem?_eq_getElem hl
  rw [List.drop_eq_getElem_cons hl]
  exact opn_of_head (opn_at cf (by rw [← hk]; exact hg))
theorem opn_lt_len {cf : Int} {ms : Mk} (h : cf < tot ms) (hne : ms ≠ []) : opn cf ms < ms.length := by
  obtain ⟨m, _, h2, h3⟩ := tot_last hne
  have hl := opn_le cf ms
  rcases Nat.lt_or_ge (opn cf ms) ms.length with h4 | h4
  · exact h4
  · have hp : 0 < ms.length := List.length_pos_iff.2 hne
    have := opn_lt cf h3 (by omega)
    omega

/-! The operations -/
def Th.prog (s : Th) (now c : Int) : Th := { s with T := now, B := tot s.ms - c, ms := s.ms.drop (min (opn c s.ms) (s.ms.length - 1)) }
def Th.same (s : Th) : Bool := match s.ms[s.ms.length - 1]? with | some m => decide (m.1 = s.T) | none => false
def Th.admit (s : Th) (n : Int) : Th := { s with B := s.B + n, ms := if s.same then setLast s.ms (tot s.ms + n) else s.ms.drop (opn s.conf s.ms) ++ [(s.T, tot s.ms + n)] }
def Th.age (s : Th) (now : Int) : Int := if s.B = 0 then 0 else match s.ms[opn s.conf s.ms]? with | some m => max 0 (now - m.1) | none => 0
theorem Th.Ok.at {s : Th} (h : s.Ok) {now : Int} (h1 : s.T ≤ now) (h2 : now ≤ 1073741824) : Th.Ok { s with T := now } :=
  ⟨h.hO, h.hR, ⟨Int.le_trans h.hT.1 h1, h2⟩, h.hB, h.hn, chain_mono h1 h.hc, h.ho⟩
theorem prog_drop {ms : Mk} {k : Nat} (hne : ms ≠ []) : min k (ms.length - 1) < ms.length := by
  have : 0 < ms.length := List.length_pos_iff.2 hne
  omega
theorem prog_tot (s : Th) (now c : Int) : tot (s.prog now c).ms = tot s.ms := by
  unfold Th.prog
  simp only
  by_cases h : s.ms = []
  · rw [h]; simp
  · exact tot_drop (prog_drop h)
theorem prog_conf (s : Th) (now c : Int) : (s.prog now c).conf = c := by
  unfold Th.conf
  rw [prog_tot]
  show tot s.ms - (tot s.ms - c) = c
  omega
theorem prog_ok {s : Th} (h : s.Ok) {now c : Int} (h1 : s.T ≤ now) (h2 : now ≤ 1073741824) (hc : s.conf ≤ c ∧ c ≤ tot s.ms) : (s.prog now c).Ok := by
  have hb := h.hB
  refine ⟨h.hO, h.hR, ⟨Int.le_trans h.hT.1 h1, h2⟩, ?_, ?_, chain_drop _ (chain_mono h1 h.hc), ?_⟩
  · rw [prog_tot]
    show 0 ≤ tot s.ms - c ∧ tot s.ms - c ≤ tot s.ms
    unfold Th.conf at hc
    omega
  · have := h.hn
    show (s.ms.drop _).length ≤ 4096
    rw [List.length_drop]; omega
  · intro hl
    rw [prog_conf]
    have hl2 : 1 < (s.ms.drop (min (opn c s.ms) (s.ms.length - 1))).length := hl
    rw [List.length_drop] at hl2
    have hm : min (opn c s.ms) (s.ms.length - 1) = opn c s.ms := by omega
    show opn c (s.ms.drop (min (opn c s.ms) (s.ms.length - 1))) = 0
    rw [hm]
    exact opn_drop0 rfl (by omega)
theorem admit_tot (s : Th) (n : Int) : tot (s.admit n).ms = tot s.ms + n := by
  unfold Th.admit
  simp only
  split
  · rename_i h
    refine setLast_tot _ ?_
    rintro e
    unfold Th.same at h
    rw [e] at h
    simp at h
  · exact tot_app _ _
theorem admit_conf (s : Th) (n : Int) : (s.admit n).conf = s.conf := by
  unfold Th.conf
  rw [admit_tot]
  show tot s.ms + n - (s.B + n) = tot s.ms - s.B
  omega
theorem admit_len (s : Th) (n : Int) : (s.admit n).ms.length ≤ s.ms.length + 1 := by
  unfold Th.admit
  simp only
  split
  · rw [setLast_len]; omega
  · rw [List.length_append, List.length_drop]; simp only [List.length_cons, List.length_nil]; omega
theorem admit_ok {s : Th} (h : s.Ok) {n : Int} (hn : 1 ≤ n) (ht : tot s.ms + n ≤ 1073741824) (hl : s.ms.length < 4096) : (s.admit n).Ok := by
  have hb := h.hB
  have hnn := tot_nn h.hc
  refine ⟨h.hO, h.hR, h.hT, ?_, ?_, ?_, ?_⟩
  · rw [admit_tot]
    show 0 ≤ s.B + n ∧ s.B + n ≤ _
    omega
  · have := admit_len s n; omega
  · show chain s.T (-1, 0) (s.admit n).ms
    unfold Th.admit
    simp only
    split
    · exact setLast_chain ht h.hc (by omega)
    · rename_i hs
      refine chain_app (T := s.T) (x := (s.T, tot s.ms + n)) (Int.le_refl _) ht (chain_drop _ h.hc) ?_
      intro y hy
      simp only
      by_cases h0 : (s.ms.drop (opn s.conf s.ms)).length = 0
      · rw [h0] at hy
        simp at hy
        subst hy
        have := h.hT
        exact ⟨by show (-1 : Int) < _; omega, by show (0 : Int) < _; omega⟩
      · have hd : opn s.conf s.ms < s.ms.length := by rw [List.length_drop] at h0; omega
        obtain ⟨q, hq⟩ : ∃ q, (s.ms.drop (opn s.conf s.ms)).length = q + 1 := ⟨_, (Nat.succ_pred h0).symm⟩
        rw [hq, List.getElem?_cons_succ, List.getElem?_drop] at hy
        have hidx : opn s.conf s.ms + q = s.ms.length - 1 := by rw [List.length_drop] at hq; omega
        rw [hidx] at hy
        have hmem := List.mem_of_getElem? hy
        have h1 := chain_mem h.hc hmem
        have h2 := chain_tot h.hc hmem
        have h3 : y.1 ≠ s.T := by
          intro e
          apply hs
          unfold Th.same
          rw [hy]
          simp [e]
        exact ⟨by omega, by omega⟩
  · intro hl2
    rw [admit_conf]
    have hcf : s.conf < tot s.ms + n := by unfold Th.conf; omega
    unfold Th.admit at hl2 ⊢
    simp only at hl2 ⊢
    split
    · rename_i hs
      rw [if_pos hs, setLast_len] at hl2
      have h0 := h.ho hl2
      match hms : s.ms with
      | [] => rw [hms] at hl2; simp at hl2
      | [_] => rw [hms] at hl2; simp at hl2
      | m :: x :: r =>
        rw [hms] at h0
        show opn s.conf (m :: setLast (x :: r) _) = 0
        refine opn_of_head ?_
        unfold opn at h0
        split at h0
        · assumption
        · omega
    · rename_i hs
      by_cases hd : opn s.conf s.ms < s.ms.length
      · rw [List.drop_eq_getElem_cons hd]
        exact opn_of_head (opn_at s.conf (List.getElem?_eq_getElem hd))
      · rw [List.drop_eq_nil_of_le (by omega)]
        exact opn_of_head hcf

/-! The run -/
structure Ru where
  s : Th
  q : List Int
  old : Int
  free : Bool
  c : Int
def drain : Th → List Int → Bool → Th × List Int × Bool
  | s, [], f => (s, [], f)
  | s, n :: r, f => if s.R * s.O < n then drain s r false else if s.R * s.O < s.B + n then (s, n :: r, false) else drain (s.admit n) r f
def addW (ws : List Int) (k : Nat) (q : List Int) : List Int := match ws[k]? with
  | some n => if 0 < n then q ++ [n] else q
  | none => q
def rtick (ws : List Int) (k : Nat) (u : Ru) : Ru :=
  let c := u.c + min u.s.R u.s.B
  let d := drain (u.s.prog k c) (addW ws k u.q) u.free
  ⟨d.1, d.2.1, max (max u.old (u.s.age k)) (d.1.age k), d.2.2, c⟩
def runTo (ws : List Int) (u : Ru) : Nat → Ru
  | 0 => u
  | k + 1 => rtick ws k (runTo ws u k)
def ru0 (O R : Int) : Ru := ⟨⟨O, R, 0, 0, []⟩, [], 0, true, 0⟩
/-- What holds of a throttle behind tick now. -/
structure Kept (O R now : Int) (s : Th) : Prop where
  eO : s.O = O
  eR : s.R = R
  ok : s.Ok
  T : s.T = max 0 now
  B : s.B ≤ R * O
  young : ∀ m ∈ s.ms, s.conf < m.2 → m.2 - s.conf ≤ R * (O - (now - m.1))
/-- Room that is left for more writes. -/
structure Room (N : Nat) (s : Th) (q : List Int) : Prop where
  small : ∀ n ∈ q, 1 ≤ n ∧ n ≤ 60
  tot : tot s.ms + 60 * q.length ≤ 60 * N
  len : s.ms.length + q.length ≤ N
theorem young_mul {O R a b : Int} (hR : 1 ≤ R) (h : a ≤ b) : R * (O - b) ≤ R * (O - a) := Int.mul_le_mul_of_nonneg_left (by omega) (by omega)
theorem kept_prog {O R now : Int} {s : Th} (h : Kept O R now s) (hn : -1 ≤ now ∧ now + 1 ≤ 1073741824) : Kept O R (now + 1) (s.prog (now + 1) (s.conf + min R s.B)) := by
  have hb := h.ok.hB
  have hR := h.ok.hR
  rw [h.eR] at hR
  have hcf : s.conf = tot s.ms - s.B := rfl
  have hT := h.T
  refine ⟨h.eO, h.eR, prog_ok h.ok (by omega) hn.2 (by omega), by show now + 1 = _; omega, ?_, ?_⟩
  · show tot s.ms - (s.conf + min R s.B) ≤ _
    have := h.B
    omega
  · intro m hm hlt
    rw [prog_conf] at hlt ⊢
    have hmem : m ∈ s.ms := List.mem_of_mem_drop hm
    have htm := (chain_tot h.ok.hc hmem).1
    have hy := h.young m hmem (by omega)
    have hmin : min R s.B = R := by omega
    rw [hmin]
    have e : R * (O - (now + 1 - m.1)) = R * (O - (now - m.1)) - R := by
      rw [show O - (now + 1 - m.1) = (O - (now - m.1)) - 1 by omega, Int.mul_sub, Int.mul_one]
    omega
theorem kept_age0 {O R now : Int} {s : Th} (h : Kept O R now s) (k : Int) (hk : k ≤ now + 1) : s.age k ≤ O ∧ 0 ≤ s.age k := by
  have hO := h.ok.hO
  rw [h.eO] at hO
  unfold Th.age
  split
  · exact ⟨by omega, Int.le_refl _⟩
  · split
    · rename_i m hm
      refine ⟨?_, by omega⟩
      have hy := h.young m (List.mem_of_getElem? hm) (opn_at _ hm)
      have hc := opn_at _ hm
      have hp : 0 < R * (O - (now - m.1)) := by omega
      have hR := h.ok.hR
      rw [h.eR] at hR
      have : 0 < O - (now - m.1) := Int.pos_of_mul_pos_right hp (by omega)
      omega
    · exact ⟨by omega, Int.le_refl _⟩
theorem kept_admit {O R now n : Int} {s : Th} {r : List Int} {N : Nat} (hn : 0 ≤ now ∧ now ≤ 1073741824) (hN : N ≤ 4095) (h : Kept O R now s) (hr : Room N s (n :: r)) (hb2 : ¬ R * O < s.B + n) : Kept O R now (s.admit n) ∧ Room N (s.admit n) r := by
  have hq := hr.small n List.mem_cons_self
  have htl : ∀ m ∈ r, 1 ≤ m ∧ m ≤ 60 := fun m hm => hr.small m (List.mem_cons_of_mem _ hm)
  have h1 := hr.tot
  have h2 := hr.len
  simp only [List.length_cons] at h1 h2
  have hT := h.T
  have key : Kept O R now (s.admit n) := by
    refine ⟨h.eO, h.eR, admit_ok h.ok hq.1 (by omega) (by omega), h.T, by show s.B + n ≤ _; omega, ?_⟩
    intro m hm hlt
    rw [admit_conf] at hlt ⊢
    have hB2 : s.B + n ≤ R * O := by omega
    have hcf : s.conf = tot s.ms - s.B := rfl
    have last : m.2 = tot s.ms + n → m.1 = s.T → m.2 - s.conf ≤ R * (O - (now - m.1)) := by
      intro e1 e2
      rw [e1, e2, hT, show now - max 0 now = 0 by omega, Int.sub_zero]
      omega
    unfold Th.admit at hm
    simp only at hm
    split at hm
    · rename_i hs
      rcases setLast_mem hm with hm | ⟨e1, y, hy, e2⟩
      · exact h.young m hm hlt
      · refine last e1 ?_
        unfold Th.same at hs
        rw [hy] at hs
        have := of_decide_eq_true hs
        omega
    · rcases List.mem_append.1 hm with hm | hm
      · exact h.young m (List.mem_of_mem_drop hm) hlt
      · simp at hm
        subst hm
        exact last rfl rfl
  have hlen := admit_len s n
  exact ⟨key, htl, by rw [admit_tot]; omega, by omega⟩
theorem room_tail {N : Nat} {s : Th} {n : Int} {r : List Int} (hr : Room N s (n :: r)) : Room N s r := by
  have h1 := hr.tot
  have h2 := hr.len
  simp only [List.length_cons] at h1 h2
  exact ⟨fun m hm => hr.small m (List.mem_cons_of_mem _ hm), by omega, by omega⟩
theorem drain_kept {O R now : Int} (hn : 0 ≤ now ∧ now ≤ 1073741824) {N : Nat} (hN : N ≤ 4095) : ∀ {q : List Int} {s : Th} {f : Bool}, Kept O R now s → Room N s q → Kept O R now (drain s q f).1 ∧ Room N (drain s q f).1 (drain s q f).2.1 ∧ (drain s q f).1.conf = s.conf
  | [], s, f, h, hr => ⟨h, hr, rfl⟩
  | n :: r, s, f, h, hr => by
    unfold drain
    split
    · exact drain_kept hn hN h (room_tail hr)
    · split
      · exact ⟨h, hr, rfl⟩
      · rename_i hb1 hb2
        rw [h.eO, h.eR] at hb2
        obtain ⟨k1, k2⟩ := kept_admit hn hN h hr hb2
        have := drain_kept (f := f) hn hN k1 k2
        rw [admit_conf] at this
        exact this
theorem rtick_eq {ws : List Int} {k : Nat} {u : Ru} {s : Th} {q : List Int} {f : Bool} (h : drain (u.s.prog k (u.c + min u.s.R u.s.B)) (addW ws k u.q) u.free = (s, q, f)) : rtick ws k u = ⟨s, q, max (max u.old (u.s.age k)) (s.age k), f, u.c + min u.s.R u.s.B⟩ := by
  unfold rtick
  simp only [h]
/-- What holds of a run behind k ticks. -/
structure RInv (O R : Int) (ws : List Int) (k : Nat) (u : Ru) : Prop where
  kept : Kept O R (k - 1) u.s
  room : Room (min k ws.length) u.s u.q
  c : u.c = u.s.conf
  old : 0 ≤ u.old ∧ u.old ≤ O
theorem rinv_zero {O R : Int} (ws : List Int) (hO : 1 ≤ O ∧ O ≤ 1073741824) (hR : 1 ≤ R ∧ R ≤ 4096) : RInv O R ws 0 (ru0 O R) := by
  refine ⟨⟨rfl, rfl, ⟨hO, hR, ⟨Int.le_refl _, by show (0 : Int) ≤ _; decide⟩, ⟨Int.le_refl _, Int.le_refl _⟩, by show (0 : Nat) ≤ _; decide, trivial, by intro h; simp [ru0] at h⟩, by show (0 : Int) = _; omega, ?_, by intro m hm; cases hm⟩, ⟨(by intro n hn; cases hn), (by show (0 : Int) + 60 * ((0 : Nat) : Int) ≤ 60 * ((min 0 ws.length : Nat) : Int); omega), (by show (0 + 0 : Nat) ≤ min 0 ws.length; omega)⟩, rfl, ⟨Int.le_refl _, by show (0 : Int) ≤ O; omega⟩⟩
  show (0 : Int) ≤ R * O
  exact Int.mul_nonneg (by omega) (by omega)
theorem rinv_tick {O R : Int} {ws : List Int} (hw : ∀ n ∈ ws, 0 ≤ n ∧ n ≤ 60) (hl : ws.length ≤ 40) {k : Nat} (hk : k ≤ 100000) {u : Ru} (h : RInv O R ws k u) : RInv O R ws (k + 1) (rtick ws k u) ∧ u.s.age k ≤ O ∧ Kept O R k (u.s.prog k (u.c + min u.s.R u.s.B)) ∧ Room (min (k + 1) ws.length) (u.s.prog k (u.c + min u.s.R u.s.B)) (addW ws k u.q) := by
  have e1 : ((k + 1 : Nat) : Int) - 1 = k := by omega
  have e2 : (k : Int) - 1 + 1 = k := by omega
  have ha := kept_age0 h.kept k (by omega)
  have hp := kept_prog h.kept ⟨by omega, by omega⟩
  rw [e2, ← h.c] at hp
  have hp' := hp
  rw [← h.kept.eR] at hp
  have hroom : Room (min (k + 1) ws.length) (u.s.prog k (u.c + min u.s.R u.s.B)) (addW ws k u.q) := by
    have r1 := h.room.tot
    have r2 := h.room.len
    have hlen : (u.s.prog k (u.c + min u.s.R u.s.B)).ms.length ≤ u.s.ms.length := by
      show (u.s.ms.drop _).length ≤ _
      rw [List.length_drop]; omega
    unfold addW
    split
    · rename_i n hn
      have hlt : k < ws.length := (List.getElem?_eq_some_iff.1 hn).1
      have hb := hw n (List.mem_of_getElem? hn)
      split
      · refine ⟨?_, ?_, ?_⟩
        · intro m hm
          rcases List.mem_append.1 hm with hm | hm
          · exact h.room.small m hm
          · simp at hm; subst hm; exact ⟨by omega, hb.2⟩
        · rw [prog_tot, List.length_append]; simp; omega
        · rw [List.length_append]; simp; omega
      · exact ⟨h.room.small, by rw [prog_tot]; omega, by omega⟩
    · exact ⟨h.room.small, by rw [prog_tot]; omega, by omega⟩
  have hpk : Kept O R k (u.s.prog k (u.c + min u.s.R u.s.B)) := by rw [← h.kept.eR] at hp'; have := hp; rw [h.kept.eR]; rw [h.kept.eR] at this; exact this
  have hd := drain_kept (now := k) (f := u.free) ⟨by omega, by omega⟩ (by omega) hpk hroom
  have ha2 := kept_age0 hd.1 k (by omega)
  refine ⟨⟨?_, hd.2.1, ?_, ?_⟩, ha.1, hpk, hroom⟩
  · rw [e1]; exact hd.1
  · show u.c + min u.s.R u.s.B = _
    have := hd.2.2
    rw [prog_conf] at this
    exact this.symm
  · show 0 ≤ max (max u.old (u.s.age k)) _ ∧ _
    have := h.old
    have h3 := ha2.1
    refine ⟨by omega, ?_⟩
    show max (max u.old (u.s.age k)) ((drain (u.s.prog k (u.c + min u.s.R u.s.B)) (addW ws k u.q) u.free).1.age k) ≤ O
    omega
theorem rinv {O R : Int} {ws : List Int} (hw : ∀ n ∈ ws, 0 ≤ n ∧ n ≤ 60) (hl : ws.length ≤ 40) (hO : 1 ≤ O ∧ O ≤ 1073741824) (hR : 1 ≤ R ∧ R ≤ 4096) : ∀ k : Nat, k ≤ 100000 → RInv O R ws k (runTo ws (ru0 O R) k)
  | 0, _ => rinv_zero ws hO hR
  | k + 1, hk => (rinv_tick hw hl (by omega) (rinv hw hl hO hR k (by omega))).1

/-! The two examples -/
theorem quiet {ws : List Int} {k : Nat} {u : Ru} (hk : ws.length ≤ k) (hq : u.q = []) : (rtick ws k u).q = [] ∧ (rtick ws k u).free = u.free := by
  have : addW ws k u.q = [] := by unfold addW; rw [List.getElem?_eq_none hk, hq]
  unfold rtick
  simp only [this]
  exact ⟨rfl, rfl⟩
theorem quiet_from {ws : List Int} {O R : Int} {k : Nat} (hk : ws.length ≤ k) (hq : (runTo ws (ru0 O R) k).q = []) : ∀ j, (runTo ws (ru0 O R) (k + j)).q = [] ∧ (runTo ws (ru0 O R) (k + j)).free = (runTo ws (ru0 O R) k).free
  | 0 => ⟨hq, rfl⟩
  | j + 1 => by
    have ih := quiet_from hk hq j
    have := quiet (u := runTo ws (ru0 O R) (k + j)) (show ws.length ≤ k + j by omega) ih.1
    exact ⟨this.1, this.2.trans ih.2⟩
theorem drain_false : ∀ {q : List Int} {s : Th}, (drain s q false).2.2 = false
  | [], _ => rfl
  | n :: r, s => by
    unfold drain
    split
    · exact drain_false
    · split
      · rfl
      · exact drain_false
theorem false_from {ws : List Int} {O R : Int} {k : Nat} (h : (runTo ws (ru0 O R) k).free = false) : ∀ j, (runTo ws (ru0 O R) (k + j)).free = false
  | 0 => h
  | j + 1 => by
    have ih := false_from h j
    show (drain _ _ (runTo ws (ru0 O R) (k + j)).free).2.2 = false
    rw [ih]
    exact drain_false
theorem ex1 : (runTo [6] (ru0 3 2) 404).free = true := by
  have h := (quiet_from (ws := [6]) (O := 3) (R := 2) (k := 1) (by decide) (by decide) 403).2
  rw [h]; decide
theorem ex2 : (runTo [6, 1, 5] (ru0 3 2) 412).free = false := by
  have h : (runTo [6, 1, 5] (ru0 3 2) 3).free = false := by decide
  exact false_from h 409
end Go.Proofs.Ytobflnjbdghnhaa
