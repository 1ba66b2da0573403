/- Arguments that came in, opened: slices of anything; slices of arrays; for every seat. -/
import Derived.Test.YthcnnedgfndklaaArh
set_option linter.unusedSimpArgs false
set_option linter.unusedVariables false
set_option linter.unusedSectionVars false
namespace Go.Proofs.Ythcnnedgfndklaa
open Go.RowKit Go.Shelf Go.ChangeShapes Go.WideShapes Go.ChangeAt
section
variable {H : Type} {enc : TypeId × Value → H} {w : World} {r : Reach} {b0 base : Nat} {spare : Nat → Bool} {held : Bool}
theorem list_of {α β : Type} {f : α → β} {Q : α → Prop} : ∀ {l : List β}, (∀ y ∈ l, ∃ x, y = f x ∧ Q x) → ∃ xs : List α, l = xs.map f ∧ ∀ x ∈ xs, Q x
  | [], _ => ⟨[], rfl, by simp⟩
  | y :: l, h => by
    obtain ⟨x, rfl, hx⟩ := h y (by simp)
    obtain ⟨xs, rfl, hxs⟩ := list_of (l := l) fun z hz => h z (by simp [hz])
    exact ⟨x :: xs, rfl, fun z hz => by rcases List.mem_cons.1 hz with rfl | hz; exact hx; exact hxs z hz⟩
/-- A slice that came in: its elements' cells, each of which came in. -/
theorem of_sliceG {t e : TypeId} {n : Nat} {c : Value} {y : DataW H × List MemPlace} (ht : Try.prog.underlying t = some (.slice e)) (h : DataW.trod enc Try.prog w 0 (fun _ => true) held n t [c] = some y) :
    ∃ (a : Option Addr) (cap : Nat) (rows : List (List Value)), c = .slice a rows.length cap ∧ rows.length ≤ cap ∧ cap ≤ maxLen ∧ (∀ r ∈ rows, r.length = Try.prog.cellsOf e ∧ ∃ n' y', DataW.trod enc Try.prog w 0 (fun _ => true) held n' e r = some y') ∧ Reads (fun v : Value => v) w a rows.flatten := by
  rcases DataW.trod_slice ht h with ⟨hcs, _⟩ | ⟨a, len, cap, elems, rest, m, _, hcs, _, _, hl, hm, hlen, hel, _, _⟩
  · simp only [List.cons.injEq, and_true] at hcs
    exact ⟨none, 0, [], hcs, by simp, by decide, by simp, fun i x hx => by simp at hx⟩
  simp only [List.cons.injEq, and_true] at hcs
  subst hcs
  have each : ∀ i, i < len → ∃ cs, w.cells? 0 (a.add (i * Try.prog.cellsOf e)) (Try.prog.cellsOf e) = some cs ∧ ∃ y', DataW.trod enc Try.prog w 0 (fun _ => true) held m e cs = some y' := by
    intro i hi
    have h1 := hel i hi
    rw [List.getElem?_eq_getElem (by omega), Option.bind_eq_some_iff] at h1
    obtain ⟨cs, h2, h3⟩ := h1
    exact ⟨cs, h2, _, h3⟩
  have key : ∀ k, k ≤ len → ∃ rows : List (List Value), rows.length = k ∧ (∀ i r, rows[i]? = some r → w.cells? 0 (a.add (i * Try.prog.cellsOf e)) (Try.prog.cellsOf e) = some r ∧ ∃ n' y', DataW.trod enc Try.prog w 0 (fun _ => true) held n' e r = some y') := by
    intro k
    induction k with
    | zero => intro _; exact ⟨[], rfl, fun i r h => by simp at h⟩
    | succ k ih =>
      intro hk
      obtain ⟨rows, h1, h2⟩ := ih (by omega)
      obtain ⟨cs, h3, y', h4⟩ := each k (by omega)
      refine ⟨rows ++ [cs], by simp [h1], fun i r hi => ?_⟩
      by_cases hik : i < k
      · rw [List.getElem?_append_left (by omega)] at hi
        exact h2 i r hi
      · rw [List.getElem?_append_right (by omega)] at hi
        have hik2 : i = k := by
          have := (List.getElem?_eq_some_iff.1 hi).1
          simp at this
          omega
        subst hik2
        rw [h1, Nat.sub_self] at hi
        simp at hi
        subst hi
        exact ⟨h3, m, y', h4⟩
  obtain ⟨rows, hr1, hr2⟩ := key len (Nat.le_refl _)
  have hsz : ∀ r ∈ rows, r.length = Try.prog.cellsOf e := by
    intro r hr
    obtain ⟨i, hi⟩ := List.getElem?_of_mem hr
    exact ((World.cells?_some (hr2 i r hi).1).2.1)
  refine ⟨some a, cap, rows, by rw [hr1], by omega, hm, fun r hr => ?_, ?_⟩
  · obtain ⟨i, hi⟩ := List.getElem?_of_mem hr
    exact ⟨hsz r hr, (hr2 i r hi).2⟩
  · intro j x hx
    obtain ⟨i, q, r, h1, h2, h3⟩ : ∃ i q r, rows[i]? = some r ∧ r[q]? = some x ∧ j = i * Try.prog.cellsOf e + q := by
      clear hr1 hr2 key
      induction rows generalizing j with
      | nil => simp at hx
      | cons r rows ih =>
        have hrl := hsz r (by simp)
        rw [List.flatten_cons] at hx
        by_cases hj : j < r.length
        · rw [List.getElem?_append_left hj] at hx
          exact ⟨0, j, r, rfl, hx, by simp⟩
        · rw [List.getElem?_append_right (by omega)] at hx
          obtain ⟨i, q, r', h1, h2, h3⟩ := ih (fun r hr => hsz r (by simp [hr])) (j - r.length) hx
          exact ⟨i + 1, q, r', h1, h2, by rw [Nat.add_mul, Nat.one_mul]; omega⟩
    obtain ⟨_, hq1, hq2⟩ := World.cells?_some (hr2 i r h1).1
    have hqs : q < Try.prog.cellsOf e := by rw [← hsz r (List.mem_of_getElem? h1)]; exact (List.getElem?_eq_some_iff.1 h2).1
    have hc := (hq2 q hqs).trans h2
    have hlt := World.block_lt_of_cell? w _ hc
    obtain ⟨r0, hr0⟩ := get_of_lt (l := rows) (i := 0) (by have := (List.getElem?_eq_some_iff.1 h1).1; omega)
    obtain ⟨_, hz1, hz2⟩ := World.cells?_some (hr2 0 r0 hr0).1
    have hc0 := hz2 0 (by omega)
    rw [List.getElem?_eq_getElem (by omega), Nat.zero_mul, show (a.add 0).add 0 = a from rfl] at hc0
    have hsp2 := World.cell?_spot hc0
    obtain ⟨b, off, sp⟩ := a
    simp only at hsp2
    subst hsp2
    rw [add_lit, add_lit] at hc hlt
    exact ⟨b, off, rfl, hlt, by rw [h3, ← Nat.add_assoc]; exact hc⟩
/-- The cells of an array of integers that came in. -/
theorem of_arr {t e : TypeId} {k : IntKind} {n m : Nat} {cs : List Value} {y : DataW H × List MemPlace} (ht : Try.prog.underlying t = some (.array n e)) (he : Try.prog.underlying e = some (.int k)) (hc : Try.prog.cellsOf e = 1) (hn : Try.prog.cellsOf t = n) (h : DataW.trod enc Try.prog w base spare held m t cs = some y) :
    ∃ xs : List Int, cs = xs.map (Value.int k) ∧ xs.length = n ∧ ∀ x ∈ xs, (Lit.int k x).wf = true := by
  obtain ⟨ys, m', _, _, hl, hlen, hx⟩ := DataW.trod_array ht h
  have hlen2 : cs.length = n := by omega
  obtain ⟨xs, h1, h2⟩ := list_of (f := Value.int k) (Q := fun x => (Lit.int k x).wf = true) (l := cs) (by
    intro v hv
    obtain ⟨i, hi⟩ := List.getElem?_of_mem hv
    have hil := (List.getElem?_eq_some_iff.1 hi).1
    have h2 := hx i (by omega)
    rw [hc, Nat.mul_one, List.getElem?_eq_getElem (show i < ys.length by omega), List.drop_eq_getElem_cons hil, List.take_succ_cons, List.take_zero] at h2
    obtain ⟨x, h3, h4⟩ := of_intK he h2
    refine ⟨x, ?_, h4⟩
    rw [List.getElem?_eq_getElem hil] at hi
    injection hi with hi
    rw [← hi, h3])
  exact ⟨xs, h1, by rw [h1, List.length_map] at hlen2; exact hlen2, h2⟩
/-- The cells of a slice of arrays of integers that came in. -/
theorem of_arrs {t e u : TypeId} {k : IntKind} {m n : Nat} {c : Value} {y : DataW H × List MemPlace} (ht : Try.prog.underlying t = some (.slice e)) (he : Try.prog.underlying e = some (.array n u)) (hu : Try.prog.underlying u = some (.int k)) (hc : Try.prog.cellsOf u = 1) (hn : Try.prog.cellsOf e = n) (h : DataW.trod enc Try.prog w 0 (fun _ => true) held m t [c] = some y) :
    ∃ (a : Option Addr) (cap : Nat) (ls : List (List Int)), c = .slice a ls.length cap ∧ ls.length ≤ cap ∧ cap ≤ maxLen ∧ (∀ s ∈ ls, s.length = n ∧ ∀ x ∈ s, (Lit.int k x).wf = true) ∧ Reads (Value.int k) w a ls.flatten := by
  obtain ⟨a, cap, rows, h1, h2, h3, h4, h5⟩ := of_sliceG ht h
  obtain ⟨ls, rfl, h6⟩ := list_of (f := fun s : List Int => s.map (Value.int k)) (Q := fun s => s.length = n ∧ ∀ x ∈ s, (Lit.int k x).wf = true) (l := rows) (by
    intro r hr
    obtain ⟨_, n', y', hy⟩ := h4 r hr
    obtain ⟨xs, e1, e2, e3⟩ := of_arr he hu hc hn hy
    exact ⟨xs, e1, e2, e3⟩)
  rw [List.length_map] at h1 h2
  refine ⟨a, cap, ls, h1, h2, h3, h6, ?_⟩
  intro i x hx
  refine h5 i (Value.int k x) ?_
  have : (ls.map fun s : List Int => s.map (Value.int k)).flatten = ls.flatten.map (Value.int k) := by rw [List.map_flatten]
  rw [this, List.getElem?_map, hx]
  rfl
end
end Go.Proofs.Ythcnnedgfndklaa
