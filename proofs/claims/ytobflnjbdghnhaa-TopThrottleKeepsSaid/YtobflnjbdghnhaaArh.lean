/- Arguments that came in, opened: structs, slices and arrays of integers; for every seat. -/
import Derived.Test.YtobflnjbdghnhaaGk
import Derived.Test.YtobflnjbdghnhaaRows
import Derived.WalkKit
import Derived.WideShapes
import Derived.ChangeSlices
import Derived.ProofKit
import Derived.OpenShut
import Derived.ShutString
import Derived.ChangeOld
import Derived.Below
import Derived.Deep.Fields
set_option linter.unusedSimpArgs false
set_option linter.unusedVariables false
set_option linter.unusedSectionVars false
namespace Go.Proofs.Ytobflnjbdghnhaa
open Go.RowKit Go.Shelf Go.ChangeShapes Go.WideShapes Go.ChangeAt
theorem Arg.own : ownKnob Try.prog.godebug = none := by kernel_rfl
theorem Arg.laidOut : laidOutB Try.prog = true := by kernel_rfl
theorem wf64 {x : Int} (h : (Lit.int .i64 x).wf = true) : -9223372036854775808 ≤ x ∧ x ≤ 9223372036854775807 := by
  have h2 : (decide (IntKind.i64.min ≤ x) && decide (x ≤ IntKind.i64.max)) = true := h
  simp only [Bool.and_eq_true, decide_eq_true_eq] at h2
  exact h2
section
variable {H : Type} {enc : TypeId × Value → H} {w : World} {r : Reach} {b0 base : Nat} {spare : Nat → Bool} {held : Bool}
/-- The fields of a struct that came in. -/
theorem open_aggN {t : TypeId} {fs : Array Field} {v : Value} {d : DataW H} {p : List MemPlace} (hs : Try.prog.underlying t = some (.struct fs)) (hone : Go.Deep.oneCellFields Try.prog fs = true) (hC : Try.prog.cellsOf t = fs.size) (hv : Value.okWide Try.prog w r b0 t v) (h : DataW.Trod enc Try.prog w base spare held t v d p) :
    ∃ cs : Array Value, v = .agg cs ∧ cs.size = fs.size ∧ ∀ (i : Nat) (f : Field), fs[i]? = some f → ∃ c y n, cs[i]? = some c ∧ DataW.trod enc Try.prog w base spare held n f.type [c] = some y := by
  obtain ⟨cs, rfl, hsz⟩ := okWide_struct hs hv
  obtain ⟨fuel, hf⟩ := h
  obtain ⟨xs, n, _, _, hl, hlen, hx⟩ := DataW.trod_struct hs hf
  refine ⟨cs, rfl, hsz.trans hC, fun i f hi => ?_⟩
  have hi' : i < fs.size := (Array.getElem?_eq_some_iff.1 hi).1
  obtain ⟨o, k⟩ := Go.Deep.hone_of hone i f hi
  have h2 := hx i f hi
  have h3 : i < cs.size := by omega
  have h4 : i < xs.length := by omega
  refine ⟨cs[i], xs[i], n, by simp [h3], ?_⟩
  rw [o, k] at h2
  rw [List.getElem?_eq_getElem h4] at h2
  rw [← h2]
  congr 1
  simp only [Value.cells]
  rw [List.drop_eq_getElem_cons (by simpa using h3)]
  simp
theorem of_slice {t e : TypeId} {n : Nat} {c : Value} {y : DataW H × List MemPlace} (ht : Try.prog.underlying t = some (.slice e)) (he : Try.prog.underlying e = some (.int .i64)) (hc : Try.prog.cellsOf e = 1) (h : DataW.trod enc Try.prog w 0 (fun _ => true) held n t [c] = some y) :
    ∃ (a : Option Addr) (xs : List Int) (cap : Nat), c = .slice a xs.length cap ∧ Reads (Value.int .i64) w a xs ∧ xs.length ≤ 9223372036854775807 ∧ xs.length ≤ cap ∧ ∀ x ∈ xs, -9223372036854775808 ≤ x ∧ x ≤ 9223372036854775807 := by
  rcases open_ints ht he hc h with ⟨hcs, _⟩ | ⟨a, len, cap, zs, hcs, _, hl, hm, hz, _, hcell, hwz⟩
  · simp only [List.cons.injEq, and_true] at hcs
    exact ⟨none, [], 0, hcs, fun i x hx => by simp at hx, by simp, by simp, by simp⟩
  · simp only [List.cons.injEq, and_true] at hcs
    simp only [if_true] at hz
    unfold maxLen at hm
    refine ⟨some a, zs.take len, cap, by rw [hcs]; congr 1; simp; omega, ?_, by simp; omega, by simp; omega, ?_⟩
    · intro i x hx
      rw [List.getElem?_take] at hx
      split at hx
      · have hiz : i < zs.length := (List.getElem?_eq_some_iff.1 hx).1
        have h1 := hcell i hiz
        have h0 := hcell 0 (by omega)
        have e0 : a.add 0 = a := rfl
        rw [e0] at h0
        have hsp := World.cell?_spot h0
        have hlt := World.block_lt_of_cell? w _ h0
        obtain ⟨b, off, sp⟩ := a
        simp only at hsp
        subst hsp
        refine ⟨b, off, rfl, hlt, ?_⟩
        have e1 : (⟨b, off, none⟩ : Addr).add i = ⟨b, off + i, none⟩ := by
          unfold Addr.add
          split
          · next h => subst h; rfl
          · rfl
        rw [e1] at h1
        rw [h1]
        simp [hx]
      · cases hx
    · intro x hx
      exact wf64 (hwz x (List.mem_of_mem_take hx))
theorem of_int {t : TypeId} {n : Nat} {c : Value} {y : DataW H × List MemPlace} (ht : Try.prog.underlying t = some (.int .i64)) (h : DataW.trod enc Try.prog w base spare held n t [c] = some y) : ∃ x : Int, c = .int .i64 x ∧ -9223372036854775808 ≤ x ∧ x ≤ 9223372036854775807 := by
  obtain ⟨x, h1, _, h3⟩ := DataW.trod_int ht h
  simp only [List.cons.injEq, and_true] at h1
  exact ⟨x, h1, wf64 h3⟩
theorem Has.reads {α : Type} {en : α → Value} {a : Option Addr} {xs : List α} (h : Reads en w a xs) : Has (fun _ => False) w (RdF en a xs) := RdF.has h fun _ _ k => k
theorem of_sliceK {t e : TypeId} {k : IntKind} {n : Nat} {c : Value} {y : DataW H × List MemPlace} (ht : Try.prog.underlying t = some (.slice e)) (he : Try.prog.underlying e = some (.int k)) (hc : Try.prog.cellsOf e = 1) (h : DataW.trod enc Try.prog w 0 (fun _ => true) held n t [c] = some y) :
    ∃ (a : Option Addr) (xs : List Int) (cap : Nat), c = .slice a xs.length cap ∧ Reads (Value.int k) w a xs ∧ xs.length ≤ 9223372036854775807 ∧ xs.length ≤ cap ∧ ∀ x ∈ xs, (Lit.int k x).wf = true := by
  rcases open_ints ht he hc h with ⟨hcs, _⟩ | ⟨a, len, cap, zs, hcs, _, hl, hm, hz, _, hcell, hwz⟩
  · simp only [List.cons.injEq, and_true] at hcs
    exact ⟨none, [], 0, hcs, fun i x hx => by simp at hx, by simp, by simp, by simp⟩
  · simp only [List.cons.injEq, and_true] at hcs
    simp only [if_true] at hz
    unfold maxLen at hm
    refine ⟨some a, zs.take len, cap, by rw [hcs]; congr 1; simp; omega, ?_, by simp; omega, by simp; omega, ?_⟩
    · intro i x hx
      rw [List.getElem?_take] at hx
      split at hx
      · have hiz : i < zs.length := (List.getElem?_eq_some_iff.1 hx).1
        have h1 := hcell i hiz
        have h0 := hcell 0 (by omega)
        have e0 : a.add 0 = a := rfl
        rw [e0] at h0
        have hsp := World.cell?_spot h0
        have hlt := World.block_lt_of_cell? w _ h0
        obtain ⟨b, off, sp⟩ := a
        simp only at hsp
        subst hsp
        refine ⟨b, off, rfl, hlt, ?_⟩
        have e1 : (⟨b, off, none⟩ : Addr).add i = ⟨b, off + i, none⟩ := by
          unfold Addr.add
          split
          · next h => subst h; rfl
          · rfl
        rw [e1] at h1
        rw [h1]
        simp [hx]
      · cases hx
    · intro x hx
      exact hwz x (List.mem_of_mem_take hx)
theorem of_intK {t : TypeId} {k : IntKind} {n : Nat} {c : Value} {y : DataW H × List MemPlace} (ht : Try.prog.underlying t = some (.int k)) (h : DataW.trod enc Try.prog w base spare held n t [c] = some y) : ∃ x : Int, c = .int k x ∧ (Lit.int k x).wf = true := by
  obtain ⟨x, h1, _, h3⟩ := DataW.trod_int ht h
  simp only [List.cons.injEq, and_true] at h1
  exact ⟨x, h1, h3⟩
theorem okWide_array {t e : TypeId} {n : Nat} {v : Value} (ht : Try.prog.underlying t = some (.array n e)) (h : Value.okWide Try.prog w r b0 t v) : ∃ cs : Array Value, v = .agg cs ∧ cs.size = Try.prog.cellsOf t := by
  simp only [Value.okWide, ht] at h
  obtain ⟨cs, h1, h2, _⟩ := h
  exact ⟨cs, h1, h2⟩
/-- An array of integers that came in. -/
theorem arr_arg {t e : TypeId} {k : IntKind} {n : Nat} {v : Value} {d : DataW H} {p : List MemPlace} (ht : Try.prog.underlying t = some (.array n e)) (he : Try.prog.underlying e = some (.int k)) (hc : Try.prog.cellsOf e = 1) (hn : Try.prog.cellsOf t = n) (hv : Value.okWide Try.prog w r b0 t v) (h : DataW.Trod enc Try.prog w base spare held t v d p) :
    ∃ xs : List Int, v = .agg (xs.map (Value.int k)).toArray ∧ xs.length = n ∧ ∀ x ∈ xs, (Lit.int k x).wf = true := by
  obtain ⟨cs, rfl, hsz⟩ := okWide_array ht hv
  obtain ⟨fuel, hf⟩ := h
  obtain ⟨ys, m, _, _, hl, hlen, hx⟩ := DataW.trod_array ht hf
  simp only [Value.cells] at hl hx
  have hs : cs.size = n := by omega
  have key : ∀ i, i < n → ∃ x : Int, cs[i]? = some (.int k x) ∧ (Lit.int k x).wf = true := by
    intro i hi
    have h2 := hx i hi
    rw [hc, Nat.mul_one, List.getElem?_eq_getElem (by omega), List.drop_eq_getElem_cons (by simpa using (by omega : i < cs.size))] at h2
    obtain ⟨x, h3, h4⟩ := of_intK he (by simpa using h2)
    exact ⟨x, by rw [Array.getElem?_eq_getElem (by omega)]; simpa using h3, h4⟩
  refine ⟨(List.range n).map fun i => match cs[i]? with | some (Value.int _ x) => x | _ => (0 : Int), ?_, by simp, ?_⟩
  · congr 1
    apply Array.ext
    · simp [hs]
    · intro i h1 h2
      obtain ⟨x, e, _⟩ := key i (by omega)
      have e2 : cs[i] = .int k x := by rw [Array.getElem?_eq_getElem h1] at e; simpa using e
      simp [e2, e]
  · intro x hxm
    simp only [List.mem_map, List.mem_range] at hxm
    obtain ⟨i, hi, rfl⟩ := hxm
    obtain ⟨x, e, hw⟩ := key i hi
    rw [e]
    exact hw
/-- A slice of integers that came in. -/
theorem slice_arg {t e : TypeId} {k : IntKind} {v : Value} {d : DataW H} {p : List MemPlace} (ht : Try.prog.underlying t = some (.slice e)) (he : Try.prog.underlying e = some (.int k)) (hc : Try.prog.cellsOf e = 1) (hcl : v.cells = #[v]) (h : DataW.Trod enc Try.prog w 0 (fun _ => true) held t v d p) :
    ∃ (a : Option Addr) (xs : List Int) (cap : Nat), v = .slice a xs.length cap ∧ Reads (Value.int k) w a xs ∧ xs.length ≤ 9223372036854775807 ∧ xs.length ≤ cap ∧ ∀ x ∈ xs, (Lit.int k x).wf = true := by
  obtain ⟨fuel, hf⟩ := h
  rw [hcl] at hf
  exact of_sliceK ht he hc hf
end
end Go.Proofs.Ytobflnjbdghnhaa
