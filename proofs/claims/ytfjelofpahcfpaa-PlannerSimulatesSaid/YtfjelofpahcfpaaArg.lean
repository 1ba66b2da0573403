/- Arguments that came in: structs whose fields are integers and slices of integers, read as lists. -/
import Derived.Test.YtfjelofpahcfpaaQa
import Derived.Test.YtfjelofpahcfpaaRows
import Derived.WalkKit
import Derived.ProofKit
import Derived.OpenShut
import Derived.ShutString
import Derived.ChangeOld
import Derived.Below
import Derived.Deep.Fields
set_option linter.unusedSimpArgs false
set_option linter.unusedVariables false
namespace Go.Proofs.Ytfjelofpahcfpaa
open Go.RowKit Go.Shelf Go.ChangeShapes Go.WideShapes Go.ChangeAt
theorem Arg.own : ownKnob Try.prog.godebug = none := by kernel_rfl
theorem Arg.laidOut : laidOutB Try.prog = true := by kernel_rfl
theorem wf64 {x : Int} (h : (Lit.int .i64 x).wf = true) : -9223372036854775808 ≤ x ∧ x ≤ 9223372036854775807 := by
  have h2 : (decide (IntKind.i64.min ≤ x) && decide (x ≤ IntKind.i64.max)) = true := h
  simp only [Bool.and_eq_true, decide_eq_true_eq] at h2
  exact h2
section
variable {H : Type} {enc : TypeId × Value → H} {w : World} {r : Reach} {b0 base : Nat} {spare : Nat → Bool} {held : Bool}
/-- The fields of a struct that came in. -/
theorem open_aggN {t : TypeId} {fs : Array Field} {v : Value} {d : DataW H} {p : List MemPlace} (hs : Try.prog.underlying t = some (.struct fs)) (hone : Go.Deep.oneCellFields Try.prog fs = true) (hC : Try.prog.cellsOf t = fs.size) (hv : Value.okWide Try.prog w r b0 t v) (h : DataW.Trod enc Try.prog w base spare held t v d p) :
    ∃ cs : Array Value, v = .agg cs ∧ cs.size = fs.size ∧ ∀ (i : Nat) (f : Field), fs[i]? = some f → ∃ c y n, cs[i]? = some c ∧ DataW.trod enc Try.prog w base spare held n f.type [c] = some y := by
  obtain ⟨cs, rfl, hsz⟩ := okWide_struct hs hv
  obtain ⟨fuel, hf⟩ := h
  obtain ⟨xs, n, _, _, hl, hlen, hx⟩ := DataW.trod_struct hs hf
  refine ⟨cs, rfl, hsz.trans hC, fun i f hi => ?_⟩
  have hi' : i < fs.size := (Array.getElem?_eq_some_iff.1 hi).1
  obtain ⟨o, k⟩ := Go.Deep.hone_of hone i f hi
  have h2 := hx i f hi
  have h3 : i < cs.size := by omega
  have h4 : i < xs.length := by omega
  refine ⟨cs[i], xs[i], n, by simp [h3], ?_⟩
  rw [o, k] at h2
  rw [List.getElem?_eq_getElem h4] at h2
  rw [← h2]
  congr 1
  simp only [Value.cells]
  rw [List.drop_eq_getElem_cons (by simpa using h3)]
  simp
theorem of_slice {t e : TypeId} {n : Nat} {c : Value} {y : DataW H × List MemPlace} (ht : Try.prog.underlying t = some (.slice e)) (he : Try.prog.underlying e = some (.int .i64)) (hc : Try.prog.cellsOf e = 1) (h : DataW.trod enc Try.prog w 0 (fun _ => true) held n t [c] = some y) :
    ∃ (a : Option Addr) (xs : List Int) (cap : Nat), c = .slice a xs.length cap ∧ Reads (Value.int .i64) w a xs ∧ xs.length ≤ 9223372036854775807 ∧ xs.length ≤ cap ∧ ∀ x ∈ xs, -9223372036854775808 ≤ x ∧ x ≤ 9223372036854775807 := by
  rcases open_ints ht he hc h with ⟨hcs, _⟩ | ⟨a, len, cap, zs, hcs, _, hl, hm, hz, _, hcell, hwz⟩
  · simp only [List.cons.injEq, and_true] at hcs
    exact ⟨none, [], 0, hcs, fun i x hx => by simp at hx, by simp, by simp, by simp⟩
  · simp only [List.cons.injEq, and_true] at hcs
    simp only [if_true] at hz
    unfold maxLen at hm
    refine ⟨some a, zs.take len, cap, by rw [hcs]; congr 1; simp; omega, ?_, by simp; omega, by simp; omega, ?_⟩
    · intro i x hx
      rw [List.getElem?_take] at hx
      split at hx
      · have hiz : i < zs.length := (List.getElem?_eq_some_iff.1 hx).1
        have h1 := hcell i hiz
        have h0 := hcell 0 (by omega)
        have e0 : a.add 0 = a := rfl
        rw [e0] at h0
        have hsp := World.cell?_spot h0
        have hlt := World.block_lt_of_cell? w _ h0
        obtain ⟨b, off, sp⟩ := a
        simp only at hsp
        subst hsp
        refine ⟨b, off, rfl, hlt, ?_⟩
        have e1 : (⟨b, off, none⟩ : Addr).add i = ⟨b, off + i, none⟩ := by
          unfold Addr.add
          split
          · next h => subst h; rfl
          · rfl
        rw [e1] at h1
        rw [h1]
        simp [hx]
      · cases hx
    · intro x hx
      exact wf64 (hwz x (List.mem_of_mem_take hx))
theorem of_int {t : TypeId} {n : Nat} {c : Value} {y : DataW H × List MemPlace} (ht : Try.prog.underlying t = some (.int .i64)) (h : DataW.trod enc Try.prog w base spare held n t [c] = some y) : ∃ x : Int, c = .int .i64 x ∧ -9223372036854775808 ≤ x ∧ x ≤ 9223372036854775807 := by
  obtain ⟨x, h1, _, h3⟩ := DataW.trod_int ht h
  simp only [List.cons.injEq, and_true] at h1
  exact ⟨x, h1, wf64 h3⟩
theorem Has.reads {α : Type} {en : α → Value} {a : Option Addr} {xs : List α} (h : Reads en w a xs) : Has (fun _ => False) w (RdF en a xs) := RdF.has h fun _ _ k => k
/-- A trace that came in. -/
theorem isTr_arg {v : Value} {d : DataW H} {p : List MemPlace} (hv : Value.okWide Try.prog w r b0 24 v) (h : DataW.Trod enc Try.prog w 0 (fun _ => true) held 24 v d p) :
    ∃ t : P56.Tr, Has (fun _ => False) w (IsTr · v t) ∧ (∀ x ∈ t.W, -9223372036854775808 ≤ x ∧ x ≤ 9223372036854775807) ∧ (∀ x ∈ t.C, -9223372036854775808 ≤ x ∧ x ≤ 9223372036854775807) := by
  obtain ⟨cs, rfl, hs, hf⟩ := open_aggN Try.underlying24 (by kernel_rfl) (by kernel_rfl) hv h
  obtain ⟨c0, y0, n0, e0, k0⟩ := hf 0 _ rfl
  obtain ⟨c1, y1, n1, e1, k1⟩ := hf 1 _ rfl
  obtain ⟨c2, y2, n2, e2, k2⟩ := hf 2 _ rfl
  obtain ⟨c3, y3, n3, e3, k3⟩ := hf 3 _ rfl
  obtain ⟨c4, y4, n4, e4, k4⟩ := hf 4 _ rfl
  obtain ⟨a, W, cap, rfl, hr, l1, l2, hb⟩ := of_slice Try.underlying22 Try.underlying3 (by kernel_rfl) k0
  obtain ⟨a', C, cap', rfl, hr', l1', l2', hb'⟩ := of_slice Try.underlying22 Try.underlying3 (by kernel_rfl) k1
  obtain ⟨x2, rfl, _⟩ := of_int Try.underlying3 k2
  obtain ⟨x3, rfl, _⟩ := of_int Try.underlying3 k3
  obtain ⟨x4, rfl, _⟩ := of_int Try.underlying3 k4
  obtain ⟨l⟩ := cs
  have hl : l = [.slice a W.length cap, .slice a' C.length cap', .int .i64 x2, .int .i64 x3, .int .i64 x4] := by
    match l, hs with
    | [d0, d1, d2, d3, d4], _ => simp at e0 e1 e2 e3 e4; simp [e0, e1, e2, e3, e4]
  subst hl
  exact ⟨⟨W, C, x2, x3, x4⟩, isTr_mk (t := ⟨W, C, x2, x3, x4⟩) (Has.reads hr) (Has.reads hr') l1 l1' l2 l2', hb, hb'⟩
/-- A plan that came in. -/
theorem isPl_arg {v : Value} {d : DataW H} {p : List MemPlace} (hv : Value.okWide Try.prog w r b0 28 v) (h : DataW.Trod enc Try.prog w 0 (fun _ => true) held 28 v d p) :
    ∃ t : P56.Pl, Has (fun _ => False) w (IsPl · v t) := by
  obtain ⟨cs, rfl, hs, hf⟩ := open_aggN Try.underlying28 (by kernel_rfl) (by kernel_rfl) hv h
  obtain ⟨c0, y0, n0, e0, k0⟩ := hf 0 _ rfl
  obtain ⟨c1, y1, n1, e1, k1⟩ := hf 1 _ rfl
  obtain ⟨c2, y2, n2, e2, k2⟩ := hf 2 _ rfl
  obtain ⟨c3, y3, n3, e3, k3⟩ := hf 3 _ rfl
  obtain ⟨c4, y4, n4, e4, k4⟩ := hf 4 _ rfl
  obtain ⟨a0, z0, p0, rfl, r0, l0, q0, _⟩ := of_slice Try.underlying22 Try.underlying3 (by kernel_rfl) k0
  obtain ⟨a1, z1, p1, rfl, r1, l1, q1, _⟩ := of_slice Try.underlying22 Try.underlying3 (by kernel_rfl) k1
  obtain ⟨a2, z2, p2, rfl, r2, l2, q2, _⟩ := of_slice Try.underlying22 Try.underlying3 (by kernel_rfl) k2
  obtain ⟨a3, z3, p3, rfl, r3, l3, q3, _⟩ := of_slice Try.underlying22 Try.underlying3 (by kernel_rfl) k3
  obtain ⟨x4, rfl, _⟩ := of_int Try.underlying3 k4
  obtain ⟨l⟩ := cs
  have hl : l = [.slice a0 z0.length p0, .slice a1 z1.length p1, .slice a2 z2.length p2, .slice a3 z3.length p3, .int .i64 x4] := by
    match l, hs with
    | [d0, d1, d2, d3, d4], _ => simp at e0 e1 e2 e3 e4; simp [e0, e1, e2, e3, e4]
  subst hl
  exact ⟨⟨z0, z1, z2, z3, x4⟩, isPl_mk (p := ⟨z0, z1, z2, z3, x4⟩) (Has.reads r0) (Has.reads r1) (Has.reads r2) (Has.reads r3) l0 l1 l2 l3⟩
end
end Go.Proofs.Ytfjelofpahcfpaa
