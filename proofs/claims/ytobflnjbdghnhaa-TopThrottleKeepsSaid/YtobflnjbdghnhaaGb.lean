/- The runner of pure operations, and that it tells the truth. -/
import Derived.Test.YtobflnjbdghnhaaGa
set_option linter.unusedSimpArgs false
set_option linter.unusedVariables false
set_option linter.unusedSectionVars false
namespace Go.Proofs.Ytobflnjbdghnhaa
open Go.RowKit

/-- The address of element i of a slice that begins at a. -/
@[irreducible] def adr (a : Addr) (i : Int) (size : Nat) : Addr := a.add (i.toNat * size)
/-- Where a part of a slice begins. -/
@[irreducible] def sadr (a : Option Addr) (l m size : Nat) : Option Addr := if m = l then a else a.map (·.add (l * size))
def tyD (t : TypeId) : Option TypeDesc := match te t with | some ⟨_, _, _, d, _⟩ => some d | none => none
def tyS (t : TypeId) : Option Nat := match te t with | some ⟨_, n, _, _, _⟩ => some n | none => none
set_option maxRecDepth 20000 in
theorem tyD_ok {t : TypeId} {d : TypeDesc} (h : tyD t = some d) : Try.prog.underlying t = some d := by
  unfold tyD at h
  cases hi : te t with
  | none => rw [hi] at h; cases h
  | some i => rw [hi] at h; have h2 : some i.desc = some d := h; injection h2 with h2; subst h2; exact (te_ok hi).und
theorem tyD_run {t : TypeId} {d : TypeDesc} (h : tyD t = some d) (w : World) : (underlying t).run Try.prog w = .ok d w := run_underlying (tyD_ok h) w
set_option maxRecDepth 20000 in
theorem tyS_run {t : TypeId} {n : Nat} (h : tyS t = some n) (w : World) : (sizeOf t).run Try.prog w = .ok n w := by
  unfold tyS at h
  cases hi : te t with
  | none => rw [hi] at h; cases h
  | some i => rw [hi] at h; have h2 : some i.size = some n := h; injection h2 with h2; subst h2; exact (te_ok hi).size w
/-- Put cells at a place of a list. -/
def setAt : List Value → Nat → List Value → Option (List Value)
  | l, _, [] => some l
  | [], _, _ :: _ => none
  | _ :: l, 0, v :: vs => match setAt l 0 vs with | some r => some (v :: r) | none => none
  | c :: l, k + 1, vs => match setAt l k vs with | some r => some (c :: r) | none => none
def fillL (place : Nat → Option (Nat × Nat)) : List Value → List (Nat × Value) → Option (List Value)
  | cs, [] => some cs
  | cs, (i, v) :: r => match place i with
    | some (off, size) => match Nat.beq v.cells.toList.length size && Nat.ble (off + size) cs.length with
      | true => match setAt cs off v.cells.toList with
        | some cs' => fillL place cs' r
        | none => none
      | false => none
    | none => none
theorem foldl_set (off : Nat) : ∀ (vs : List Value) (j : Nat) (cs : List Value), ((vs.zipIdx j).foldl (fun (cs : Array Value) (cj : Value × Nat) => cs.setIfInBounds (off + cj.2) cj.1) cs.toArray).toList = (vs.zipIdx j).foldl (fun (cs : List Value) (cj : Value × Nat) => cs.set (off + cj.2) cj.1) cs
  | [], j, cs => by simp
  | v :: vs, j, cs => by
    simp only [List.zipIdx_cons, List.foldl_cons]
    have : cs.toArray.setIfInBounds (off + j) v = (cs.set (off + j) v).toArray := by simp
    rw [this, foldl_set off vs (j + 1)]
theorem setAt_set : ∀ {l : List Value} {k : Nat} {v : Value} {vs r : List Value}, setAt l k (v :: vs) = some r → setAt (l.set k v) (k + 1) vs = some r
  | [], k, v, vs, r, h => by simp [setAt] at h
  | c :: l, 0, v, vs, r, h => by
    unfold setAt at h
    cases vs with
    | nil => simp [setAt] at h ⊢; exact h
    | cons u vs => simp only [List.set_cons_zero]; unfold setAt; exact h
  | c :: l, k + 1, v, vs, r, h => by
    unfold setAt at h
    split at h
    · rename_i r' hr
      injection h with h; subst h
      have := setAt_set hr
      simp only [List.set_cons_succ]
      cases vs with
      | nil => simp [setAt] at this ⊢; exact this
      | cons u vs => unfold setAt; rw [this]
    · cases h
theorem setAt_fold : ∀ {vs : List Value} {l : List Value} {off j : Nat} {r : List Value}, setAt l (off + j) vs = some r → (vs.zipIdx j).foldl (fun (cs : List Value) (cj : Value × Nat) => cs.set (off + cj.2) cj.1) l = r
  | [], l, off, j, r, h => by simp [setAt] at h; simpa using h
  | v :: vs, l, off, j, r, h => by
    simp only [List.zipIdx_cons, List.foldl_cons]
    exact setAt_fold (j := j + 1) (setAt_set h)
theorem fillL_ok {place : Nat → Option (Nat × Nat)} : ∀ {parts : List (Nat × Value)} {cs r : List Value}, fillL place cs parts = some r → Instr.fill place cs.toArray parts = some r.toArray
  | [], cs, r, h => by simp [fillL] at h; simp [Instr.fill, h]
  | (i, v) :: rest, cs, r, h => by
    unfold fillL at h
    unfold Instr.fill
    split at h
    · rename_i off size hp
      rw [hp]
      simp only
      split at h
      · rename_i hb
        rw [Bool.and_eq_true] at hb
        have hb1 := Nat.eq_of_beq_eq_true hb.1
        have hb2 := Nat.le_of_ble_eq_true hb.2
        split at h
        · rename_i cs' hs
          have hz : v.cells.size = size := by simpa using hb1
          rw [if_neg (by simp [hz]; omega)]
          have hf : (v.cells.zipIdx.foldl (fun cs (c, j) => cs.setIfInBounds (off + j) c) cs.toArray) = cs'.toArray := by
            rw [← Array.foldl_toList, Array.toList_zipIdx]
            apply Array.ext'
            have h1 := foldl_set off v.cells.toList 0 cs
            have h2 := setAt_fold (l := cs) (off := off) (j := 0) (vs := v.cells.toList) (r := cs') (by simpa using hs)
            rw [h2] at h1
            exact h1
          rw [hf]
          exact fillL_ok h
        · cases h
      · cases h
    · cases h
end Go.Proofs.Ytobflnjbdghnhaa
