/- What it means that a slice in memory holds a list, and small facts on worlds that grow; used by all walks of this seat. -/
import Derived.Test.YtobflnjbdghnhaaRows
import Derived.WalkKit
import Derived.WalkSpells
import Derived.WalkLawsBesides
import Derived.Lib.Hide
import Derived.Deep.LoopGhost
set_option linter.unusedSimpArgs false
set_option linter.unusedVariables false
set_option linter.unusedSectionVars false
namespace Go.Proofs.Ytobflnjbdghnhaa
open Go.RowKit

/-- The slice that begins at a holds the list l, each element in one cell. -/
def Reads {α : Type} (enc : α → Value) (w : World) (a : Option Addr) (l : List α) : Prop :=
  ∀ i x, l[i]? = some x → ∃ b off, a = some ⟨b, off, none⟩ ∧ b < w.heap.size ∧ w.cell? ⟨b, off + i, none⟩ = some (enc x)
/-- Nothing that was there has turned. -/
def Since (w w' : World) : Prop := Below w.heap.size w w'
theorem Since.refl (w : World) : Since w w := Below.refl _ _
theorem Since.trans {a b c : World} (h : Since a b) (k : Since b c) : Since a c := Below.trans h (Below.mono k h.size)
theorem Since.alloc {a w : World} (h : Since a w) (o : Obj) : Since a (w.alloc o) := Below.alloc h h.size o
theorem Since.drew {a w : World} (h : Since a w) : Since a w.drew := Below.drew h
theorem Since.drewN {a w : World} (h : Since a w) (n : Nat) : Since a (w.drewN n) := h.trans ⟨rfl, rfl, rfl, Nat.le_refl _, fun _ _ => rfl⟩
theorem Since.setCell {a w : World} (h : Since a w) {p : Addr} (hp : a.heap.size ≤ p.block) (v : Value) : Since a (w.setCell p v) := Below.setCell h hp v
theorem Reads.since {α : Type} {enc : α → Value} {w w' : World} {a : Option Addr} {l : List α} (h : Reads enc w a l) (hs : Since w w') : Reads enc w' a l := by
  intro i x hx
  obtain ⟨b, off, rfl, hb, hc⟩ := h i x hx
  exact ⟨b, off, rfl, Nat.lt_of_lt_of_le hb hs.size, (Below.cell (p := ⟨b, off + i, none⟩) hs hb).trans hc⟩
theorem Reads.nil {α : Type} (enc : α → Value) (w : World) (a : Option Addr) : Reads enc w a [] := fun i x h => by simp at h
theorem get_of_lt {α : Type} {l : List α} {i : Nat} (h : i < l.length) : ∃ x, l[i]? = some x := ⟨l[i], by simp [h]⟩
/-- What a function of numbers that answers bool says, in every world that has grown from w. -/
def PredOf (P : Program) (g : Nat) (lb : Array Value) (p : Int → Bool) (w : World) : Prop :=
  ∀ x w', Since w w' → Calls P g (#[.int .i64 x] ++ lb) w' fun e w'' => e = .returned (.bool (p x)) ∧ Since w' w''
/-- The first index at which p holds; -1 if there is none. -/
def idxOf {α : Type} (p : α → Bool) (l : List α) : Int := match l.findIdx? p with | some i => (i : Int) | none => -1
theorem idxOf_hit {α : Type} {p : α → Bool} {l : List α} {k : Nat} {x : α} (hx : l[k]? = some x) (hp : p x = true) (hb : ∀ j y, j < k → l[j]? = some y → p y = false) : idxOf p l = (k : Int) := by
  have hk : k < l.length := by
    rcases Nat.lt_or_ge k l.length with h | h
    · exact h
    · rw [List.getElem?_eq_none h] at hx; cases hx
  have : l.findIdx? p = some k := by
    rw [List.findIdx?_eq_some_iff_getElem]
    refine ⟨hk, ?_, fun j hj => ?_⟩
    · rw [List.getElem?_eq_getElem hk] at hx; injection hx with hx; rw [hx]; exact hp
    · have := hb j l[j] hj (by simp); simp [this]
  simp [idxOf, this]
theorem idxOf_miss {α : Type} {p : α → Bool} {l : List α} (hb : ∀ (j : Nat) y, l[j]? = some y → p y = false) : idxOf p l = -1 := by
  have : l.findIdx? p = none := by
    rw [List.findIdx?_eq_none_iff]
    intro x hx
    obtain ⟨j, hj⟩ := List.getElem?_of_mem hx
    simp [hb j x hj]
  simp [idxOf, this]
theorem idxOf_nonneg {α : Type} (p : α → Bool) (l : List α) : (0 ≤ idxOf p l) ↔ l.any p = true := by
  unfold idxOf
  cases h : l.findIdx? p with
  | none =>
    rw [List.findIdx?_eq_none_iff] at h
    simp only [List.any_eq_true]
    constructor
    · intro h'; omega
    · rintro ⟨x, hx, hp⟩; have := h x hx; simp [hp] at this
  | some i =>
    rw [List.findIdx?_eq_some_iff_getElem] at h
    obtain ⟨h1, h2, _⟩ := h
    simp only [List.any_eq_true]
    exact ⟨fun _ => ⟨l[i], List.getElem_mem _, h2⟩, fun _ => by omega⟩
/-- What a world that has grown keeps of one block, as rules for the walk. -/
theorem Since.at {w w' : World} {β : Nat} (h : Since w w') (hb : β < w.heap.size) : (∀ o, w'.cell? ⟨β, o, none⟩ = w.cell? ⟨β, o, none⟩) ∧ (∀ o, w'.frozen? ⟨β, o, none⟩ = w.frozen? ⟨β, o, none⟩) ∧ β < w'.heap.size :=
  ⟨fun o => Below.cell (p := ⟨β, o, none⟩) h hb, fun o => Below.frozen (p := ⟨β, o, none⟩) h hb, Nat.lt_of_lt_of_le hb h.size⟩
/-- What a world that has grown keeps, as rules for the walk. -/
theorem Since.rules {w w' : World} (h : Since w w') : (∀ b o, b < w.heap.size → w'.cell? ⟨b, o, none⟩ = w.cell? ⟨b, o, none⟩) ∧ (∀ b o, b < w.heap.size → w'.frozen? ⟨b, o, none⟩ = w.frozen? ⟨b, o, none⟩) ∧ (∀ b, b < w.heap.size → b < w'.heap.size) :=
  ⟨fun b o hb => Below.cell (p := ⟨b, o, none⟩) h hb, fun b o hb => Below.frozen (p := ⟨b, o, none⟩) h hb, fun b hb => Nat.lt_of_lt_of_le hb h.size⟩
theorem ret_int {k : IntKind} {a b : Int} (h : a = b) : Ending.returned (.int k a) = Ending.returned (.int k b) := by rw [h]
theorem ret_bool {a b : Bool} (h : a = b) : Ending.returned (.bool a) = Ending.returned (.bool b) := by rw [h]
theorem not_true {b : Bool} (h : Hid ((!b) = true)) : b = false := by have := h.out; simpa using this
theorem not_false {b : Bool} (h : Hid ((!b) = false)) : b = true := by have := h.out; simpa using this
/-- A call that answers the bool b: each answer by itself. -/
theorem bool_split {P : Program} {f : Nat} {args : Array Value} {w : World} {b : Bool} {R : World → Prop} (h : Calls P f args w fun e w' => e = .returned (.bool b) ∧ R w') :
    Calls P f args w fun e w' => (e = .returned (.bool true) ∧ Hid (b = true) ∧ R w') ∨ (e = .returned (.bool false) ∧ Hid (b = false) ∧ R w') :=
  h.mono fun _ _ ⟨h1, h2⟩ => by
    cases hb : b
    · exact .inr ⟨by rw [h1, hb], rfl, h2⟩
    · exact .inl ⟨by rw [h1, hb], rfl, h2⟩
/-- A call that answers whether p: each answer by itself. -/
theorem dec_split {P : Program} {f : Nat} {args : Array Value} {w : World} {p q : Prop} [Decidable p] {R : World → Prop} (hq : ¬ p → q) (h : Calls P f args w fun e w' => e = .returned (.bool (decide p)) ∧ R w') :
    Calls P f args w fun e w' => (e = .returned (.bool true) ∧ p ∧ R w') ∨ (e = .returned (.bool false) ∧ q ∧ R w') :=
  h.mono fun _ _ ⟨h1, h2⟩ => by
    by_cases hp : p
    · exact .inl ⟨by rw [h1]; simp [hp], hp, h2⟩
    · exact .inr ⟨by rw [h1]; simp [hp], hq hp, h2⟩
end Go.Proofs.Ytobflnjbdghnhaa
