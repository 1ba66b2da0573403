/- A small walker of our own: frames as lists of slots, pure operations run by evaluation. -/
import Derived.Test.YtobflnjbdghnhaaTypes
import Derived.Test.YtobflnjbdghnhaaMem
import Derived.IntWalk
set_option linter.unusedSimpArgs false
set_option linter.unusedVariables false
set_option linter.unusedSectionVars false
namespace Go.Proofs.Ytobflnjbdghnhaa
open Go.RowKit

/-! Frames -/
def lk : List (Nat × Value) → Nat → Option Value
  | [], _ => none
  | (k, v) :: r, t => cond (Nat.beq k t) (some v) (lk r t)
def ev (l : List (Nat × Value)) : Operand → Option Value
  | .tmp t => lk l t
  | .const v => some v
  | .global g => some (.pointer (some ⟨g, 0, none⟩))
  | .func f => some (.func (.func f) #[] #[])
def evL (l : List (Nat × Value)) : List Operand → Option (List Value)
  | [] => some []
  | x :: r => match ev l x with
    | some v => match evL l r with
      | some vs => some (v :: vs)
      | none => none
    | none => none
def evP (l : List (Nat × Value)) : List (Nat × Operand) → Option (List (Nat × Value))
  | [] => some []
  | (i, x) :: r => match ev l x with
    | some v => match evP l r with
      | some vs => some ((i, v) :: vs)
      | none => none
    | none => none
/-- What is known of a frame: its slots. -/
structure Fr (n : Nat) (ds : List Deferred) (l : List (Nat × Value)) (a : Act) : Prop where
  size : a.tmps.size = n
  defs : a.defers = ds
  get : ∀ t v, lk l t = some v → a.tmps.getD t undef = v
theorem Fr.eval {n : Nat} {ds : List Deferred} {l : List (Nat × Value)} {a : Act} (h : Fr n ds l a) {x : Operand} {v : Value} (hx : ev l x = some v) : a.eval x = v := by
  cases x with
  | tmp t => exact h.get t v hx
  | const c => injection hx
  | global g => injection hx
  | func f => injection hx
theorem Fr.evalL {n : Nat} {ds : List Deferred} {l : List (Nat × Value)} {a : Act} (h : Fr n ds l a) : ∀ {xs : List Operand} {vs : List Value}, evL l xs = some vs → xs.map a.eval = vs
  | [], vs, hx => by injection hx
  | x :: r, vs, hx => by
    unfold evL at hx
    split at hx
    · rename_i v hv
      split at hx
      · rename_i us hu
        injection hx with hx
        rw [← hx, List.map_cons, h.eval hv, h.evalL hu]
      · cases hx
    · cases hx
theorem Fr.evalP {n : Nat} {ds : List Deferred} {l : List (Nat × Value)} {a : Act} (h : Fr n ds l a) : ∀ {xs : List (Nat × Operand)} {vs : List (Nat × Value)}, evP l xs = some vs → (xs.map fun (i, x) => (i, a.eval x)) = vs
  | [], vs, hx => by injection hx
  | (i, x) :: r, vs, hx => by
    unfold evP at hx
    split at hx
    · rename_i v hv
      split at hx
      · rename_i us hu
        injection hx with hx
        rw [← hx, List.map_cons, h.evalP hu]
        simp only [h.eval hv]
      · cases hx
    · cases hx
theorem Fr.put {n : Nat} {ds : List Deferred} {l : List (Nat × Value)} {a : Act} (h : Fr n ds l a) {d : Nat} (hd : Nat.blt d n = true) (v : Value) : Fr n ds ((d, v) :: l) (a.put (some d) v) := by
  have hd : d < n := by simpa using hd
  refine ⟨by simp [Act.put, h.size], h.defs, fun t u hu => ?_⟩
  unfold lk at hu
  cases hb : Nat.beq d t
  · rw [hb] at hu
    have hne : d ≠ t := fun e => by subst e; simp at hb
    have := h.get t u hu
    simp only [Act.put, Array.getD_eq_getD_getElem?, Array.getElem?_setIfInBounds_ne hne] at this ⊢
    exact this
  · rw [hb] at hu
    injection hu with hu
    have := Nat.eq_of_beq_eq_true hb
    subst this hu
    have hlt : d < a.tmps.size := by rw [h.size]; exact hd
    simp [Act.put, hlt]
theorem Fr.put0 {n : Nat} {ds : List Deferred} {l : List (Nat × Value)} {a : Act} (h : Fr n ds l a) (v : Value) : Fr n ds l (a.put none v) := h
/-- What is wanted of a frame, out of what is known. -/
inductive Sub (l : List (Nat × Value)) : List (Nat × Value) → Prop
  | nil : Sub l []
  | cons {t : Nat} {v v' : Value} {r : List (Nat × Value)} : lk l t = some v → v = v' → Sub l r → Sub l ((t, v') :: r)
theorem Sub.get {l : List (Nat × Value)} : ∀ {l' : List (Nat × Value)}, Sub l l' → ∀ t v, lk l' t = some v → lk l t = some v
  | _, .nil, _, _, h => by simp [lk] at h
  | _, .cons (t := k) h1 h2 r, t, v, h => by
    unfold lk at h
    cases hb : Nat.beq k t
    · rw [hb] at h; exact r.get t v h
    · rw [hb] at h
      injection h with h
      have := Nat.eq_of_beq_eq_true hb
      subst this h h2
      exact h1
theorem Fr.sub {n : Nat} {ds : List Deferred} {l l' : List (Nat × Value)} {a : Act} (h : Fr n ds l a) (s : Sub l l') : Fr n ds l' a := ⟨h.size, h.defs, fun t v hv => h.get t v (s.get t v hv)⟩
/-- The frame at a function's start. -/
def startL : Nat → List Value → List (Nat × Value)
  | _, [] => []
  | k, v :: r => (k, v) :: startL (k + 1) r
theorem startL_get : ∀ {vs : List Value} {k t : Nat} {v : Value}, lk (startL k vs) t = some v → k ≤ t ∧ vs[t - k]? = some v
  | [], _, _, _, h => by simp [startL, lk] at h
  | u :: r, k, t, v, h => by
    unfold startL lk at h
    cases hb : Nat.beq k t
    · rw [hb] at h
      have hne : k ≠ t := fun e => by subst e; simp at hb
      have := startL_get h
      refine ⟨by omega, ?_⟩
      rw [show t - k = (t - (k + 1)) + 1 from by omega]
      exact this.2
    · rw [hb] at h
      have := Nat.eq_of_beq_eq_true hb
      subst this
      exact ⟨Nat.le_refl _, by simpa using h⟩
theorem Fr.start {fn : Func} {vs : List Value} {n : Nat} (hn : fn.ntmps = n) (hl : Nat.ble vs.length n = true) : Fr n [] (startL 0 vs) { tmps := vs.toArray ++ Array.replicate (fn.ntmps - vs.toArray.size) undef, defers := [] } := by
  have hl : vs.length ≤ n := by simpa using hl
  refine ⟨by simp [hn]; omega, rfl, fun t v h => ?_⟩
  obtain ⟨_, h2⟩ := startL_get h
  have ht : t < vs.length := by
    rcases Nat.lt_or_ge t vs.length with g | g
    · exact g
    · rw [List.getElem?_eq_none (by omega)] at h2; cases h2
  simp only [Nat.sub_zero] at h2
  rw [Array.getD_eq_getD_getElem?, Array.getElem?_append_left (by simpa using ht)]
  simp [h2]

/-! Pure operations -/
/-- The value of a sum, difference, product: as it is, or taken modulo the kind's size; and what is to be shown for it. -/
def rngO : IntKind → Int → Option (Value × Prop)
  | .i64, z => some (.int .i64 z, -9223372036854775808 ≤ z ∧ z ≤ 9223372036854775807)
  | .i32, z => some (.int .i32 z, -2147483648 ≤ z ∧ z ≤ 2147483647)
  | .u64, z => some (.int .u64 (z % 18446744073709551616), True)
  | .u32, z => some (.int .u32 (z % 4294967296), True)
  | .u16, z => some (.int .u16 (z % 65536), True)
  | .u8, z => some (.int .u8 (z % 256), True)
  | _, _ => none
theorem rngO_ok {k : IntKind} {z : Int} {v : Value} {p : Prop} (h : rngO k z = some (v, p)) (hp : p) : v = .int k (k.wrap z) := by
  cases k <;> simp only [rngO, Option.some.injEq, Prod.mk.injEq, reduceCtorEq] at h <;> obtain ⟨rfl, rfl⟩ := h
  · rw [IntWalk.i32_in _ hp]
  · rw [IntWalk.i64_in _ hp]
  · rw [IntKind.wrap_u8]
  · rw [IntKind.wrap_u16]
  · rw [IntKind.wrap_u32]
  · rw [IntKind.wrap_u64]
def intOp (op : BinOp) (k : IntKind) (x y : Int) : Option (Value × Prop) :=
  match op with
  | .add => rngO k (x + y)
  | .sub => rngO k (x - y)
  | .mul => rngO k (x * y)
  | .quo => match k with
    | .i64 => some (.int .i64 (x / y), 0 ≤ x ∧ x ≤ 9223372036854775807 ∧ 1 ≤ y)
    | .u64 => some (.int .u64 (x / y), 0 ≤ x ∧ x ≤ 18446744073709551615 ∧ 1 ≤ y)
    | _ => none
  | .rem => some (.int k (x % y), 0 ≤ x ∧ y ≠ 0)
  | .eql => some (.bool (decide (x = y)), True)
  | .neq => some (.bool (decide (¬ x = y)), True)
  | .lss => some (.bool (decide (x < y)), True)
  | .leq => some (.bool (decide (x ≤ y)), True)
  | .gtr => some (.bool (decide (y < x)), True)
  | .geq => some (.bool (decide (y ≤ x)), True)
  | _ => none
theorem intOp_ok {P : Program} {op : BinOp} {k : IntKind} {x y : Int} {v : Value} {p : Prop} (h : intOp op k x y = some (v, p)) (hp : p) (t : TypeId) (w : World) : (binOp op t (.int k x) (.int k y)).run P w = .ok v w := by
  cases op <;> simp only [intOp] at h
  case add => rw [rngO_ok h hp]; simp [binOp, Op.intArith]
  case sub => rw [rngO_ok h hp]; simp [binOp, Op.intArith]
  case mul => rw [rngO_ok h hp]; simp [binOp, Op.intArith]
  case quo =>
    cases k <;> simp only [Option.some.injEq, Prod.mk.injEq, reduceCtorEq] at h <;> obtain ⟨rfl, rfl⟩ := h
    · simp [binOp, Op.intDiv, show y ≠ 0 by omega, IntWalk.i64_quo x y hp]
    · simp [binOp, Op.intDiv, show y ≠ 0 by omega, IntWalk.u64_quo x y hp]
  case rem =>
    simp only [Option.some.injEq, Prod.mk.injEq] at h
    obtain ⟨rfl, rfl⟩ := h
    simp [binOp, Op.intDiv, hp.2, IntWalk.rem_in x y hp.1]
  all_goals
    simp only [Option.some.injEq, Prod.mk.injEq, reduceCtorEq] at h
  all_goals
    obtain ⟨rfl, rfl⟩ := h
    simp [binOp, Op.intCmp]
  · rw [Bool.eq_iff_iff]; simp
  · rw [Bool.eq_iff_iff]; simp
theorem eqGuard_int {P : Program} {op : BinOp} {t : TypeId} {x y : Operand} {k k' : IntKind} {a b : Int} (w : World) : (eqGuard op t x y (.int k a) (.int k' b)).run P w = .ok () w := by
  unfold eqGuard
  cases op <;> simp
end Go.Proofs.Ytobflnjbdghnhaa
