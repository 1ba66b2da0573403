/- Calls that change the caller's memory, or that panic; panics; bits. -/
import Derived.Test.YtobflnjbdghnhaaGm
import Derived.Test.YtobflnjbdghnhaaGl
import Derived.Laws.BitsLemmas
set_option linter.unusedSimpArgs false
set_option linter.unusedVariables false
set_option linter.unusedSectionVars false
namespace Go.Proofs.Ytobflnjbdghnhaa
open Go.RowKit Go.Shelf
section
variable {n : Nat} {ds : List Deferred} {l : List (Nat × Value)} {a : Act} {w w0 : World} {own : Nat → Prop} {bs : List BoxE} {L : List Ent} {Fs : List (World → Prop)}
variable {os rest : List Oper} {Q : Exit → Act → World → Prop} {K : Act → World → Prop}
variable {d : Nat} {op : Op} {ty : TypeId} {pos : String} {af : Array Edge} {g : Option (Nat × Bool)}
/-- A call returns with R, or panics with E; it may change what its caller holds. -/
def Both (R : Value → World → Prop) (E : List PanicEntry → World → Prop) : Ending → World → Prop
  | .returned v, w => R v w
  | .panicked c, w => E c w
  | .outgrown, _ => False
/-- A call that only returns. -/
def Rtn (R : Value → World → Prop) : Ending → World → Prop := Both R fun _ _ => False
theorem Both.mk {R : Value → World → Prop} {E : List PanicEntry → World → Prop} {v : Value} {w : World} (h : R v w) : Both R E (.returned v) w := h
theorem Both.panic {R : Value → World → Prop} {E : List PanicEntry → World → Prop} {c : List PanicEntry} {w : World} (h : E c w) : Both R E (.panicked c) w := h
theorem e_callB {f : FuncId} {X : Operand} {as_ : List Operand} {ts : Array TypeId} {vs : List Value} {R : Value → World → Prop} {E : List PanicEntry → World → Prop} {dst : Option Tmp} (hF : Fr n ds l a) (hX : ev l X = some (.func (.func f) #[] #[])) (ha : evL l as_ = some vs) (he : memB entL f = true)
    (hC : Calls Try.prog f ⟨vs⟩ w (Both R E)) (kp : ∀ c w', E c w' → Q (.panic c) a w') (k : ∀ v w', R v w' → K (a.put dst v) w') : (⟨dst, .call ⟨.value X, ⟨as_⟩, ts⟩, ty, pos, af, g⟩ : Oper).wp Try.prog a w K Q := by
  have hr : (execOp a.eval ⟨dst, .call ⟨.value X, ⟨as_⟩, ts⟩, ty, pos, af, g⟩).run Try.prog w = .ok (.enter f ⟨vs⟩) w := by
    have h1 := hF.evalL ha
    simp [execOp, resolve, hF.eval hX, Deferred.ofValue, invoke, h1, Sem.run_bind, Result.andThen, entL_ok (memB_ok he)]
  unfold Oper.wp
  rw [hr]
  refine Calls.mono hC ?_
  intro e w' h
  cases e with
  | returned v => exact k v w' h
  | panicked c => exact kp c w' h
  | outgrown => exact h.elim
/-- A call that changes the caller's memory; what is known of it comes from the callee. -/
theorem s_callM {f : FuncId} {X : Operand} {as_ : List Operand} {ts : Array TypeId} {vs : List Value} {R : Value → World → Prop} (hF : Fr n ds l a) (hg : wantO os l g = some true) (hX : ev l X = some (.func (.func f) #[] #[])) (ha : evL l as_ = some vs) (he : memB entL f = true) (hd : Nat.blt d n = true)
    (hC : Calls Try.prog f ⟨vs⟩ w (Rtn R)) (k : ∀ v w' a, R v w' → Fr n ds ((d, v) :: l) a → wl ⟨os⟩ Q rest a w') : wl ⟨os⟩ Q (⟨some d, .call ⟨.value X, ⟨as_⟩, ts⟩, ty, pos, af, g⟩ :: rest) a w :=
  s_op hF hg fun _ hK => e_callB hF hX ha he hC (fun _ _ h => h.elim) fun v w' hR => hK _ _ (k v w' _ hR (hF.put hd v))
theorem x_callM {f : FuncId} {X : Operand} {as_ : List Operand} {ts : Array TypeId} {vs : List Value} {R : Value → World → Prop} (hF : Fr n ds l a) (hX : ev l X = some (.func (.func f) #[] #[])) (ha : evL l as_ = some vs) (he : memB entL f = true) (hd : Nat.blt d n = true)
    (hC : Calls Try.prog f ⟨vs⟩ w (Rtn R)) (k : ∀ v w' a, R v w' → Fr n ds ((d, v) :: l) a → K a w') : (⟨some d, .call ⟨.value X, ⟨as_⟩, ts⟩, ty, pos, af, g⟩ : Oper).wp Try.prog a w K Q :=
  e_callB hF hX ha he hC (fun _ _ h => h.elim) fun v w' hR => k v w' _ hR (hF.put hd v)
/-- A call that may panic. -/
theorem s_callB {f : FuncId} {X : Operand} {as_ : List Operand} {ts : Array TypeId} {vs : List Value} {R : Value → World → Prop} {E : List PanicEntry → World → Prop} (hF : Fr n ds l a) (hg : wantO os l g = some true) (hX : ev l X = some (.func (.func f) #[] #[])) (ha : evL l as_ = some vs) (he : memB entL f = true) (hd : Nat.blt d n = true)
    (hC : Calls Try.prog f ⟨vs⟩ w (Both R E)) (kp : ∀ c w' a, E c w' → Fr n ds l a → Q (.panic c) a w') (k : ∀ v w' a, R v w' → Fr n ds ((d, v) :: l) a → wl ⟨os⟩ Q rest a w') : wl ⟨os⟩ Q (⟨some d, .call ⟨.value X, ⟨as_⟩, ts⟩, ty, pos, af, g⟩ :: rest) a w :=
  s_op hF hg fun _ hK => e_callB hF hX ha he hC (fun c w' h => kp c w' a h hF) fun v w' hR => hK _ _ (k v w' _ hR (hF.put hd v))
theorem x_callB {f : FuncId} {X : Operand} {as_ : List Operand} {ts : Array TypeId} {vs : List Value} {R : Value → World → Prop} {E : List PanicEntry → World → Prop} (hF : Fr n ds l a) (hX : ev l X = some (.func (.func f) #[] #[])) (ha : evL l as_ = some vs) (he : memB entL f = true) (hd : Nat.blt d n = true)
    (hC : Calls Try.prog f ⟨vs⟩ w (Both R E)) (kp : ∀ c w' a, E c w' → Fr n ds l a → Q (.panic c) a w') (k : ∀ v w' a, R v w' → Fr n ds ((d, v) :: l) a → K a w') : (⟨some d, .call ⟨.value X, ⟨as_⟩, ts⟩, ty, pos, af, g⟩ : Oper).wp Try.prog a w K Q :=
  e_callB hF hX ha he hC (fun c w' h => kp c w' a h hF) fun v w' hR => k v w' _ hR (hF.put hd v)
/-- A closure that changes the caller's memory. -/
theorem s_callcM {f : FuncId} {X : Operand} {as_ : List Operand} {ts : Array TypeId} {fi ca vs us xs : List Value} {R : Value → World → Prop} (hF : Fr n ds l a) (hg : wantO os l g = some true) (hX : ev l X = some (.func (.func f) ⟨fi⟩ ⟨ca⟩)) (ha : evL l as_ = some vs) (h1 : appL fi vs = some us) (h2 : appL us ca = some xs) (he : memB entL f = true) (hd : Nat.blt d n = true)
    (hC : Calls Try.prog f ⟨xs⟩ w (Rtn R)) (k : ∀ v w' a, R v w' → Fr n ds ((d, v) :: l) a → wl ⟨os⟩ Q rest a w') : wl ⟨os⟩ Q (⟨some d, .call ⟨.value X, ⟨as_⟩, ts⟩, ty, pos, af, g⟩ :: rest) a w := by
  refine s_op hF hg fun K hK => ?_
  have hr : (execOp a.eval ⟨some d, .call ⟨.value X, ⟨as_⟩, ts⟩, ty, pos, af, g⟩).run Try.prog w = .ok (.enter f ⟨xs⟩) w := by
    have h3 := hF.evalL ha
    have h4 := appL_ok h1
    have h5 := appL_ok h2
    subst h4
    subst h5
    simp [execOp, resolve, hF.eval hX, Deferred.ofValue, invoke, h3, Sem.run_bind, Result.andThen, entL_ok (memB_ok he)]
  unfold Oper.wp
  rw [hr]
  refine Calls.mono hC ?_
  intro e w' h
  cases e with
  | returned v => exact hK _ _ (k v w' _ h (hF.put hd v))
  | panicked c => exact h.elim
  | outgrown => exact h.elim
theorem s_panic {X : Operand} {v : Value} {dst : Option Tmp} (hF : Fr n ds l a) (hg : wantO os l g = some true) (hX : ev l X = some v) (hv : (match v with | .iface _ _ => true | _ => false) = true) (k : Q (.panic [{ v, recovered := false }]) a w) : wl ⟨os⟩ Q (⟨dst, .panic X, ty, pos, af, g⟩ :: rest) a w := by
  refine s_op hF hg fun K hK => ?_
  have hr : (execOp a.eval ⟨dst, .panic X, ty, pos, af, g⟩).run Try.prog w = .halt (.panic v) w := by
    cases v <;> simp at hv
    simp [execOp, hF.eval hX, Instr.panic, Sem.run_bind, Result.andThen]
  unfold Oper.wp
  rw [hr]
  exact k
theorem q_then_p {c : List PanicEntry} (h : Q (.panic c) a w) : Exit.then K Q (.panic c) a w := h
theorem q_blk_p {c : List PanicEntry} {i : Nat} (h : Q (.panic c) a w) : Exit.inBlock i Q (.panic c) a w := h
theorem f_panic {fn : Func} {R : Ending → World → Prop} {c : List PanicEntry} (hF : Fr n [] l a) (hR : R (.panicked c) w) : bodyPost Try.prog fn R (.panic c) a w := ⟨hF.defs, hR⟩
theorem Kth.lt {α : Type} {x : α} : ∀ {l : List α} {k : Nat}, Kth l k x → k < l.length
  | _, _, .z => by simp
  | _, _, .s h => by have := h.lt; simp; omega
theorem Kth.set {α : Type} {x y : α} : ∀ {l : List α} {k : Nat}, Kth l k x → Kth (l.set k y) k y
  | _, _, .z => .z
  | _, _, .s h => .s h.set
/-! Bits -/
theorem bits_run {k : IntKind} {x y : Int} {op : BinOp} (h : op = .and ∨ op = .or) (t : TypeId) (w : World) : (binOp op t (.int k x) (.int k y)).run Try.prog w = .ok (.int k (bits op k x y)) w := by
  rcases h with rfl | rfl
  · simp [binOp, intBits_and]
  · simp [binOp, intBits_or]
theorem e_bits {t t' : TypeId} {X Y : Operand} {k : IntKind} {x y z : Int} {op : BinOp} (hF : Fr n ds l a) (hX : ev l X = some (.int k x)) (hY : ev l Y = some (.int k y)) (h : op = .and ∨ op = .or) (hz : bits op k x y = z) (w : World) {dst : Option Tmp} :
    (execOp a.eval ⟨dst, .binOp op t X Y t', ty, pos, af, g⟩).run Try.prog w = .ok (.value (.int k z)) w := by
  subst hz
  have := bits_run (k := k) (x := x) (y := y) h t w
  simp only [execOp, hF.eval hX, hF.eval hY, Sem.run_bind, eqGuard_int, Result.andThen, this]
  rfl
theorem and127 {x : Int} (h : 0 ≤ x ∧ x < 256) : bits .and .u8 x 127 = x % 128 := bits_mask .u8 8 (by decide) wraps_u8 7 (by decide) x h.1 h.2
theorem and128 {x : Int} (h : 0 ≤ x ∧ x < 256) : bits .and .u8 x 128 = x / 128 * 128 := by
  obtain ⟨m, rfl⟩ : ∃ m : Nat, x = m := ⟨x.toNat, by omega⟩
  rw [show (128 : Int) = ((128 : Nat) : Int) from rfl, (bits_nat .u8 8 (by decide) wraps_u8 m 128 (by omega) (by decide)).1]
  have key : ∀ m : Fin 256, (m.val &&& 128) = m.val / 128 * 128 := by decide +kernel
  have := key ⟨m, by omega⟩
  simp only at this
  omega
theorem or128 {x : Int} (h : 0 ≤ x ∧ x < 128) : bits .or .u8 x 128 = x + 128 := by
  obtain ⟨m, rfl⟩ : ∃ m : Nat, x = m := ⟨x.toNat, by omega⟩
  rw [show (128 : Int) = ((128 : Nat) : Int) from rfl, (bits_nat .u8 8 (by decide) wraps_u8 m 128 (by omega) (by decide)).2]
  have key : ∀ m : Fin 128, (m.val ||| 128) = m.val + 128 := by decide +kernel
  have := key ⟨m, by omega⟩
  simp only at this
  omega
theorem s_and127 {t t' : TypeId} {X Y : Operand} {x : Int} (hF : Fr n ds l a) (hg : wantO os l g = some true) (hX : ev l X = some (.int .u8 x)) (hY : ev l Y = some (.int .u8 127)) (hd : Nat.blt d n = true) (h : 0 ≤ x ∧ x < 256)
    (kk : ∀ a, Fr n ds ((d, .int .u8 (x % 128)) :: l) a → wl ⟨os⟩ Q rest a w) : wl ⟨os⟩ Q (⟨some d, .binOp .and t X Y t', ty, pos, af, g⟩ :: rest) a w :=
  s_op hF hg fun _ hK => upon_value (e_bits hF hX hY (.inl rfl) (and127 h) w) (hK _ _ (kk _ (hF.put hd _)))
theorem s_and128 {t t' : TypeId} {X Y : Operand} {x : Int} (hF : Fr n ds l a) (hg : wantO os l g = some true) (hX : ev l X = some (.int .u8 x)) (hY : ev l Y = some (.int .u8 128)) (hd : Nat.blt d n = true) (h : 0 ≤ x ∧ x < 256)
    (kk : ∀ a, Fr n ds ((d, .int .u8 (x / 128 * 128)) :: l) a → wl ⟨os⟩ Q rest a w) : wl ⟨os⟩ Q (⟨some d, .binOp .and t X Y t', ty, pos, af, g⟩ :: rest) a w :=
  s_op hF hg fun _ hK => upon_value (e_bits hF hX hY (.inl rfl) (and128 h) w) (hK _ _ (kk _ (hF.put hd _)))
theorem s_or128 {t t' : TypeId} {X Y : Operand} {x : Int} (hF : Fr n ds l a) (hg : wantO os l g = some true) (hX : ev l X = some (.int .u8 x)) (hY : ev l Y = some (.int .u8 128)) (hd : Nat.blt d n = true) (h : 0 ≤ x ∧ x < 128)
    (kk : ∀ a, Fr n ds ((d, .int .u8 (x + 128)) :: l) a → wl ⟨os⟩ Q rest a w) : wl ⟨os⟩ Q (⟨some d, .binOp .or t X Y t', ty, pos, af, g⟩ :: rest) a w :=
  s_op hF hg fun _ hK => upon_value (e_bits hF hX hY (.inr rfl) (or128 h) w) (hK _ _ (kk _ (hF.put hd _)))
/-- Two numbers that have no bit in common. -/
def Join (x y : Int) : Prop := ∃ i : Nat, i ≤ 62 ∧ 0 ≤ x ∧ x < 2 ^ i ∧ 0 ≤ y ∧ y % 2 ^ i = 0 ∧ y < 2 ^ 63
theorem wraps_i64 (n : Int) (h₀ : 0 ≤ n) (h₁ : n < 2 ^ 63) : IntKind.i64.wrap n = n := by rw [IntKind.wrap_i64]; omega
theorem or_join {x y : Int} (h : Join x y) : bits .or .i64 x y = x + y := by
  obtain ⟨i, hi, x0, x1, y0, y1, y2⟩ := h
  have hp : (2 : Int) ^ i ≤ 2 ^ 63 := by
    have : (2 : Nat) ^ i ≤ 2 ^ 63 := Nat.pow_le_pow_right (by decide) (by omega)
    exact_mod_cast this
  have h1 := bits_join .i64 63 (by decide) wraps_i64 i y x y0 y1 y2 x0 x1 (by omega)
  have h2 : bits .or .i64 x y = bits .or .i64 y x := by simp [bits, BitVec.or_comm]
  rw [h2, h1]
  omega
theorem s_join {t t' : TypeId} {X Y : Operand} {x y : Int} (hF : Fr n ds l a) (hg : wantO os l g = some true) (hX : ev l X = some (.int .i64 x)) (hY : ev l Y = some (.int .i64 y)) (hd : Nat.blt d n = true) (h : Join x y)
    (kk : ∀ a, Fr n ds ((d, .int .i64 (x + y)) :: l) a → wl ⟨os⟩ Q rest a w) : wl ⟨os⟩ Q (⟨some d, .binOp .or t X Y t', ty, pos, af, g⟩ :: rest) a w :=
  s_op hF hg fun _ hK => upon_value (e_bits hF hX hY (.inr rfl) (or_join h) w) (hK _ _ (kk _ (hF.put hd _)))
/-- A number shifted by a number of places, if it fits. -/
theorem s_shl {t t' : TypeId} {X Y : Operand} {yk : IntKind} {x y z : Int} (hF : Fr n ds l a) (hg : wantO os l g = some true) (hX : ev l X = some (.int .i64 x)) (hY : ev l Y = some (.int yk y)) (hd : Nat.blt d n = true) (h : 0 ≤ y ∧ y ≤ 62 ∧ x * 2 ^ y.toNat = z ∧ 0 ≤ z ∧ z < 9223372036854775808)
    (kk : ∀ a, Fr n ds ((d, .int .i64 z) :: l) a → wl ⟨os⟩ Q rest a w) : wl ⟨os⟩ Q (⟨some d, .binOp .shl t X Y t', ty, pos, af, g⟩ :: rest) a w := by
  refine s_op hF hg fun _ hK => upon_value (v := .int .i64 z) ?_ (hK _ _ (kk _ (hF.put hd _)))
  obtain ⟨h1, h2, rfl, h3, h4⟩ := h
  simp only [execOp, hF.eval hX, hF.eval hY, Sem.run_bind, eqGuard_int, Result.andThen]
  have hb : min y.toNat IntKind.i64.bits = y.toNat := by simp [IntKind.bits]; omega
  have hw : IntKind.i64.wrap (x * 2 ^ y.toNat) = x * 2 ^ y.toNat := wraps_i64 _ h3 (by omega)
  simp [binOp, Op.shift, hb, hw, Result.andThen, show ¬ y < 0 by omega]
end
end Go.Proofs.Ytobflnjbdghnhaa
