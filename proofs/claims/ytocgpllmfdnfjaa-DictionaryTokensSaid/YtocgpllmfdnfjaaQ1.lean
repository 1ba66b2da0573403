/- Texts of this seat, one behind the other: Gl Gn Go Gs Gt Gu U1 U2 W0 W1 W2 W3 U3 U5 U4 U6. -/
import Derived.Test.YtocgpllmfdnfjaaQ0
import Derived.Laws.Shifts
import Derived.Laws.BitsLemmas
import Derived.OrdersIn
import Derived.Laws.CopyRow
import Derived.Laws.BytesArg
import Derived.Laws.Bits64b
import Derived.Deep.AppendSrc
import Derived.Lib.Bytes
set_option linter.unusedSimpArgs false
set_option linter.unusedVariables false
set_option linter.unusedSectionVars false
set_option maxRecDepth 3000
/- Shifts by a place. -/
namespace Go.Proofs.Ytocgpllmfdnfjaa
open Go.RowKit Go.Shelf
section
variable {n : Nat} {ds : List Deferred} {l : List (Nat × Value)} {a : Act} {w w0 : World} {own : Nat → Prop} {bs : List BoxE} {L : List Ent} {Fs : List (World → Prop)}
variable {os rest : List Oper} {Q : Exit → Act → World → Prop} {K : Act → World → Prop}
variable {d : Nat} {op : Op} {ty : TypeId} {pos : String} {af : Array Edge} {g : Option (Nat × Bool)}
theorem e_shr1 {t t' : TypeId} {X Y : Operand} {k yk : IntKind} {x : Int} (hF : Fr n ds l a) (hX : ev l X = some (.int k x)) (hY : ev l Y = some (.int yk 1)) (w : World) {dst : Option Tmp} :
    (execOp a.eval ⟨dst, .binOp .shr t X Y t', ty, pos, af, g⟩).run Try.prog w = .ok (.value (.int k (x / 2))) w := by
  have hb : min (1 : Int).toNat k.bits = 1 := by cases k <;> decide
  simp only [execOp, hF.eval hX, hF.eval hY, Sem.run_bind, eqGuard_int, Result.andThen]
  have hb2 : min 1 k.bits = 1 := by cases k <;> decide
  simp [binOp, Op.shift, hb2, Result.andThen, Int.fdiv_eq_ediv]
theorem s_shr1 {t t' : TypeId} {X Y : Operand} {k yk : IntKind} {x : Int} (hF : Fr n ds l a) (hg : wantO os l g = some true) (hX : ev l X = some (.int k x)) (hY : ev l Y = some (.int yk 1)) (hd : Nat.blt d n = true)
    (kk : ∀ a, Fr n ds ((d, .int k (x / 2)) :: l) a → wl ⟨os⟩ Q rest a w) : wl ⟨os⟩ Q (⟨some d, .binOp .shr t X Y t', ty, pos, af, g⟩ :: rest) a w :=
  s_op hF hg fun _ hK => upon_value (e_shr1 hF hX hY w) (hK _ _ (kk _ (hF.put hd _)))
/-- An element of a literal, or of an array in a box, in a drawn region. -/
theorem t_loadB {tail : Nat → Bool} {fuel i : Nat} {listed : Array Bool} {bs0 : List BoxE} {Fs0 : List (World → Prop)} {T T' : TypeId} {X : Operand} {b off : Nat} {j : Int} {sz : Nat} {cs : List Value} {v : Value} (hF : Fr n ds l a) (hi : getO os i = some ⟨some d, .load T X, ty, pos, af, g⟩) (hg : wantO os l g = some true) (hX : ev l X = some (.pointer (some (adr ⟨b, off, none⟩ j sz)))) (hm : (⟨b, ⟨cs⟩, T'⟩ : BoxE) ∈ bs0) (hv : rdV T cs (off + j.toNat * sz) = some v) (hd : Nat.blt d n = true) (hb : takeB os tail listed i = true) (hS : Sm bs0 Fs0 w) (hQ : ∀ c a w, Q (.panic c) (a.put (some d) v) w → Q (.panic c) a w)
    (k : ∀ a, Fr n ds ((d, v) :: l) a → wpAnyT Try.prog .any ⟨os⟩ Q (Sm bs0 Fs0) tail fuel (listed.setIfInBounds i true) a w) : wpAnyT Try.prog .any ⟨os⟩ Q (Sm bs0 Fs0) tail (fuel + 1) listed a w := by
  have e : adr ⟨b, off, none⟩ j sz = ⟨b, off + j.toNat * sz, none⟩ := by unfold adr; rw [add_lit]
  rw [e] at hX
  exact t_load hF hi hg hX hm hv hd hb hS hQ k
end
end Go.Proofs.Ytocgpllmfdnfjaa

/- Calls that change the caller's memory, or that panic; panics; bits. -/
namespace Go.Proofs.Ytocgpllmfdnfjaa
open Go.RowKit Go.Shelf
section
variable {n : Nat} {ds : List Deferred} {l : List (Nat × Value)} {a : Act} {w w0 : World} {own : Nat → Prop} {bs : List BoxE} {L : List Ent} {Fs : List (World → Prop)}
variable {os rest : List Oper} {Q : Exit → Act → World → Prop} {K : Act → World → Prop}
variable {d : Nat} {op : Op} {ty : TypeId} {pos : String} {af : Array Edge} {g : Option (Nat × Bool)}
/-- A call returns with R, or panics with E; it may change what its caller holds. -/
def Both (R : Value → World → Prop) (E : List PanicEntry → World → Prop) : Ending → World → Prop
  | .returned v, w => R v w
  | .panicked c, w => E c w
  | .outgrown, _ => False
/-- A call that only returns. -/
def Rtn (R : Value → World → Prop) : Ending → World → Prop := Both R fun _ _ => False
theorem Both.mk {R : Value → World → Prop} {E : List PanicEntry → World → Prop} {v : Value} {w : World} (h : R v w) : Both R E (.returned v) w := h
theorem Both.panic {R : Value → World → Prop} {E : List PanicEntry → World → Prop} {c : List PanicEntry} {w : World} (h : E c w) : Both R E (.panicked c) w := h
theorem e_callB {f : FuncId} {X : Operand} {as_ : List Operand} {ts : Array TypeId} {vs : List Value} {R : Value → World → Prop} {E : List PanicEntry → World → Prop} {dst : Option Tmp} (hF : Fr n ds l a) (hX : ev l X = some (.func (.func f) #[] #[])) (ha : evL l as_ = some vs) (he : memB entL f = true)
    (hC : Calls Try.prog f ⟨vs⟩ w (Both R E)) (kp : ∀ c w', E c w' → Q (.panic c) a w') (k : ∀ v w', R v w' → K (a.put dst v) w') : (⟨dst, .call ⟨.value X, ⟨as_⟩, ts⟩, ty, pos, af, g⟩ : Oper).wp Try.prog a w K Q := by
  have hr : (execOp a.eval ⟨dst, .call ⟨.value X, ⟨as_⟩, ts⟩, ty, pos, af, g⟩).run Try.prog w = .ok (.enter f ⟨vs⟩) w := by
    have h1 := hF.evalL ha
    simp [execOp, resolve, hF.eval hX, Deferred.ofValue, invoke, h1, Sem.run_bind, Result.andThen, entL_ok (memB_ok he)]
  unfold Oper.wp
  rw [hr]
  refine Calls.mono hC ?_
  intro e w' h
  cases e with
  | returned v => exact k v w' h
  | panicked c => exact kp c w' h
  | outgrown => exact h.elim
/-- A call that changes the caller's memory; what is known of it comes from the callee. -/
theorem s_callM {f : FuncId} {X : Operand} {as_ : List Operand} {ts : Array TypeId} {vs : List Value} {R : Value → World → Prop} (hF : Fr n ds l a) (hg : wantO os l g = some true) (hX : ev l X = some (.func (.func f) #[] #[])) (ha : evL l as_ = some vs) (he : memB entL f = true) (hd : Nat.blt d n = true)
    (hC : Calls Try.prog f ⟨vs⟩ w (Rtn R)) (k : ∀ v w' a, R v w' → Fr n ds ((d, v) :: l) a → wl ⟨os⟩ Q rest a w') : wl ⟨os⟩ Q (⟨some d, .call ⟨.value X, ⟨as_⟩, ts⟩, ty, pos, af, g⟩ :: rest) a w :=
  s_op hF hg fun _ hK => e_callB hF hX ha he hC (fun _ _ h => h.elim) fun v w' hR => hK _ _ (k v w' _ hR (hF.put hd v))
theorem x_callM {f : FuncId} {X : Operand} {as_ : List Operand} {ts : Array TypeId} {vs : List Value} {R : Value → World → Prop} (hF : Fr n ds l a) (hX : ev l X = some (.func (.func f) #[] #[])) (ha : evL l as_ = some vs) (he : memB entL f = true) (hd : Nat.blt d n = true)
    (hC : Calls Try.prog f ⟨vs⟩ w (Rtn R)) (k : ∀ v w' a, R v w' → Fr n ds ((d, v) :: l) a → K a w') : (⟨some d, .call ⟨.value X, ⟨as_⟩, ts⟩, ty, pos, af, g⟩ : Oper).wp Try.prog a w K Q :=
  e_callB hF hX ha he hC (fun _ _ h => h.elim) fun v w' hR => k v w' _ hR (hF.put hd v)
/-- A call that may panic. -/
theorem s_callB {f : FuncId} {X : Operand} {as_ : List Operand} {ts : Array TypeId} {vs : List Value} {R : Value → World → Prop} {E : List PanicEntry → World → Prop} (hF : Fr n ds l a) (hg : wantO os l g = some true) (hX : ev l X = some (.func (.func f) #[] #[])) (ha : evL l as_ = some vs) (he : memB entL f = true) (hd : Nat.blt d n = true)
    (hC : Calls Try.prog f ⟨vs⟩ w (Both R E)) (kp : ∀ c w' a, E c w' → Fr n ds l a → Q (.panic c) a w') (k : ∀ v w' a, R v w' → Fr n ds ((d, v) :: l) a → wl ⟨os⟩ Q rest a w') : wl ⟨os⟩ Q (⟨some d, .call ⟨.value X, ⟨as_⟩, ts⟩, ty, pos, af, g⟩ :: rest) a w :=
  s_op hF hg fun _ hK => e_callB hF hX ha he hC (fun c w' h => kp c w' a h hF) fun v w' hR => hK _ _ (k v w' _ hR (hF.put hd v))
theorem x_callB {f : FuncId} {X : Operand} {as_ : List Operand} {ts : Array TypeId} {vs : List Value} {R : Value → World → Prop} {E : List PanicEntry → World → Prop} (hF : Fr n ds l a) (hX : ev l X = some (.func (.func f) #[] #[])) (ha : evL l as_ = some vs) (he : memB entL f = true) (hd : Nat.blt d n = true)
    (hC : Calls Try.prog f ⟨vs⟩ w (Both R E)) (kp : ∀ c w' a, E c w' → Fr n ds l a → Q (.panic c) a w') (k : ∀ v w' a, R v w' → Fr n ds ((d, v) :: l) a → K a w') : (⟨some d, .call ⟨.value X, ⟨as_⟩, ts⟩, ty, pos, af, g⟩ : Oper).wp Try.prog a w K Q :=
  e_callB hF hX ha he hC (fun c w' h => kp c w' a h hF) fun v w' hR => k v w' _ hR (hF.put hd v)
/-- A closure that changes the caller's memory. -/
theorem s_callcM {f : FuncId} {X : Operand} {as_ : List Operand} {ts : Array TypeId} {fi ca vs us xs : List Value} {R : Value → World → Prop} (hF : Fr n ds l a) (hg : wantO os l g = some true) (hX : ev l X = some (.func (.func f) ⟨fi⟩ ⟨ca⟩)) (ha : evL l as_ = some vs) (h1 : appL fi vs = some us) (h2 : appL us ca = some xs) (he : memB entL f = true) (hd : Nat.blt d n = true)
    (hC : Calls Try.prog f ⟨xs⟩ w (Rtn R)) (k : ∀ v w' a, R v w' → Fr n ds ((d, v) :: l) a → wl ⟨os⟩ Q rest a w') : wl ⟨os⟩ Q (⟨some d, .call ⟨.value X, ⟨as_⟩, ts⟩, ty, pos, af, g⟩ :: rest) a w := by
  refine s_op hF hg fun K hK => ?_
  have hr : (execOp a.eval ⟨some d, .call ⟨.value X, ⟨as_⟩, ts⟩, ty, pos, af, g⟩).run Try.prog w = .ok (.enter f ⟨xs⟩) w := by
    have h3 := hF.evalL ha
    have h4 := appL_ok h1
    have h5 := appL_ok h2
    subst h4
    subst h5
    simp [execOp, resolve, hF.eval hX, Deferred.ofValue, invoke, h3, Sem.run_bind, Result.andThen, entL_ok (memB_ok he)]
  unfold Oper.wp
  rw [hr]
  refine Calls.mono hC ?_
  intro e w' h
  cases e with
  | returned v => exact hK _ _ (k v w' _ h (hF.put hd v))
  | panicked c => exact h.elim
  | outgrown => exact h.elim
theorem s_panic {X : Operand} {v : Value} {dst : Option Tmp} (hF : Fr n ds l a) (hg : wantO os l g = some true) (hX : ev l X = some v) (hv : (match v with | .iface _ _ => true | _ => false) = true) (k : Q (.panic [{ v, recovered := false }]) a w) : wl ⟨os⟩ Q (⟨dst, .panic X, ty, pos, af, g⟩ :: rest) a w := by
  refine s_op hF hg fun K hK => ?_
  have hr : (execOp a.eval ⟨dst, .panic X, ty, pos, af, g⟩).run Try.prog w = .halt (.panic v) w := by
    cases v <;> simp at hv
    simp [execOp, hF.eval hX, Instr.panic, Sem.run_bind, Result.andThen]
  unfold Oper.wp
  rw [hr]
  exact k
theorem q_then_p {c : List PanicEntry} (h : Q (.panic c) a w) : Exit.then K Q (.panic c) a w := h
theorem q_blk_p {c : List PanicEntry} {i : Nat} (h : Q (.panic c) a w) : Exit.inBlock i Q (.panic c) a w := h
theorem f_panic {fn : Func} {R : Ending → World → Prop} {c : List PanicEntry} (hF : Fr n [] l a) (hR : R (.panicked c) w) : bodyPost Try.prog fn R (.panic c) a w := ⟨hF.defs, hR⟩
theorem Kth.lt {α : Type} {x : α} : ∀ {l : List α} {k : Nat}, Kth l k x → k < l.length
  | _, _, .z => by simp
  | _, _, .s h => by have := h.lt; simp; omega
theorem Kth.set {α : Type} {x y : α} : ∀ {l : List α} {k : Nat}, Kth l k x → Kth (l.set k y) k y
  | _, _, .z => .z
  | _, _, .s h => .s h.set
/-! Bits -/
theorem bits_run {k : IntKind} {x y : Int} {op : BinOp} (h : op = .and ∨ op = .or) (t : TypeId) (w : World) : (binOp op t (.int k x) (.int k y)).run Try.prog w = .ok (.int k (bits op k x y)) w := by
  rcases h with rfl | rfl
  · simp [binOp, intBits_and]
  · simp [binOp, intBits_or]
theorem e_bits {t t' : TypeId} {X Y : Operand} {k : IntKind} {x y z : Int} {op : BinOp} (hF : Fr n ds l a) (hX : ev l X = some (.int k x)) (hY : ev l Y = some (.int k y)) (h : op = .and ∨ op = .or) (hz : bits op k x y = z) (w : World) {dst : Option Tmp} :
    (execOp a.eval ⟨dst, .binOp op t X Y t', ty, pos, af, g⟩).run Try.prog w = .ok (.value (.int k z)) w := by
  subst hz
  have := bits_run (k := k) (x := x) (y := y) h t w
  simp only [execOp, hF.eval hX, hF.eval hY, Sem.run_bind, eqGuard_int, Result.andThen, this]
  rfl
theorem and127 {x : Int} (h : 0 ≤ x ∧ x < 256) : bits .and .u8 x 127 = x % 128 := bits_mask .u8 8 (by decide) wraps_u8 7 (by decide) x h.1 h.2
theorem and128 {x : Int} (h : 0 ≤ x ∧ x < 256) : bits .and .u8 x 128 = x / 128 * 128 := by
  obtain ⟨m, rfl⟩ : ∃ m : Nat, x = m := ⟨x.toNat, by omega⟩
  rw [show (128 : Int) = ((128 : Nat) : Int) from rfl, (bits_nat .u8 8 (by decide) wraps_u8 m 128 (by omega) (by decide)).1]
  have key : ∀ m : Fin 256, (m.val &&& 128) = m.val / 128 * 128 := by decide +kernel
  have := key ⟨m, by omega⟩
  simp only at this
  omega
theorem or128 {x : Int} (h : 0 ≤ x ∧ x < 128) : bits .or .u8 x 128 = x + 128 := by
  obtain ⟨m, rfl⟩ : ∃ m : Nat, x = m := ⟨x.toNat, by omega⟩
  rw [show (128 : Int) = ((128 : Nat) : Int) from rfl, (bits_nat .u8 8 (by decide) wraps_u8 m 128 (by omega) (by decide)).2]
  have key : ∀ m : Fin 128, (m.val ||| 128) = m.val + 128 := by decide +kernel
  have := key ⟨m, by omega⟩
  simp only at this
  omega
theorem s_and127 {t t' : TypeId} {X Y : Operand} {x : Int} (hF : Fr n ds l a) (hg : wantO os l g = some true) (hX : ev l X = some (.int .u8 x)) (hY : ev l Y = some (.int .u8 127)) (hd : Nat.blt d n = true) (h : 0 ≤ x ∧ x < 256)
    (kk : ∀ a, Fr n ds ((d, .int .u8 (x % 128)) :: l) a → wl ⟨os⟩ Q rest a w) : wl ⟨os⟩ Q (⟨some d, .binOp .and t X Y t', ty, pos, af, g⟩ :: rest) a w :=
  s_op hF hg fun _ hK => upon_value (e_bits hF hX hY (.inl rfl) (and127 h) w) (hK _ _ (kk _ (hF.put hd _)))
theorem s_and128 {t t' : TypeId} {X Y : Operand} {x : Int} (hF : Fr n ds l a) (hg : wantO os l g = some true) (hX : ev l X = some (.int .u8 x)) (hY : ev l Y = some (.int .u8 128)) (hd : Nat.blt d n = true) (h : 0 ≤ x ∧ x < 256)
    (kk : ∀ a, Fr n ds ((d, .int .u8 (x / 128 * 128)) :: l) a → wl ⟨os⟩ Q rest a w) : wl ⟨os⟩ Q (⟨some d, .binOp .and t X Y t', ty, pos, af, g⟩ :: rest) a w :=
  s_op hF hg fun _ hK => upon_value (e_bits hF hX hY (.inl rfl) (and128 h) w) (hK _ _ (kk _ (hF.put hd _)))
theorem s_or128 {t t' : TypeId} {X Y : Operand} {x : Int} (hF : Fr n ds l a) (hg : wantO os l g = some true) (hX : ev l X = some (.int .u8 x)) (hY : ev l Y = some (.int .u8 128)) (hd : Nat.blt d n = true) (h : 0 ≤ x ∧ x < 128)
    (kk : ∀ a, Fr n ds ((d, .int .u8 (x + 128)) :: l) a → wl ⟨os⟩ Q rest a w) : wl ⟨os⟩ Q (⟨some d, .binOp .or t X Y t', ty, pos, af, g⟩ :: rest) a w :=
  s_op hF hg fun _ hK => upon_value (e_bits hF hX hY (.inr rfl) (or128 h) w) (hK _ _ (kk _ (hF.put hd _)))
/-- Two numbers that have no bit in common. -/
def Join (x y : Int) : Prop := ∃ i : Nat, i ≤ 62 ∧ 0 ≤ x ∧ x < 2 ^ i ∧ 0 ≤ y ∧ y % 2 ^ i = 0 ∧ y < 2 ^ 63
theorem wraps_i64 (n : Int) (h₀ : 0 ≤ n) (h₁ : n < 2 ^ 63) : IntKind.i64.wrap n = n := by rw [IntKind.wrap_i64]; omega
theorem or_join {x y : Int} (h : Join x y) : bits .or .i64 x y = x + y := by
  obtain ⟨i, hi, x0, x1, y0, y1, y2⟩ := h
  have hp : (2 : Int) ^ i ≤ 2 ^ 63 := by
    have : (2 : Nat) ^ i ≤ 2 ^ 63 := Nat.pow_le_pow_right (by decide) (by omega)
    exact_mod_cast this
  have h1 := bits_join .i64 63 (by decide) wraps_i64 i y x y0 y1 y2 x0 x1 (by omega)
  have h2 : bits .or .i64 x y = bits .or .i64 y x := by simp [bits, BitVec.or_comm]
  rw [h2, h1]
  omega
theorem s_join {t t' : TypeId} {X Y : Operand} {x y : Int} (hF : Fr n ds l a) (hg : wantO os l g = some true) (hX : ev l X = some (.int .i64 x)) (hY : ev l Y = some (.int .i64 y)) (hd : Nat.blt d n = true) (h : Join x y)
    (kk : ∀ a, Fr n ds ((d, .int .i64 (x + y)) :: l) a → wl ⟨os⟩ Q rest a w) : wl ⟨os⟩ Q (⟨some d, .binOp .or t X Y t', ty, pos, af, g⟩ :: rest) a w :=
  s_op hF hg fun _ hK => upon_value (e_bits hF hX hY (.inr rfl) (or_join h) w) (hK _ _ (kk _ (hF.put hd _)))
/-- A number shifted by a number of places, if it fits. -/
theorem s_shl {t t' : TypeId} {X Y : Operand} {yk : IntKind} {x y z : Int} (hF : Fr n ds l a) (hg : wantO os l g = some true) (hX : ev l X = some (.int .i64 x)) (hY : ev l Y = some (.int yk y)) (hd : Nat.blt d n = true) (h : 0 ≤ y ∧ y ≤ 62 ∧ x * 2 ^ y.toNat = z ∧ 0 ≤ z ∧ z < 9223372036854775808)
    (kk : ∀ a, Fr n ds ((d, .int .i64 z) :: l) a → wl ⟨os⟩ Q rest a w) : wl ⟨os⟩ Q (⟨some d, .binOp .shl t X Y t', ty, pos, af, g⟩ :: rest) a w := by
  refine s_op hF hg fun _ hK => upon_value (v := .int .i64 z) ?_ (hK _ _ (kk _ (hF.put hd _)))
  obtain ⟨h1, h2, rfl, h3, h4⟩ := h
  simp only [execOp, hF.eval hX, hF.eval hY, Sem.run_bind, eqGuard_int, Result.andThen]
  have hb : min y.toNat IntKind.i64.bits = y.toNat := by simp [IntKind.bits]; omega
  have hw : IntKind.i64.wrap (x * 2 ^ y.toNat) = x * 2 ^ y.toNat := wraps_i64 _ h3 (by omega)
  simp [binOp, Op.shift, hb, hw, Result.andThen, show ¬ y < 0 by omega]
end
end Go.Proofs.Ytocgpllmfdnfjaa

/- Arrays of integers: compared, and loaded from slices of arrays. -/
namespace Go.Proofs.Ytocgpllmfdnfjaa
open Go.RowKit Go.Shelf
theorem part_scl {e : TypeId} {k : IntKind} {xs : List Int} {i : Nat} {x : Int} (h : sclO e = some ()) (hx : xs[i]? = some x) (w : World) : (part e (xs.map (Value.int k)).toArray i).run Try.prog w = .ok (.int k x) w := by
  refine rdV_part ?_ w
  unfold sclO at h
  unfold rdV
  split at h
  · rename_i inf hi
    split at h
    · rename_i ha
      obtain ⟨ag, sz, by', de, ze⟩ := inf
      simp only at ha
      subst ha
      rw [hi]
      simp only
      rw [rdV.at'_eq]
      simp [hx]
    · cases h
  · cases h
theorem equalIn_int {e : TypeId} {k : IntKind} {x y : Int} (h : tyD e = some (.int k)) (d : Nat) (w : World) : (Op.equalIn (d + 1) e (.int k x) (.int k y)).run Try.prog w = .ok (x == y) w := by
  unfold Op.equalIn
  simp only [Sem.run_bind, tyD_run h, Result.andThen]
  simp
theorem eq_loop {e : TypeId} {k : IntKind} {xs ys : List Int} {n d : Nat} (h2 : tyD e = some (.int k)) (hs : sclO e = some ()) (hx : xs.length = n) (hy : ys.length = n) (w : World) : ∀ m i, i + m = n →
    (forIn (List.range' i m) ((none, ()) : Option Bool × Unit) fun (i : Nat) (_ : Option Bool × Unit) => (do
      let a ← part e (xs.map (Value.int k)).toArray (i * 1)
      let b ← part e (ys.map (Value.int k)).toArray (i * 1)
      let c ← Op.equalIn (d + 1) e a b
      if (!c) = true then pure (ForInStep.done (some false, ())) else pure (ForInStep.yield (none, ())) : Sem _)).run Try.prog w = .ok (if xs.drop i = ys.drop i then (none, ()) else (some false, ())) w
  | 0, i, h => by
    rw [List.drop_eq_nil_of_le (by omega), List.drop_eq_nil_of_le (by omega), if_pos rfl]
    simp
  | m + 1, i, h => by
    have hxi := List.getElem?_eq_getElem (l := xs) (i := i) (by omega)
    have hyi := List.getElem?_eq_getElem (l := ys) (i := i) (by omega)
    have p1 := part_scl hs hxi w (k := k)
    have p2 := part_scl hs hyi w (k := k)
    have p3 := equalIn_int (x := xs[i]) (y := ys[i]) h2 d w
    have ih := eq_loop (d := d) h2 hs hx hy w m (i + 1) (by omega)
    have hd : (xs.drop i = ys.drop i) = (xs[i] = ys[i] ∧ xs.drop (i + 1) = ys.drop (i + 1)) := by
      rw [List.drop_eq_getElem_cons (show i < xs.length by omega), List.drop_eq_getElem_cons (show i < ys.length by omega), List.cons.injEq]
    simp only [hd]
    rw [List.range'_succ, List.forIn_cons]
    simp only [Sem.run_bind, Nat.mul_one, p1, p2, p3, Result.andThen]
    by_cases he : xs[i] = ys[i]
    · simp only [he, beq_self_eq_true, Bool.not_true, Bool.false_eq_true, if_false, Sem.run_pure, Result.andThen, true_and]
      simp only [Nat.mul_one] at ih
      rw [ih]
    · have hb : (xs[i] == ys[i]) = false := by simpa using he
      simp [hb, he, Result.andThen]
theorem equal_arr {t e : TypeId} {k : IntKind} {n : Nat} {xs ys : List Int} (h1 : tyD t = some (.array n e)) (h2 : tyD e = some (.int k)) (h3 : tyS e = some 1) (hs : sclO e = some ()) (hx : xs.length = n) (hy : ys.length = n) (w : World) :
    (Op.equal t (.agg (xs.map (Value.int k)).toArray) (.agg (ys.map (Value.int k)).toArray)).run Try.prog w = .ok (decide (xs = ys)) w := by
  unfold Op.equal Op.maxDepth
  rw [show (10000 : Nat) = 9999 + 1 from rfl]
  unfold Op.equalIn
  simp only [Sem.run_bind, tyD_run h1, tyS_run h3, Result.andThen]
  rw [Std.Legacy.Range.forIn_eq_forIn_range']
  have hr : (List.range' [:n].start [:n].size [:n].step) = List.range' 0 n := by simp [Std.Legacy.Range.size]
  rw [hr]
  have := eq_loop (d := 9998) h2 hs hx hy w n 0 (by omega)
  rw [show (9999 : Nat) = 9998 + 1 from rfl]
  rw [this]
  simp only [List.drop_zero, Result.andThen]
  by_cases he : xs = ys
  · simp [he]
  · simp [he]
section
variable {n : Nat} {ds : List Deferred} {l : List (Nat × Value)} {a : Act} {w w0 : World} {own : Nat → Prop} {bs : List BoxE} {L : List Ent} {Fs : List (World → Prop)}
variable {os rest : List Oper} {Q : Exit → Act → World → Prop} {K : Act → World → Prop}
variable {d : Nat} {op : Op} {ty : TypeId} {pos : String} {af : Array Edge} {g : Option (Nat × Bool)}
/-- A type of arrays of integers of one cell: its length and the kind. -/
def arrT (t : TypeId) : Option (Nat × IntKind) := match tyD t with
  | some (.array n e) => match tyD e with
    | some (.int k) => match tyS e, sclO e with
      | some 1, some () => some (n, k)
      | _, _ => none
    | _ => none
  | _ => none
theorem arrT_ok {t : TypeId} {m : Nat} {k : IntKind} (h : arrT t = some (m, k)) : ∃ e, tyD t = some (.array m e) ∧ tyD e = some (.int k) ∧ tyS e = some 1 ∧ sclO e = some () := by
  unfold arrT at h
  split at h
  · rename_i m' e h1
    split at h
    · rename_i k' h2
      split at h
      · rename_i h3 h4
        injection h with h; injection h with h5 h6
        subst h5 h6
        exact ⟨e, h1, h2, h3, h4⟩
      · cases h
    · cases h
  · cases h
def neqB (op : BinOp) (b : Bool) : Option Bool := match op with
  | .eql => some b
  | .neq => some (!b)
  | _ => none
theorem e_eqA {t t' : TypeId} {X Y : Operand} {k : IntKind} {m : Nat} {xs ys : List Int} {op : BinOp} {v : Bool} (hF : Fr n ds l a) (hX : ev l X = some (.agg (xs.map (Value.int k)).toArray)) (hY : ev l Y = some (.agg (ys.map (Value.int k)).toArray)) (ht : arrT t = some (m, k)) (hx : xs.length = m) (hy : ys.length = m) (hg : Try.prog.eqGuardType Try.prog.depth t = false) (hv : neqB op (decide (xs = ys)) = some v) (w : World) {dst : Option Tmp} :
    (execOp a.eval ⟨dst, .binOp op t X Y t', ty, pos, af, g⟩).run Try.prog w = .ok (.value (.bool v)) w := by
  obtain ⟨e, h1, h2, h3, h4⟩ := arrT_ok ht
  have he := equal_arr h1 h2 h3 h4 hx hy w
  unfold neqB at hv
  split at hv
  · injection hv with hv; subst hv
    simp [execOp, hF.eval hX, hF.eval hY, eqGuard, Sem.run_bind, Result.andThen, hg, binOp, he]
  · injection hv with hv; subst hv
    simp [execOp, hF.eval hX, hF.eval hY, eqGuard, Sem.run_bind, Result.andThen, hg, binOp, he]
  · cases hv
theorem s_eqA {t t' : TypeId} {X Y : Operand} {k : IntKind} {m : Nat} {xs ys : List Int} {op : BinOp} {v : Bool} (hF : Fr n ds l a) (hg : wantO os l g = some true) (hX : ev l X = some (.agg (xs.map (Value.int k)).toArray)) (hY : ev l Y = some (.agg (ys.map (Value.int k)).toArray)) (ht : arrT t = some (m, k)) (hq : Try.prog.eqGuardType Try.prog.depth t = false) (hv : neqB op (decide (xs = ys)) = some v) (hd : Nat.blt d n = true) (hx : xs.length = m) (hy : ys.length = m)
    (kk : ∀ a, Fr n ds ((d, .bool v) :: l) a → wl ⟨os⟩ Q rest a w) : wl ⟨os⟩ Q (⟨some d, .binOp op t X Y t', ty, pos, af, g⟩ :: rest) a w :=
  s_op hF hg fun _ hK => upon_value (e_eqA hF hX hY ht hx hy hq hv w) (hK _ _ (kk _ (hF.put hd _)))
theorem t_eqA {tail : Nat → Bool} {fuel i : Nat} {listed : Array Bool} {bs0 : List BoxE} {Fs0 : List (World → Prop)} {t t' : TypeId} {X Y : Operand} {k : IntKind} {m : Nat} {xs ys : List Int} {op : BinOp} {v : Bool} (hF : Fr n ds l a) (hi : getO os i = some ⟨some d, .binOp op t X Y t', ty, pos, af, g⟩) (hg : wantO os l g = some true) (hX : ev l X = some (.agg (xs.map (Value.int k)).toArray)) (hY : ev l Y = some (.agg (ys.map (Value.int k)).toArray)) (ht : arrT t = some (m, k)) (hq : Try.prog.eqGuardType Try.prog.depth t = false) (hv : neqB op (decide (xs = ys)) = some v) (hd : Nat.blt d n = true) (hb : takeB os tail listed i = true) (hx : xs.length = m) (hy : ys.length = m) (hS : Sm bs0 Fs0 w) (hQ : ∀ c a w, Q (.panic c) (a.put (some d) (.bool v)) w → Q (.panic c) a w)
    (kk : ∀ a, Fr n ds ((d, .bool v) :: l) a → wpAnyT Try.prog .any ⟨os⟩ Q (Sm bs0 Fs0) tail fuel (listed.setIfInBounds i true) a w) : wpAnyT Try.prog .any ⟨os⟩ Q (Sm bs0 Fs0) tail (fuel + 1) listed a w :=
  t_take hi hb hQ (.inl ⟨wantO_ok (o := ⟨some d, .binOp op t X Y t', ty, pos, af, g⟩) hF hg, fun w _ => e_eqA hF hX hY ht hx hy hq hv w⟩) hS (kk _ (hF.put hd _))
/-! Loads of arrays that are elements -/
theorem flat_get {α : Type} {m : Nat} : ∀ {ls : List (List α)} {i : Nat} {s : List α} {q : Nat} {x : α}, (∀ y ∈ ls, y.length = m) → ls[i]? = some s → s[q]? = some x → ls.flatten[i * m + q]? = some x
  | [], i, s, q, x, _, h, _ => by simp at h
  | y :: ls, 0, s, q, x, hm, h, hq => by
    simp at h
    subst h
    have hq2 := (List.getElem?_eq_some_iff.1 hq).1
    rw [List.flatten_cons, Nat.zero_mul, Nat.zero_add, List.getElem?_append_left hq2]
    exact hq
  | y :: ls, i + 1, s, q, x, hm, h, hq => by
    have h1 := hm y (by simp)
    have ih := flat_get (ls := ls) (i := i) (fun z hz => hm z (by simp [hz])) (by simpa using h) hq
    rw [List.flatten_cons, List.getElem?_append_right (by rw [h1, Nat.add_mul, Nat.one_mul]; omega), h1]
    rw [show (i + 1) * m + q - m = i * m + q by rw [Nat.add_mul, Nat.one_mul]; omega]
    exact ih
/-- A type that is loaded cell by cell: how many. -/
def aggS (T : TypeId) : Option Nat := match te T with | some i => (match i.agg with | true => some i.size | false => none) | none => none
theorem e_loadS {T : TypeId} {X : Operand} {ad : Addr} {j : Int} {m : Nat} {k : IntKind} {ls : List (List Int)} {s : List Int} (hF : Fr n ds l a) (hX : ev l X = some (.pointer (some (adr ad j m)))) (hr : Reads (Value.int k) w (some ad) ls.flatten) (hT : aggS T = some m) (hx : ls[j.toNat]? = some s) (hw : ∀ y ∈ ls, y.length = m) :
    (execOp a.eval ⟨some d, .load T X, ty, pos, af, g⟩).run Try.prog w = .ok (.value (.agg (s.map (Value.int k)).toArray)) w := by
  have hsl := hw s (List.mem_of_getElem? hx)
  unfold aggS at hT
  split at hT
  · rename_i i hi
    split at hT
    · rename_i ha
      injection hT with hT
      have hagg := (te_ok hi).agg w
      have hsz := (te_ok hi).size w
      rw [ha] at hagg
      rw [hT] at hsz
      have := run_loadCells_list (P := Try.prog) w (adr ad j m) (s.map (Value.int k)) (fun q u hu => by
        rw [List.getElem?_map] at hu
        cases hq : s[q]? with
        | none => rw [hq] at hu; simp at hu
        | some x =>
          rw [hq] at hu
          simp only [Option.map_some, Option.some.injEq] at hu
          subst hu
          obtain ⟨b, off, e, hb, hc⟩ := hr _ x (flat_get hw hx hq)
          injection e with e
          subst e
          have : (adr ⟨b, off, none⟩ j m).add q = ⟨b, off + (j.toNat * m + q), none⟩ := by unfold adr; rw [add_lit, add_lit, Nat.add_assoc]
          rw [this]
          exact hc)
      rw [List.length_map, hsl] at this
      simp [execOp, hF.eval hX, Instr.loadAt, Instr.sureAddr, Sem.run_bind, loadVar, hagg, hsz, this, Result.andThen]
    · cases hT
  · cases hT
theorem s_loadS {T : TypeId} {X : Operand} {ad : Addr} {j : Int} {m : Nat} {k : IntKind} {ls : List (List Int)} {s : List Int} (hF : Fr n ds l a) (hM : Mm own w0 bs L Fs w) (hg : wantO os l g = some true) (hX : ev l X = some (.pointer (some (adr ad j m)))) (hr : RdF (Value.int k) (some ad) ls.flatten ∈ Fs) (hT : aggS T = some m) (hd : Nat.blt d n = true) (hx : ls[j.toNat]? = some s) (hw : ∀ y ∈ ls, y.length = m)
    (kk : ∀ a, Fr n ds ((d, .agg (s.map (Value.int k)).toArray) :: l) a → wl ⟨os⟩ Q rest a w) : wl ⟨os⟩ Q (⟨some d, .load T X, ty, pos, af, g⟩ :: rest) a w :=
  s_op hF hg fun _ hK => upon_value (e_loadS hF hX (hM.fact hr) hT hx hw) (hK _ _ (kk _ (hF.put hd _)))
theorem t_loadS {tail : Nat → Bool} {fuel i : Nat} {listed : Array Bool} {bs0 : List BoxE} {Fs0 : List (World → Prop)} {T : TypeId} {X : Operand} {ad : Addr} {j : Int} {m : Nat} {k : IntKind} {ls : List (List Int)} {s : List Int} (hF : Fr n ds l a) (hi : getO os i = some ⟨some d, .load T X, ty, pos, af, g⟩) (hg : wantO os l g = some true) (hX : ev l X = some (.pointer (some (adr ad j m)))) (hr : RdF (Value.int k) (some ad) ls.flatten ∈ Fs0) (hx : ls[j.toNat]? = some s) (hw : ∀ y ∈ ls, y.length = m) (hT : aggS T = some m) (hd : Nat.blt d n = true) (hb : takeB os tail listed i = true) (hS : Sm bs0 Fs0 w) (hQ : ∀ c a w, Q (.panic c) (a.put (some d) (.agg (s.map (Value.int k)).toArray)) w → Q (.panic c) a w)
    (kk : ∀ a, Fr n ds ((d, .agg (s.map (Value.int k)).toArray) :: l) a → wpAnyT Try.prog .any ⟨os⟩ Q (Sm bs0 Fs0) tail fuel (listed.setIfInBounds i true) a w) : wpAnyT Try.prog .any ⟨os⟩ Q (Sm bs0 Fs0) tail (fuel + 1) listed a w :=
  t_take hi hb hQ (.inl ⟨wantO_ok (o := ⟨some d, .load T X, ty, pos, af, g⟩) hF hg, fun _ h => e_loadS hF hX (h.2 _ hr) hT hx hw⟩) hS (kk _ (hF.put hd _))
end
end Go.Proofs.Ytocgpllmfdnfjaa

/- Calls of yield; ranges over a function whose loop variable is boxed. -/
namespace Go.Proofs.Ytocgpllmfdnfjaa
open Go.RowKit Go.Shelf
variable {n : Nat} {ds : List Deferred} {l : List (Nat × Value)} {a : Act} {w w0 : World} {own : Nat → Prop} {bs : List BoxE} {L : List Ent} {Fs : List (World → Prop)}
variable {Q : Exit → Act → World → Prop} {os rest : List Oper}
theorem op_wide {m : Nat} {o : Oper} {a : Act} {w : World} {K : Act → World → Prop} {Q : Exit → Act → World → Prop} (h : o.wp Try.prog a w K Q) : o.wpIn Fence.wide m Try.prog a w K Q := by
  refine ⟨fun _ _ => trivial, ?_⟩
  have he : o.semAt Fence.wide.round a.eval = execOp a.eval o := rfl
  rw [he]
  unfold Oper.wp at h
  generalize (execOp a.eval o).run Try.prog w = r at h ⊢
  cases r with
  | ok x w' =>
    cases x <;> simp only [Oper.upon] at h <;> simp only [Oper.uponIn] <;> first
      | exact h
      | exact ⟨fun hz => by simp [Fence.wide] at hz, callsIn_wide.2 h⟩
      | exact ⟨fun hz => by simp [Fence.wide] at hz, fun c cs _ => let ⟨v, w', r, s⟩ := h c cs; ⟨v, w', r, stepsIn_wide.2 s⟩⟩
      | exact h.elim
  | halt x w' => cases x <;> simp only [Oper.upon] at h <;> simp only [Oper.uponIn] <;> first | exact h | exact h.elim
theorem wl_wide {m : Nat} {ops : Array Oper} {Q : Exit → Act → World → Prop} : ∀ {rest : List Oper} {a : Act} {w : World}, wl ops Q rest a w → wpListIn Fence.wide m Try.prog ops Q rest a w
  | [], _, _, h => h
  | o :: rest, a, w, h => by
    unfold wl at h
    unfold wpListIn
    split
    · rename_i hw
      rw [if_pos hw] at h
      exact op_wide (Oper.wp_mono (fun _ _ h' => wl_wide h') h)
    · rename_i hw
      rw [if_neg hw] at h
      exact ⟨fun _ _ => trivial, wl_wide h⟩
theorem upon_no {o : Oper} {K : Act → World → Prop} {Q Q' : Exit → Act → World → Prop} (hq : ∀ c a w, Q (.panic c) a w → Q' (.panic c) a w) (hq2 : ∀ a w, Q .outgrown a w → Q' .outgrown a w) {a : Act} {w : World} (h : o.wp Try.prog a w K Q) : o.wp Try.prog a w K Q' := by
  unfold Oper.wp at h ⊢
  generalize (execOp a.eval o).run Try.prog w = r at h ⊢
  cases r with
  | ok x w' =>
    cases x <;> simp only [Oper.upon] at h ⊢ <;> first
      | exact h
      | (refine Calls.mono h ?_; intro e w' h; cases e <;> first | exact h | exact hq _ _ _ h | exact (let ⟨a, w, h⟩ := h; ⟨a, w, hq2 _ _ h⟩))
      | exact h.elim
  | halt x w' => cases x <;> simp only [Oper.upon] at h ⊢ <;> first | exact h | exact hq _ _ _ h | exact h.elim
theorem wl_pre {m : Nat} {ops : Array Oper} {Q : Exit → Act → World → Prop} {J : Act → World → Prop} {rest : List Oper} (hJ : ∀ a w, J a w → wpListIn Fence.wide m Try.prog ops Q rest a w) : ∀ {pre : List Oper} {a : Act} {w : World}, wl ops (Exit.then J Q) pre a w → wpListIn Fence.wide m Try.prog ops Q (pre ++ rest) a w
  | [], a, w, h => hJ a w h
  | o :: pre, a, w, h => by
    unfold wl at h
    rw [List.cons_append]
    unfold wpListIn
    split
    · rename_i hw
      rw [if_pos hw] at h
      exact op_wide (upon_no (fun c a w h => h) (fun a w h => h) (Oper.wp_mono (fun _ _ h' => wl_pre hJ h') h))
    · rename_i hw
      rw [if_neg hw] at h
      exact ⟨fun _ _ => trivial, wl_pre hJ h⟩
/-- A call of yield in the middle of a region. -/
theorem c_yield (k m : Nat) {id d : Nat} {X : Operand} {as_ : List Operand} {ts : Array TypeId} {ty : TypeId} {pos : String} {af : Array Edge} (ho : os.drop k = ⟨some d, .call ⟨.value X, ⟨as_⟩, ts⟩, ty, pos, af, none⟩ :: rest) (hd : Nat.blt d n = true)
    (h : wl ⟨os⟩ (Exit.then (fun a w => ∃ l vs lp R, Fr n ds l a ∧ ev l X = some (.func (.yield lp) #[] #[]) ∧ evL l as_ = some vs ∧ YieldAt Fence.wide m Try.prog lp ⟨vs⟩ w R ∧
      ∀ e w', R e w' → ∃ v, e = .returned v ∧ ∀ a', Fr n ds ((d, v) :: l) a' → wl ⟨os⟩ Q rest a' w') Q) (os.take k) a w) : Wk none (Code.region id ⟨os⟩ false) Q a w := by
  refine (wpIn_wide (n := m + 1)).1 (wpIn_region_list ?_)
  have key : wpListIn Fence.wide (m + 1) Try.prog ⟨os⟩ Q (os.take k ++ os.drop k) a w := by
    rw [ho]
    refine wl_pre ?_ h
    rintro a w ⟨l, vs, lp, R, hF, hX, ha, ⟨fn, tmps, assign, body, hy, hR⟩, hk⟩
    unfold wpListIn
    rw [if_pos (by simp [Region.wanted])]
    refine ⟨fun _ _ => trivial, ?_⟩
    have h1 := hF.evalL ha
    have he : (Oper.semAt Fence.wide.round a.eval ⟨some d, .call ⟨.value X, ⟨as_⟩, ts⟩, ty, pos, af, none⟩).run Try.prog w = .ok (.round lp fn tmps assign body) w := by
      have hs : Oper.semAt Fence.wide.round a.eval ⟨some d, .call ⟨.value X, ⟨as_⟩, ts⟩, ty, pos, af, none⟩ = execOp a.eval ⟨some d, .call ⟨.value X, ⟨as_⟩, ts⟩, ty, pos, af, none⟩ := rfl
      rw [hs]
      simp [execOp, resolve, hF.eval hX, Deferred.ofValue, invoke, h1, Sem.run_bind, Result.andThen, hy]
    rw [he, Oper.uponIn_round]
    refine ⟨fun hz => by simp [Fence.wide] at hz, ?_⟩
    refine RoundIn.mono hR ?_
    intro e w' hr
    obtain ⟨v, rfl, hk2⟩ := hk e w' hr
    exact wl_wide (hk2 _ (hF.put hd v))
  rwa [List.take_append_drop] at key
theorem Since.grows {w w' : World} (h : Since w w') : w.grownBy w' none := ⟨h.os, h.tape, h.output, h.size, fun k hk _ => h.block k hk⟩
/-- What has the type T, from B on, stays. -/
def KT (B : Nat) (T : TypeId) (w : World) : World → Prop := fun w' => ∀ k cs, B ≤ k → w.heap[k]? = some (.cells cs T (0, 0)) → w'.heap[k]? = some (.cells cs T (0, 0))
theorem KT.refl (B : Nat) (T : TypeId) (w : World) : KT B T w w := fun _ _ _ h => h
theorem KT.trans {B : Nat} {T : TypeId} {x y z : World} (h : KT B T x y) (k : KT B T y z) : KT B T x z := fun i cs hb hi => k i cs hb (h i cs hb hi)
theorem KT.grown {B : Nat} {T : TypeId} {w w' : World} (h : w.grownBy w' none) : KT B T w w' := fun k _ _ hk => (h.block k (Array.getElem?_eq_some_iff.1 hk).1 (by simp)).trans hk
theorem KT.putObj {B : Nat} {T : TypeId} {w : World} {j : Nat} {o : Obj} (o' : Obj) (h : w.heap[j]? = some o) (hc : o.isCells = false) : KT B T w (w.putObj j o') := fun k _ _ hk =>
  (World.putObj_heap_other (fun e => by subst e; rw [hk] at h; injection h with h; subst h; cases hc)).trans hk
theorem Mm.alien (m : Mm own w0 bs L Fs w) {T : TypeId} {k : Nat} {cs : Array Value} (h1 : ∀ x ∈ bs, x.T ≠ T) (h2 : ∀ y ∈ L, y.e ≠ T) (hb : w0.heap.size ≤ k) (hk : w.heap[k]? = some (.cells cs T (0, 0))) : ¬ ownOf own bs L k := by
  rintro (h | ⟨x, hx, rfl⟩ | ⟨y, hy, he⟩)
  · have := m.low k h; omega
  · rw [show w.heap[x.b]? = _ from m.mem.box x hx] at hk
    injection hk with hk
    injection hk with _ hT
    exact h1 x hx hT
  · obtain ⟨_, r⟩ := m.mem.own.own y hy
    rcases r with ⟨r, _⟩ | ⟨g, cap, cur, e1, e2, e3, r⟩
    · rw [r] at he; cases he
    · rw [e1] at he
      injection he with he
      have he : g = k := he
      subst he
      rw [e3] at hk
      injection hk with hk
      injection hk with _ hT
      exact h2 y hy hT
theorem Mm.kt (m : Mm own w0 bs L Fs w) (T : TypeId) (h1 : ∀ x ∈ bs, x.T ≠ T) (h2 : ∀ y ∈ L, y.e ≠ T) : Has (ownOf own bs L) w (KT w0.heap.size T w) := by
  refine ⟨fun b => w0.heap.size ≤ b ∧ ∃ cs, w.heap[b]? = some (.cells cs T (0, 0)), ?_, ?_⟩
  · rintro b ⟨hb, cs, hk⟩
    exact ⟨(Array.getElem?_eq_some_iff.1 hk).1, m.alien h1 h2 hb hk⟩
  · intro w' h _ k cs hb hk
    exact (h k ⟨hb, cs, hk⟩).trans hk
theorem Mm.bxHas (m : Mm own w0 bs L Fs w) {b : Nat} {cs : List Value} {T : TypeId} (h : Box w b ⟨cs⟩ T) (hb : w0.heap.size ≤ b) (h1 : ∀ x ∈ bs, x.T ≠ T) (h2 : ∀ y ∈ L, y.e ≠ T) : Has (ownOf own bs L) w (BxF b cs T) :=
  ⟨fun x => x = b, fun x hx => ⟨by subst hx; exact h.lt, by subst hx; exact m.alien h1 h2 hb h⟩, fun w' hk _ => h.of_block (hk b rfl)⟩
/-- A range over a function, of one variable, whose assignment may lay blocks; the body never leaves it. -/
theorem c_range2 {α : Type} {g : Operand} {p : Tmp} {assign body : Code} {m gf : Nat} {lb : Array Value} {va : α → Value} {Kp : World → World → Prop} {S Sp : List α → Prop} {N : Nat} {wq : World}
    (hF : Fr n [] l a) (hg : ev l g = some (.func (.func gf) #[] lb)) (he : memB entL gf = true) (hp : Nat.blt p n = true)
    (hseq : SeqStopsK Fence.wide m Try.prog gf lb (fun x => #[va x]) Kp S Sp N wq) (hm : 1 ≤ m) (hKt : ∀ {A B C : World}, Kp A B → Kp B C → Kp A C) (hKb : ∀ (W : World) (l : Nat) (o o' : Obj), w.heap.size ≤ l → W.heap[l]? = some o → o.isCells = false → o.isWalk = false → Kp W (W.putObj l o')) (hb0 : Below wq.heap.size wq w)
    (I : List α → World → Prop) (hI : OwnFrom w.heap.size I) (h0 : I [] w)
    (Ax : α → Act → World → Prop) (hAx : ∀ x a W W' row, Ax x a W → W.grownBy W' row → (∀ r, row = some r → w.heap.size ≤ r ∧ ∃ o : Obj, W.heap[r]? = some o ∧ o.isCells = false) → Ax x a W')
    (hassign : ∀ (l0 k : Nat) (pre : List α) (x : α) (a : Act) (W : World), Fr n [] ((p, va x) :: l) a → I pre W → Wk (some (l0, k)) assign (Cut fun a' W' => KeepsFrom w.heap.size W W' ∧ Kp W W' ∧ I pre W' ∧ Ax x a' W') a W)
    (hbody : ∀ (l0 k : Nat) (pre : List α) (x : α) (a : Act) (W : World), I pre W → Ax x a W → pre.length < N → Wk (some (l0, k)) body (ownPostG w.heap.size Kp I (fun _ _ _ => False) (pre ++ [x]) W) a W)
    (hdone : ∀ (D : Nat) (xs : List α) (a : Act) (W : World), w.heap.size ≤ D → S xs → I xs W → W.heap[D]? = some (.deferred (some [])) → Fr n (markL D) l a → Q .normal a W) :
    Wk none (Code.rangeFunc g #[p] assign body) Q a w := by
  refine (wpIn_wide (n := m + 1)).1 (wpIn_rangeFunc_ownH (F := Fence.wide) (n := m + 1) rfl (by omega) (hF.eval hg) trivial (entL_ok (memB_ok he)) (Kp := Kp) hseq (fun h k => hKt h k) hKb hb0 (fun x => rfl) I (fun _ _ _ => False) hI (fun _ _ _ _ _ h _ _ => h) h0
    Ax (fun x a' _ W W' row h hg hr => hAx x a' W W' row h hg hr) ?_ ?_ ?_ ?_)
  · intro l0 pre x W K hIp hK
    have hr : Fr n [] ((p, va x) :: l) { tmps := (#[p].zip #[va x]).foldl (fun t (p, v) => t.setIfInBounds p v) a.tmps, defers := [] } := by
      have := hF.put hp (va x)
      have e : (a.put (some p) (va x)) = { tmps := (#[p].zip #[va x]).foldl (fun t (p, v) => t.setIfInBounds p v) a.tmps, defers := [] } := by
        simp [Act.put, hF.defs]
      rw [e] at this
      exact this
    refine wpIn_mono (hassign l0 _ pre x _ W hr hIp) ?_
    intro e a' W' h
    cases e <;> first | exact h.elim | skip
    obtain ⟨h1, h2, h3, h4⟩ := h
    exact hK a' W' h1 h2 h3 h4
  · intro l0 pre x a' W _ _ hIp hA hlt
    exact hbody l0 _ pre x a' W hIp hA hlt
  · intro D xs W hD hS hIx hK
    refine hdone D xs _ W hD hS hIx hK ⟨hF.size, ?_, hF.get⟩
    show _ :: a.defers = _
    rw [hF.defs]; rfl
  · intro D c pre W _ _ h _
    exact h.elim
/-! An array as a slice -/
section
variable {d : Nat} {op : Op} {ty : TypeId} {pos : String} {af : Array Edge} {g : Option (Nat × Bool)}
def arrO (t : TypeId) : Option (Nat × Nat) := match tyD t with
  | some (.array m e) => match tyS e with
    | some z => some (m, z)
    | none => none
  | _ => none
theorem arrO_ok {t : TypeId} {m z : Nat} (h : arrO t = some (m, z)) : ∃ e, tyD t = some (.array m e) ∧ tyS e = some z := by
  unfold arrO at h
  split at h
  · rename_i m' e h1
    split at h
    · rename_i z' h2
      injection h with h; injection h with h3 h4
      subst h3 h4
      exact ⟨e, h1, h2⟩
    · cases h
  · cases h
theorem e_arrSl {t : TypeId} {X : Operand} {m z b off : Nat} (hF : Fr n ds l a) (hX : ev l X = some (.pointer (some ⟨b, off, none⟩))) (ht : arrO t = some (m, z)) (w : World) {dst : Option Tmp} :
    (execOp a.eval ⟨dst, .slice t X none none none, ty, pos, af, g⟩).run Try.prog w = .ok (.value (.slice (some ⟨b, off, none⟩) m m)) w := by
  obtain ⟨e, h1, h2⟩ := arrO_ok ht
  simp only [execOp, hF.eval hX, Option.map_none]
  simp [Instr.sliceAt, Instr.sliceBounds, Sem.run_bind, tyD_run h1, tyS_run h2, Result.andThen, Instr.sureAddr, add_lit]
theorem s_arrSl {t : TypeId} {X : Operand} {m z b off : Nat} (hF : Fr n ds l a) (hg : wantO os l g = some true) (hX : ev l X = some (.pointer (some ⟨b, off, none⟩))) (ht : arrO t = some (m, z)) (hd : Nat.blt d n = true)
    (kk : ∀ a, Fr n ds ((d, .slice (some ⟨b, off, none⟩) m m) :: l) a → wl ⟨os⟩ Q rest a w) : wl ⟨os⟩ Q (⟨some d, .slice t X none none none, ty, pos, af, g⟩ :: rest) a w :=
  s_op hF hg fun _ hK => upon_value (e_arrSl hF hX ht w) (hK _ _ (kk _ (hF.put hd _)))
theorem t_arrSl {tail : Nat → Bool} {fuel i : Nat} {listed : Array Bool} {bs0 : List BoxE} {Fs0 : List (World → Prop)} {t : TypeId} {X : Operand} {m z b off : Nat} (hF : Fr n ds l a) (hi : getO os i = some ⟨some d, .slice t X none none none, ty, pos, af, g⟩) (hg : wantO os l g = some true) (hX : ev l X = some (.pointer (some ⟨b, off, none⟩))) (ht : arrO t = some (m, z)) (hd : Nat.blt d n = true) (hb : takeB os tail listed i = true) (hS : Sm bs0 Fs0 w) (hQ : ∀ c a w, Q (.panic c) (a.put (some d) (.slice (some ⟨b, off, none⟩) m m)) w → Q (.panic c) a w)
    (kk : ∀ a, Fr n ds ((d, .slice (some ⟨b, off, none⟩) m m) :: l) a → wpAnyT Try.prog .any ⟨os⟩ Q (Sm bs0 Fs0) tail fuel (listed.setIfInBounds i true) a w) : wpAnyT Try.prog .any ⟨os⟩ Q (Sm bs0 Fs0) tail (fuel + 1) listed a w :=
  t_take hi hb hQ (.inl ⟨wantO_ok (o := ⟨some d, .slice t X none none none, ty, pos, af, g⟩) hF hg, fun w _ => e_arrSl hF hX ht w⟩) hS (kk _ (hF.put hd _))
theorem x_arrSl {t : TypeId} {X : Operand} {m z b off : Nat} {K : Act → World → Prop} (hF : Fr n ds l a) (hX : ev l X = some (.pointer (some ⟨b, off, none⟩))) (ht : arrO t = some (m, z)) (hd : Nat.blt d n = true) (kk : ∀ a, Fr n ds ((d, .slice (some ⟨b, off, none⟩) m m) :: l) a → K a w) : (⟨some d, .slice t X none none none, ty, pos, af, g⟩ : Oper).wp Try.prog a w K Q :=
  upon_value (e_arrSl hF hX ht w) (kk _ (hF.put hd _))
end
/-! Drawn regions in a round -/
theorem any_in {l m : Nat} {ops : Array Oper} {Q : Exit → Act → World → Prop} (hd : ∀ (i : Nat) (o : Oper), ops[i]? = some o → noDefer o = true) (hno : ¬ LetsOut Q) : ∀ (fuel : Nat) (listed : Array Bool) (a : Act) (w : World), wpAny Try.prog .any ops Q fuel listed a w → wpAnyIn (Fence.wide.inRound l) m Try.prog .any ops Q fuel listed a w
  | 0, _, _, _, h => h
  | fuel + 1, listed, a, w, h => by
    refine ⟨h.1, fun i hi => ?_⟩
    have := h.2 i hi
    unfold wpOp at this
    unfold wpOpIn
    split
    · rename_i ho
      rw [ho] at this
      exact any_in hd hno fuel _ a w this
    · rename_i o ho
      rw [ho] at this
      simp only at this
      split
      · rename_i hw
        rw [if_pos hw] at this
        rcases this with h1 | ⟨_, h2⟩
        · exact op_in (hd i o ho) (Oper.wp_mono (fun a w h' => any_in hd hno fuel _ a w h') h1)
        · exact absurd h2 hno
      · rename_i hw
        rw [if_neg hw] at this
        exact ⟨fun _ _ => trivial, any_in hd hno fuel _ _ w this⟩
theorem c_drawR {id l m : Nat} {bs0 : List BoxE} (tail : Nat → Bool) (hd : os.all noDefer = true) (hno : ¬ LetsOut Q) (hs : ∀ x ∈ bs0, x ∈ bs) (hM : Mm own w0 bs L Fs w) (h : ∀ w, Mm own w0 bs L Fs w → wpAnyT Try.prog .any ⟨os⟩ Q (Sm bs0 Fs) tail os.length (Array.replicate os.length false) a w) : Wk (some (l, m)) (Code.region id ⟨os⟩ true) Q a w :=
  wpIn_region_any mixed (any_in (fun i o ho => List.all_eq_true.1 hd o (List.mem_of_getElem? (by simpa using ho))) hno _ _ _ _ (wpAny_of_T _ _ _ _ (by have := h _ hM.drew; simpa using this)))
end Go.Proofs.Ytocgpllmfdnfjaa

/- Copies; zeros appended; boxes and rows replaced; bytes as strings. -/
namespace Go.Proofs.Ytocgpllmfdnfjaa
open Go.RowKit Go.Shelf
section
variable {n : Nat} {ds : List Deferred} {l : List (Nat × Value)} {a : Act} {w w' w0 : World} {own : Nat → Prop} {bs : List BoxE} {L : List Ent} {Fs : List (World → Prop)}
variable {os rest : List Oper} {Q : Exit → Act → World → Prop} {K : Act → World → Prop}
variable {d : Nat} {op : Op} {ty : TypeId} {pos : String} {af : Array Edge} {g : Option (Nat × Bool)}
/-! A box replaced -/
theorem Mem.boxTo (m : Mem w0 bs L w) (j : Nat) {b : Nat} {cs cs' : Array Value} {T T' : TypeId} (hj : bs[j]? = some ⟨b, cs, T⟩) (hb : Box w' b cs' T') (hg : w.grownBy w' (some b)) : Mem w0 (bs.set j ⟨b, cs', T'⟩) L w' := by
  have hmem := List.mem_of_getElem? hj
  have hjl : j < bs.length := by
    rcases Nat.lt_or_ge j bs.length with g | g
    · exact g
    · rw [List.getElem?_eq_none g] at hj; cases hj
  have hbj : bs[j] = ⟨b, cs, T⟩ := by rw [List.getElem?_eq_getElem hjl] at hj; injection hj
  have htwo := List.pairwise_iff_getElem.1 m.two
  have hne : ∀ (k : Nat) (hk : k < bs.length), k ≠ j → bs[k].b ≠ b := by
    intro k hk e
    rcases Nat.lt_or_ge k j with g | g
    · have := htwo k j hk hjl g; rw [hbj] at this; exact this
    · have := htwo j k hjl hk (by omega); rw [hbj] at this; exact fun e => this e.symm
  have hmems : ∀ x ∈ bs.set j ⟨b, cs', T'⟩, x = ⟨b, cs', T'⟩ ∨ (x ∈ bs ∧ x.b ≠ b) := by
    intro x hx
    obtain ⟨k, hk, hxk⟩ := List.getElem_of_mem hx
    rw [List.getElem_set] at hxk
    split at hxk
    · exact .inl hxk.symm
    · rename_i hn
      subst hxk
      have hk' : k < bs.length := by simpa using hk
      exact .inr ⟨List.getElem_mem _, hne k hk' (fun e => hn e.symm)⟩
  refine ⟨Below.grown m.since hg m.since.size (fun k e => by cases e; exact m.new _ hmem), ?_, ?_, ?_, ?_, ?_⟩
  · intro x hx
    rcases hmems x hx with rfl | ⟨h1, h2⟩
    · exact hb
    · exact (m.box x h1).grown hg (fun e => h2 (by injection e))
  · intro x hx
    rcases hmems x hx with rfl | ⟨h1, h2⟩
    · exact m.new ⟨b, cs, T⟩ hmem
    · exact m.new x h1
  · rw [List.pairwise_iff_getElem]
    intro x y hx hy hxy
    have hx' : x < bs.length := by simpa using hx
    have hy' : y < bs.length := by simpa using hy
    rw [List.getElem_set, List.getElem_set]
    by_cases e1 : j = x
    · rw [if_pos e1, if_neg (by omega)]; exact fun e => hne y hy' (by omega) e.symm
    · rw [if_neg e1]
      by_cases e2 : j = y
      · rw [if_pos e2]; exact hne x hx' (by omega)
      · rw [if_neg e2]; exact htwo x y hx' hy' hxy
  · exact m.own.of2 fun x hx k hk => hg.block k (m.own.lt hx k hk).2 (fun e => by injection e with e; exact m.far _ hmem x hx (by rw [hk, e]))
  · intro x hx y hy
    rcases hmems x hx with rfl | ⟨h1, h2⟩
    · exact m.far ⟨b, cs, T⟩ hmem y hy
    · exact m.far x h1 y hy
theorem Mm.boxTo (m : Mm own w0 bs L Fs w) {b : Nat} {cs cs' : Array Value} {T T' : TypeId} {bs' : List BoxE} (hu : Upd bs ⟨b, cs, T⟩ ⟨b, cs', T'⟩ bs') (hb : Box w' b cs' T') (hg : w.grownBy w' (some b)) : Mm own w0 bs' L Fs w' := by
  obtain ⟨k, hk, rfl⟩ := hu.get
  refine ⟨m.mem.boxTo k hk hb hg, m.low, fun f hf => ?_⟩
  have h1 : Has (ownOf own bs L) w' f :=
    (m.facts f hf).step (fun x hx hn => hg.block x hx (fun e => hn (.inr (.inl ⟨_, List.mem_of_getElem? hk, by injection e with e; exact e.symm⟩)))) hg.size
  exact h1.own_eq fun x hx => ownOf_set hk hx
theorem grownBy_setRow (w : World) (g : Nat) (cs : Array Value) : w.grownBy (w.setRow g cs) (some g) :=
  ⟨rfl, rfl, rfl, by simp [World.setRow], fun k _ hk => setRow_other w g k _ (fun e => hk (by rw [e]))⟩
/-! A row's cells replaced -/
theorem splice_take {α : Type} (C cs : List α) (o N : Nat) (h : o + cs.length ≤ N) (hC : N ≤ C.length) : (C.take o ++ cs ++ C.drop (o + cs.length)).take N = (C.take N).take o ++ cs ++ (C.take N).drop (o + cs.length) := by
  have h1 : (C.take o).length = o := by rw [List.length_take]; omega
  rw [List.take_append, List.take_of_length_le (by rw [List.length_append, h1]; omega), List.length_append, h1, List.take_take, Nat.min_eq_left (by omega), List.drop_take]
theorem Mm.rowTo (hM : Mm own w0 bs L Fs w) {k : Nat} {e : TypeId} {size m c gb : Nat} {xs : List Value} (hL : L[k]? = some ⟨e, size, .slice (some ⟨gb, 0, none⟩) m c, m, xs⟩) (o : Nat) (cs : List Value) (h : o + cs.length ≤ m * size) :
    ∃ cur : Array Value, w.heap[gb]? = some (.cells cur e (0, 0)) ∧ o + cs.length ≤ cur.size ∧ Mm own w0 bs (L.set k ⟨e, size, .slice (some ⟨gb, 0, none⟩) m c, m, xs.take o ++ cs ++ xs.drop (o + cs.length)⟩) Fs (w.setRow gb (cur.toList.take o ++ cs ++ cur.toList.drop (o + cs.length)).toArray) := by
  have hown := hM.mem.own.get hL
  obtain ⟨hlen, hr⟩ := hown
  rcases hr with ⟨h', _⟩ | ⟨g', cap', cur, h', h1, h2, h3, h4, h5, h6⟩
  · simp at h'
  · simp only [Value.slice.injEq, Option.some.injEq, Addr.mk.injEq, and_true] at h'
    obtain ⟨rfl, _, rfl⟩ := h'
    simp only at hlen h1 h2 h3 h4 h5 h6
    have hcur : m * size ≤ cur.size := by rw [h5]; exact Nat.mul_le_mul_right _ h3
    refine ⟨cur, h2, by omega, hM.app hL ⟨?_, .inr ⟨gb, c, _, rfl, h1, setRow_heap w gb cur _ e _ h2, h3, h4, ?_, ?_⟩⟩ (grownBy_setRow w gb _) (.inl rfl)⟩
    · simp only [List.length_append, List.length_take, List.length_drop]
      omega
    · rw [← h5]
      simp only [List.size_toArray, List.length_append, List.length_take, List.length_drop, Array.length_toList]
      omega
    · show (cur.toList.take o ++ cs ++ cur.toList.drop (o + cs.length)).take (m * size) = _
      rw [splice_take _ _ _ _ h (by simpa using hcur), h6]
/-- The run of a copy, whatever the elements' size. -/
theorem run_copy_gen {P : Program} (w : World) (dT sT ty elem : TypeId) (size g o dLen dCap : Nat) (a : Addr) (sLen sCap : Nat) (cur : Array Value) (t : TypeId) (cs : List Value)
    (hu : P.underlying dT = some (.slice elem)) (hs : (P.info? elem).map (·.size) = some size)
    (hg : w.heap[g]? = some (.cells cur t (0, 0))) (hn : cs.length = Nat.min sLen dLen * size)
    (hsrc : ∀ j v, cs[j]? = some v → w.cell? (a.add j) = some v) (hfit : o + cs.length ≤ cur.size) (h1 : ∀ v ∈ cs, v.oneCell' = true) :
    (Builtin.copy_ #[dT, sT] ty #[.slice (some ⟨g, o, none⟩) dLen dCap, .slice (some a) sLen sCap]).run P w =
      .ok (goInt (Nat.min sLen dLen)) (w.setRow g (cur.toList.take o ++ cs ++ cur.toList.drop (o + cs.length)).toArray) := by
  have hl := run_loadCells_list (P := P) w a cs hsrc
  have hst := run_storeCells_at P g o t cs 0 cur w hg (by simpa using hfit) h1
  cases hq : P.info? elem with
  | none => simp [hq] at hs
  | some i =>
    have hi : i.size = size := by simpa [hq] using hs
    simp [Builtin.copy_, run_underlying hu, Builtin.lenOf, Builtin.firstCells, sizeOf, typeInfo, hq, hi, ← hn, hl, hst]
theorem run_copy_zero {P : Program} (w : World) (dT sT ty elem : TypeId) (size : Nat) (D S : Option Addr) (dLen dCap sLen sCap : Nat) (hu : P.underlying dT = some (.slice elem)) (hs : (P.info? elem).map (·.size) = some size) (hn : Nat.min sLen dLen = 0) :
    (Builtin.copy_ #[dT, sT] ty #[.slice D dLen dCap, .slice S sLen sCap]).run P w = .ok (goInt 0) w := by
  cases hq : P.info? elem with
  | none => simp [hq] at hs
  | some i =>
    have hl : ∀ (x : Addr), (loadCells x 0).run P w = .ok #[] w := fun x => by simpa using run_loadCells_list (P := P) w x [] (by simp)
    cases D <;> cases S <;> simp [Builtin.copy_, run_underlying hu, Builtin.lenOf, Builtin.firstCells, sizeOf, typeInfo, hq, hn, storeCells, hl]
/-- copy to a slice of a box. -/
theorem e_copyB {α : Type} {enc : α → Value} {t s e T : TypeId} {size bytes b q c m c2 k : Nat} {ao : Option Addr} {ys : List α} {cs cs' : List Value} {bs' : List BoxE} {D X : Operand} {dst : Option Tmp} (hF : Fr n ds l a) (hM : Mm own w0 bs L Fs w) (hD : ev l D = some (.slice (some ⟨b, 0, none⟩) q c)) (hX : ev l X = some (.slice ao m c2)) (hf : RdF enc ao ys ∈ Fs) (he : elO t = some (e, size, bytes)) (h1 : ∀ y, (enc y).oneCell' = true)
    (hu : Upd bs ⟨b, ⟨cs⟩, T⟩ ⟨b, ⟨cs'⟩, T⟩ bs') (hy : ys.length = m * size) (hq : cs.length = q * size) (hk : Nat.min m q = k) (hcs : (ys.take (k * size)).map enc ++ cs.drop (k * size) = cs')
    (kk : ∀ w', Mm own w0 bs' L Fs w' → K (a.put dst (.int .i64 k)) w') : (⟨dst, .call ⟨.builtin .copy, #[D, X], #[t, s]⟩, ty, pos, af, g⟩ : Oper).wp Try.prog a w K Q := by
  obtain ⟨e1, e2, i, z, i1, i2, i3, i4, i5⟩ := elO_ok he
  obtain ⟨kb, hkb, rfl⟩ := hu.get
  have hbox := hM.mem.box _ (List.mem_of_getElem? hkb)
  have hsz : (Try.prog.info? e).map (·.size) = some size := by rw [i1]; simp [i3]
  have hrd := hM.fact hf
  have fin : ∀ w', (Builtin.copy_ #[t, s] ty #[.slice (some ⟨b, 0, none⟩) q c, .slice ao m c2]).run Try.prog w = .ok (goInt k) w' → Mm own w0 (bs.set kb ⟨b, ⟨cs'⟩, T⟩) L Fs w' → (⟨dst, .call ⟨.builtin .copy, #[D, X], #[t, s]⟩, ty, pos, af, g⟩ : Oper).wp Try.prog a w K Q := by
    intro w' hr hm
    unfold Oper.wp execOp
    simp only [resolve, invoke, builtin, Sem.run_bind, Sem.run_pure, Result.andThen_ok, List.map_toArray, List.map_cons, List.map_nil, hF.eval hD, hF.eval hX, hr]
    exact kk _ hm
  rcases Nat.eq_zero_or_pos k with h0 | h0
  · subst h0
    refine fin w (run_copy_zero w t s ty e size _ _ _ _ _ _ e1 hsz hk) (hM.boxTo hu ?_ ⟨rfl, rfl, rfl, Nat.le_refl _, fun _ _ _ => rfl⟩)
    rw [← hcs]
    simpa using hbox
  · have hm0 : 0 < m := by have := Nat.min_le_left m q; rw [show min m q = k from hk] at this; omega
    have hs0 : 0 < size := e2
    have hkm : k * size ≤ ys.length := by rw [hy]; exact Nat.mul_le_mul_right _ (by have := Nat.min_le_left m q; rw [show min m q = k from hk] at this; exact this)
    have hkq : k * size ≤ cs.length := by rw [hq]; exact Nat.mul_le_mul_right _ (by have := Nat.min_le_right m q; rw [show min m q = k from hk] at this; exact this)
    have hyl : 0 < ys.length := by rw [hy]; exact Nat.mul_pos hm0 hs0
    obtain ⟨ab, aoff, rfl, _, _⟩ := hrd 0 _ (List.getElem?_eq_getElem hyl)
    have hlen : ((ys.take (k * size)).map enc).length = k * size := by rw [List.length_map, List.length_take]; omega
    have hr := run_copy_gen w t s ty e size b 0 q c ⟨ab, aoff, none⟩ m c2 ⟨cs⟩ T ((ys.take (k * size)).map enc) e1 hsz hbox (by rw [hlen, hk]) ?_ (by rw [hlen]; simpa using hkq) (by intro v hv; obtain ⟨y, _, rfl⟩ := List.mem_map.1 hv; exact h1 y)
    · rw [hk] at hr
      refine fin _ hr (hM.boxTo hu ?_ (grownBy_setRow _ _ _))
      have hst := setRow_heap w b ⟨cs⟩ (((⟨cs⟩ : Array Value).toList.take 0 ++ (ys.take (k * size)).map enc ++ (⟨cs⟩ : Array Value).toList.drop (0 + ((ys.take (k * size)).map enc).length)).toArray) T (0, 0) hbox
      have e3 : (((⟨cs⟩ : Array Value).toList.take 0 ++ (ys.take (k * size)).map enc ++ (⟨cs⟩ : Array Value).toList.drop (0 + ((ys.take (k * size)).map enc).length)).toArray) = ⟨cs'⟩ := by
        rw [← hcs, hlen]; simp
      rw [e3] at hst
      rw [e3]
      exact hst
    · intro j v hj
      rw [List.getElem?_map, List.getElem?_take] at hj
      split at hj
      · cases hyj : ys[j]? with
        | none => rw [hyj] at hj; simp at hj
        | some y =>
          rw [hyj] at hj
          simp only [Option.map_some, Option.some.injEq] at hj
          subst hj
          obtain ⟨b', off', e4, _, e5⟩ := hrd j y hyj
          simp only [Option.some.injEq, Addr.mk.injEq, and_true] at e4
          obtain ⟨rfl, rfl⟩ := e4
          rw [add_lit]
          exact e5
      · simp at hj
/-- copy into a row. -/
theorem e_copyR {t s e e' : TypeId} {size size' bytes gb off q c m m2 c2 c' j : Nat} {ad : Addr} {cs xs : List Value} {D X : Operand} {dst : Option Tmp} (hF : Fr n ds l a) (hM : Mm own w0 bs L Fs w) (hD : ev l D = some (.slice (some ⟨gb, off, none⟩) q c)) (hX : ev l X = some (.slice (some ad) m2 c2)) (he : elO t = some (e, size, bytes)) (h1 : ∀ v ∈ cs, v.oneCell' = true)
    (hL : Kth L j ⟨e', size', .slice (some ⟨gb, 0, none⟩) m c', m, xs⟩) (hn : cs.length = Nat.min m2 q * size) (hsrc : ∀ i v, cs[i]? = some v → w.cell? (ad.add i) = some v) (hfit : off + cs.length ≤ m * size')
    (kk : ∀ w', Mm own w0 bs (L.set j ⟨e', size', .slice (some ⟨gb, 0, none⟩) m c', m, xs.take off ++ cs ++ xs.drop (off + cs.length)⟩) Fs w' → K (a.put dst (.int .i64 (Nat.min m2 q : Nat))) w') : (⟨dst, .call ⟨.builtin .copy, #[D, X], #[t, s]⟩, ty, pos, af, g⟩ : Oper).wp Try.prog a w K Q := by
  obtain ⟨e1, e2, i, z, i1, i2, i3, i4, i5⟩ := elO_ok he
  have hsz : (Try.prog.info? e).map (·.size) = some size := by rw [i1]; simp [i3]
  obtain ⟨cur, hc1, hc2, hm⟩ := hM.rowTo hL.get off cs hfit
  have hr := run_copy_gen w t s ty e size gb off q c ad m2 c2 cur e' cs e1 hsz hc1 hn hsrc hc2 h1
  unfold Oper.wp execOp
  simp only [resolve, invoke, builtin, Sem.run_bind, Sem.run_pure, Result.andThen_ok, List.map_toArray, List.map_cons, List.map_nil, hF.eval hD, hF.eval hX, hr]
  exact kk _ hm
/-! Bytes as strings -/
theorem e_b2s {src dst' e : TypeId} {X : Operand} {ao : Option Addr} {xs : List Int} {m c : Nat} (hF : Fr n ds l a) (hM : Mm own w0 bs L Fs w) (hX : ev l X = some (.slice ao m c)) (hf : RdF (Value.int .u8) ao xs ∈ Fs) (h1 : tyD src = some (.slice e)) (h2 : tyD e = some (.int .u8)) (h3 : tyD dst' = some .string) (hm : xs.length = m) {dst : Option Tmp} :
    (execOp a.eval ⟨dst, .convert src dst' X, ty, pos, af, g⟩).run Try.prog w = .ok (.value (.string (strOfNums xs))) w := by
  have hrd := hM.fact hf
  have key : (convert src dst' (.slice ao m c)).run Try.prog w = .ok (.string (strOfNums xs)) w := by
    rcases Nat.eq_zero_or_pos m with h0 | h0
    · obtain rfl : xs = [] := List.length_eq_zero_iff.1 (by omega)
      cases ao with
      | none => exact run_convert_bytes_nil w src e (tyD_ok h1) (tyD_ok h2) m c dst' (tyD_ok h3)
      | some ad =>
        subst h0
        rw [run_convert_bytes_string w src dst' e _ 0 c (tyD_ok h1) (tyD_ok h2) (tyD_ok h3), run_bytesToString w ad 0 c [] (by simpa using run_loadCells_list (P := Try.prog) w ad [] (by simp))]
        rfl
    · obtain ⟨b, off, rfl, _, _⟩ := hrd 0 _ (List.getElem?_eq_getElem (by omega))
      refine run_convert_bytes_arg w src e (tyD_ok h1) (tyD_ok h2) b off m c xs hm (fun i hi => ?_) dst' (tyD_ok h3)
      obtain ⟨b', off', e4, _, e5⟩ := hrd i xs[i] (List.getElem?_eq_getElem (by omega))
      simp only [Option.some.injEq, Addr.mk.injEq, and_true] at e4
      obtain ⟨rfl, rfl⟩ := e4
      rw [e5]
      simp [List.getD, List.getElem?_eq_getElem (show i < xs.length by omega)]
  simp only [execOp, hF.eval hX]
  simp [Sem.run_bind, key, Result.andThen]
theorem s_b2s {src dst' e : TypeId} {X : Operand} {ao : Option Addr} {xs : List Int} {m c : Nat} (hF : Fr n ds l a) (hM : Mm own w0 bs L Fs w) (hg : wantO os l g = some true) (hX : ev l X = some (.slice ao m c)) (hf : RdF (Value.int .u8) ao xs ∈ Fs) (h1 : tyD src = some (.slice e)) (h2 : tyD e = some (.int .u8)) (h3 : tyD dst' = some .string) (hd : Nat.blt d n = true) (hm : xs.length = m)
    (kk : ∀ a, Fr n ds ((d, .string (strOfNums xs)) :: l) a → wl ⟨os⟩ Q rest a w) : wl ⟨os⟩ Q (⟨some d, .convert src dst' X, ty, pos, af, g⟩ :: rest) a w :=
  s_op hF hg fun _ hK => upon_value (e_b2s hF hM hX hf h1 h2 h3 hm) (hK _ _ (kk _ (hF.put hd _)))
theorem strOf_inj {xs ys : List Int} (hx : ∀ x ∈ xs, 0 ≤ x ∧ x < 256) (hy : ∀ y ∈ ys, 0 ≤ y ∧ y < 256) : strOfNums xs = strOfNums ys ↔ xs = ys := by
  refine ⟨fun h => ?_, fun h => by rw [h]⟩
  have h2 := congrArg (fun b : ByteArray => b.data.toList) h
  simp only [strOfNums_data] at h2
  clear h
  induction xs generalizing ys with
  | nil => cases ys with
    | nil => rfl
    | cons y ys => simp at h2
  | cons x xs ih => cases ys with
    | nil => simp at h2
    | cons y ys =>
      rw [List.map_cons, List.map_cons, List.cons.injEq] at h2
      have hx0 := hx x (by simp)
      have hy0 := hy y (by simp)
      have e := congrArg UInt8.toNat h2.1
      simp only [UInt8.toNat_ofNat'] at e
      have : x = y := by omega
      rw [this, ih (fun z hz => hx z (List.mem_cons_of_mem _ hz)) (fun z hz => hy z (List.mem_cons_of_mem _ hz)) h2.2]
theorem strOf_beq {xs ys : List Int} (hx : ∀ x ∈ xs, 0 ≤ x ∧ x < 256) (hy : ∀ y ∈ ys, 0 ≤ y ∧ y < 256) : ((strOfNums xs).toList == (strOfNums ys).toList) = decide (xs = ys) := by
  rw [Lib.toList_data, Lib.toList_data]
  by_cases h : xs = ys
  · subst h; simp
  · rw [decide_eq_false h]
    simp only [beq_eq_false_iff_ne, ne_eq]
    intro e
    refine h ((strOf_inj hx hy).1 ?_)
    have : (strOfNums xs).data = (strOfNums ys).data := Array.ext' e
    generalize strOfNums xs = A at *
    generalize strOfNums ys = B at *
    cases A; cases B
    simp only at this
    rw [this]
theorem e_eqS {t t' : TypeId} {X Y : Operand} {xs ys : List Int} (hF : Fr n ds l a) (hX : ev l X = some (.string (strOfNums xs))) (hY : ev l Y = some (.string (strOfNums ys))) (hg : Try.prog.eqGuardType Try.prog.depth t = false) (hx : ∀ x ∈ xs, 0 ≤ x ∧ x < 256) (hy : ∀ y ∈ ys, 0 ≤ y ∧ y < 256) (w : World) {dst : Option Tmp} :
    (execOp a.eval ⟨dst, .binOp .eql t X Y t', ty, pos, af, g⟩).run Try.prog w = .ok (.value (.bool (decide (xs = ys)))) w := by
  simp [execOp, hF.eval hX, hF.eval hY, eqGuard, Sem.run_bind, Result.andThen, hg, binOp, Op.stringOp, strOf_beq hx hy]
theorem s_eqS {t t' : TypeId} {X Y : Operand} {xs ys : List Int} (hF : Fr n ds l a) (hg : wantO os l g = some true) (hX : ev l X = some (.string (strOfNums xs))) (hY : ev l Y = some (.string (strOfNums ys))) (hq : Try.prog.eqGuardType Try.prog.depth t = false) (hd : Nat.blt d n = true) (hx : ∀ x ∈ xs, 0 ≤ x ∧ x < 256) (hy : ∀ y ∈ ys, 0 ≤ y ∧ y < 256)
    (kk : ∀ a, Fr n ds ((d, .bool (decide (xs = ys))) :: l) a → wl ⟨os⟩ Q rest a w) : wl ⟨os⟩ Q (⟨some d, .binOp .eql t X Y t', ty, pos, af, g⟩ :: rest) a w :=
  s_op hF hg fun _ hK => upon_value (e_eqS hF hX hY hq hx hy w) (hK _ _ (kk _ (hF.put hd _)))
end
end Go.Proofs.Ytocgpllmfdnfjaa

/- Zeros appended; a row that is read from then on; high bits. -/
namespace Go.Proofs.Ytocgpllmfdnfjaa
open Go.RowKit Go.Shelf
section
variable {n : Nat} {ds : List Deferred} {l : List (Nat × Value)} {a : Act} {w w' w0 : World} {own : Nat → Prop} {bs : List BoxE} {L : List Ent} {Fs : List (World → Prop)}
variable {os rest : List Oper} {Q : Exit → Act → World → Prop} {K : Act → World → Prop}
variable {d : Nat} {op : Op} {ty : TypeId} {pos : String} {af : Array Edge} {g : Option (Nat × Bool)}
theorem run_append_make {P : Program} (w : World) (base : Nat) (t tx ty e : TypeId) (i : TypeInfo) (z : Value) (size bytes : Nat) (ht : P.underlying t = some (.slice e)) (htx : P.underlying tx = some (.int .i64)) (hi : P.info? e = some i) (hz : i.zero = some z)
    (hsize : i.size = size) (hby : i.bytes = bytes) (hzs : z.cells.size = size) (hsz : 0 < size)
    (v : Value) (n : Nat) (xs : List Value) (hown : w.ownsRow base e size v n xs) (m : Nat) (hm : 0 < m) (h1 : ∀ u ∈ z.cells.toList, u.oneCell' = true)
    (h63 : n + m ≤ maxLen) (hbytes : (n + m) * bytes ≤ 140737488355328) (hbase : base ≤ w.heap.size) :
    ∃ gb c w', (Builtin.append_ #[t, tx] ty #[v, .int .i64 m]).run P w = .ok (.slice (some ⟨gb, 0, none⟩) (n + m) c) w' ∧ w'.ownsRow base e size (.slice (some ⟨gb, 0, none⟩) (n + m) c) (n + m) (xs ++ zerosL z.cells.toList m) ∧ w.grownBy w' v.ownBlock ∧ (v.ownBlock = some gb ∨ gb = w.heap.size) := by
  subst hsize
  subst hby
  have hsmall : n + m ≤ 9223372036854775807 := by simp only [maxLen] at h63; omega
  have hmw : IntKind.i64.wrap (m : Int) = m := by rw [IntKind.wrap_i64]; omega
  have hm0 : ¬ (m : Int) < 0 := by omega
  have hmb : m * i.bytes ≤ 140737488355328 := Nat.le_trans (Nat.mul_le_mul_right _ (by omega)) hbytes
  have hmb2 : ¬ 281474976710656 < (m : Int) * (i.bytes : Int) := by
    have : ((m * i.bytes : Nat) : Int) = (m : Int) * (i.bytes : Int) := Int.natCast_mul _ _
    omega
  have hms : ¬ m * i.size = 0 := Nat.mul_ne_zero (by omega) (by omega)
  have hmn : m ≠ 0 := by omega
  have hsn : i.size ≠ 0 := by omega
  have hzl : (zerosL z.cells.toList m).length = m * i.size := by rw [zerosL_len]; simp [hzs]
  have hzc : Builtin.zeroCells z.cells m = (zerosL z.cells.toList m).toArray := zeros_eq (size := z.cells.size) rfl
  have hlen : (xs ++ zerosL z.cells.toList m).length = (n + m) * i.size := by rw [List.length_append, hown.1, hzl, Nat.add_mul]
  have hone : ∀ u ∈ zerosL z.cells.toList m, u.oneCell' = true := by
    clear hzl hzc hlen hmb hmb2 hms hmn hm hmw hm0 h63 hbytes hsmall
    induction m with
    | zero => intro u hu; simp [zerosL] at hu
    | succ m ih =>
      intro u hu
      rw [zerosL] at hu
      rcases List.mem_append.1 hu with hu | hu
      · exact h1 u hu
      · exact ih u hu
  have grown : ∀ (old : Nat), old < n + m → ∀ (row : Option Nat),
      (w.drew.alloc (.cells (xs.toArray ++ (zerosL z.cells.toList m).toArray ++ Builtin.zeroCells z.cells (grownCap w (n + m) old e - (n + m))) e)).ownsRow base e i.size
        (.slice (some ⟨w.heap.size, 0, none⟩) (n + m) (grownCap w (n + m) old e)) (n + m) (xs ++ zerosL z.cells.toList m) ∧
      w.grownBy (w.drew.alloc (.cells (xs.toArray ++ (zerosL z.cells.toList m).toArray ++ Builtin.zeroCells z.cells (grownCap w (n + m) old e - (n + m))) e)) row := by
    intro old ho row
    have hge := grownCap_ge w (n + m) old e
    have hcm : grownCap w (n + m) old e ≤ maxLen := grownCap_le_maxLen w (n + m) old e h63
    refine ⟨⟨hlen, .inr ⟨w.heap.size, _, _, rfl, hbase, heap_alloc_new w.drew _, hge, hcm, ?_, ?_⟩⟩, ⟨rfl, rfl, rfl, by simp, fun k hk _ => Below.heap_alloc w.drew _ k hk⟩⟩
    · simp only [Array.size_append, List.size_toArray, size_zeroCells, hzs, hown.1, hzl, ← Nat.add_mul]
      congr 1
      omega
    · simp only [Array.toList_append, List.append_assoc]
      rw [← List.append_assoc, ← hlen]
      exact List.take_left
  rcases hown.2 with ⟨rfl, rfl⟩ | ⟨g, cap, cur, rfl, hbg, hg, hnc, hcm, hcs, htake⟩
  · have hx : xs = [] := List.eq_nil_of_length_eq_zero (by simpa using hown.1)
    subst hx
    have hgr := grown 0 (by omega) (Value.ownBlock (.slice none 0 0))
    simp only [Nat.zero_add, List.nil_append, Array.empty_append] at hgr ⊢
    refine ⟨_, _, _, ?_, hgr.1, hgr.2, .inr rfl⟩
    have h63' : ¬ (9223372036854775807 < (m : Int)) := by omega
    have h48' : ¬ (281474976710656 < Builtin.nextslicecap m 0 * i.bytes) := by rw [nextslicecap_zero hm]; omega
    simp [Builtin.append_, run_underlying ht, run_underlying htx, sizeOf, typeInfo, zeroValue, hi, hz, Builtin.lenOf, hmn, hms, hmw, hm0, hmb2, h63', h48', Question.forced, run_firstCells_none, newRow, grownCap, asInt, asIntOf, hzc]
  · by_cases hroom : n + m ≤ cap
    · have hfit : n * i.size + (zerosL z.cells.toList m).length ≤ cur.size := by rw [hzl, hcs, ← Nat.add_mul]; exact Nat.mul_le_mul_right _ hroom
      refine ⟨g, cap, w.setRow g (cur.toList.take (n * i.size) ++ zerosL z.cells.toList m ++ cur.toList.drop (n * i.size + (zerosL z.cells.toList m).length)).toArray, ?_, ⟨hlen, .inr ⟨g, cap, _, rfl, hbg, setRow_heap w g cur _ e _ hg, hroom, hcm, ?_, ?_⟩⟩, ⟨rfl, rfl, rfl, by simp, fun k _ hk => setRow_other w g k _ (fun e => hk (by simp [Value.ownBlock, e]))⟩, .inl rfl⟩
      · have hst := run_storeCells_at P g (n * i.size) e (zerosL z.cells.toList m) 0 cur w hg (by simpa using hfit) hone
        simp only [Nat.add_zero] at hst
        simp [Builtin.append_, run_underlying ht, run_underlying htx, sizeOf, typeInfo, zeroValue, hi, hz, Builtin.lenOf, hmn, hms, hmw, hm0, hmb2, hroom, asInt, asIntOf, hzc, Addr.add_lit, hst]
      · simp only [List.size_toArray, List.length_append, List.length_take, List.length_drop, Array.length_toList]
        omega
      · rw [htake, ← hlen]
        exact List.take_left
    · have holds : ∀ j u, xs[j]? = some u → w.cell? ((⟨g, 0, none⟩ : Addr).add j) = some u := hown.cells (g := g) rfl
      have hgr := grown cap (by omega) (Value.ownBlock (.slice (some ⟨g, 0, none⟩) n cap))
      refine ⟨_, _, _, ?_, hgr.1, hgr.2, .inr rfl⟩
      have h63' : ¬ (9223372036854775807 < ((n : Int) + (m : Int))) := by omega
      have h48' : ¬ (281474976710656 < Builtin.nextslicecap (n + m) cap * i.bytes) := by have : Builtin.nextslicecap (n + m) cap * i.bytes ≤ 281474976710656 := growslice_fits (by omega) hbytes; omega
      have hfo := run_firstCells_some (P := P) w.drew i.size n ⟨g, 0, none⟩ n cap xs hown.1 (by simpa using holds)
      simp [Builtin.append_, run_underlying ht, run_underlying htx, sizeOf, typeInfo, zeroValue, hi, hz, Builtin.lenOf, hmn, hms, hmw, hm0, hmb2, hroom, h63', h48', Question.forced, hfo, newRow, grownCap, asInt, asIntOf, hzc]
      congr 2
      apply Array.ext'
      simp [List.append_assoc]
def intT (t : TypeId) : Bool := match tyD t with
  | some (.int .i64) => true
  | _ => false
theorem intT_ok {t : TypeId} (h : intT t = true) : Try.prog.underlying t = some (.int .i64) := by
  unfold intT at h
  split at h
  · rename_i h1; exact tyD_ok h1
  · cases h
/-- append of a slice that is just made: of zeros. -/
theorem e_appZ {t tx e : TypeId} {size bytes : Nat} {S X : Operand} {v : Value} {m k q : Nat} {xs zs : List Value} (hF : Fr n ds l a) (hM : Mm own w0 bs L Fs w) (hS : ev l S = some v) (hX : ev l X = some (.int .i64 (q : Nat))) (he : elO t = some (e, size, bytes)) (htx : intT tx = true) (hz : (match te e with | some i => cellsO i.zero | none => none) = some zs) (h1 : oneL zs = true)
    (hL : Kth L k ⟨e, size, v, m, xs⟩) (h0 : 0 < q) (hb : (m + q) * bytes ≤ 140737488355328 ∧ m + q ≤ 9223372036854775807)
    (kk : ∀ g cap w', Mm own w0 bs (L.set k ⟨e, size, .slice (some ⟨g, 0, none⟩) (m + q) cap, m + q, xs ++ zerosL zs q⟩) Fs w' → K (a.put (some d) (.slice (some ⟨g, 0, none⟩) (m + q) cap)) w') :
    (⟨some d, .call ⟨.builtin .append, #[S, X], #[t, tx]⟩, ty, pos, af, g⟩ : Oper).wp Try.prog a w K Q := by
  obtain ⟨e1, e2, i, z, i1, i2, i3, i4, i5⟩ := elO_ok he
  have hzz : z.cells = ⟨zs⟩ := by
    split at hz
    · rename_i i' hi'
      obtain ⟨j, j1, j2, j3, j4⟩ := (te_ok hi').info
      rw [i1] at j1
      injection j1 with j1
      subst j1
      rw [i2] at j2
      injection j2 with j2
      subst j2
      exact cellsO_ok hz
    · cases hz
  obtain ⟨gb, c, w', hr, h2, h3, h4⟩ := run_append_make (P := Try.prog) w w0.heap.size t tx ty e i z size bytes e1 (intT_ok htx) i1 i2 i3 i4 i5 e2 v m xs (hM.mem.own.get hL.get) q h0 (by rw [hzz]; exact oneL_ok h1) (by unfold maxLen; exact hb.2) hb.1 hM.since.size
  rw [hzz] at h2
  unfold Oper.wp execOp
  simp only [resolve, invoke, builtin, Sem.run_bind, Sem.run_pure, Result.andThen_ok, List.map_toArray, List.map_cons, List.map_nil, hF.eval hS, hF.eval hX, hr]
  refine kk gb c w' (hM.app hL.get h2 h3 ?_)
  rcases h4 with h4 | h4
  · exact .inl h4.symm
  · exact .inr (by simp [Value.ownBlock, h4])
theorem s_appZ {t tx e : TypeId} {size bytes : Nat} {S X : Operand} {v : Value} {m k q : Nat} {xs zs : List Value} (hF : Fr n ds l a) (hM : Mm own w0 bs L Fs w) (hg : wantO os l g = some true) (hS : ev l S = some v) (hX : ev l X = some (.int .i64 (q : Nat))) (he : elO t = some (e, size, bytes)) (htx : intT tx = true) (hz : (match te e with | some i => cellsO i.zero | none => none) = some zs) (h1 : oneL zs = true)
    (hL : Kth L k ⟨e, size, v, m, xs⟩) (hd : Nat.blt d n = true) (h0 : 0 < q) (hb : (m + q) * bytes ≤ 140737488355328 ∧ m + q ≤ 9223372036854775807)
    (kk : ∀ g cap w' a, Mm own w0 bs (L.set k ⟨e, size, .slice (some ⟨g, 0, none⟩) (m + q) cap, m + q, xs ++ zerosL zs q⟩) Fs w' → Fr n ds ((d, .slice (some ⟨g, 0, none⟩) (m + q) cap) :: l) a → wl ⟨os⟩ Q rest a w') :
    wl ⟨os⟩ Q (⟨some d, .call ⟨.builtin .append, #[S, X], #[t, tx]⟩, ty, pos, af, g⟩ :: rest) a w :=
  s_op hF hg fun _ hK => e_appZ hF hM hS hX he htx hz h1 hL h0 hb fun g cap w' h => hK _ _ (kk g cap w' _ h (hF.put hd _))
/-- A slice made, whatever its elements. -/
theorem s_makeZ {t e : TypeId} {size bytes : Nat} {zs : List Value} {X Y : Operand} {kl kc : IntKind} {zl zc : Int} (c : Nat) (hF : Fr n ds l a) (hM : Mm own w0 bs L Fs w) (hg : wantO os l g = some true) (hX : ev l X = some (.int kl zl)) (hY : ev l Y = some (.int kc zc)) (he : elO t = some (e, size, bytes)) (hz : (match te e with | some i => cellsO i.zero | none => none) = some zs) (hd : Nat.blt d n = true) (hl : zl = (c : Int)) (hc : zc = (c : Int)) (hb : (bytes : Int) * (c : Int) ≤ 281474976710656 ∧ (c : Int) ≤ 9223372036854775807)
    (k : ∀ b w' a, Mm own w0 bs (⟨e, size, .slice (some ⟨b, 0, none⟩) c c, c, zerosL zs c⟩ :: L) Fs w' → Fr n ds ((d, .slice (some ⟨b, 0, none⟩) c c) :: l) a → wl ⟨os⟩ Q rest a w') : wl ⟨os⟩ Q (⟨some d, .makeSlice t X Y, ty, pos, af, g⟩ :: rest) a w := by
  subst hl
  subst hc
  obtain ⟨e1, e2, i, z, i1, i2, i3, i4, i5⟩ := elO_ok he
  have hzz : z.cells = ⟨zs⟩ := by
    split at hz
    · rename_i i' hi'
      obtain ⟨j, j1, j2, j3, j4⟩ := (te_ok hi').info
      rw [i1] at j1
      injection j1 with j1
      subst j1
      rw [i2] at j2
      injection j2 with j2
      subst j2
      exact cellsO_ok hz
    · cases hz
  have hr := run_make (P := Try.prog) w t e i z e1 i1 i2 kl kc (c : Int) (c : Int) (by omega) (Int.le_refl _) (by rw [i4]; exact hb.1) hb.2
  have hmz : madeCells z.cells (c * i.size) = (zerosL zs c).toArray := by
    have := zeros_eq (z := z.cells) (size := i.size) (len := c) (by rw [i5, i3])
    rw [hzz] at this ⊢
    exact this
  rw [Int.toNat_natCast, hmz] at hr
  refine s_op hF hg fun _ hK => upon_value (v := .slice (some ⟨w.heap.size, 0, none⟩) c c) (w' := w.alloc (.cells (zerosL zs c).toArray e)) ?_ (hK _ _ (k _ _ _ ((hM.box ⟨zerosL zs c⟩ e).boxRow size c ?_ ?_) (hF.put hd _)))
  · simp [execOp, hF.eval hX, hF.eval hY, hr, Sem.run_bind, Result.andThen]
  · rw [zerosL_len]
    have : zs.length = size := by rw [hzz] at i5; simpa using i5
    rw [this]
  · unfold maxLen; omega
theorem zerosL_ints {k : IntKind} {m : Nat} : ∀ q : Nat, zerosL ((List.replicate m (0 : Int)).map (Value.int k)) q = ((List.replicate q (List.replicate m (0 : Int))).flatten).map (Value.int k)
  | 0 => by simp [zerosL]
  | q + 1 => by rw [zerosL, zerosL_ints q, List.replicate_succ, List.flatten_cons, List.map_append]
/-- A row that is only read from then on. -/
theorem Mm.freezeRow {α : Type} {enc : α → Value} {e : TypeId} {ao : Option Addr} {m c : Nat} {xs : List α} (m0 : Mm own w0 bs (⟨e, 1, .slice ao m c, m, xs.map enc⟩ :: L) Fs w) : Mm own w0 bs L (RdF enc ao xs :: Fs) w := by
  have hrd := own_reads (m0.mem.own.own _ List.mem_cons_self)
  refine (m0.sub (.refl _) (List.sublist_cons_self _ _) (fun _ h => h)).addFact (RdF.has hrd ?_)
  rintro ad rfl
  have hob : (Value.slice (some ad) m c).ownBlock = some ad.block := rfl
  rintro (h | ⟨x, hx, hx2⟩ | ⟨y, hy, hy2⟩)
  · have h2 := m0.low _ h
    have h3 := (m0.mem.own.lt List.mem_cons_self _ hob).1
    omega
  · exact m0.mem.far x hx _ List.mem_cons_self (by rw [hob, hx2])
  · have hp := m0.mem.own.apart
    rw [List.pairwise_cons] at hp
    rcases hp.1 y hy with h | h
    · rw [show (Value.slice (some ad) m c).ownBlock = none from h] at hob; cases hob
    · exact h (hob.trans hy2.symm)
def isIf : Value → Bool
  | .iface _ _ => true
  | _ => false
theorem s_pan {X : Operand} {v : Value} {dst : Option Tmp} (hF : Fr n ds l a) (hg : wantO os l g = some true) (hX : ev l X = some v) (hv : isIf v = true) (k : Q (.panic [{ v, recovered := false }]) a w) : wl ⟨os⟩ Q (⟨dst, .panic X, ty, pos, af, g⟩ :: rest) a w := by
  refine s_op hF hg fun K hK => ?_
  have hr : (execOp a.eval ⟨dst, .panic X, ty, pos, af, g⟩).run Try.prog w = .halt (.panic v) w := by
    cases v <;> simp [isIf] at hv
    simp [execOp, hF.eval hX, Instr.panic, Sem.run_bind, Result.andThen]
  unfold Oper.wp
  rw [hr]
  exact k
/-- The high half of a number that has none. -/
theorem s_and32 {t t' : TypeId} {X Y : Operand} {x : Int} (hF : Fr n ds l a) (hg : wantO os l g = some true) (hX : ev l X = some (.int .u64 x)) (hY : ev l Y = some (.int .u64 4294967295)) (hd : Nat.blt d n = true) (h : 0 ≤ x ∧ x < 4294967296)
    (kk : ∀ a, Fr n ds ((d, .int .u64 x) :: l) a → wl ⟨os⟩ Q rest a w) : wl ⟨os⟩ Q (⟨some d, .binOp .and t X Y t', ty, pos, af, g⟩ :: rest) a w :=
  s_op hF hg fun _ hK => upon_value (e_bits hF hX hY (.inl rfl) (by
    obtain ⟨m, rfl⟩ : ∃ m : Nat, x = m := ⟨x.toNat, by omega⟩
    have h2 := bits_and_u64_nat m 4294967295 (by omega) (by omega)
    have e : m &&& 4294967295 = m % 4294967296 := Nat.and_two_pow_sub_one_eq_mod m 32
    rw [e] at h2
    have h3 : bits .and .u64 (m : Int) 4294967295 = ((m % 4294967296 : Nat) : Int) := h2
    rw [h3]
    omega) w) (hK _ _ (kk _ (hF.put hd _)))
theorem s_shr32 {t t' : TypeId} {X Y : Operand} {k yk : IntKind} {x : Int} (hF : Fr n ds l a) (hg : wantO os l g = some true) (hX : ev l X = some (.int k x)) (hY : ev l Y = some (.int yk 32)) (hd : Nat.blt d n = true) (hk : Nat.ble 32 k.bits = true) (h : 0 ≤ x ∧ x < 4294967296)
    (kk : ∀ a, Fr n ds ((d, .int k 0) :: l) a → wl ⟨os⟩ Q rest a w) : wl ⟨os⟩ Q (⟨some d, .binOp .shr t X Y t', ty, pos, af, g⟩ :: rest) a w := by
  refine s_op hF hg fun _ hK => upon_value (v := .int k 0) ?_ (hK _ _ (kk _ (hF.put hd _)))
  have hb : min 32 k.bits = 32 := Nat.min_eq_left (Nat.le_of_ble_eq_true hk)
  have hd0 : x / 4294967296 = 0 := Int.ediv_eq_zero_of_lt h.1 h.2
  simp only [execOp, hF.eval hX, hF.eval hY, Sem.run_bind, eqGuard_int, Result.andThen]
  simp [binOp, Op.shift, hb, Result.andThen, Int.fdiv_eq_ediv, hd0]
end
end Go.Proofs.Ytocgpllmfdnfjaa

/- runlength: runs of equal sectors. -/
namespace Go.Proofs.Ytocgpllmfdnfjaa
open Go.RowKit Go.Shelf
/-- The zero sector. -/
abbrev zr : List Int := [0, 0, 0, 0, 0, 0, 0, 0]
/-- All have the length of a sector. -/
def W8 (l : List (List Int)) : Prop := ∀ y ∈ l, y.length = 8
/-- The number of sectors from a place on that are equal to the one there. -/
def rl (l : List (List Int)) (i : Nat) : Nat := 1 + ((l.drop (i + 1)).takeWhile fun s => decide (l[i]? = some s)).length
theorem rl_eq {l : List (List Int)} {i n : Nat} {s : List Int} (hs : l[i]? = some s) (h1 : 1 ≤ n) (h2 : ∀ j, j < n → l[i + j]? = some s) (h3 : l[i + n]? ≠ some s) : rl l i = n := by
  unfold rl
  have key : ∀ (m : Nat) (k : List (List Int)), (∀ j, j < m → k[j]? = some s) → k[m]? ≠ some s → (k.takeWhile fun x => decide (some s = some x)).length = m := by
    intro m
    induction m with
    | zero =>
      intro k _ h
      cases k with
      | nil => rfl
      | cons x k =>
        have hx : x ≠ s := fun e => h (by simp [e])
        rw [List.takeWhile_cons_of_neg (by simp; exact fun e => hx e.symm)]
        rfl
    | succ m ih =>
      intro k h h'
      cases k with
      | nil => have := h 0 (by omega); simp at this
      | cons x k =>
        have hx : x = s := by have := h 0 (by omega); simpa using this
        subst hx
        rw [List.takeWhile_cons_of_pos (by simp), List.length_cons, ih k (fun j hj => by have := h (j + 1) (by omega); simpa using this) (by simpa using h')]
  have := key (n - 1) (l.drop (i + 1)) (fun j hj => by rw [List.getElem?_drop]; have := h2 (j + 1) (by omega); rwa [show i + 1 + j = i + (j + 1) by omega]) (by rw [List.getElem?_drop, show i + 1 + (n - 1) = i + n by omega]; exact h3)
  rw [hs, this]
  omega
theorem run_c (l : List (List Int)) (hw : W8 l) (i : Nat) (q : Int) (hq0 : q = i) (hi : i < l.length) (hlen : l.length ≤ 1000000) (a0 : Option Addr) (c0 : Nat) (own : Nat → Prop) (W : World) (hl : ∀ b, own b → b < W.heap.size) (hv : Has own W (RdF (Value.int .u8) a0 l.flatten)) :
    Calls Try.prog 63 ⟨[.slice a0 l.length c0, .int .i64 q]⟩ W (Ret W fun v _ => v = .int .i64 (rl l i)) := by
  subst hq0
  have hM := (Mm.start hl).known hv
  have hw' : ∀ y ∈ l, y.length = 8 := hw
  obtain ⟨s, hs⟩ := get_of_lt hi
  have hs8 := hw s (List.mem_of_getElem? hs)
  obtain ⟨ad, rfl⟩ : ∃ ad, a0 = some ad := by
    have h0 : 0 < s.length := by omega
    exact rd_some hM (by (repeat (first | exact List.mem_cons_self | refine List.mem_cons_of_mem _ ?_))) (flat_get hw hs (List.getElem?_eq_getElem h0))
  refine f_start Try.func63 rfl Try.ntmps63 rfl rfl ?_; intro a hF
  (repeat' (first | (with_reducible refine w_seq ?_) | (with_reducible refine c_region ?_) | (with_reducible refine s_nil ?_) | (with_reducible refine q_then_n ?_) | ((with_reducible apply s_pure hF); exact rfl; exact rfl; exact rfl; (first | exact trivial | omega | exact ⟨Int.natCast_nonneg _, Int.ofNat_lt.2 (by assumption)⟩ | decide); clear hF a; intro a hF) | (with_reducible refine w_block ?_)))
  refine c_loop (m := l.length) (fun m a w' => ∃ n : Nat, m + n = l.length + 1 ∧ 1 ≤ n ∧ i + n ≤ l.length ∧ (∀ j, j < n → l[i + j]? = some s) ∧
    Fr 28 [] [(5, .int .i64 n), (0, .slice (some ad) l.length c0), (1, .int .i64 i)] a ∧ Mm own W [] [] [RdF (Value.int .u8) (some ad) l.flatten] w') ⟨1, by omega, by omega, by omega, fun j hj => by rw [show i + j = i by omega]; exact hs, hF.sub (by repeat (first | exact Sub.nil | refine Sub.cons rfl (by first | with_reducible rfl | (refine congrArg (Value.int _) ?_; omega) | exact rfl) ?_)), hM⟩ ?_
  clear hF hM a
  rintro m a w' ⟨n, hm, hn, hin, hall, hF, hM⟩
  by_cases hlt : i + n < l.length
  · obtain ⟨s2, hs2⟩ := get_of_lt hlt
    have hs28 := hw s2 (List.mem_of_getElem? hs2)
    have hs2' : l[((i : Int) + (n : Int)).toNat]? = some s2 := by rw [show ((i : Int) + (n : Int)).toNat = i + n by omega]; exact hs2
    with_reducible refine w_seq ?_
    with_reducible refine w_seq ?_
    refine c_draw (fun i => Nat.ble 19 i) hM ?_; clear hM; intro w hM
    (first | (refine t_pure (i := 0) hF rfl rfl rfl rfl (by kernel_rfl) hM.sm (fun _ _ _ h => h) ?_ ?_; (first | exact trivial | omega | decide); clear hF a; intro a hF))
    (first | (refine t_pure (i := 1) hF rfl rfl rfl rfl (by kernel_rfl) hM.sm (fun _ _ _ h => h) ?_ ?_; (first | exact trivial | omega | decide); clear hF a; intro a hF))
    (first | (refine t_pure (i := 2) hF rfl rfl rfl rfl (by kernel_rfl) hM.sm (fun _ _ _ h => h) ?_ ?_; (first | exact trivial | omega | decide); clear hF a; intro a hF))
    (first | (refine t_pure (i := 3) hF rfl rfl rfl rfl (by kernel_rfl) hM.sm (fun _ _ _ h => h) ?_ ?_; (first | exact trivial | omega | decide); clear hF a; intro a hF))
    (first | (refine t_pure (i := 4) hF rfl rfl rfl rfl (by kernel_rfl) hM.sm (fun _ _ _ h => h) ?_ ?_; (first | exact trivial | omega | decide); clear hF a; intro a hF))
    (first | (refine t_pure (i := 5) hF rfl rfl rfl rfl (by kernel_rfl) hM.sm (fun _ _ _ h => h) ?_ ?_; (first | exact trivial | omega | decide); clear hF a; intro a hF))
    rw [show decide ((i : Int) + (n : Int) < (l.length : Int)) = true from decide_eq_true (by omega)] at hF
    (first | (refine t_pure (i := 6) hF rfl rfl rfl rfl (by kernel_rfl) (hM.sm.sub (fun x hx => by repeat (first | exact hx | refine List.mem_cons_of_mem _ ?_)) (fun _ h => by repeat (first | exact h | refine List.mem_cons_of_mem _ ?_))) (fun _ _ _ h => h) ?_ ?_; (first | exact trivial | omega | decide); clear hF a; intro a hF))
    (first | (refine t_pure (i := 7) hF rfl rfl rfl rfl (by kernel_rfl) (hM.sm.sub (fun x hx => by repeat (first | exact hx | refine List.mem_cons_of_mem _ ?_)) (fun _ h => by repeat (first | exact h | refine List.mem_cons_of_mem _ ?_))) (fun _ _ _ h => h) ?_ ?_; (first | exact trivial | omega | decide); clear hF a; intro a hF))
    (first | (refine t_pure (i := 8) hF rfl rfl rfl rfl (by kernel_rfl) (hM.sm.sub (fun x hx => by repeat (first | exact hx | refine List.mem_cons_of_mem _ ?_)) (fun _ h => by repeat (first | exact h | refine List.mem_cons_of_mem _ ?_))) (fun _ _ _ h => h) ?_ ?_; (first | exact trivial | omega | decide); clear hF a; intro a hF))
    (first | (refine t_pure (i := 9) hF rfl rfl rfl rfl (by kernel_rfl) (hM.sm.sub (fun x hx => by repeat (first | exact hx | refine List.mem_cons_of_mem _ ?_)) (fun _ h => by repeat (first | exact h | refine List.mem_cons_of_mem _ ?_))) (fun _ _ _ h => h) ?_ ?_; (first | exact trivial | omega | decide); clear hF a; intro a hF))
    (first | (refine t_pure (i := 10) hF rfl rfl rfl rfl (by kernel_rfl) (hM.sm.sub (fun x hx => by repeat (first | exact hx | refine List.mem_cons_of_mem _ ?_)) (fun _ h => by repeat (first | exact h | refine List.mem_cons_of_mem _ ?_))) (fun _ _ _ h => h) ?_ ?_; (first | exact trivial | omega | decide); clear hF a; intro a hF))
    (first | (refine t_pure (i := 11) hF rfl rfl rfl rfl (by kernel_rfl) (hM.sm.sub (fun x hx => by repeat (first | exact hx | refine List.mem_cons_of_mem _ ?_)) (fun _ h => by repeat (first | exact h | refine List.mem_cons_of_mem _ ?_))) (fun _ _ _ h => h) ?_ ?_; (first | exact trivial | omega | decide); clear hF a; intro a hF))
    (first | (apply t_loadS (i := 12) hF rfl rfl rfl; (repeat (first | exact List.mem_cons_self | refine List.mem_cons_of_mem _ ?_)); (first | with_reducible assumption | (simp only [Int.toNat_natCast]; with_reducible assumption)); (with_reducible assumption); exact rfl; exact rfl; kernel_rfl; exact (hM.sm.sub (fun x hx => by repeat (first | exact hx | refine List.mem_cons_of_mem _ ?_)) (fun _ h => by repeat (first | exact h | refine List.mem_cons_of_mem _ ?_))); exact (fun _ _ _ h => h); clear hF a; intro a hF))
    (first | (refine t_pure (i := 13) hF rfl rfl rfl rfl (by kernel_rfl) (hM.sm.sub (fun x hx => by repeat (first | exact hx | refine List.mem_cons_of_mem _ ?_)) (fun _ h => by repeat (first | exact h | refine List.mem_cons_of_mem _ ?_))) (fun _ _ _ h => h) ?_ ?_; (first | exact trivial | omega | decide); clear hF a; intro a hF))
    (first | (refine t_pure (i := 14) hF rfl rfl rfl rfl (by kernel_rfl) (hM.sm.sub (fun x hx => by repeat (first | exact hx | refine List.mem_cons_of_mem _ ?_)) (fun _ h => by repeat (first | exact h | refine List.mem_cons_of_mem _ ?_))) (fun _ _ _ h => h) ?_ ?_; (first | exact trivial | omega | decide); clear hF a; intro a hF))
    (first | (refine t_pure (i := 15) hF rfl rfl rfl rfl (by kernel_rfl) (hM.sm.sub (fun x hx => by repeat (first | exact hx | refine List.mem_cons_of_mem _ ?_)) (fun _ h => by repeat (first | exact h | refine List.mem_cons_of_mem _ ?_))) (fun _ _ _ h => h) ?_ ?_; (first | exact trivial | omega | decide); clear hF a; intro a hF))
    (first | (apply t_loadS (i := 16) hF rfl rfl rfl; (repeat (first | exact List.mem_cons_self | refine List.mem_cons_of_mem _ ?_)); (first | with_reducible assumption | (simp only [Int.toNat_natCast]; with_reducible assumption)); (with_reducible assumption); exact rfl; exact rfl; kernel_rfl; exact (hM.sm.sub (fun x hx => by repeat (first | exact hx | refine List.mem_cons_of_mem _ ?_)) (fun _ h => by repeat (first | exact h | refine List.mem_cons_of_mem _ ?_))); exact (fun _ _ _ h => h); clear hF a; intro a hF))
    (first | (apply t_eqA (i := 17) hF rfl rfl rfl rfl rfl; kernel_rfl; exact rfl; exact rfl; kernel_rfl; (first | with_reducible assumption | rfl); (first | with_reducible assumption | rfl); exact (hM.sm.sub (fun x hx => by repeat (first | exact hx | refine List.mem_cons_of_mem _ ?_)) (fun _ h => by repeat (first | exact h | refine List.mem_cons_of_mem _ ?_))); exact (fun _ _ _ h => h); clear hF a; intro a hF))
    (first | (refine t_pure (i := 18) hF rfl rfl rfl rfl (by kernel_rfl) (hM.sm.sub (fun x hx => by repeat (first | exact hx | refine List.mem_cons_of_mem _ ?_)) (fun _ h => by repeat (first | exact h | refine List.mem_cons_of_mem _ ?_))) (fun _ _ _ h => h) ?_ ?_; (first | exact trivial | omega | decide); clear hF a; intro a hF))
    refine t_done (by kernel_rfl) ?_
    (repeat' (first | (with_reducible refine w_seq ?_) | (with_reducible refine c_region ?_) | (with_reducible refine s_nil ?_) | (with_reducible refine q_then_n ?_) | ((with_reducible apply s_pure hF); exact rfl; exact rfl; exact rfl; (first | exact trivial | omega | exact ⟨Int.natCast_nonneg _, Int.ofNat_lt.2 (by assumption)⟩ | decide); clear hF a; intro a hF) | (with_reducible refine w_skip ?_) | (with_reducible refine w_block ?_) | (with_reducible refine w_exit ?_) | (with_reducible refine w_ret ?_) | (with_reducible refine q_then_x ?_) | (with_reducible refine q_blk_n ?_) | (with_reducible refine q_blk_x ?_) | ((with_reducible apply c_dec hF); exact rfl; all_goals intro hc; all_goals (try (exfalso; omega)))))
    · refine ⟨m - 1, by omega, n + 1, by omega, by omega, by omega, fun j hj => ?_, hF.sub (by repeat (first | exact Sub.nil | refine Sub.cons rfl (by first | with_reducible rfl | (refine congrArg (Value.int _) ?_; omega) | exact rfl) ?_)), hM⟩
      by_cases hj' : j = n
      · subst hj'; rw [hs2, hc]
      · exact hall j (by omega)
    (apply f_ret Try.results63 hF hM; (repeat (first | exact RL.nil | (apply RL.tmp; exact rfl) | (apply RL.cell; exact rfl; (repeat (first | exact List.mem_cons_self | refine List.mem_cons_of_mem _ ?_)); exact rfl))); refine Ret.mk hM.since ?_; dsimp only [resV])
    rw [rl_eq hs hn hall (by rw [hs2]; intro h; injection h with h; exact hc h)]
  · with_reducible refine w_seq ?_
    with_reducible refine w_seq ?_
    refine c_draw (fun i => Nat.ble 19 i) hM ?_; clear hM; intro w hM
    (first | (refine t_pure (i := 0) hF rfl rfl rfl rfl (by kernel_rfl) hM.sm (fun _ _ _ h => h) ?_ ?_; (first | exact trivial | omega | decide); clear hF a; intro a hF))
    (first | (refine t_pure (i := 1) hF rfl rfl rfl rfl (by kernel_rfl) hM.sm (fun _ _ _ h => h) ?_ ?_; (first | exact trivial | omega | decide); clear hF a; intro a hF))
    (first | (refine t_pure (i := 2) hF rfl rfl rfl rfl (by kernel_rfl) hM.sm (fun _ _ _ h => h) ?_ ?_; (first | exact trivial | omega | decide); clear hF a; intro a hF))
    (first | (refine t_pure (i := 3) hF rfl rfl rfl rfl (by kernel_rfl) hM.sm (fun _ _ _ h => h) ?_ ?_; (first | exact trivial | omega | decide); clear hF a; intro a hF))
    (first | (refine t_pure (i := 4) hF rfl rfl rfl rfl (by kernel_rfl) hM.sm (fun _ _ _ h => h) ?_ ?_; (first | exact trivial | omega | decide); clear hF a; intro a hF))
    (first | (refine t_pure (i := 5) hF rfl rfl rfl rfl (by kernel_rfl) hM.sm (fun _ _ _ h => h) ?_ ?_; (first | exact trivial | omega | decide); clear hF a; intro a hF))
    rw [show decide ((i : Int) + (n : Int) < (l.length : Int)) = false from decide_eq_false (by omega)] at hF
    (first | (refine t_pure (i := 6) hF rfl rfl rfl rfl (by kernel_rfl) (hM.sm.sub (fun x hx => by repeat (first | exact hx | refine List.mem_cons_of_mem _ ?_)) (fun _ h => by repeat (first | exact h | refine List.mem_cons_of_mem _ ?_))) (fun _ _ _ h => h) ?_ ?_; (first | exact trivial | omega | decide); clear hF a; intro a hF))
    (first | (refine t_skip (i := 7) hF rfl rfl rfl (by kernel_rfl) (hM.sm.sub (fun x hx => by repeat (first | exact hx | refine List.mem_cons_of_mem _ ?_)) (fun _ h => by repeat (first | exact h | refine List.mem_cons_of_mem _ ?_))) (fun _ _ _ h => h) ?_; clear hF a; intro a hF))
    (first | (refine t_skip (i := 8) hF rfl rfl rfl (by kernel_rfl) (hM.sm.sub (fun x hx => by repeat (first | exact hx | refine List.mem_cons_of_mem _ ?_)) (fun _ h => by repeat (first | exact h | refine List.mem_cons_of_mem _ ?_))) (fun _ _ _ h => h) ?_; clear hF a; intro a hF))
    (first | (refine t_skip (i := 9) hF rfl rfl rfl (by kernel_rfl) (hM.sm.sub (fun x hx => by repeat (first | exact hx | refine List.mem_cons_of_mem _ ?_)) (fun _ h => by repeat (first | exact h | refine List.mem_cons_of_mem _ ?_))) (fun _ _ _ h => h) ?_; clear hF a; intro a hF))
    (first | (refine t_skip (i := 10) hF rfl rfl rfl (by kernel_rfl) (hM.sm.sub (fun x hx => by repeat (first | exact hx | refine List.mem_cons_of_mem _ ?_)) (fun _ h => by repeat (first | exact h | refine List.mem_cons_of_mem _ ?_))) (fun _ _ _ h => h) ?_; clear hF a; intro a hF))
    (first | (refine t_skip (i := 11) hF rfl rfl rfl (by kernel_rfl) (hM.sm.sub (fun x hx => by repeat (first | exact hx | refine List.mem_cons_of_mem _ ?_)) (fun _ h => by repeat (first | exact h | refine List.mem_cons_of_mem _ ?_))) (fun _ _ _ h => h) ?_; clear hF a; intro a hF))
    (first | (refine t_skip (i := 12) hF rfl rfl rfl (by kernel_rfl) (hM.sm.sub (fun x hx => by repeat (first | exact hx | refine List.mem_cons_of_mem _ ?_)) (fun _ h => by repeat (first | exact h | refine List.mem_cons_of_mem _ ?_))) (fun _ _ _ h => h) ?_; clear hF a; intro a hF))
    (first | (refine t_skip (i := 13) hF rfl rfl rfl (by kernel_rfl) (hM.sm.sub (fun x hx => by repeat (first | exact hx | refine List.mem_cons_of_mem _ ?_)) (fun _ h => by repeat (first | exact h | refine List.mem_cons_of_mem _ ?_))) (fun _ _ _ h => h) ?_; clear hF a; intro a hF))
    (first | (refine t_skip (i := 14) hF rfl rfl rfl (by kernel_rfl) (hM.sm.sub (fun x hx => by repeat (first | exact hx | refine List.mem_cons_of_mem _ ?_)) (fun _ h => by repeat (first | exact h | refine List.mem_cons_of_mem _ ?_))) (fun _ _ _ h => h) ?_; clear hF a; intro a hF))
    (first | (refine t_skip (i := 15) hF rfl rfl rfl (by kernel_rfl) (hM.sm.sub (fun x hx => by repeat (first | exact hx | refine List.mem_cons_of_mem _ ?_)) (fun _ h => by repeat (first | exact h | refine List.mem_cons_of_mem _ ?_))) (fun _ _ _ h => h) ?_; clear hF a; intro a hF))
    (first | (refine t_skip (i := 16) hF rfl rfl rfl (by kernel_rfl) (hM.sm.sub (fun x hx => by repeat (first | exact hx | refine List.mem_cons_of_mem _ ?_)) (fun _ h => by repeat (first | exact h | refine List.mem_cons_of_mem _ ?_))) (fun _ _ _ h => h) ?_; clear hF a; intro a hF))
    (first | (refine t_skip (i := 17) hF rfl rfl rfl (by kernel_rfl) (hM.sm.sub (fun x hx => by repeat (first | exact hx | refine List.mem_cons_of_mem _ ?_)) (fun _ h => by repeat (first | exact h | refine List.mem_cons_of_mem _ ?_))) (fun _ _ _ h => h) ?_; clear hF a; intro a hF))
    (first | (refine t_pure (i := 18) hF rfl rfl rfl rfl (by kernel_rfl) (hM.sm.sub (fun x hx => by repeat (first | exact hx | refine List.mem_cons_of_mem _ ?_)) (fun _ h => by repeat (first | exact h | refine List.mem_cons_of_mem _ ?_))) (fun _ _ _ h => h) ?_ ?_; (first | exact trivial | omega | decide); clear hF a; intro a hF))
    refine t_done (by kernel_rfl) ?_
    (repeat' (first | (with_reducible refine w_seq ?_) | (with_reducible refine c_region ?_) | (with_reducible refine s_nil ?_) | (with_reducible refine q_then_n ?_) | ((with_reducible apply s_pure hF); exact rfl; exact rfl; exact rfl; (first | exact trivial | omega | exact ⟨Int.natCast_nonneg _, Int.ofNat_lt.2 (by assumption)⟩ | decide); clear hF a; intro a hF) | (with_reducible refine w_exit ?_) | (with_reducible refine w_ret ?_) | (with_reducible refine q_then_x ?_) | (with_reducible refine q_blk_x ?_) | ((with_reducible apply c_false2 hF); exact rfl; (first | with_reducible rfl | (refine congrArg Value.bool ?_; focus (simp; done))))))
    (apply f_ret Try.results63 hF hM; (repeat (first | exact RL.nil | (apply RL.tmp; exact rfl) | (apply RL.cell; exact rfl; (repeat (first | exact List.mem_cons_self | refine List.mem_cons_of_mem _ ?_)); exact rfl))); refine Ret.mk hM.since ?_; dsimp only [resV])
    rw [rl_eq hs hn hall (by rw [List.getElem?_eq_none (by omega)]; exact fun h => by cases h)]
/-- A sector at this place belongs to a literal group. -/
def okL (l : List (List Int)) (j : Nat) : Prop := l[j]? ≠ some zr ∧ rl l j = 1
instance (l : List (List Int)) (j : Nat) : Decidable (okL l j) := by unfold okL; infer_instance
/-- How many more sectors the literal group has. -/
def litF (l : List (List Int)) : Nat → Nat → Nat
  | 0, _ => 0
  | f + 1, p => if okL l p then 1 + litF l f (p + 1) else 0
/-- The length of the literal group at a place. -/
def lit (l : List (List Int)) (i : Nat) : Nat := 1 + litF l (l.length - (i + 1)) (i + 1)
/-- The kind and the length of the group at a place. -/
def nx (l : List (List Int)) (i : Nat) : Nat × Nat := if l[i]? = some zr then (2, rl l i) else if 2 ≤ rl l i then (1, rl l i) else (0, lit l i)
theorem rl_pos {l : List (List Int)} {i : Nat} : 1 ≤ rl l i := by unfold rl; omega
theorem rl_le {l : List (List Int)} {i : Nat} (hi : i < l.length) : i + rl l i ≤ l.length := by
  unfold rl
  have := List.Sublist.length_le (List.takeWhile_sublist (p := fun s => decide (l[i]? = some s)) (l := l.drop (i + 1)))
  rw [List.length_drop] at this
  omega
theorem litF_le {l : List (List Int)} : ∀ (f p : Nat), litF l f p ≤ f
  | 0, _ => Nat.le_refl _
  | f + 1, p => by
    rw [litF]
    have := litF_le (l := l) f (p + 1)
    split <;> omega
set_option maxRecDepth 20000 in
theorem next_c (l : List (List Int)) (hw : W8 l) (i : Nat) (q : Int) (hq0 : q = i) (hi : i < l.length) (hlen : l.length ≤ 1000000) (a0 : Option Addr) (c0 : Nat) (own : Nat → Prop) (W : World) (hl : ∀ b, own b → b < W.heap.size) (hv : Has own W (RdF (Value.int .u8) a0 l.flatten)) :
    Calls Try.prog 58 ⟨[.slice a0 l.length c0, .int .i64 q]⟩ W (Ret W fun v _ => v = .agg #[.int .i64 (nx l i).1, .int .i64 i, .int .i64 (nx l i).2]) := by
  subst hq0
  have hM := (Mm.start hl).known hv
  have hw' : ∀ y ∈ l, y.length = 8 := hw
  obtain ⟨s, hs⟩ := get_of_lt hi
  have hs8 := hw s (List.mem_of_getElem? hs)
  have hs' : l[((i : Int)).toNat]? = some s := by rw [Int.toNat_natCast]; exact hs
  obtain ⟨ad, rfl⟩ : ∃ ad, a0 = some ad := by
    have h0 : 0 < s.length := by omega
    exact rd_some hM (by (repeat (first | exact List.mem_cons_self | refine List.mem_cons_of_mem _ ?_))) (flat_get hw hs (List.getElem?_eq_getElem h0))
  have hn := rl_le hi
  have hn1 := rl_pos (l := l) (i := i)
  refine f_start Try.func58 rfl Try.ntmps58 rfl rfl ?_; intro a hF
  (repeat (first | (with_reducible refine w_seq ?_) | (with_reducible refine c_region ?_) | (with_reducible refine s_nil ?_) | ((with_reducible apply s_call (f := 63) hF hM); exact rfl; exact rfl; exact rfl; exact rfl; exact rfl; exact (run_c l hw i _ rfl hi hlen _ c0 _ _ hM.lt (hM.facts _ (by (repeat (first | exact List.mem_cons_self | refine List.mem_cons_of_mem _ ?_))))); clear hF hM a; rintro v w a rfl - hM hF) | ((with_reducible apply s_eqA (ys := zr) hF); exact rfl; exact rfl; exact rfl; exact rfl; kernel_rfl; exact rfl; exact rfl; (first | with_reducible assumption | rfl); rfl; clear hF a; intro a hF) | ((with_reducible apply s_loadS hF hM); exact rfl; exact rfl; (repeat (first | exact List.mem_cons_self | refine List.mem_cons_of_mem _ ?_)); exact rfl; exact rfl; (first | with_reducible assumption | (simp only [Int.toNat_natCast]; with_reducible assumption)); (with_reducible assumption); clear hF a; intro a hF) | (with_reducible refine q_then_n ?_) | ((with_reducible apply s_pure hF); exact rfl; exact rfl; exact rfl; (first | exact trivial | omega | exact ⟨Int.natCast_nonneg _, Int.ofNat_lt.2 (by assumption)⟩ | decide); clear hF a; intro a hF) | ((with_reducible apply s_alloc hF hM); exact rfl; exact rfl; exact rfl; clear hF hM a; intro b w a hM hF) | (with_reducible refine w_block ?_)))
  by_cases hz : s = zr
  · have hnx : nx l i = (2, rl l i) := by unfold nx; rw [if_pos (by rw [hs, hz])]
    rw [decide_eq_true hz] at hF
    (repeat' (first | (with_reducible refine w_seq ?_) | (with_reducible refine c_region ?_) | (with_reducible refine s_nil ?_) | (with_reducible refine q_then_n ?_) | ((with_reducible apply s_pure hF); exact rfl; exact rfl; exact rfl; (first | exact trivial | omega | exact ⟨Int.natCast_nonneg _, Int.ofNat_lt.2 (by assumption)⟩ | decide); clear hF a; intro a hF) | ((with_reducible apply s_store hF hM); exact rfl; exact rfl; exact rfl; exact rfl; (repeat (first | exact Upd.z | apply Upd.s)); exact rfl; exact rfl; exact rfl; clear hM; intro w hM) | (with_reducible refine w_ret ?_) | (with_reducible refine q_then_r ?_) | (with_reducible refine q_blk_r ?_) | ((with_reducible apply c_true2 hF); exact rfl; (first | with_reducible rfl | (refine congrArg Value.bool ?_; focus (simp; done))))))
    (apply f_ret Try.results58 hF hM; (repeat (first | exact RL.nil | (apply RL.tmp; exact rfl) | (apply RL.cell; exact rfl; (repeat (first | exact List.mem_cons_self | refine List.mem_cons_of_mem _ ?_)); exact rfl))); refine Ret.mk hM.since ?_; dsimp only [resV])
    rw [hnx]
    rfl
  rw [decide_eq_false hz] at hF
  by_cases h2 : 2 ≤ rl l i
  · have hnx : nx l i = (1, rl l i) := by unfold nx; rw [if_neg (by rw [hs]; intro h; injection h with h; exact hz h), if_pos h2]
    (repeat' (first | (with_reducible refine w_seq ?_) | (with_reducible refine c_region ?_) | (with_reducible refine s_nil ?_) | (with_reducible refine q_then_n ?_) | ((with_reducible apply s_pure hF); exact rfl; exact rfl; exact rfl; (first | exact trivial | omega | exact ⟨Int.natCast_nonneg _, Int.ofNat_lt.2 (by assumption)⟩ | decide); clear hF a; intro a hF) | ((with_reducible apply s_store hF hM); exact rfl; exact rfl; exact rfl; exact rfl; (repeat (first | exact Upd.z | apply Upd.s)); exact rfl; exact rfl; exact rfl; clear hM; intro w hM) | (with_reducible refine w_ret ?_) | (with_reducible refine q_then_r ?_) | (with_reducible refine q_blk_r ?_) | ((with_reducible apply c_false2 hF); exact rfl; (first | with_reducible rfl | (refine congrArg Value.bool ?_; focus (simp; done)))) | ((with_reducible apply c_dec hF); exact rfl; all_goals intro hc; all_goals (try (exfalso; omega)))))
    (apply f_ret Try.results58 hF hM; (repeat (first | exact RL.nil | (apply RL.tmp; exact rfl) | (apply RL.cell; exact rfl; (repeat (first | exact List.mem_cons_self | refine List.mem_cons_of_mem _ ?_)); exact rfl))); refine Ret.mk hM.since ?_; dsimp only [resV])
    rw [hnx]
    rfl
  have hnx : nx l i = (0, lit l i) := by unfold nx; rw [if_neg (by rw [hs]; intro h; injection h with h; exact hz h), if_neg h2]
  have hr1 : rl l i = 1 := by omega
  rw [hr1] at hF
  (repeat' (first | (with_reducible refine w_seq ?_) | (with_reducible refine c_region ?_) | (with_reducible refine s_nil ?_) | (with_reducible refine q_then_n ?_) | ((with_reducible apply s_pure hF); exact rfl; exact rfl; exact rfl; (first | exact trivial | omega | exact ⟨Int.natCast_nonneg _, Int.ofNat_lt.2 (by assumption)⟩ | decide); clear hF a; intro a hF) | (with_reducible refine w_skip ?_) | (with_reducible refine w_block ?_) | (with_reducible refine q_blk_n ?_) | ((with_reducible apply c_false2 hF); exact rfl; (first | with_reducible rfl | (refine congrArg Value.bool ?_; focus (simp; done))))))
  refine c_loop (m := l.length) (fun m a w' => ∃ n : Nat, m + n = l.length + 1 ∧ 1 ≤ n ∧ i + n ≤ l.length ∧ lit l i = n + litF l (l.length - (i + n)) (i + n) ∧
    Fr 54 [] [(5, .int .i64 n), (4, .pointer (some ⟨b, 0, none⟩)), (0, .slice (some ad) l.length c0), (1, .int .i64 i)] a ∧ Mm own W [⟨b, ⟨[.int .i64 0, .int .i64 0, .int .i64 0]⟩, 84⟩] [] [RdF (Value.int .u8) (some ad) l.flatten] w') ⟨1, by omega, by omega, by omega, rfl, hF.sub (by repeat (first | exact Sub.nil | refine Sub.cons rfl (by first | with_reducible rfl | (refine congrArg (Value.int _) ?_; omega) | exact rfl) ?_)), hM⟩ ?_
  clear hF hM a
  rintro m a w' ⟨n, hm, hn, hin, hlit, hF, hM⟩
  by_cases hlt : i + n < l.length
  · obtain ⟨s2, hs2⟩ := get_of_lt hlt
    have hs28 := hw s2 (List.mem_of_getElem? hs2)
    have hs2' : l[((i : Int) + (n : Int)).toNat]? = some s2 := by rw [show ((i : Int) + (n : Int)).toNat = i + n by omega]; exact hs2
    rw [show l.length - (i + n) = (l.length - (i + (n + 1))) + 1 by omega, litF, show i + n + 1 = i + (n + 1) by omega] at hlit
    (repeat' (first | (with_reducible refine w_seq ?_) | (with_reducible refine c_region ?_) | (with_reducible refine s_nil ?_) | ((with_reducible apply s_call (f := 63) hF hM); exact rfl; exact rfl; exact rfl; exact rfl; exact rfl; exact (run_c l hw (i + n) _ (by omega) hlt hlen _ c0 _ _ hM.lt (hM.facts _ (by (repeat (first | exact List.mem_cons_self | refine List.mem_cons_of_mem _ ?_))))); clear hF hM a; rintro v w a rfl - hM hF) | ((with_reducible apply s_eqA (ys := zr) hF); exact rfl; exact rfl; exact rfl; exact rfl; kernel_rfl; exact rfl; exact rfl; (first | with_reducible assumption | rfl); rfl; clear hF a; intro a hF) | ((with_reducible apply s_loadS hF hM); exact rfl; exact rfl; (repeat (first | exact List.mem_cons_self | refine List.mem_cons_of_mem _ ?_)); exact rfl; exact rfl; (first | with_reducible assumption | (simp only [Int.toNat_natCast]; with_reducible assumption)); (with_reducible assumption); clear hF a; intro a hF) | (with_reducible refine q_then_n ?_) | ((with_reducible apply s_pure hF); exact rfl; exact rfl; exact rfl; (first | exact trivial | omega | exact ⟨Int.natCast_nonneg _, Int.ofNat_lt.2 (by assumption)⟩ | decide); clear hF a; intro a hF) | ((with_reducible apply s_store hF hM); exact rfl; exact rfl; exact rfl; exact rfl; (repeat (first | exact Upd.z | apply Upd.s)); exact rfl; exact rfl; exact rfl; clear hM; intro w hM) | (with_reducible refine w_skip ?_) | (with_reducible refine w_block ?_) | (with_reducible refine w_exit ?_) | (with_reducible refine w_ret ?_) | (with_reducible refine q_then_x ?_) | (with_reducible refine q_blk_n ?_) | (with_reducible refine q_blk_x ?_) | ((with_reducible apply c_false2 hF); exact rfl; (first | with_reducible rfl | (refine congrArg Value.bool ?_; focus (simp; done)))) | ((with_reducible apply s_skip hF); exact rfl; exact rfl; clear hF a; intro a hF) | ((with_reducible apply g_dec hF); exact rfl; exact rfl; all_goals (clear hF; intro hc hF); all_goals (try (exfalso; omega))) | ((with_reducible apply g_ndec hF); exact rfl; exact rfl; all_goals (clear hF; intro hc hF); all_goals (try (exfalso; omega))) | ((with_reducible apply c_dec hF); exact rfl; all_goals intro hc; all_goals (try (exfalso; omega)))))
    · have hz2 : ¬ s2 = zr := by assumption
      rw [if_pos ⟨by rw [hs2]; intro h; injection h with h; exact hz2 h, by omega⟩] at hlit
      exact ⟨m - 1, by omega, n + 1, by omega, by omega, by omega, by omega, hF.sub (by repeat (first | exact Sub.nil | refine Sub.cons rfl (by first | with_reducible rfl | (refine congrArg (Value.int _) ?_; omega) | exact rfl) ?_)), hM⟩
    · (apply f_ret Try.results58 hF hM; (repeat (first | exact RL.nil | (apply RL.tmp; exact rfl) | (apply RL.cell; exact rfl; (repeat (first | exact List.mem_cons_self | refine List.mem_cons_of_mem _ ?_)); exact rfl))); refine Ret.mk hM.since ?_; dsimp only [resV])
      rw [if_neg (fun h => by have := h.2; omega)] at hlit
      rw [hnx, hlit]
      rfl
    · (apply f_ret Try.results58 hF hM; (repeat (first | exact RL.nil | (apply RL.tmp; exact rfl) | (apply RL.cell; exact rfl; (repeat (first | exact List.mem_cons_self | refine List.mem_cons_of_mem _ ?_)); exact rfl))); refine Ret.mk hM.since ?_; dsimp only [resV])
      have hz2 : s2 = zr := by assumption
      rw [if_neg (fun h => h.1 (by rw [hs2, hz2]))] at hlit
      rw [hnx, hlit]
      rfl
  · rw [show l.length - (i + n) = 0 by omega, litF] at hlit
    (repeat' (first | (with_reducible refine w_seq ?_) | (with_reducible refine c_region ?_) | (with_reducible refine s_nil ?_) | (with_reducible refine q_then_n ?_) | ((with_reducible apply s_pure hF); exact rfl; exact rfl; exact rfl; (first | exact trivial | omega | exact ⟨Int.natCast_nonneg _, Int.ofNat_lt.2 (by assumption)⟩ | decide); clear hF a; intro a hF) | ((with_reducible apply s_store hF hM); exact rfl; exact rfl; exact rfl; exact rfl; (repeat (first | exact Upd.z | apply Upd.s)); exact rfl; exact rfl; exact rfl; clear hM; intro w hM) | (with_reducible refine w_exit ?_) | (with_reducible refine w_ret ?_) | (with_reducible refine q_then_x ?_) | (with_reducible refine q_blk_x ?_) | ((with_reducible apply c_false2 hF); exact rfl; (first | with_reducible rfl | (refine congrArg Value.bool ?_; focus (simp; done)))) | ((with_reducible apply s_skip hF); exact rfl; exact rfl; clear hF a; intro a hF) | ((with_reducible apply g_dec hF); exact rfl; exact rfl; all_goals (clear hF; intro hc hF); all_goals (try (exfalso; omega)))))
    (apply f_ret Try.results58 hF hM; (repeat (first | exact RL.nil | (apply RL.tmp; exact rfl) | (apply RL.cell; exact rfl; (repeat (first | exact List.mem_cons_self | refine List.mem_cons_of_mem _ ?_)); exact rfl))); refine Ret.mk hM.since ?_; dsimp only [resV])
    rw [hnx, hlit]
    rfl
end Go.Proofs.Ytocgpllmfdnfjaa

/- runlength: the groups as a sequence. -/
namespace Go.Proofs.Ytocgpllmfdnfjaa
open Go.RowKit Go.Shelf
/-- The places where the groups of a list begin, from a place on. -/
def grpF (l : List (List Int)) : Nat → Nat → List (Fin l.length)
  | 0, _ => []
  | f + 1, i => if h : i < l.length then ⟨i, h⟩ :: grpF l f (i + (nx l i).2) else []
def grp (l : List (List Int)) : List (Fin l.length) := grpF l l.length 0
def gv (l : List (List Int)) (i : Nat) : Value := .agg #[.int .i64 (nx l i).1, .int .i64 i, .int .i64 (nx l i).2]
theorem nx_pos {l : List (List Int)} {i : Nat} : 1 ≤ (nx l i).2 := by
  unfold nx lit
  have := rl_pos (l := l) (i := i)
  split
  · exact this
  · split
    · exact this
    · simp only; omega
theorem nx_le {l : List (List Int)} {i : Nat} (hi : i < l.length) : i + (nx l i).2 ≤ l.length := by
  unfold nx lit
  have := rl_le hi
  have := litF_le (l := l) (l.length - (i + 1)) (i + 1)
  split
  · assumption
  · split
    · assumption
    · simp only; omega
theorem Since.trans' {W0 w w' : World} (h : Since W0 w) (k : Below W0.heap.size w w') : Since W0 w' := Below.trans h k
/-- What a round keeps for the sequence of groups. -/
def Kg (W0 A B : World) : Prop := Below W0.heap.size A B ∧ KT W0.heap.size 84 A B ∧ KT W0.heap.size 33 A B
theorem Kg.trans {W0 A B C : World} (h : Kg W0 A B) (k : Kg W0 B C) : Kg W0 A C := ⟨h.1.trans k.1, h.2.1.trans k.2.1, h.2.2.trans k.2.2⟩
theorem groups_c (a0 : Option Addr) (n c0 : Nat) (own : Nat → Prop) (W : World) (hl : ∀ b, own b → b < W.heap.size) :
    Calls Try.prog 50 ⟨[.slice a0 n c0]⟩ W (Ret W fun v w' => ∃ b, W.heap.size ≤ b ∧ v = .func (.func 57) #[] #[.pointer (some ⟨b, 0, none⟩)] ∧ Box w' b ⟨[.slice a0 n c0]⟩ 33) := by
  have hM := Mm.start hl
  refine f_start Try.func50 rfl Try.ntmps50 rfl rfl ?_; intro a hF
  (repeat (first | (with_reducible refine w_seq ?_) | (with_reducible refine c_region ?_) | (with_reducible refine s_nil ?_) | (with_reducible refine q_then_n ?_) | ((with_reducible apply s_pure hF); exact rfl; exact rfl; exact rfl; (first | exact trivial | omega | exact ⟨Int.natCast_nonneg _, Int.ofNat_lt.2 (by assumption)⟩ | decide); clear hF a; intro a hF) | ((with_reducible apply s_box hF hM); exact rfl; exact rfl; exact rfl; exact rfl; clear hF hM a; intro b w a hM hF) | (with_reducible refine w_ret ?_)))
  (apply f_ret Try.results50 hF hM; (repeat (first | exact RL.nil | (apply RL.tmp; exact rfl) | (apply RL.cell; exact rfl; (repeat (first | exact List.mem_cons_self | refine List.mem_cons_of_mem _ ?_)); exact rfl))); refine Ret.mk hM.since ?_; dsimp only [resV])
  exact ⟨_, hM.mem.new _ List.mem_cons_self, rfl, hM.bx List.mem_cons_self⟩
set_option maxRecDepth 20000 in
theorem groups_stops (l : List (List Int)) (hw : W8 l) (hlen : l.length ≤ 1000000) (a0 : Option Addr) (c0 b0 : Nat) (W0 w : World) (hr : Reads (Value.int .u8) W0 a0 l.flatten) (hs : Since W0 w) (hb : W0.heap.size ≤ b0) (hbx : Box w b0 ⟨[.slice a0 l.length c0]⟩ 33) :
    SeqStopsK Fence.wide 8 Try.prog 57 #[.pointer (some ⟨b0, 0, none⟩)] (fun i : Fin l.length => #[gv l i]) (Kg W0) (fun ys => ys = grp l) (fun pre => ∃ k, pre = (grp l).take k) (grp l).length w := by
  intro lp J Jx W hW hJ hJx hY h0
  refine callsIn_wide.2 ?_
  show Calls Try.prog _ ⟨[.func (.yield lp) #[] #[], .pointer (some ⟨b0, 0, none⟩)]⟩ W _
  have hM : Mm (fun _ => False) W [] [] [] W := Mm.start (fun _ h => h.elim)
  refine f_start Try.func57 rfl Try.ntmps57 rfl rfl ?_; intro a hF
  (repeat' (first | (with_reducible refine w_seq ?_) | (with_reducible refine c_region ?_) | (with_reducible refine s_nil ?_) | (with_reducible refine q_then_n ?_) | ((with_reducible apply s_pure hF); exact rfl; exact rfl; exact rfl; (first | exact trivial | omega | exact ⟨Int.natCast_nonneg _, Int.ofNat_lt.2 (by assumption)⟩ | decide); clear hF a; intro a hF) | (with_reducible refine w_block ?_)))
  have hsW : Since W0 W := hs.trans hW
  have hbW : Box W b0 ⟨[.slice a0 l.length c0]⟩ 33 := hbx.of_block (hW.block _ hbx.lt)
  refine c_loop (m := l.length) (fun m a w' => ∃ (i f : Nat) (pre : List (Fin l.length)), m + i = l.length ∧ l.length ≤ i + f ∧ grp l = pre ++ grpF l f i ∧ J pre w' ∧ Since W0 w' ∧ Box w' b0 ⟨[.slice a0 l.length c0]⟩ 33 ∧
    Fr 20 [] [(3, .int .i64 i), (0, .func (.yield lp) #[] #[]), (1, .pointer (some ⟨b0, 0, none⟩))] a) ⟨0, l.length, [], by omega, by omega, rfl, h0, hsW, hbW, hF.sub (by repeat (first | exact Sub.nil | refine Sub.cons rfl (by first | with_reducible rfl | (refine congrArg (Value.int _) ?_; omega) | exact rfl) ?_))⟩ ?_
  clear hF hM a
  rintro m a w' ⟨i, f, pre, hm, hf, hg, hJp, hsp, hbp, hF⟩
  have hM : Mm (fun _ => False) w' [] [] [RdF (Value.int .u8) a0 l.flatten, BxF b0 [.slice a0 l.length c0] 33] w' :=
    ((Mm.start (fun _ h => h.elim)).known (BxF.has hbp)).known (RdF.has (hr.since hsp) fun _ _ k => k)
  by_cases hlt : i < l.length
  · obtain ⟨f, rfl⟩ : ∃ f', f = f' + 1 := ⟨f - 1, by omega⟩
    rw [grpF, dif_pos hlt] at hg
    with_reducible refine w_seq ?_
    refine c_cut (fun a' w1 => w1 = w' ∧ Fr 20 [] [(3, .int .i64 i), (0, .func (.yield lp) #[] #[]), (1, .pointer (some ⟨b0, 0, none⟩))] a') ?_ ?_
    · (repeat' (first | (with_reducible refine w_seq ?_) | (with_reducible refine c_region ?_) | (with_reducible refine s_nil ?_) | (with_reducible refine q_then_n ?_) | ((with_reducible apply s_pure hF); exact rfl; exact rfl; exact rfl; (first | exact trivial | omega | exact ⟨Int.natCast_nonneg _, Int.ofNat_lt.2 (by assumption)⟩ | decide); clear hF a; intro a hF) | ((with_reducible apply s_loadK hF hM); exact rfl; exact rfl; (repeat (first | exact List.mem_cons_self | refine List.mem_cons_of_mem _ ?_)); exact rfl; exact rfl; clear hF a; intro a hF) | (with_reducible refine w_skip ?_) | ((with_reducible apply c_dec hF); exact rfl; all_goals intro hc; all_goals (try (exfalso; omega)))))
      exact q_cut ⟨rfl, hF.sub (by repeat (first | exact Sub.nil | refine Sub.cons rfl (by first | with_reducible rfl | (refine congrArg (Value.int _) ?_; omega) | exact rfl) ?_))⟩
    clear hF a
    rintro a w1 ⟨rfl, hF⟩
    with_reducible refine w_block ?_
    with_reducible refine w_seq ?_
    refine c_cut (fun a' w2 => ∃ b4, Fr 20 [] [(4, .pointer (some ⟨b4, 0, none⟩)), (3, .int .i64 i), (0, .func (.yield lp) #[] #[]), (1, .pointer (some ⟨b0, 0, none⟩))] a' ∧
      Mm (fun _ => False) w1 [⟨b4, ⟨[.int .i64 (nx l i).1, .int .i64 i, .int .i64 (nx l i).2]⟩, 84⟩] [] [RdF (Value.int .u8) a0 l.flatten, BxF b0 [.slice a0 l.length c0] 33] w2) ?_ ?_
    · (repeat (first | (with_reducible refine c_region ?_) | (with_reducible refine s_nil ?_) | ((with_reducible apply s_call (f := 58) hF hM); exact rfl; exact rfl; exact rfl; exact rfl; exact rfl; exact (next_c l hw i _ rfl hlt hlen _ c0 _ _ hM.lt (hM.facts (RdF (Value.int .u8) a0 l.flatten) (by (repeat (first | exact List.mem_cons_self | refine List.mem_cons_of_mem _ ?_))))); clear hF hM a; rintro v w a rfl - hM hF) | ((with_reducible apply s_pure hF); exact rfl; exact rfl; exact rfl; (first | exact trivial | omega | exact ⟨Int.natCast_nonneg _, Int.ofNat_lt.2 (by assumption)⟩ | decide); clear hF a; intro a hF) | ((with_reducible apply s_loadK hF hM); exact rfl; exact rfl; (repeat (first | exact List.mem_cons_self | refine List.mem_cons_of_mem _ ?_)); exact rfl; exact rfl; clear hF a; intro a hF) | ((with_reducible apply s_store hF hM); exact rfl; exact rfl; exact rfl; exact rfl; (repeat (first | exact Upd.z | apply Upd.s)); exact rfl; exact rfl; exact rfl; clear hM; intro w hM) | ((with_reducible apply s_alloc hF hM); exact rfl; exact rfl; exact rfl; clear hF hM a; intro b w a hM hF)))
      exact q_cut ⟨b, hF.sub (by repeat (first | exact Sub.nil | refine Sub.cons rfl (by first | with_reducible rfl | (refine congrArg (Value.int _) ?_; omega) | exact rfl) ?_)), hM⟩
    clear hF hM a
    rintro a w2 ⟨b4, hF, hM⟩
    with_reducible refine w_seq ?_
    with_reducible refine w_seq ?_
    apply c_yield (n := 20) (ds := []) 2 7
    · exact rfl
    · exact rfl
    show wl _ _ [_, _] _ _
    (repeat (first | (with_reducible refine s_nil ?_) | (with_reducible refine q_then_n ?_) | ((with_reducible apply s_pure hF); exact rfl; exact rfl; exact rfl; (first | exact trivial | omega | exact ⟨Int.natCast_nonneg _, Int.ofNat_lt.2 (by assumption)⟩ | decide); clear hF a; intro a hF) | ((with_reducible apply s_load hF hM); exact rfl; exact rfl; (repeat (first | exact List.mem_cons_self | refine List.mem_cons_of_mem _ ?_)); exact rfl; exact rfl; clear hF a; intro a hF)))
    have hJ2 : J pre w2 := hJ pre w1 w2 none hJp hM.since.grows (fun r e => by cases e)
    have hlp : pre.length < (grp l).length := by rw [hg]; simp
    refine ⟨_, [gv l i], lp, _, hF, rfl, rfl, hY pre ⟨i, hlt⟩ w2 hJ2 hlp, ?_⟩
    have hk := hM.bx List.mem_cons_self
    have hs2 : Since W0 w2 := hsp.trans hM.since
    have hb2 : Box w2 b0 ⟨[.slice a0 l.length c0]⟩ 33 := hM.fact (f := BxF b0 [.slice a0 l.length c0] 33) (by (repeat (first | exact List.mem_cons_self | refine List.mem_cons_of_mem _ ?_)))
    have h4 : W0.heap.size ≤ b4 := Nat.le_trans hsp.size (hM.mem.new _ List.mem_cons_self)
    rintro e w3 (⟨rfl, hJ3, k1, k2, k3⟩ | ⟨rfl, hJx3⟩)
    · refine ⟨_, rfl, fun a hF => ?_⟩
      have hk3 : Box w3 b4 _ _ := k2 b4 _ h4 hk
      have hb3 : Box w3 b0 _ _ := k3 b0 _ hb hb2
      have hs3 : Since W0 w3 := hs2.trans' k1
      clear hM
      have hM : Mm (fun _ => False) w3 [] [] [BxF b4 [.int .i64 (nx l i).1, .int .i64 i, .int .i64 (nx l i).2] 84] w3 := (Mm.start (fun _ h => h.elim)).known (BxF.has hk3)
      have hnp := nx_pos (l := l) (i := i)
      have hnl := nx_le hlt
      (repeat' (first | (with_reducible refine c_region ?_) | (with_reducible refine s_nil ?_) | (with_reducible refine q_then_n ?_) | ((with_reducible apply s_pure hF); exact rfl; exact rfl; exact rfl; (first | exact trivial | omega | exact ⟨Int.natCast_nonneg _, Int.ofNat_lt.2 (by assumption)⟩ | decide); clear hF a; intro a hF) | ((with_reducible apply s_loadK hF hM); exact rfl; exact rfl; (repeat (first | exact List.mem_cons_self | refine List.mem_cons_of_mem _ ?_)); exact rfl; exact rfl; clear hF a; intro a hF) | (with_reducible refine w_skip ?_) | (with_reducible refine q_blk_n ?_) | ((with_reducible apply c_false2 hF); exact rfl; (first | with_reducible rfl | (refine congrArg Value.bool ?_; focus (simp; done))))))
      exact ⟨m - (nx l i).2, by omega, i + (nx l i).2, f, pre ++ [⟨i, hlt⟩], by omega, by omega, by rw [hg]; simp, hJ3, hs3, hb3, hF.sub (by repeat (first | exact Sub.nil | refine Sub.cons rfl (by first | with_reducible rfl | (refine congrArg (Value.int _) ?_; omega) | exact rfl) ?_))⟩
    · refine ⟨_, rfl, fun a hF => ?_⟩
      clear hM
      have hM : Mm (fun _ => False) w3 [] [] [] w3 := Mm.start (fun _ h => h.elim)
      (repeat' (first | (with_reducible refine s_nil ?_) | (with_reducible refine q_then_n ?_) | ((with_reducible apply s_pure hF); exact rfl; exact rfl; exact rfl; (first | exact trivial | omega | exact ⟨Int.natCast_nonneg _, Int.ofNat_lt.2 (by assumption)⟩ | decide); clear hF a; intro a hF) | (with_reducible refine w_ret ?_) | (with_reducible refine q_then_r ?_) | (with_reducible refine q_blk_r ?_) | ((with_reducible apply c_true2 hF); exact rfl; (first | with_reducible rfl | (refine congrArg Value.bool ?_; focus (simp; done))))))
      (apply f_ret Try.results57 hF hM; (repeat (first | exact RL.nil | (apply RL.tmp; exact rfl) | (apply RL.cell; exact rfl; (repeat (first | exact List.mem_cons_self | refine List.mem_cons_of_mem _ ?_)); exact rfl))); try dsimp only [resV])
      refine ⟨⟨_, rfl⟩, .inr ⟨_, ⟨pre.length + 1, ?_⟩, hJx3⟩⟩
      rw [hg, show pre.length + 1 = (pre ++ [(⟨i, hlt⟩ : Fin l.length)]).length by simp, show pre ++ ⟨i, hlt⟩ :: grpF l f (i + (nx l i).2) = (pre ++ [⟨i, hlt⟩]) ++ grpF l f (i + (nx l i).2) by simp, List.take_left']
      rfl
  · have hi : i = l.length := by omega
    have hg2 : grpF l f i = [] := by
      cases f with
      | zero => rfl
      | succ f => rw [grpF, dif_neg hlt]
    (repeat' (first | (with_reducible refine w_seq ?_) | (with_reducible refine c_region ?_) | (with_reducible refine s_nil ?_) | (with_reducible refine q_then_n ?_) | ((with_reducible apply s_pure hF); exact rfl; exact rfl; exact rfl; (first | exact trivial | omega | exact ⟨Int.natCast_nonneg _, Int.ofNat_lt.2 (by assumption)⟩ | decide); clear hF a; intro a hF) | ((with_reducible apply s_loadK hF hM); exact rfl; exact rfl; (repeat (first | exact List.mem_cons_self | refine List.mem_cons_of_mem _ ?_)); exact rfl; exact rfl; clear hF a; intro a hF) | (with_reducible refine w_exit ?_) | (with_reducible refine q_then_x ?_) | (with_reducible refine q_blk_x ?_) | ((with_reducible apply c_dec hF); exact rfl; all_goals intro hc; all_goals (try (exfalso; omega)))))
    (apply f_end Try.results57 hF hM; (repeat (first | exact RL.nil | (apply RL.tmp; exact rfl) | (apply RL.cell; exact rfl; (repeat (first | exact List.mem_cons_self | refine List.mem_cons_of_mem _ ?_)); exact rfl))); try dsimp only [resV])
    rw [hg2, List.append_nil] at hg
    refine ⟨⟨_, rfl⟩, .inl ⟨_, hg.symm, ?_⟩⟩
    exact hJ pre _ _ none hJp hM.since.grows (fun r e => by cases e)
end Go.Proofs.Ytocgpllmfdnfjaa

/- slices.Clone of a byte string. -/
namespace Go.Proofs.Ytocgpllmfdnfjaa
open Go.RowKit Go.Shelf
set_option maxRecDepth 20000 in
theorem cloneB_c (a0 : Option Addr) (c0 : Nat) (xs : List Int) (own : Nat → Prop) (W : World) (hl : ∀ b, own b → b < W.heap.size) (hv : Has own W (RdF (Value.int .u8) a0 xs)) (hb : xs.length ≤ 10000000000) :
    Calls Try.prog 56 ⟨[.slice a0 xs.length c0]⟩ W (Ret W fun v w' => ∃ a' c', v = .slice a' xs.length c' ∧ Owns w' W.heap.size [⟨5, 1, .slice a' xs.length c', xs.length, xs.map (Value.int .u8)⟩]) := by
  have hM := (Mm.start hl).known hv
  cases a0 with
  | none =>
    obtain rfl : xs = [] := by
      cases xs with
      | nil => rfl
      | cons x r => obtain ⟨ad, h⟩ := rd_some hM (by (repeat (first | exact List.mem_cons_self | refine List.mem_cons_of_mem _ ?_))) (k := 0) (x := x) rfl; cases h
    refine f_start Try.func56 rfl Try.ntmps56 rfl rfl ?_; intro a hF
    (repeat' (first | (with_reducible refine w_seq ?_) | (with_reducible refine c_region ?_) | ((with_reducible refine c_regionR ?_ ?_); rotate_left; exact rfl) | (with_reducible refine s_nil ?_) | ((with_reducible apply s_eqn hF); exact rfl; exact rfl; exact rfl; exact rfl; exact rfl; exact rfl; clear hF a; intro a hF) | ((with_reducible apply s_appF hF hM); exact rfl; exact rfl; (repeat (first | exact List.mem_cons_self | refine List.mem_cons_of_mem _ ?_)); exact rfl; exact rfl; (repeat (first | exact Kth.z | apply Kth.s)); (intro _; exact rfl); exact rfl; omega; clear hF hM a; intro g cap w a hM hF; dsimp only [List.set] at hM) | ((with_reducible apply s_lit0 hF hM); exact rfl; exact rfl; exact rfl; exact rfl; clear hF hM a; intro bl w a hM hF) | (with_reducible refine q_then_n ?_) | ((with_reducible apply s_pure hF); exact rfl; exact rfl; exact rfl; (first | exact trivial | omega | exact ⟨Int.natCast_nonneg _, Int.ofNat_lt.2 (by assumption)⟩ | decide); clear hF a; intro a hF) | ((with_reducible apply s_load hF hM); exact rfl; exact rfl; (repeat (first | exact List.mem_cons_self | refine List.mem_cons_of_mem _ ?_)); exact rfl; exact rfl; clear hF a; intro a hF) | ((with_reducible apply s_loadF hF hM); exact rfl; exact rfl; (repeat (first | exact List.mem_cons_self | refine List.mem_cons_of_mem _ ?_)); exact rfl; exact rfl; (first | with_reducible assumption | (simp only [Int.toNat_natCast]; with_reducible assumption)); clear hF a; intro a hF) | ((with_reducible apply s_loadR hF hM); exact rfl; exact rfl; (repeat (first | exact List.mem_cons_self | refine List.mem_cons_of_mem _ ?_)); exact rfl; exact rfl; (first | with_reducible assumption | (simp only [Int.toNat_natCast]; with_reducible assumption)); clear hF a; intro a hF) | ((with_reducible apply s_loadK hF hM); exact rfl; exact rfl; (repeat (first | exact List.mem_cons_self | refine List.mem_cons_of_mem _ ?_)); exact rfl; exact rfl; clear hF a; intro a hF) | ((with_reducible apply s_loadB hF hM); exact rfl; exact rfl; (repeat (first | exact List.mem_cons_self | refine List.mem_cons_of_mem _ ?_)); exact rfl; exact rfl; clear hF a; intro a hF) | ((with_reducible apply s_store hF hM); exact rfl; exact rfl; exact rfl; exact rfl; (repeat (first | exact Upd.z | apply Upd.s)); exact rfl; exact rfl; exact rfl; clear hM; intro w hM) | ((with_reducible apply s_alloc hF hM); exact rfl; exact rfl; exact rfl; clear hF hM a; intro b w a hM hF) | ((with_reducible apply s_box hF hM); exact rfl; exact rfl; exact rfl; exact rfl; clear hF hM a; intro b w a hM hF) | ((with_reducible apply s_lit hF hM); exact rfl; exact rfl; exact rfl; exact rfl; clear hF hM a; intro bl w a hM hF) | ((with_reducible apply s_app hF hM); exact rfl; exact rfl; exact rfl; exact rfl; (repeat (first | exact Kth.z | apply Kth.s)); exact rfl; exact rfl; exact rfl; exact rfl; omega; clear hF hM a; intro g cap w a hM hF; dsimp only [List.set] at hM) | (with_reducible refine w_skip ?_) | (with_reducible refine r_succ ?_) | (with_reducible refine w_block ?_) | (with_reducible refine w_exit ?_) | (with_reducible refine w_ret ?_) | (with_reducible refine q_then_x ?_) | (with_reducible refine q_then_r ?_) | (with_reducible refine q_blk_n ?_) | (with_reducible refine q_blk_r ?_) | (with_reducible refine q_blk_x ?_) | (with_reducible refine q_blk_y rfl ?_) | ((with_reducible apply c_true2 hF); exact rfl; (first | with_reducible rfl | (refine congrArg Value.bool ?_; focus (simp; done)))) | ((with_reducible apply c_false2 hF); exact rfl; (first | with_reducible rfl | (refine congrArg Value.bool ?_; focus (simp; done)))) | ((with_reducible apply s_skip hF); exact rfl; exact rfl; clear hF a; intro a hF) | ((with_reducible apply s_pure0 hF); exact rfl; exact rfl; (first | exact trivial | omega | decide)) | ((with_reducible apply s_skip0 hF); exact rfl) | ((with_reducible apply g_dec hF); exact rfl; exact rfl; all_goals (clear hF; intro hc hF); all_goals (try (exfalso; omega))) | ((with_reducible apply g_ndec hF); exact rfl; exact rfl; all_goals (clear hF; intro hc hF); all_goals (try (exfalso; omega))) | ((with_reducible apply g_nbool hF); exact rfl; exact rfl; all_goals (clear hF; intro hc hF)) | ((with_reducible apply g_bool hF); exact rfl; exact rfl; all_goals (clear hF; intro hc hF)) | ((with_reducible apply c_dec hF); exact rfl; all_goals intro hc; all_goals (try (exfalso; omega))) | ((with_reducible apply c_ndec hF); exact rfl; all_goals intro hc; all_goals (try (exfalso; omega))) | ((with_reducible apply c_nbool hF); exact rfl; all_goals intro hc) | ((with_reducible apply c_bool hF); exact rfl; all_goals intro hc)))
    (apply f_ret Try.results56 hF hM; (repeat (first | exact RL.nil | (apply RL.tmp; exact rfl) | (apply RL.cell; exact rfl; (repeat (first | exact List.mem_cons_self | refine List.mem_cons_of_mem _ ?_)); exact rfl))); refine Ret.mk hM.since ?_; dsimp only [resV])
    exact ⟨none, 0, rfl, (Owns.nil _ _).cons _ _⟩
  | some ad =>
    refine f_start Try.func56 rfl Try.ntmps56 rfl rfl ?_; intro a hF
    (repeat' (first | (with_reducible refine w_seq ?_) | (with_reducible refine c_region ?_) | ((with_reducible refine c_regionR ?_ ?_); rotate_left; exact rfl) | (with_reducible refine s_nil ?_) | ((with_reducible apply s_eqn hF); exact rfl; exact rfl; exact rfl; exact rfl; exact rfl; exact rfl; clear hF a; intro a hF) | ((with_reducible apply s_appF hF hM); exact rfl; exact rfl; (repeat (first | exact List.mem_cons_self | refine List.mem_cons_of_mem _ ?_)); exact rfl; exact rfl; (repeat (first | exact Kth.z | apply Kth.s)); (intro _; exact rfl); exact rfl; omega; clear hF hM a; intro g cap w a hM hF; dsimp only [List.set] at hM) | ((with_reducible apply s_lit0 hF hM); exact rfl; exact rfl; exact rfl; exact rfl; clear hF hM a; intro bl w a hM hF) | (with_reducible refine q_then_n ?_) | ((with_reducible apply s_pure hF); exact rfl; exact rfl; exact rfl; (first | exact trivial | omega | exact ⟨Int.natCast_nonneg _, Int.ofNat_lt.2 (by assumption)⟩ | decide); clear hF a; intro a hF) | ((with_reducible apply s_load hF hM); exact rfl; exact rfl; (repeat (first | exact List.mem_cons_self | refine List.mem_cons_of_mem _ ?_)); exact rfl; exact rfl; clear hF a; intro a hF) | ((with_reducible apply s_loadF hF hM); exact rfl; exact rfl; (repeat (first | exact List.mem_cons_self | refine List.mem_cons_of_mem _ ?_)); exact rfl; exact rfl; (first | with_reducible assumption | (simp only [Int.toNat_natCast]; with_reducible assumption)); clear hF a; intro a hF) | ((with_reducible apply s_loadR hF hM); exact rfl; exact rfl; (repeat (first | exact List.mem_cons_self | refine List.mem_cons_of_mem _ ?_)); exact rfl; exact rfl; (first | with_reducible assumption | (simp only [Int.toNat_natCast]; with_reducible assumption)); clear hF a; intro a hF) | ((with_reducible apply s_loadK hF hM); exact rfl; exact rfl; (repeat (first | exact List.mem_cons_self | refine List.mem_cons_of_mem _ ?_)); exact rfl; exact rfl; clear hF a; intro a hF) | ((with_reducible apply s_loadB hF hM); exact rfl; exact rfl; (repeat (first | exact List.mem_cons_self | refine List.mem_cons_of_mem _ ?_)); exact rfl; exact rfl; clear hF a; intro a hF) | ((with_reducible apply s_store hF hM); exact rfl; exact rfl; exact rfl; exact rfl; (repeat (first | exact Upd.z | apply Upd.s)); exact rfl; exact rfl; exact rfl; clear hM; intro w hM) | ((with_reducible apply s_alloc hF hM); exact rfl; exact rfl; exact rfl; clear hF hM a; intro b w a hM hF) | ((with_reducible apply s_box hF hM); exact rfl; exact rfl; exact rfl; exact rfl; clear hF hM a; intro b w a hM hF) | ((with_reducible apply s_lit hF hM); exact rfl; exact rfl; exact rfl; exact rfl; clear hF hM a; intro bl w a hM hF) | ((with_reducible apply s_app hF hM); exact rfl; exact rfl; exact rfl; exact rfl; (repeat (first | exact Kth.z | apply Kth.s)); exact rfl; exact rfl; exact rfl; exact rfl; omega; clear hF hM a; intro g cap w a hM hF; dsimp only [List.set] at hM) | (with_reducible refine w_skip ?_) | (with_reducible refine r_succ ?_) | (with_reducible refine w_block ?_) | (with_reducible refine w_exit ?_) | (with_reducible refine w_ret ?_) | (with_reducible refine q_then_x ?_) | (with_reducible refine q_then_r ?_) | (with_reducible refine q_blk_n ?_) | (with_reducible refine q_blk_r ?_) | (with_reducible refine q_blk_x ?_) | (with_reducible refine q_blk_y rfl ?_) | ((with_reducible apply c_true2 hF); exact rfl; (first | with_reducible rfl | (refine congrArg Value.bool ?_; focus (simp; done)))) | ((with_reducible apply c_false2 hF); exact rfl; (first | with_reducible rfl | (refine congrArg Value.bool ?_; focus (simp; done)))) | ((with_reducible apply s_skip hF); exact rfl; exact rfl; clear hF a; intro a hF) | ((with_reducible apply s_pure0 hF); exact rfl; exact rfl; (first | exact trivial | omega | decide)) | ((with_reducible apply s_skip0 hF); exact rfl) | ((with_reducible apply g_dec hF); exact rfl; exact rfl; all_goals (clear hF; intro hc hF); all_goals (try (exfalso; omega))) | ((with_reducible apply g_ndec hF); exact rfl; exact rfl; all_goals (clear hF; intro hc hF); all_goals (try (exfalso; omega))) | ((with_reducible apply g_nbool hF); exact rfl; exact rfl; all_goals (clear hF; intro hc hF)) | ((with_reducible apply g_bool hF); exact rfl; exact rfl; all_goals (clear hF; intro hc hF)) | ((with_reducible apply c_dec hF); exact rfl; all_goals intro hc; all_goals (try (exfalso; omega))) | ((with_reducible apply c_ndec hF); exact rfl; all_goals intro hc; all_goals (try (exfalso; omega))) | ((with_reducible apply c_nbool hF); exact rfl; all_goals intro hc) | ((with_reducible apply c_bool hF); exact rfl; all_goals intro hc)))
    (apply f_ret Try.results56 hF hM; (repeat (first | exact RL.nil | (apply RL.tmp; exact rfl) | (apply RL.cell; exact rfl; (repeat (first | exact List.mem_cons_self | refine List.mem_cons_of_mem _ ?_)); exact rfl))); refine Ret.mk hM.since ?_; dsimp only [resV])
    simp only [Nat.zero_add, List.nil_append] at hM ⊢
    exact ⟨_, _, rfl, hM.mem.own⟩
end Go.Proofs.Ytocgpllmfdnfjaa

/- wire: numbers. -/
namespace Go.Proofs.Ytocgpllmfdnfjaa
open Go.RowKit Go.Shelf
/-- The bytes of a number. -/
def puts (n : Nat) : List Int := if n < 128 then [(n : Int)] else ((n % 128 + 128 : Nat) : Int) :: puts (n / 128)
termination_by n
decreasing_by omega
theorem puts_lt {n : Nat} (h : n < 128) : puts n = [(n : Int)] := by rw [puts, if_pos h]
theorem puts_ge {n : Nat} (h : ¬ n < 128) : puts n = ((n % 128 + 128 : Nat) : Int) :: puts (n / 128) := by rw [puts, if_neg h]
theorem puts_len : ∀ (k n : Nat), n < 128 ^ (k + 1) → (puts n).length ≤ k + 1
  | 0, n, h => by rw [puts_lt (by omega)]; simp
  | k + 1, n, h => by
    by_cases g : n < 128
    · rw [puts_lt g]; simp
    · rw [puts_ge g]
      have := puts_len k (n / 128) (by rw [Nat.pow_succ] at h; omega)
      simp
      omega
set_option maxRecDepth 20000 in
/-- putInt: appends in place. -/
theorem putInt_m (n : Nat) (hn : n ≤ 9007199254740991) {own : Nat → Prop} {w0 W : World} {bs : List BoxE} {L : List Ent} {Fs : List (World → Prop)} (hM : Mm own w0 bs L Fs W) {k m : Nat} {v : Value} {xs : List Value} (hL : Kth L k ⟨5, 1, v, m, xs⟩) (hm : m ≤ 100000000000) :
    Calls Try.prog 55 ⟨[v, .int .i64 n]⟩ W (Rtn fun u w' => ∃ a' cap, u = .slice a' (m + (puts n).length) cap ∧ Mm own w0 bs (L.set k ⟨5, 1, .slice a' (m + (puts n).length) cap, m + (puts n).length, xs ++ (puts n).map (Value.int .u8)⟩) Fs w') := by
  refine f_start Try.func55 rfl Try.ntmps55 rfl rfl ?_; intro a hF
  (repeat' (first | (with_reducible refine w_seq ?_) | (with_reducible refine c_region ?_) | (with_reducible refine s_nil ?_) | (with_reducible refine q_then_n ?_) | ((with_reducible apply s_pure hF); exact rfl; exact rfl; exact rfl; (first | exact trivial | omega | exact ⟨Int.natCast_nonneg _, Int.ofNat_lt.2 (by assumption)⟩ | decide); clear hF a; intro a hF) | (with_reducible refine w_skip ?_) | (with_reducible refine w_block ?_) | ((with_reducible apply c_dec hF); exact rfl; all_goals intro hc; all_goals (try (exfalso; omega)))))
  refine c_loop (m := n) (fun mm a w' => ∃ (x q : Nat) (done : List Int) (v' : Value) (xs' : List Value), x = mm ∧ x ≤ n ∧ done.length = q ∧ q ≤ n ∧ puts n = done ++ puts x ∧ xs' = xs ++ done.map (Value.int .u8) ∧
    Fr 27 [] [(0, v'), (1, .int .i64 x)] a ∧ Mm own w0 bs (L.set k ⟨5, 1, v', m + q, xs'⟩) Fs w') ⟨n, 0, [], v, xs, rfl, Nat.le_refl _, rfl, by omega, rfl, by simp, hF.sub (by repeat (first | exact Sub.nil | refine Sub.cons rfl (by first | with_reducible rfl | (refine congrArg (Value.int _) ?_; omega) | exact rfl) ?_)), by
      have : L.set k ⟨5, 1, v, m + 0, xs⟩ = L := by
        apply List.ext_getElem?
        intro j
        rw [List.getElem?_set]
        split
        · rename_i e
          subst e
          rw [if_pos hL.lt]
          exact hL.get.symm
        · rfl
      rw [this]
      exact hM⟩ ?_
  clear hF hM a
  rintro mm a w' ⟨x, q, done, v', xs', rfl, hxn, hdl, hqn, hpu, hxs, hF, hM⟩
  have hL' := hL.set (y := ⟨5, 1, v', m + q, xs'⟩)
  have hq2 : (puts n).length ≤ 8 := puts_len 7 n (by omega)
  have hq3 : q ≤ 8 := by rw [hpu, List.length_append] at hq2; omega
  by_cases hx : x < 128
  · rw [puts_lt hx] at hpu
    (repeat' (first | (with_reducible refine w_seq ?_) | (with_reducible refine c_region ?_) | (with_reducible refine s_nil ?_) | ((with_reducible apply s_app hF hM); exact rfl; exact rfl; exact rfl; exact rfl; (with_reducible assumption); exact rfl; exact rfl; exact rfl; exact rfl; omega; clear hF hM a; intro g cap w a hM hF) | (with_reducible refine q_then_n ?_) | ((with_reducible apply s_pure hF); exact rfl; exact rfl; exact rfl; (first | exact trivial | omega | exact ⟨Int.natCast_nonneg _, Int.ofNat_lt.2 (by assumption)⟩ | decide); clear hF a; intro a hF) | ((with_reducible apply s_lit hF hM); exact rfl; exact rfl; exact rfl; exact rfl; clear hF hM a; intro bl w a hM hF) | (with_reducible refine w_exit ?_) | (with_reducible refine w_ret ?_) | (with_reducible refine q_then_x ?_) | (with_reducible refine q_blk_x ?_) | ((with_reducible apply c_dec hF); exact rfl; all_goals intro hc; all_goals (try (exfalso; omega)))))
    rw [show (x : Int) % 256 = x by omega] at hM
    (apply f_ret Try.results55 hF hM; (repeat (first | exact RL.nil | (apply RL.tmp; exact rfl) | (apply RL.cell; exact rfl; (repeat (first | exact List.mem_cons_self | refine List.mem_cons_of_mem _ ?_)); exact rfl))); refine Both.mk ?_; try dsimp only [resV])
    rw [List.set_set] at hM
    have e1 : (puts n).length = q + 1 := by rw [hpu]; simp [hdl]
    have e2 : xs ++ (puts n).map (Value.int .u8) = xs' ++ [.int .u8 x] := by rw [hpu, hxs]; simp
    refine ⟨some ⟨g, 0, none⟩, cap, by rw [e1]; rfl, ?_⟩
    rw [e1, e2]
    exact hM
  · rw [puts_ge hx] at hpu
    (repeat' (first | (with_reducible refine w_seq ?_) | (with_reducible refine c_region ?_) | (with_reducible refine s_nil ?_) | ((with_reducible apply s_or128 hF); exact rfl; exact rfl; exact rfl; exact rfl; omega; clear hF a; intro a hF) | ((with_reducible apply s_app hF hM); exact rfl; exact rfl; exact rfl; exact rfl; (with_reducible assumption); exact rfl; exact rfl; exact rfl; exact rfl; omega; clear hF hM a; intro g cap w a hM hF) | (with_reducible refine q_then_n ?_) | ((with_reducible apply s_pure hF); exact rfl; exact rfl; exact rfl; (first | exact trivial | omega | exact ⟨Int.natCast_nonneg _, Int.ofNat_lt.2 (by assumption)⟩ | decide); clear hF a; intro a hF) | ((with_reducible apply s_lit hF hM); exact rfl; exact rfl; exact rfl; exact rfl; clear hF hM a; intro bl w a hM hF) | (with_reducible refine w_skip ?_) | (with_reducible refine w_block ?_) | (with_reducible refine q_blk_n ?_) | ((with_reducible apply c_dec hF); exact rfl; all_goals intro hc; all_goals (try (exfalso; omega)))))
    rw [show (x : Int) % 128 % 256 + 128 = ((x % 128 + 128 : Nat) : Int) by omega, List.set_set] at hM
    exact ⟨x / 128, by omega, x / 128, q + 1, done ++ [((x % 128 + 128 : Nat) : Int)], .slice (some ⟨g, 0, none⟩) (m + q + 1) cap, xs' ++ [.int .u8 ((x % 128 + 128 : Nat) : Int)], rfl, by omega, by simp [hdl], by omega, by rw [hpu]; simp, by rw [hxs]; simp, hF.sub (by repeat (first | exact Sub.nil | refine Sub.cons rfl (by first | with_reducible rfl | (refine congrArg (Value.int _) ?_; omega) | exact rfl) ?_)), hM⟩
end Go.Proofs.Ytocgpllmfdnfjaa

/- wire: PutInt, and numbers that are read. -/
namespace Go.Proofs.Ytocgpllmfdnfjaa
open Go.RowKit Go.Shelf
set_option maxRecDepth 20000 in
theorem PutInt_c (n : Nat) (hn : n ≤ 9007199254740991) (a0 : Option Addr) (c0 : Nat) (ys : List Int) (own : Nat → Prop) (W : World) (hl : ∀ b, own b → b < W.heap.size) (hv : Has own W (RdF (Value.int .u8) a0 ys)) (hb : ys.length ≤ 10000000000) :
    Calls Try.prog 44 ⟨[.slice a0 ys.length c0, .int .i64 n]⟩ W (Ret W fun v w' => ∃ a' c', v = .slice a' (ys.length + (puts n).length) c' ∧ Owns w' W.heap.size [⟨5, 1, .slice a' (ys.length + (puts n).length) c', ys.length + (puts n).length, (ys ++ puts n).map (Value.int .u8)⟩]) := by
  have hM := (Mm.start hl).known hv
  refine f_start Try.func44 rfl Try.ntmps44 rfl rfl ?_; intro a hF
  (repeat (first | (with_reducible refine w_seq ?_) | (with_reducible refine c_region ?_) | (with_reducible refine s_nil ?_) | ((with_reducible apply s_callO (f := 56) hF); exact rfl; exact rfl; exact rfl; exact rfl; exact rfl; exact (cloneB_c _ _ _ _ _ hM.lt (hM.facts _ (by (repeat (first | exact List.mem_cons_self | refine List.mem_cons_of_mem _ ?_)))) hb); clear hF a; rintro v wn a ⟨a1, c1, rfl, hO⟩ hS hF; replace hM := hM.addRows hS hO; clear hS hO; dsimp only [List.cons_append, List.nil_append] at hM) | ((with_reducible apply s_callM (f := 55) hF); exact rfl; exact rfl; exact rfl; exact rfl; exact rfl; exact (putInt_m n hn hM .z (by omega)); clear hF hM a; rintro v w a ⟨a2, c2, rfl, hM⟩ hF) | (with_reducible refine q_then_n ?_) | ((with_reducible apply s_pure hF); exact rfl; exact rfl; exact rfl; (first | exact trivial | omega | exact ⟨Int.natCast_nonneg _, Int.ofNat_lt.2 (by assumption)⟩ | decide); clear hF a; intro a hF) | (with_reducible refine w_ret ?_)))
  (apply f_ret Try.results44 hF hM; (repeat (first | exact RL.nil | (apply RL.tmp; exact rfl) | (apply RL.cell; exact rfl; (repeat (first | exact List.mem_cons_self | refine List.mem_cons_of_mem _ ?_)); exact rfl))); refine Ret.mk hM.since ?_; dsimp only [resV])
  rw [List.map_append]
  exact ⟨a2, c2, rfl, hM.mem.own⟩
theorem PutInt_z (n : Nat) (q : Int) (hq : q = n) (hn : n ≤ 9007199254740991) (a0 : Option Addr) (c0 : Nat) (ys : List Int) (m : Nat) (hm : ys.length = m) (own : Nat → Prop) (W : World) (hl : ∀ b, own b → b < W.heap.size) (hv : Has own W (RdF (Value.int .u8) a0 ys)) (hb : m ≤ 10000000000) :
    Calls Try.prog 44 ⟨[.slice a0 m c0, .int .i64 q]⟩ W (Ret W fun v w' => ∃ a' c', v = .slice a' (m + (puts n).length) c' ∧ Owns w' W.heap.size [⟨5, 1, .slice a' (m + (puts n).length) c', m + (puts n).length, (ys ++ puts n).map (Value.int .u8)⟩]) := by
  subst hq hm
  exact PutInt_c n hn a0 c0 ys own W hl hv hb
/-- What number reads: the number, the error, and how many bytes. -/
def rdN (xs : List Int) : Nat → Nat → Int → Int × Int × Nat
  | 0, _, _ => (0, 3, 0)
  | f + 1, i, n => match xs[i]? with
    | none => (0, 10, 0)
    | some b => if 128 ≤ b then rdN xs f (i + 1) (n + b % 128 * 128 ^ i) else if (b = 0 ∧ 0 < i) ∨ 9007199254740991 < n + b % 128 * 128 ^ i then (0, 3, 0) else (n + b % 128 * 128 ^ i, 0, i + 1)
def rdNum (xs : List Int) : Int × Int × Nat := rdN xs 8 0 0
theorem pow7 : ∀ i : Fin 8, (2 : Int) ^ (7 * i.val) = 128 ^ i.val ∧ (0 : Int) < 128 ^ i.val ∧ (128 : Int) ^ i.val ≤ 562949953421312 := by decide
theorem pow7s : ∀ i : Fin 8, (128 : Int) ^ (i.val + 1) = 128 ^ i.val * 128 := by decide
end Go.Proofs.Ytocgpllmfdnfjaa

/- wire: numbers that are read. -/
namespace Go.Proofs.Ytocgpllmfdnfjaa
open Go.RowKit Go.Shelf
theorem rdN_none {xs : List Int} {f i : Nat} {n : Int} (h : xs[i]? = none) : rdN xs (f + 1) i n = (0, 10, 0) := by rw [rdN, h]
theorem rdN_some {xs : List Int} {f i : Nat} {n b : Int} (h : xs[i]? = some b) : rdN xs (f + 1) i n = if 128 ≤ b then rdN xs f (i + 1) (n + b % 128 * 128 ^ i) else if (b = 0 ∧ 0 < i) ∨ 9007199254740991 < n + b % 128 * 128 ^ i then (0, 3, 0) else (n + b % 128 * 128 ^ i, 0, i + 1) := by rw [rdN, h]
/-- The rest of a slice. -/
theorem RdF.drop {α : Type} {enc : α → Value} {own : Nat → Prop} {w : World} {ad : Addr} {xs : List α} (h : Has own w (RdF enc (some ad) xs)) (k m : Nat) (hm : xs.length ≤ m) : Has own w (RdF enc (sadr (some ad) k m 1) (xs.drop k)) := by
  refine h.imp fun w h j x hx => ?_
  rw [List.getElem?_drop] at hx
  have hlt := (List.getElem?_eq_some_iff.1 hx).1
  obtain ⟨b, off, e, hb, hc⟩ := h (k + j) x hx
  injection e with e
  subst e
  refine ⟨b, off + k, ?_, hb, ?_⟩
  · unfold sadr
    rw [if_neg (by omega)]
    simp [add_lit]
  · rw [Nat.add_assoc]
    exact hc
theorem dup0 {own : Nat → Prop} {w w0 : World} {bs : List BoxE} {L : List Ent} {Fs : List (World → Prop)} {f : World → Prop} (hM : Mm own w0 bs L (f :: Fs) w) : Mm own w0 bs L (f :: f :: Fs) w :=
  hM.sub (.refl _) (.refl _) fun g hg => by
    rcases List.mem_cons.1 hg with rfl | hg
    · exact List.mem_cons_self
    · exact hg
theorem mul_bdP {x y a b : Int} (hx : 0 ≤ x ∧ x ≤ a) (hy : 0 ≤ y ∧ y ≤ b) : 0 ≤ x * y ∧ x * y ≤ a * b :=
  ⟨Int.mul_nonneg hx.1 hy.1, Int.mul_le_mul hx.2 hy.2 hy.1 (by omega)⟩
set_option maxRecDepth 20000 in
theorem number_m (xs : List Int) (hxb : ∀ x ∈ xs, 0 ≤ x ∧ x < 256) (hlen : xs.length ≤ 1000000) (a0 : Option Addr) (c0 : Nat) (hc0 : xs.length ≤ c0) {own : Nat → Prop} {w0 W : World} {bs : List BoxE} {L : List Ent} {Fs : List (World → Prop)} {b : Nat} {T : TypeId} (hM : Mm own w0 (⟨b, ⟨[.slice a0 xs.length c0]⟩, T⟩ :: bs) L (RdF (Value.int .u8) a0 xs :: Fs) W) :
    Calls Try.prog 47 ⟨[.pointer (some ⟨b, 0, none⟩)]⟩ W (Rtn fun u w' => u = .tuple #[.int .i64 (rdNum xs).1, .int .i64 (rdNum xs).2.1] ∧ ∃ a' c', Mm own w0 (⟨b, ⟨[.slice a' (xs.length - (rdNum xs).2.2) c']⟩, T⟩ :: bs) L (RdF (Value.int .u8) a' (xs.drop (rdNum xs).2.2) :: RdF (Value.int .u8) a0 xs :: Fs) w') := by
  refine f_start Try.func47 rfl Try.ntmps47 rfl rfl ?_; intro a hF
  (repeat' (first | (with_reducible refine w_seq ?_) | (with_reducible refine c_region ?_) | (with_reducible refine s_nil ?_) | (with_reducible refine q_then_n ?_) | ((with_reducible apply s_pure hF); exact rfl; exact rfl; exact rfl; (first | exact trivial | omega | exact ⟨Int.natCast_nonneg _, Int.ofNat_lt.2 (by assumption)⟩ | decide); clear hF a; intro a hF) | (with_reducible refine w_block ?_)))
  refine c_loop (m := 8) (fun m a w' => ∃ (i : Nat) (n : Int), m + i = 8 ∧ rdNum xs = rdN xs m i n ∧ 0 ≤ n ∧ n < 128 ^ i ∧
    Fr 57 [] [(7, .int .i64 i), (4, .int .i64 n), (0, .pointer (some ⟨b, 0, none⟩))] a ∧
    Mm own w0 (⟨b, ⟨[.slice a0 xs.length c0]⟩, T⟩ :: bs) L (RdF (Value.int .u8) a0 xs :: Fs) w') ⟨0, 0, by omega, rfl, by omega, by simp, hF.sub (by repeat (first | exact Sub.nil | refine Sub.cons rfl (by first | with_reducible rfl | (refine congrArg (Value.int _) ?_; omega) | exact rfl) ?_)), hM⟩ ?_
  clear hF hM a
  rintro m a w' ⟨i, n, hmi, hrd, hn0, hn1, hF, hM⟩
  by_cases hi : i < 8
  case neg =>
    obtain rfl : m = 0 := by omega
    have hr : rdNum xs = (0, 3, 0) := hrd
    rw [hr]
    (repeat' (first | (with_reducible refine w_seq ?_) | (with_reducible refine c_region ?_) | (with_reducible refine s_nil ?_) | (with_reducible refine q_then_n ?_) | ((with_reducible apply s_pure hF); exact rfl; exact rfl; exact rfl; (first | exact trivial | omega | exact ⟨Int.natCast_nonneg _, Int.ofNat_lt.2 (by assumption)⟩ | decide); clear hF a; intro a hF) | (with_reducible refine w_exit ?_) | (with_reducible refine w_ret ?_) | (with_reducible refine q_then_x ?_) | (with_reducible refine q_blk_x ?_) | ((with_reducible apply c_dec hF); exact rfl; all_goals intro hc; all_goals (try (exfalso; omega)))))
    (apply f_ret Try.results47 hF hM; (repeat (first | exact RL.nil | (apply RL.tmp; exact rfl) | (apply RL.cell; exact rfl; (repeat (first | exact List.mem_cons_self | refine List.mem_cons_of_mem _ ?_)); exact rfl))); refine Both.mk ?_; try dsimp only [resV])
    refine ⟨rfl, a0, c0, ?_⟩
    simp only [List.drop_zero, Nat.sub_zero]
    exact dup0 hM
  obtain ⟨m, rfl⟩ : ∃ k, m = k + 1 := ⟨m - 1, by omega⟩
  obtain ⟨p1, p2, p3⟩ := pow7 ⟨i, hi⟩
  have p4 := pow7s ⟨i, hi⟩
  simp only at p1 p2 p3 p4
  by_cases hin : i < xs.length
  case neg =>
    have hr : rdNum xs = (0, 10, 0) := by rw [hrd]; exact rdN_none (List.getElem?_eq_none (by omega))
    rw [hr]
    (repeat' (first | (with_reducible refine w_seq ?_) | (with_reducible refine c_region ?_) | (with_reducible refine s_nil ?_) | (with_reducible refine q_then_n ?_) | ((with_reducible apply s_pure hF); exact rfl; exact rfl; exact rfl; (first | exact trivial | omega | exact ⟨Int.natCast_nonneg _, Int.ofNat_lt.2 (by assumption)⟩ | decide); clear hF a; intro a hF) | ((with_reducible apply s_load hF hM); exact rfl; exact rfl; (repeat (first | exact List.mem_cons_self | refine List.mem_cons_of_mem _ ?_)); exact rfl; exact rfl; clear hF a; intro a hF) | (with_reducible refine w_skip ?_) | (with_reducible refine w_block ?_) | (with_reducible refine w_ret ?_) | (with_reducible refine q_then_r ?_) | (with_reducible refine q_blk_r ?_) | ((with_reducible apply c_dec hF); exact rfl; all_goals intro hc; all_goals (try (exfalso; omega)))))
    (apply f_ret Try.results47 hF hM; (repeat (first | exact RL.nil | (apply RL.tmp; exact rfl) | (apply RL.cell; exact rfl; (repeat (first | exact List.mem_cons_self | refine List.mem_cons_of_mem _ ?_)); exact rfl))); refine Both.mk ?_; try dsimp only [resV])
    refine ⟨rfl, a0, c0, ?_⟩
    simp only [List.drop_zero, Nat.sub_zero]
    exact dup0 hM
  obtain ⟨y, hy⟩ := get_of_lt hin
  obtain ⟨ad, rfl⟩ := rd_some hM (by (repeat (first | exact List.mem_cons_self | refine List.mem_cons_of_mem _ ?_))) hy
  have hyb := hxb y (List.mem_of_getElem? hy)
  have hr := hrd.trans (rdN_some hy)
  obtain ⟨P, hP⟩ : ∃ P, (128 : Int) ^ i = P := ⟨_, rfl⟩
  rw [hP] at p1 p2 p3 p4 hn1 hr
  have hmb := mul_bdP (show 0 ≤ y % 128 ∧ y % 128 ≤ 127 by omega) (show 0 ≤ P ∧ P ≤ 562949953421312 by omega)
  have hsh : 0 ≤ 7 * (i : Int) ∧ 7 * (i : Int) ≤ 62 ∧ y % 128 * 2 ^ (7 * (i : Int)).toNat = y % 128 * P ∧ 0 ≤ y % 128 * P ∧ y % 128 * P < 9223372036854775808 := by
    refine ⟨by omega, by omega, ?_, hmb.1, by omega⟩
    rw [show (7 * (i : Int)).toNat = 7 * i by omega, p1]
  have hj : Join n (y % 128 * P) := by
    refine ⟨7 * i, by omega, hn0, by rw [p1]; exact hn1, hmb.1, ?_, by omega⟩
    rw [p1, Int.mul_emod_left]
  obtain ⟨Z, hZ⟩ : ∃ Z, y % 128 * P = Z := ⟨_, rfl⟩
  rw [hZ] at hr hmb hsh hj
  by_cases hbig : 128 ≤ y
  · rw [if_pos hbig] at hr
    have hbd : n + Z < 128 ^ (i + 1) := by
      rw [p4, ← hZ]
      have : y % 128 * P ≤ 127 * P := Int.mul_le_mul_of_nonneg_right (by omega) (by omega)
      omega
    (repeat' (first | (with_reducible refine w_seq ?_) | (with_reducible refine c_region ?_) | (with_reducible refine s_nil ?_) | ((with_reducible apply s_and127 hF); exact rfl; exact rfl; exact rfl; exact rfl; omega; clear hF a; intro a hF) | ((with_reducible apply s_and128 hF); exact rfl; exact rfl; exact rfl; exact rfl; omega; clear hF a; intro a hF) | ((with_reducible apply s_join hF); exact rfl; exact rfl; exact rfl; exact rfl; (with_reducible assumption); clear hF a; intro a hF) | ((with_reducible apply s_shl hF); exact rfl; exact rfl; exact rfl; exact rfl; (with_reducible assumption); clear hF a; intro a hF) | (with_reducible refine q_then_n ?_) | ((with_reducible apply s_pure hF); exact rfl; exact rfl; exact rfl; (first | exact trivial | omega | exact ⟨Int.natCast_nonneg _, Int.ofNat_lt.2 (by assumption)⟩ | decide); clear hF a; intro a hF) | ((with_reducible apply s_load hF hM); exact rfl; exact rfl; (repeat (first | exact List.mem_cons_self | refine List.mem_cons_of_mem _ ?_)); exact rfl; exact rfl; clear hF a; intro a hF) | ((with_reducible apply s_loadF hF hM); exact rfl; exact rfl; (repeat (first | exact List.mem_cons_self | refine List.mem_cons_of_mem _ ?_)); exact rfl; exact rfl; (first | with_reducible assumption | (simp only [Int.toNat_natCast]; with_reducible assumption)); clear hF a; intro a hF) | (with_reducible refine w_skip ?_) | (with_reducible refine w_block ?_) | (with_reducible refine w_exit ?_) | (with_reducible refine q_then_x ?_) | (with_reducible refine q_blk_x ?_) | ((with_reducible apply c_dec hF); exact rfl; all_goals intro hc; all_goals (try (exfalso; omega)))))
    exact ⟨m, by omega, i + 1, n + Z, by omega, hr, by omega, hbd, hF.sub (by repeat (first | exact Sub.nil | refine Sub.cons rfl (by first | with_reducible rfl | (refine congrArg (Value.int _) ?_; omega) | exact rfl) ?_)), hM⟩
  rw [if_neg hbig] at hr
  by_cases hbad : (y = 0 ∧ 0 < i) ∨ 9007199254740991 < n + Z
  · rw [if_pos hbad] at hr
    rw [hr]
    (repeat' (first | (with_reducible refine w_seq ?_) | (with_reducible refine c_region ?_) | (with_reducible refine s_nil ?_) | ((with_reducible apply s_and127 hF); exact rfl; exact rfl; exact rfl; exact rfl; omega; clear hF a; intro a hF) | ((with_reducible apply s_and128 hF); exact rfl; exact rfl; exact rfl; exact rfl; omega; clear hF a; intro a hF) | ((with_reducible apply s_join hF); exact rfl; exact rfl; exact rfl; exact rfl; (with_reducible assumption); clear hF a; intro a hF) | ((with_reducible apply s_shl hF); exact rfl; exact rfl; exact rfl; exact rfl; (with_reducible assumption); clear hF a; intro a hF) | (with_reducible refine q_then_n ?_) | ((with_reducible apply s_pure hF); exact rfl; exact rfl; exact rfl; (first | exact trivial | omega | exact ⟨Int.natCast_nonneg _, Int.ofNat_lt.2 (by assumption)⟩ | decide); clear hF a; intro a hF) | ((with_reducible apply s_load hF hM); exact rfl; exact rfl; (repeat (first | exact List.mem_cons_self | refine List.mem_cons_of_mem _ ?_)); exact rfl; exact rfl; clear hF a; intro a hF) | ((with_reducible apply s_loadF hF hM); exact rfl; exact rfl; (repeat (first | exact List.mem_cons_self | refine List.mem_cons_of_mem _ ?_)); exact rfl; exact rfl; (first | with_reducible assumption | (simp only [Int.toNat_natCast]; with_reducible assumption)); clear hF a; intro a hF) | (with_reducible refine w_skip ?_) | (with_reducible refine w_block ?_) | (with_reducible refine w_ret ?_) | (with_reducible refine q_then_r ?_) | (with_reducible refine q_blk_r ?_) | ((with_reducible apply c_true2 hF); exact rfl; (first | with_reducible rfl | (refine congrArg Value.bool ?_; focus (simp; done)))) | ((with_reducible apply s_skip hF); exact rfl; exact rfl; clear hF a; intro a hF) | ((with_reducible apply g_dec hF); exact rfl; exact rfl; all_goals (clear hF; intro hc hF); all_goals (try (exfalso; omega))) | ((with_reducible apply c_dec hF); exact rfl; all_goals intro hc; all_goals (try (exfalso; omega)))))
    all_goals
      (apply f_ret Try.results47 hF hM; (repeat (first | exact RL.nil | (apply RL.tmp; exact rfl) | (apply RL.cell; exact rfl; (repeat (first | exact List.mem_cons_self | refine List.mem_cons_of_mem _ ?_)); exact rfl))); refine Both.mk ?_; try dsimp only [resV])
      refine ⟨rfl, some ad, c0, ?_⟩
      simp only [List.drop_zero, Nat.sub_zero]
      exact dup0 hM
  · rw [if_neg hbad] at hr
    rw [hr]
    (repeat' (first | (with_reducible refine w_seq ?_) | (with_reducible refine c_region ?_) | (with_reducible refine s_nil ?_) | ((with_reducible apply s_and127 hF); exact rfl; exact rfl; exact rfl; exact rfl; omega; clear hF a; intro a hF) | ((with_reducible apply s_and128 hF); exact rfl; exact rfl; exact rfl; exact rfl; omega; clear hF a; intro a hF) | ((with_reducible apply s_join hF); exact rfl; exact rfl; exact rfl; exact rfl; (with_reducible assumption); clear hF a; intro a hF) | ((with_reducible apply s_shl hF); exact rfl; exact rfl; exact rfl; exact rfl; (with_reducible assumption); clear hF a; intro a hF) | (with_reducible refine q_then_n ?_) | ((with_reducible apply s_pure hF); exact rfl; exact rfl; exact rfl; (first | exact trivial | omega | exact ⟨Int.natCast_nonneg _, Int.ofNat_lt.2 (by assumption)⟩ | decide); clear hF a; intro a hF) | ((with_reducible apply s_load hF hM); exact rfl; exact rfl; (repeat (first | exact List.mem_cons_self | refine List.mem_cons_of_mem _ ?_)); exact rfl; exact rfl; clear hF a; intro a hF) | ((with_reducible apply s_loadF hF hM); exact rfl; exact rfl; (repeat (first | exact List.mem_cons_self | refine List.mem_cons_of_mem _ ?_)); exact rfl; exact rfl; (first | with_reducible assumption | (simp only [Int.toNat_natCast]; with_reducible assumption)); clear hF a; intro a hF) | ((with_reducible apply s_store hF hM); exact rfl; exact rfl; exact rfl; exact rfl; (repeat (first | exact Upd.z | apply Upd.s)); exact rfl; exact rfl; exact rfl; clear hM; intro w hM) | (with_reducible refine w_skip ?_) | (with_reducible refine w_block ?_) | (with_reducible refine w_ret ?_) | (with_reducible refine q_then_r ?_) | (with_reducible refine q_blk_r ?_) | ((with_reducible apply s_skip hF); exact rfl; exact rfl; clear hF a; intro a hF) | ((with_reducible apply g_dec hF); exact rfl; exact rfl; all_goals (clear hF; intro hc hF); all_goals (try (exfalso; omega))) | ((with_reducible apply c_dec hF); exact rfl; all_goals intro hc; all_goals (try (exfalso; omega)))))
    all_goals
      rw [show ((i : Int) + 1).toNat = i + 1 by omega, Int.toNat_natCast] at hM
      (apply f_ret Try.results47 hF hM; (repeat (first | exact RL.nil | (apply RL.tmp; exact rfl) | (apply RL.cell; exact rfl; (repeat (first | exact List.mem_cons_self | refine List.mem_cons_of_mem _ ?_)); exact rfl))); refine Both.mk ?_; try dsimp only [resV])
      exact ⟨rfl, sadr (some ad) (i + 1) c0 1, c0 - (i + 1), hM.addFact (RdF.drop (hM.facts (RdF (Value.int .u8) (some ad) xs) List.mem_cons_self) (i + 1) c0 hc0)⟩
theorem rdN_err : ∀ (f i : Nat) (n : Int) (xs : List Int), (rdN xs f i n).2.1 ≠ 0 → (rdN xs f i n).1 = 0 ∧ (rdN xs f i n).2.2 = 0
  | 0, _, _, _, _ => ⟨rfl, rfl⟩
  | f + 1, i, n, xs, h => by
    rw [rdN] at h ⊢
    split
    · exact ⟨rfl, rfl⟩
    · rename_i b hb
      rw [hb] at h
      simp only at h
      split at h
      · rename_i h1
        rw [if_pos h1]
        exact rdN_err f (i + 1) _ xs h
      · rename_i h1
        rw [if_neg h1]
        split at h
        · rename_i h2
          rw [if_pos h2]
          exact ⟨rfl, rfl⟩
        · exact absurd rfl h
theorem cloneB_z (a0 : Option Addr) (c0 : Nat) (xs : List Int) (n : Nat) (hn : xs.length = n) (own : Nat → Prop) (W : World) (hl : ∀ b, own b → b < W.heap.size) (hv : Has own W (RdF (Value.int .u8) a0 xs)) (hb : xs.length ≤ 10000000000) :
    Calls Try.prog 56 ⟨[.slice a0 n c0]⟩ W (Ret W fun v w' => ∃ a' c', v = .slice a' n c' ∧ Owns w' W.heap.size [⟨5, 1, .slice a' n c', n, xs.map (Value.int .u8)⟩]) := by
  subst hn
  exact cloneB_c a0 c0 xs own W hl hv hb
/-- What Int answers: the number, a copy of the rest, the error. -/
def IntR (own : Nat → Prop) (xs : List Int) (b0 : Nat) (v : Value) (w : World) : Prop := ∃ a' n' c', v = .tuple #[.int .i64 (rdNum xs).1, .slice a' n' c', .int .i64 (rdNum xs).2.1] ∧
  (((rdNum xs).2.1 ≠ 0 ∧ a' = none ∧ n' = 0 ∧ c' = 0) ∨ ((rdNum xs).2.1 = 0 ∧ n' = (xs.drop (rdNum xs).2.2).length ∧ Owns w b0 [⟨5, 1, .slice a' n' c', n', (xs.drop (rdNum xs).2.2).map (Value.int .u8)⟩]))
set_option maxRecDepth 20000 in
theorem read_c (xs : List Int) (hxb : ∀ x ∈ xs, 0 ≤ x ∧ x < 256) (hlen : xs.length ≤ 1000000) (a0 : Option Addr) (c0 : Nat) (hc0 : xs.length ≤ c0) (own : Nat → Prop) (W : World) (hl : ∀ b, own b → b < W.heap.size) (hv : Has own W (RdF (Value.int .u8) a0 xs)) :
    Calls Try.prog 46 ⟨[.slice a0 xs.length c0, .func (.func 47) #[] #[]]⟩ W (Ret W (IntR own xs W.heap.size)) := by
  have hM := (Mm.start hl).known hv
  refine f_start Try.func46 rfl Try.ntmps46 rfl rfl ?_; intro a hF
  have hbl : (xs.drop (rdNum xs).2.2).length ≤ 10000000000 := by simp; omega
  by_cases he : (rdNum xs).2.1 = 0
  · (repeat' (first | (with_reducible refine w_seq ?_) | (with_reducible refine c_region ?_) | (with_reducible refine s_nil ?_) | ((with_reducible apply s_callM (f := 47) hF); exact rfl; exact rfl; exact rfl; exact rfl; exact rfl; exact (number_m xs hxb hlen a0 c0 hc0 hM); clear hF hM a; rintro v w a ⟨rfl, a1, c1, hM⟩ hF) | ((with_reducible apply s_callO (f := 56) hF); exact rfl; exact rfl; exact rfl; exact rfl; exact rfl; exact (cloneB_z a1 c1 (xs.drop (rdNum xs).2.2) _ (by simp) _ _ hM.lt (hM.facts _ (by (repeat (first | exact List.mem_cons_self | refine List.mem_cons_of_mem _ ?_)))) hbl); clear hF a; rintro v wn a ⟨a2, c2, rfl, hO⟩ hS hF; replace hM := hM.addRows hS hO; clear hS hO; dsimp only [List.cons_append, List.nil_append] at hM) | (with_reducible refine q_then_n ?_) | ((with_reducible apply s_pure hF); exact rfl; exact rfl; exact rfl; (first | exact trivial | omega | exact ⟨Int.natCast_nonneg _, Int.ofNat_lt.2 (by assumption)⟩ | decide); clear hF a; intro a hF) | ((with_reducible apply s_load hF hM); exact rfl; exact rfl; (repeat (first | exact List.mem_cons_self | refine List.mem_cons_of_mem _ ?_)); exact rfl; exact rfl; clear hF a; intro a hF) | ((with_reducible apply s_box hF hM); exact rfl; exact rfl; exact rfl; exact rfl; clear hF hM a; intro b w a hM hF) | (with_reducible refine w_skip ?_) | (with_reducible refine w_ret ?_) | ((with_reducible apply c_dec hF); exact rfl; all_goals intro hc; all_goals (try (exfalso; omega)))))
    (apply f_ret Try.results46 hF hM; (repeat (first | exact RL.nil | (apply RL.tmp; exact rfl) | (apply RL.cell; exact rfl; (repeat (first | exact List.mem_cons_self | refine List.mem_cons_of_mem _ ?_)); exact rfl))); refine Ret.mk hM.since ?_; dsimp only [resV])
    have hO2 := hM.mem.own
    refine ⟨a2, _, c2, by rw [he], .inr ⟨he, by simp, ?_⟩⟩
    exact hO2
  · (repeat' (first | (with_reducible refine w_seq ?_) | (with_reducible refine c_region ?_) | (with_reducible refine s_nil ?_) | ((with_reducible apply s_callM (f := 47) hF); exact rfl; exact rfl; exact rfl; exact rfl; exact rfl; exact (number_m xs hxb hlen a0 c0 hc0 hM); clear hF hM a; rintro v w a ⟨rfl, a1, c1, hM⟩ hF) | (with_reducible refine q_then_n ?_) | ((with_reducible apply s_pure hF); exact rfl; exact rfl; exact rfl; (first | exact trivial | omega | exact ⟨Int.natCast_nonneg _, Int.ofNat_lt.2 (by assumption)⟩ | decide); clear hF a; intro a hF) | ((with_reducible apply s_box hF hM); exact rfl; exact rfl; exact rfl; exact rfl; clear hF hM a; intro b w a hM hF) | (with_reducible refine w_ret ?_) | (with_reducible refine q_then_r ?_) | ((with_reducible apply c_dec hF); exact rfl; all_goals intro hc; all_goals (try (exfalso; omega)))))
    (apply f_ret Try.results46 hF hM; (repeat (first | exact RL.nil | (apply RL.tmp; exact rfl) | (apply RL.cell; exact rfl; (repeat (first | exact List.mem_cons_self | refine List.mem_cons_of_mem _ ?_)); exact rfl))); refine Ret.mk hM.since ?_; dsimp only [resV])
    exact ⟨none, 0, 0, by rw [show (rdNum xs).1 = 0 from (rdN_err 8 0 0 xs he).1], .inl ⟨he, rfl, rfl, rfl⟩⟩
section
variable (xs : List Int) (hxb : ∀ x ∈ xs, 0 ≤ x ∧ x < 256) (hlen : xs.length ≤ 1000000) (a0 : Option Addr) (c0 : Nat) (hc0 : xs.length ≤ c0) (own : Nat → Prop) (W : World) (hl : ∀ b, own b → b < W.heap.size) (hv : Has own W (RdF (Value.int .u8) a0 xs))
include hxb hlen hc0 hl hv
theorem read_ok (he : (rdNum xs).2.1 = 0) : Calls Try.prog 46 ⟨[.slice a0 xs.length c0, .func (.func 47) #[] #[]]⟩ W (Ret W fun v w' => ∃ a' c', v = .tuple #[.int .i64 (rdNum xs).1, .slice a' (xs.drop (rdNum xs).2.2).length c', .int .i64 0] ∧ Owns w' W.heap.size [⟨5, 1, .slice a' (xs.drop (rdNum xs).2.2).length c', (xs.drop (rdNum xs).2.2).length, (xs.drop (rdNum xs).2.2).map (Value.int .u8)⟩]) := by
  refine (read_c xs hxb hlen a0 c0 hc0 own W hl hv).mono ?_
  rintro e w' ⟨v, rfl, hs, a', n', c', rfl, h⟩
  rcases h with ⟨h, _⟩ | ⟨_, rfl, hO⟩
  · exact absurd he h
  · exact ⟨_, rfl, hs, a', c', by rw [he], hO⟩
theorem read_err (he : (rdNum xs).2.1 ≠ 0) : Calls Try.prog 46 ⟨[.slice a0 xs.length c0, .func (.func 47) #[] #[]]⟩ W (Ret W fun v _ => v = .tuple #[.int .i64 0, .slice none 0 0, .int .i64 (rdNum xs).2.1]) := by
  refine (read_c xs hxb hlen a0 c0 hc0 own W hl hv).mono ?_
  rintro e w' ⟨v, rfl, hs, a', n', c', rfl, h⟩
  rcases h with ⟨_, rfl, rfl, rfl⟩ | ⟨h, _⟩
  · exact ⟨_, rfl, hs, by rw [show (rdNum xs).1 = 0 from (rdN_err 8 0 0 xs he).1]⟩
  · exact absurd h he
theorem Int_ok (he : (rdNum xs).2.1 = 0) : Calls Try.prog 32 ⟨[.slice a0 xs.length c0]⟩ W (Ret W fun v w' => ∃ a' c', v = .tuple #[.int .i64 (rdNum xs).1, .slice a' (xs.drop (rdNum xs).2.2).length c', .int .i64 0] ∧ Owns w' W.heap.size [⟨5, 1, .slice a' (xs.drop (rdNum xs).2.2).length c', (xs.drop (rdNum xs).2.2).length, (xs.drop (rdNum xs).2.2).map (Value.int .u8)⟩]) := by
  have hM := (Mm.start hl).known hv
  refine f_start Try.func32 rfl Try.ntmps32 rfl rfl ?_; intro a hF
  (repeat (first | (with_reducible refine w_seq ?_) | (with_reducible refine c_region ?_) | (with_reducible refine s_nil ?_) | ((with_reducible apply s_callO (f := 46) hF); exact rfl; exact rfl; exact rfl; exact rfl; exact rfl; exact (read_ok xs hxb hlen a0 c0 hc0 _ _ hM.lt (hM.facts _ (by (repeat (first | exact List.mem_cons_self | refine List.mem_cons_of_mem _ ?_)))) he); clear hF a; rintro v wn a ⟨a1, c1, rfl, hO⟩ hS hF; replace hM := hM.addRows hS hO; clear hS hO; dsimp only [List.cons_append, List.nil_append] at hM) | (with_reducible refine q_then_n ?_) | ((with_reducible apply s_pure hF); exact rfl; exact rfl; exact rfl; (first | exact trivial | omega | exact ⟨Int.natCast_nonneg _, Int.ofNat_lt.2 (by assumption)⟩ | decide); clear hF a; intro a hF) | (with_reducible refine w_ret ?_)))
  (apply f_ret Try.results32 hF hM; (repeat (first | exact RL.nil | (apply RL.tmp; exact rfl) | (apply RL.cell; exact rfl; (repeat (first | exact List.mem_cons_self | refine List.mem_cons_of_mem _ ?_)); exact rfl))); refine Ret.mk hM.since ?_; dsimp only [resV])
  exact ⟨a1, c1, rfl, hM.mem.own⟩
theorem Int_err (he : (rdNum xs).2.1 ≠ 0) : Calls Try.prog 32 ⟨[.slice a0 xs.length c0]⟩ W (Ret W fun v _ => v = .tuple #[.int .i64 0, .slice none 0 0, .int .i64 (rdNum xs).2.1]) := by
  have hM := (Mm.start hl).known hv
  refine f_start Try.func32 rfl Try.ntmps32 rfl rfl ?_; intro a hF
  (repeat (first | (with_reducible refine w_seq ?_) | (with_reducible refine c_region ?_) | (with_reducible refine s_nil ?_) | ((with_reducible apply s_call (f := 46) hF hM); exact rfl; exact rfl; exact rfl; exact rfl; exact rfl; exact (read_err xs hxb hlen a0 c0 hc0 _ _ hM.lt (hM.facts _ (by (repeat (first | exact List.mem_cons_self | refine List.mem_cons_of_mem _ ?_)))) he); clear hF hM a; rintro v w a rfl - hM hF) | (with_reducible refine q_then_n ?_) | ((with_reducible apply s_pure hF); exact rfl; exact rfl; exact rfl; (first | exact trivial | omega | exact ⟨Int.natCast_nonneg _, Int.ofNat_lt.2 (by assumption)⟩ | decide); clear hF a; intro a hF) | (with_reducible refine w_ret ?_)))
  (apply f_ret Try.results32 hF hM; (repeat (first | exact RL.nil | (apply RL.tmp; exact rfl) | (apply RL.cell; exact rfl; (repeat (first | exact List.mem_cons_self | refine List.mem_cons_of_mem _ ?_)); exact rfl))); refine Ret.mk hM.since ?_; dsimp only [resV])
end
end Go.Proofs.Ytocgpllmfdnfjaa

/- runlength: Encode. -/
namespace Go.Proofs.Ytocgpllmfdnfjaa
open Go.RowKit Go.Shelf
/-- How many sectors of a group are written out. -/
def lits (l : List (List Int)) (i : Nat) : Nat := if (nx l i).1 = 0 then (nx l i).2 else if (nx l i).1 = 1 then 1 else 0
def encS (l : List (List Int)) (i : Nat) : List Int := ((l.drop i).take (lits l i)).flatten
def encG (l : List (List Int)) (i : Nat) : List Int := puts (4 * (nx l i).2 + (nx l i).1) ++ encS l i
/-- The encoding of a list. -/
def enc (l : List (List Int)) : List Int := (grp l).flatMap fun (i : Fin l.length) => encG l i
theorem len8 {s : List Int} (h : s.length = 8) : ∃ a b c d e f g i, s = [a, b, c, d, e, f, g, i] := by
  match s, h with
  | [a, b, c, d, e, f, g, i], _ => exact ⟨a, b, c, d, e, f, g, i, rfl⟩
theorem nx_kind {l : List (List Int)} {i : Nat} : (nx l i).1 ≤ 2 := by
  unfold nx
  split
  · exact Nat.le_refl _
  · split <;> simp
theorem flat_len : ∀ {D : List (List Int)}, W8 D → D.flatten.length = D.length * 8
  | [], _ => rfl
  | s :: D, h => by
    rw [List.flatten_cons, List.length_append, h s (by simp), flat_len (fun y hy => h y (List.mem_cons_of_mem _ hy)), List.length_cons, Nat.succ_mul]
    omega
theorem W8.drop {l : List (List Int)} (h : W8 l) (i : Nat) : W8 (l.drop i) := fun y hy => h y (List.mem_of_mem_drop hy)
theorem W8.take {l : List (List Int)} (h : W8 l) (i : Nat) : W8 (l.take i) := fun y hy => h y (List.mem_of_mem_take hy)
theorem lits_le {l : List (List Int)} {i : Nat} : lits l i ≤ (nx l i).2 := by
  unfold lits
  have := nx_pos (l := l) (i := i)
  split
  · exact Nat.le_refl _
  · split <;> omega
theorem encG_len {l : List (List Int)} (hw : W8 l) (hlen : l.length ≤ 30000) {i : Nat} (hi : i < l.length) : (encG l i).length ≤ 9 + 8 * l.length := by
  unfold encG encS
  have h1 := nx_le hi
  have h2 := nx_kind (l := l) (i := i)
  have h3 := puts_len 2 (4 * (nx l i).2 + (nx l i).1) (by omega)
  have h4 := lits_le (l := l) (i := i)
  rw [List.length_append, flat_len ((hw.drop i).take _), List.length_take, List.length_drop]
  have : min (lits l i) (l.length - i) ≤ l.length := by omega
  omega
theorem flatMap_len {α : Type} {f : α → List Int} {k : Nat} (h : ∀ x, (f x).length ≤ k) : ∀ (l : List α), (l.flatMap f).length ≤ l.length * k
  | [] => by simp
  | x :: l => by
    rw [List.flatMap_cons, List.length_append, List.length_cons, Nat.succ_mul]
    have := flatMap_len h l
    have := h x
    omega
theorem grpF_len {l : List (List Int)} : ∀ (f i : Nat), (grpF l f i).length + i ≤ max i l.length
  | 0, i => by simp [grpF]; omega
  | f + 1, i => by
    rw [grpF]
    split
    · have := grpF_len (l := l) f (i + (nx l i).2)
      have := nx_pos (l := l) (i := i)
      have := nx_le (l := l) (i := i) (by assumption)
      rw [List.length_cons]
      omega
    · simp; omega
theorem flat_drop : ∀ {l : List (List Int)} (_ : W8 l) (i : Nat), (l.drop i).flatten = l.flatten.drop (i * 8)
  | [], _, i => by simp
  | s :: l, h, 0 => by simp
  | s :: l, h, i + 1 => by
    have hs : s.length = 8 := h s (by simp)
    rw [List.drop_succ_cons, flat_drop (l := l) (fun y hy => h y (List.mem_cons_of_mem _ hy)) i, List.flatten_cons, List.drop_append, show s.drop ((i + 1) * 8) = [] from List.drop_eq_nil_of_le (by omega), List.nil_append, hs, show (i + 1) * 8 - 8 = i * 8 by omega]
theorem sub_rd {own : Nat → Prop} {w : World} {ad : Addr} {l : List (List Int)} (hw : W8 l) (h : Has own w (RdF (Value.int .u8) (some ad) l.flatten)) (i q c : Nat) (hc : l.length ≤ c) (hi : i < l.length) : Has own w (RdF (Value.int .u8) (sadr (some ad) i c 8) ((l.drop i).take q).flatten) := by
  refine h.imp fun w h j x hx => ?_
  have hx2 : (l.drop i).flatten[j]? = some x := by
    rw [← List.take_append_drop q (l.drop i), List.flatten_append, List.getElem?_append_left (List.getElem?_eq_some_iff.1 hx).1]
    exact hx
  rw [flat_drop hw, List.getElem?_drop] at hx2
  obtain ⟨b, off, e, hb, hc2⟩ := h (i * 8 + j) x hx2
  injection e with e
  subst e
  refine ⟨b, off + i * 8, ?_, hb, ?_⟩
  · unfold sadr
    rw [if_neg (by omega)]
    simp [add_lit]
  · rw [Nat.add_assoc]
    exact hc2
theorem below_mm {own own' : Nat → Prop} {w0 w w' : World} {bs bs' : List BoxE} {L L' : List Ent} {Fs Fs' : List (World → Prop)} (h : Mm own w0 bs L Fs w) (h' : Mm own' w0 bs' L' Fs' w') (hs : w.heap.size ≤ w'.heap.size) : Below w0.heap.size w w' :=
  ⟨h'.since.os.trans h.since.os.symm, h'.since.tape.trans h.since.tape.symm, h'.since.output.trans h.since.output.symm, hs, fun k hk => (h'.since.block k hk).trans (h.since.block k hk).symm⟩
def encL (l : List (List Int)) (pre : List (Fin l.length)) : List Int := pre.flatMap fun (i : Fin l.length) => encG l i
theorem encL_len {l : List (List Int)} (hw : W8 l) (hlen : l.length ≤ 30000) (pre : List (Fin l.length)) (h : pre.length ≤ l.length) : (encL l pre).length ≤ 10000000000 - 1000000 := by
  have h1 := flatMap_len (f := fun (i : Fin l.length) => encG l i) (k := 9 + 8 * l.length) (fun i => encG_len hw hlen i.2) pre
  have h2 : pre.length * (9 + 8 * l.length) ≤ 30000 * (9 + 8 * 30000) := Nat.mul_le_mul (by omega) (by omega)
  unfold encL
  omega
/-- What is kept from round to round of Encode. -/
def EncI (own : Nat → Prop) (W : World) (a0 : Option Addr) (c0 b1 b3 : Nat) (l : List (List Int)) (pre : List (Fin l.length)) (w' : World) : Prop :=
  ∃ v, Mm own W [⟨b3, ⟨[v]⟩, 22⟩] [⟨5, 1, v, (encL l pre).length, (encL l pre).map (Value.int .u8)⟩] [] w' ∧ Box w' b1 ⟨[.slice a0 l.length c0]⟩ 33
def EncA (W : World) (b1 b3 : Nat) (l : List (List Int)) (x : Fin l.length) (a : Act) (w' : World) : Prop :=
  ∃ b4, W.heap.size ≤ b4 ∧ Box w' b4 ⟨[.int .i64 (nx l x).1, .int .i64 (x : Nat), .int .i64 (nx l x).2]⟩ 84 ∧ Fr 45 [] [(4, .pointer (some ⟨b4, 0, none⟩)), (3, .pointer (some ⟨b3, 0, none⟩)), (1, .pointer (some ⟨b1, 0, none⟩))] a
theorem Box.turn {W1 W2 : World} {b : Nat} {cs : Array Value} {T : TypeId} {row : Option Nat} {B : Nat} (h : Box W1 b cs T) (hg : W1.grownBy W2 row) (hr : ∀ r, row = some r → B ≤ r ∧ ∃ o : Obj, W1.heap[r]? = some o ∧ o.isCells = false) : Box W2 b cs T :=
  h.grown hg fun e => by
    obtain ⟨_, o, h1, h2⟩ := hr b e.symm
    rw [show W1.heap[b]? = _ from h] at h1
    injection h1 with h1
    subst h1
    cases h2
set_option maxRecDepth 20000 in
theorem Encode_c (l : List (List Int)) (hw : W8 l) (hlen : l.length ≤ 30000) (a0 : Option Addr) (c0 : Nat) (hc0 : l.length ≤ c0) (own : Nat → Prop) (W : World) (hl : ∀ b, own b → b < W.heap.size) (hv : Has own W (RdF (Value.int .u8) a0 l.flatten)) :
    Calls Try.prog 35 ⟨[.slice a0 l.length c0]⟩ W (Ret W fun v w' => ∃ a' c', v = .slice a' (enc l).length c' ∧ Owns w' W.heap.size [⟨5, 1, .slice a' (enc l).length c', (enc l).length, (enc l).map (Value.int .u8)⟩]) := by
  have hM := (Mm.start hl).known hv
  have hr := hv.get
  refine f_startM Try.func35 rfl Try.ntmps35 rfl rfl ?_; intro a hF
  (repeat (first | (with_reducible refine w_seq ?_) | (with_reducible refine c_region ?_) | (with_reducible refine s_nil ?_) | (with_reducible refine q_then_n ?_) | ((with_reducible apply s_pure hF); exact rfl; exact rfl; exact rfl; (first | exact trivial | omega | exact ⟨Int.natCast_nonneg _, Int.ofNat_lt.2 (by assumption)⟩ | decide); clear hF a; intro a hF) | ((with_reducible apply s_load hF hM); exact rfl; exact rfl; (repeat (first | exact List.mem_cons_self | refine List.mem_cons_of_mem _ ?_)); exact rfl; exact rfl; clear hF a; intro a hF) | ((with_reducible apply s_alloc hF hM); exact rfl; exact rfl; exact rfl; clear hF hM a; intro b w a hM hF) | ((with_reducible apply s_box hF hM); exact rfl; exact rfl; exact rfl; exact rfl; clear hF hM a; intro b w a hM hF)))
  rename_i b1 wz
  obtain ⟨b3, rfl⟩ : ∃ x, x = b := ⟨_, rfl⟩
  obtain ⟨w2, rfl⟩ : ∃ x, x = w := ⟨_, rfl⟩
  have hs2 := hM.since.size
  (repeat (first | (with_reducible refine s_nil ?_) | ((with_reducible apply s_call (f := 50) hF hM); exact rfl; exact rfl; exact rfl; exact rfl; exact rfl; exact (groups_c a0 l.length c0 _ _ hM.lt); clear hF hM a; rintro v w a ⟨bq, hbq, rfl, hBq⟩ - hM hF) | (with_reducible refine q_then_n ?_) | (with_reducible refine w_block ?_)))
  have hbq2 : W.heap.size ≤ bq := Nat.le_trans hs2 hbq
  obtain ⟨w1, rfl⟩ : ∃ x, x = w := ⟨_, rfl⟩
  have hb1 := hM.mem.new ⟨b1, ⟨[.slice a0 l.length c0]⟩, 33⟩ (by (repeat (first | exact List.mem_cons_self | refine List.mem_cons_of_mem _ ?_)))
  have hB1 := hM.bx (b := b1) (by (repeat (first | exact List.mem_cons_self | refine List.mem_cons_of_mem _ ?_)))
  have hrow := (hM.nilRow 5 1).sub (bs' := [⟨b3, ⟨[.slice none 0 0]⟩, 22⟩]) (Fs' := []) (.cons_cons _ (.cons _ .slnil)) (.refl _) (by simp)
  have hsz : W.heap.size ≤ w1.heap.size := hM.since.size
  refine c_range2 hF rfl rfl rfl (groups_stops l hw (by omega) a0 c0 bq W w1 hr hM.since hbq2 hBq) (by omega) (fun h k => h.trans k) ?kb (Below.refl _ _)
    (EncI own W a0 c0 b1 b3 l) ?hI ⟨_, hrow, hB1⟩ (EncA W b1 b3 l) ?hA ?assign ?body ?done
  case kb =>
    intro W' lb o o' h1 h2 h3 h4
    exact ⟨belowK_b hsz W' lb o o' h1 h2 h3 h4, KT.putObj o' h2 h3, KT.putObj o' h2 h3⟩
  case hI =>
    rintro pre W1 W2 row ⟨v, hm, hb⟩ hg hr
    exact ⟨v, hm.turn hg (fun r e => ⟨by have := (hr r e).1; omega, (hr r e).2⟩), hb.turn hg hr⟩
  case hA =>
    rintro x a W1 W2 row ⟨b4, h1, h2, h3⟩ hg hr
    exact ⟨b4, h1, h2.turn hg hr, h3⟩
  case assign =>
    rintro l0 k pre x a W' hF ⟨v, hM, hB⟩
    have hM0 := hM
    replace hM := (((hM.addFact (hM0.ko hsz)).addFact (hM0.bxHas hB hb1 (by simp) (by simp))).addFact (hM0.kt 84 (by simp) (by simp))).addFact (hM0.kt 33 (by simp) (by simp))
    unfold gv at hF
    (repeat (first | ((with_reducible refine c_regionR ?_ ?_); rotate_left; exact rfl) | (with_reducible refine s_nil ?_) | ((with_reducible apply s_store hF hM); exact rfl; exact rfl; exact rfl; exact rfl; (repeat (first | exact Upd.z | apply Upd.s)); exact rfl; exact rfl; exact rfl; clear hM; intro w hM) | ((with_reducible apply s_alloc hF hM); exact rfl; exact rfl; exact rfl; clear hF hM a; intro b w a hM hF)))
    have hko := hM.fact (f := KeepsFrom w1.heap.size W') (by (repeat (first | exact List.mem_cons_self | refine List.mem_cons_of_mem _ ?_)))
    exact q_cut ⟨hko, ⟨below_mm hM0 hM hko.size, hM.fact (f := KT _ 84 W') (by (repeat (first | exact List.mem_cons_self | refine List.mem_cons_of_mem _ ?_))), hM.fact (f := KT _ 33 W') (by (repeat (first | exact List.mem_cons_self | refine List.mem_cons_of_mem _ ?_)))⟩, ⟨v, hM.sub (.cons _ (.refl _)) (.refl _) (by simp), hM.fact (f := BxF b1 _ _) (by (repeat (first | exact List.mem_cons_self | refine List.mem_cons_of_mem _ ?_)))⟩, ⟨b, hM.mem.new _ List.mem_cons_self, hM.bx List.mem_cons_self, hF.sub (by repeat (first | exact Sub.nil | refine Sub.cons rfl (by first | with_reducible rfl | (refine congrArg (Value.int _) ?_; omega) | exact rfl) ?_))⟩⟩
  case done =>
    rintro D xs a W' hD rfl ⟨v, hM, hB⟩ hK hF
    obtain ⟨av, cv, rfl, -, -⟩ := hM.row List.mem_cons_self
    replace hM := hM.addDef hK (by omega)
    (repeat (first | (with_reducible refine w_seq ?_) | (with_reducible refine c_region ?_) | (with_reducible refine s_nil ?_) | (with_reducible refine q_then_n ?_) | ((with_reducible apply s_pure hF); exact rfl; exact rfl; exact rfl; (first | exact trivial | omega | exact ⟨Int.natCast_nonneg _, Int.ofNat_lt.2 (by assumption)⟩ | decide); clear hF a; intro a hF) | ((with_reducible apply s_load hF hM); exact rfl; exact rfl; (repeat (first | exact List.mem_cons_self | refine List.mem_cons_of_mem _ ?_)); exact rfl; exact rfl; clear hF a; intro a hF) | (with_reducible refine w_ret ?_) | (with_reducible refine q_blk_n ?_)))
    apply f_retM Try.results35 hF hM List.mem_cons_self (by omega)
    · (repeat (first | exact RL.nil | (apply RL.tmp; exact rfl) | (apply RL.cell; exact rfl; (repeat (first | exact List.mem_cons_self | refine List.mem_cons_of_mem _ ?_)); exact rfl)))
    intro w' hM'
    exact Ret.mk hM'.since ⟨_, _, rfl, hM'.mem.own⟩
  case body =>
    clear hM hF
    rintro l0 k pre x a W' ⟨v, hM, hB⟩ ⟨b4, h4, hB4, hF⟩ hlt
    have hM0 := hM
    have hx := x.2
    have hgl : (grp l).length ≤ l.length := by have := grpF_len (l := l) l.length 0; unfold grp; omega
    have hpl := encL_len hw hlen pre (by omega)
    have hkn := nx_kind (l := l) (i := x)
    have hcn := nx_le hx
    obtain ⟨s0, hs0⟩ := get_of_lt hx
    have hs08 := hw s0 (List.mem_of_getElem? hs0)
    obtain ⟨ad, rfl⟩ : ∃ ad, a0 = some ad := by
      obtain ⟨b, off, e, _⟩ := hr _ _ (flat_get (q := 0) hw hs0 (List.getElem?_eq_getElem (by omega)))
      exact ⟨_, e⟩
    obtain ⟨av, cv, rfl, -, -⟩ := hM.row List.mem_cons_self
    replace hM := (((((hM.addFact (hM0.ko hsz)).addFact (hM0.bxHas hB hb1 (by simp) (by simp))).addFact (hM0.kt 84 (by simp) (by simp))).addFact (hM0.kt 33 (by simp) (by simp))).addFact (hM0.bxHas hB4 h4 (by simp) (by simp))).addFact (sub_rd hw (hM0.old hv) x (lits l x) c0 hc0 hx)
    have hW8 : W8 ((l.drop x).take (lits l x)) := (hw.drop _).take _
    have hkind : ((nx l x).1 = 0 ∧ lits l x = (nx l x).2) ∨ ((nx l x).1 = 1 ∧ lits l x = 1) ∨ ((nx l x).1 = 2 ∧ lits l x = 0) := by
      unfold lits
      rcases (show (nx l x).1 = 0 ∨ (nx l x).1 = 1 ∨ (nx l x).1 = 2 by omega) with h | h | h <;> simp [h]
    have hll := lits_le (l := l) (i := x)
    have hDl : ((l.drop x).take (lits l x)).length = lits l x := by rw [List.length_take, List.length_drop]; omega
    have hE : encL l (pre ++ [x]) = (encL l pre ++ puts (4 * (nx l x).2 + (nx l x).1)) ++ ((l.drop x).take (lits l x)).flatten := by
      unfold encL encG encS
      rw [List.flatMap_append]
      simp
    generalize (l.drop x).take (lits l x) = D at *
    generalize lits l x = q at *
    generalize hkk : (nx l x).1 = kd at *
    generalize hcc : (nx l x).2 = cn at *
    generalize (x : Nat) = i at *
    generalize encL l pre = E at *
    obtain ⟨ad2, hAd⟩ : ∃ ad2, sadr (some ad) i c0 8 = some ad2 := by unfold sadr; split <;> exact ⟨_, rfl⟩
    rw [hAd] at hM
    have hP := puts_len 2 (4 * cn + kd) (by omega)
    have hw' : ∀ y ∈ D, y.length = 8 := hW8
    (repeat' (first | (with_reducible refine w_seq ?_) | ((with_reducible refine c_regionR ?_ ?_); rotate_left; exact rfl) | (with_reducible refine s_nil ?_) | ((with_reducible apply s_callO (f := 44) hF); exact rfl; exact rfl; exact rfl; exact rfl; exact rfl; exact (PutInt_z (4 * cn + kd) _ (by omega) (by omega) av cv E _ rfl own _ (fun b h => hM.lt b (.inl h)) (hM.rowFact List.mem_cons_self) (by omega)); clear hF a; rintro v wn a ⟨a2, c2, rfl, hO⟩ hS hF; replace hM := hM.addRows hS hO; clear hS hO; dsimp only [List.cons_append, List.nil_append] at hM) | (with_reducible refine q_then_n ?_) | ((with_reducible apply s_pure hF); exact rfl; exact rfl; exact rfl; (first | exact trivial | omega | exact ⟨Int.natCast_nonneg _, Int.ofNat_lt.2 (by assumption)⟩ | decide); clear hF a; intro a hF) | ((with_reducible apply s_load hF hM); exact rfl; exact rfl; (repeat (first | exact List.mem_cons_self | refine List.mem_cons_of_mem _ ?_)); exact rfl; exact rfl; clear hF a; intro a hF) | ((with_reducible apply s_loadK hF hM); exact rfl; exact rfl; (repeat (first | exact List.mem_cons_self | refine List.mem_cons_of_mem _ ?_)); exact rfl; exact rfl; clear hF a; intro a hF) | ((with_reducible apply s_store hF hM); exact rfl; exact rfl; exact rfl; exact rfl; (repeat (first | exact Upd.z | apply Upd.s)); exact rfl; exact rfl; exact rfl; clear hM; intro w hM) | (with_reducible refine w_skip ?_) | (with_reducible refine w_block ?_) | (with_reducible refine q_blk_n ?_) | ((with_reducible apply c_dec hF); exact rfl; all_goals intro hc; all_goals (try (exfalso; omega)))))
    all_goals
      first
        | rw [show ((i : Int) + (cn : Int)).toNat - ((i : Int)).toNat = q by omega] at hF
        | rw [show ((i : Int) + 1).toNat - ((i : Int)).toNat = q by omega] at hF
        | rw [show ((i : Int) + 0).toNat - ((i : Int)).toNat = q by omega] at hF
      rw [Int.toNat_natCast, hAd] at hF
      clear hkind
      generalize puts (4 * cn + kd) = P at *
      refine c_loop (m := q) (fun m a w' => ∃ (j : Nat) (v : Value) (n : Nat), m + j = q ∧ n = E.length + P.length + 8 * j ∧
        Fr 45 [] [(36, .int .i64 j), (35, .int .i64 q), (34, .slice (some ad2) q (c0 - i)), (3, .pointer (some ⟨b3, 0, none⟩)), (1, .pointer (some ⟨b1, 0, none⟩))] a ∧
        Mm own W [⟨b3, ⟨[v]⟩, 22⟩] [⟨5, 1, v, n, ((E ++ P) ++ (D.take j).flatten).map (Value.int .u8)⟩] [RdF (Value.int .u8) (some ad2) D.flatten, BxF b1 [.slice (some ad) l.length c0] 33, KT W.heap.size 84 W', KT W.heap.size 33 W', KeepsFrom w1.heap.size W'] w')
        ⟨0, _, E.length + P.length, by omega, by omega, hF.sub (by repeat (first | exact Sub.nil | refine Sub.cons rfl (by first | with_reducible rfl | (refine congrArg (Value.int _) ?_; omega) | exact rfl) ?_)), by rw [List.take_zero, List.flatten_nil, List.append_nil]; exact hM.sub (.refl _) (.cons_cons _ (.cons _ .slnil)) (by intro f hf; simp only [List.mem_cons, List.not_mem_nil, or_false] at hf; (repeat (rcases hf with rfl | hf; · (repeat (first | exact List.mem_cons_self | refine List.mem_cons_of_mem _ ?_)))); first | (subst hf; (repeat (first | exact List.mem_cons_self | refine List.mem_cons_of_mem _ ?_)); done) | (repeat (first | exact hf | refine List.mem_cons_of_mem _ ?_)))⟩ ?_
      clear hF hM a
      rintro m a w' ⟨j, v, n, hm, hn, hF, hM⟩
      by_cases hj : j < q
      · obtain ⟨s, hs⟩ := get_of_lt (l := D) (i := j) (by omega)
        obtain ⟨x0, x1, x2, x3, x4, x5, x6, x7, rfl⟩ := len8 (hw' s (List.mem_of_getElem? hs))
        have htk : (D.take (j + 1)).flatten = (D.take j).flatten ++ [x0, x1, x2, x3, x4, x5, x6, x7] := by rw [List.take_add_one, hs]; simp
        (repeat' (first | (with_reducible refine w_seq ?_) | ((with_reducible refine c_regionR ?_ ?_); rotate_left; exact rfl) | (with_reducible refine s_nil ?_) | ((with_reducible apply s_loadS hF hM); exact rfl; exact rfl; (repeat (first | exact List.mem_cons_self | refine List.mem_cons_of_mem _ ?_)); exact rfl; exact rfl; (first | with_reducible assumption | (simp only [Int.toNat_natCast]; with_reducible assumption)); (with_reducible assumption); clear hF a; intro a hF) | (with_reducible refine q_then_n ?_) | ((with_reducible apply s_pure hF); exact rfl; exact rfl; exact rfl; (first | exact trivial | omega | exact ⟨Int.natCast_nonneg _, Int.ofNat_lt.2 (by assumption)⟩ | decide); clear hF a; intro a hF) | ((with_reducible apply s_store hF hM); exact rfl; exact rfl; exact rfl; exact rfl; (repeat (first | exact Upd.z | apply Upd.s)); exact rfl; exact rfl; exact rfl; clear hM; intro w hM) | ((with_reducible apply s_alloc hF hM); exact rfl; exact rfl; exact rfl; clear hF hM a; intro b w a hM hF) | (with_reducible refine w_skip ?_) | (with_reducible refine w_block ?_) | ((with_reducible apply c_dec hF); exact rfl; all_goals intro hc; all_goals (try (exfalso; omega)))))
        refine c_drawR (fun i => Nat.ble 3 i) rfl (fun ⟨_, _, h⟩ => h) (fun x hx => hx) hM ?_; clear hM; intro w hM
        (first | (apply t_load (i := 0) hF rfl rfl rfl; (repeat (first | exact List.mem_cons_self | refine List.mem_cons_of_mem _ ?_)); exact rfl; exact rfl; kernel_rfl; exact hM.sm; exact (fun _ _ _ h => h); clear hF a; intro a hF))
        (first | (apply t_arrSl (i := 1) hF rfl rfl rfl rfl rfl; kernel_rfl; exact hM.sm; exact (fun _ _ _ h => h); clear hF a; intro a hF))
        refine t_one (i := 2) hF rfl (by kernel_rfl) rfl ?_
        intro K hK
        (apply x_app hF hM rfl rfl rfl; (repeat (first | exact List.mem_cons_self | refine List.mem_cons_of_mem _ ?_)); (repeat (first | exact Kth.z | apply Kth.s)); exact rfl; exact rfl; exact rfl; exact rfl; omega; clear hF hM a; intro g cap w a hM hF; dsimp only [List.set] at hM)
        refine hK _ _ (fun _ => (hM.sm.sub (fun x hx => by repeat (first | exact hx | refine List.mem_cons_of_mem _ ?_)) (fun _ h => by repeat (first | exact h | refine List.mem_cons_of_mem _ ?_)))) ?_; clear hK
        refine t_one (i := 3) hF rfl (by kernel_rfl) rfl ?_
        intro K hK
        (apply x_store hF hM rfl rfl rfl; (repeat (first | exact Upd.z | apply Upd.s)); exact rfl; exact rfl; exact rfl; clear hF hM a; intro w a hM hF)
        refine hK _ _ (fun h => by cases h) ?_; clear hK
        refine t_done (by kernel_rfl) ?_
        (repeat' (first | ((with_reducible refine c_regionR ?_ ?_); rotate_left; exact rfl) | (with_reducible refine s_nil ?_) | (with_reducible refine q_then_n ?_) | ((with_reducible apply s_pure hF); exact rfl; exact rfl; exact rfl; (first | exact trivial | omega | exact ⟨Int.natCast_nonneg _, Int.ofNat_lt.2 (by assumption)⟩ | decide); clear hF a; intro a hF) | (with_reducible refine q_blk_n ?_)))
        refine ⟨m - 1, by omega, j + 1, .slice (some ⟨g, 0, none⟩) (n + 8) cap, n + 8, by omega, by omega, hF.sub (by repeat (first | exact Sub.nil | refine Sub.cons rfl (by first | with_reducible rfl | (refine congrArg (Value.int _) ?_; omega) | exact rfl) ?_)), ?_⟩
        rw [htk, ← List.append_assoc, List.map_append]
        exact hM.sub (.cons _ (.refl _)) (.refl _) (by intro f hf; simp only [List.mem_cons, List.not_mem_nil, or_false] at hf; (repeat (rcases hf with rfl | hf; · (repeat (first | exact List.mem_cons_self | refine List.mem_cons_of_mem _ ?_)))); first | (subst hf; (repeat (first | exact List.mem_cons_self | refine List.mem_cons_of_mem _ ?_)); done) | (repeat (first | exact hf | refine List.mem_cons_of_mem _ ?_)))
      · obtain rfl : j = q := by omega
        rw [List.take_of_length_le (by omega)] at hM
        (repeat' (first | (with_reducible refine w_seq ?_) | ((with_reducible refine c_regionR ?_ ?_); rotate_left; exact rfl) | (with_reducible refine s_nil ?_) | (with_reducible refine q_then_n ?_) | ((with_reducible apply s_pure hF); exact rfl; exact rfl; exact rfl; (first | exact trivial | omega | exact ⟨Int.natCast_nonneg _, Int.ofNat_lt.2 (by assumption)⟩ | decide); clear hF a; intro a hF) | (with_reducible refine w_exit ?_) | (with_reducible refine q_then_x ?_) | (with_reducible refine q_blk_n ?_) | (with_reducible refine q_blk_x ?_) | ((with_reducible apply c_false2 hF); exact rfl; (first | with_reducible rfl | (refine congrArg Value.bool ?_; focus (simp; done))))))
        have hko := hM.fact (f := KeepsFrom w1.heap.size W') (by (repeat (first | exact List.mem_cons_self | refine List.mem_cons_of_mem _ ?_)))
        refine ⟨hko, ⟨below_mm hM0 hM hko.size, hM.fact (f := KT _ 84 W') (by (repeat (first | exact List.mem_cons_self | refine List.mem_cons_of_mem _ ?_))), hM.fact (f := KT _ 33 W') (by (repeat (first | exact List.mem_cons_self | refine List.mem_cons_of_mem _ ?_)))⟩, v, ?_, hM.fact (f := BxF b1 _ _) (by (repeat (first | exact List.mem_cons_self | refine List.mem_cons_of_mem _ ?_)))⟩
        rw [hE, show (E ++ P ++ D.flatten).length = n by rw [List.length_append, List.length_append, flat_len hW8]; omega]
        exact hM.sub (.refl _) (.refl _) (by simp)
end Go.Proofs.Ytocgpllmfdnfjaa

/- bytes.Equal, bits.Mul, slices.Repeat of sectors. -/
namespace Go.Proofs.Ytocgpllmfdnfjaa
open Go.RowKit Go.Shelf
set_option maxRecDepth 20000 in
theorem equalB_c (xs ys : List Int) (hx : ∀ x ∈ xs, 0 ≤ x ∧ x < 256) (hy : ∀ y ∈ ys, 0 ≤ y ∧ y < 256) (a1 a2 : Option Addr) (m1 m2 c1 c2 : Nat) (h1 : xs.length = m1) (h2 : ys.length = m2) (own : Nat → Prop) (W : World) (hl : ∀ b, own b → b < W.heap.size) (hv1 : Has own W (RdF (Value.int .u8) a1 xs)) (hv2 : Has own W (RdF (Value.int .u8) a2 ys)) :
    Calls Try.prog 13 ⟨[.slice a1 m1 c1, .slice a2 m2 c2]⟩ W (Ret W fun v _ => v = .bool (decide (xs = ys))) := by
  have hM := ((Mm.start hl).known hv1).known hv2
  refine f_start Try.func13 rfl Try.ntmps13 rfl rfl ?_; intro a hF
  (repeat (first | (with_reducible refine w_seq ?_) | (with_reducible refine c_region ?_) | (with_reducible refine s_nil ?_) | ((with_reducible apply s_b2s hF hM); exact rfl; exact rfl; (repeat (first | exact List.mem_cons_self | refine List.mem_cons_of_mem _ ?_)); exact rfl; exact rfl; exact rfl; exact rfl; (first | with_reducible assumption | rfl); clear hF a; intro a hF) | ((with_reducible apply s_eqS hF); exact rfl; exact rfl; exact rfl; kernel_rfl; exact rfl; (with_reducible assumption); (with_reducible assumption); clear hF a; intro a hF) | (with_reducible refine q_then_n ?_) | ((with_reducible apply s_pure hF); exact rfl; exact rfl; exact rfl; (first | exact trivial | omega | exact ⟨Int.natCast_nonneg _, Int.ofNat_lt.2 (by assumption)⟩ | decide); clear hF a; intro a hF) | (with_reducible refine w_ret ?_)))
  (apply f_ret Try.results13 hF hM; (repeat (first | exact RL.nil | (apply RL.tmp; exact rfl) | (apply RL.cell; exact rfl; (repeat (first | exact List.mem_cons_self | refine List.mem_cons_of_mem _ ?_)); exact rfl))); refine Ret.mk hM.since ?_; dsimp only [resV])
set_option maxRecDepth 20000 in
theorem mul64_c (c : Nat) (hc : c < 4294967296) (W : World) : Calls Try.prog 66 ⟨[.int .u64 1, .int .u64 c]⟩ W (Ret W fun v _ => v = .tuple #[.int .u64 0, .int .u64 c]) := by
  have hM : Mm (fun _ => False) W [] [] [] W := Mm.start (fun _ h => h.elim)
  refine f_start Try.func66 rfl Try.ntmps66 rfl rfl ?_; intro a hF
  (repeat (first | (with_reducible refine w_seq ?_) | (with_reducible refine c_region ?_) | (with_reducible refine s_nil ?_) | ((with_reducible apply s_and32 hF); exact rfl; exact rfl; exact rfl; exact rfl; omega; clear hF a; intro a hF) | ((with_reducible apply s_shr32 hF); exact rfl; exact rfl; exact rfl; exact rfl; exact rfl; omega; clear hF a; intro a hF) | (with_reducible refine q_then_n ?_) | ((with_reducible apply s_pure hF); exact rfl; exact rfl; exact rfl; (first | exact trivial | omega | exact ⟨Int.natCast_nonneg _, Int.ofNat_lt.2 (by assumption)⟩ | decide); clear hF a; intro a hF) | (with_reducible refine w_ret ?_)))
  (apply f_ret Try.results66 hF hM; (repeat (first | exact RL.nil | (apply RL.tmp; exact rfl) | (apply RL.cell; exact rfl; (repeat (first | exact List.mem_cons_self | refine List.mem_cons_of_mem _ ?_)); exact rfl))); refine Ret.mk hM.since ?_; dsimp only [resV])
  simp
  omega
set_option maxRecDepth 20000 in
theorem mul_c (c : Nat) (hc : c < 4294967296) (x q : Int) (hx : x = 1) (hq : q = c) (W : World) : Calls Try.prog 64 ⟨[.int .u64 x, .int .u64 q]⟩ W (Ret W fun v _ => v = .tuple #[.int .u64 0, .int .u64 c]) := by
  have hM : Mm (fun _ => False) W [] [] [] W := Mm.start (fun _ h => h.elim)
  subst hx hq
  refine f_start Try.func64 rfl Try.ntmps64 rfl rfl ?_; intro a hF
  (repeat' (first | (with_reducible refine w_seq ?_) | (with_reducible refine c_region ?_) | (with_reducible refine s_nil ?_) | ((with_reducible apply s_call (f := 66) hF hM); exact rfl; exact rfl; exact rfl; exact rfl; exact rfl; exact (mul64_c c hc _); clear hF hM a; rintro v w a rfl - hM hF) | (with_reducible refine q_then_n ?_) | ((with_reducible apply s_pure hF); exact rfl; exact rfl; exact rfl; (first | exact trivial | omega | exact ⟨Int.natCast_nonneg _, Int.ofNat_lt.2 (by assumption)⟩ | decide); clear hF a; intro a hF) | (with_reducible refine w_skip ?_) | (with_reducible refine w_ret ?_) | ((with_reducible apply c_false2 hF); exact rfl; (first | with_reducible rfl | (refine congrArg Value.bool ?_; focus (simp; done))))))
  (apply f_ret Try.results64 hF hM; (repeat (first | exact RL.nil | (apply RL.tmp; exact rfl) | (apply RL.cell; exact rfl; (repeat (first | exact List.mem_cons_self | refine List.mem_cons_of_mem _ ?_)); exact rfl))); refine Ret.mk hM.since ?_; dsimp only [resV])
theorem flat_take : ∀ {l : List (List Int)} (_ : W8 l) (i : Nat), (l.take i).flatten = l.flatten.take (i * 8)
  | [], _, i => by simp
  | s :: l, h, 0 => by simp
  | s :: l, h, i + 1 => by
    have hs : s.length = 8 := h s (by simp)
    rw [List.take_succ_cons, List.flatten_cons, flat_take (l := l) (fun y hy => h y (List.mem_cons_of_mem _ hy)) i, List.flatten_cons, List.take_append, List.take_of_length_le (by omega : s.length ≤ (i + 1) * 8), hs, show (i + 1) * 8 - 8 = i * 8 by omega]
/-- n sectors s, the rest zero. -/
def mixL (s : List Int) (c n : Nat) : List (List Int) := List.replicate n s ++ List.replicate (c - n) zr
theorem mixL_8 {s : List Int} (hs8 : s.length = 8) (c n : Nat) : W8 (mixL s c n) := by
  intro y hy
  rcases List.mem_append.1 hy with h | h
  · rw [List.eq_of_mem_replicate h]; exact hs8
  · rw [List.eq_of_mem_replicate h]; rfl
theorem mixL_step {s : List Int} (hs8 : s.length = 8) {c n q : Nat} (hq : n + q ≤ c) :
    (((mixL s c n).flatten).map (Value.int .u8)).take (n * 8) ++ ((List.replicate q s).flatten).map (Value.int .u8) ++ (((mixL s c n).flatten).map (Value.int .u8)).drop (n * 8 + (((List.replicate q s).flatten).map (Value.int .u8)).length) = ((mixL s c (n + q)).flatten).map (Value.int .u8) := by
  have hr : ((List.replicate q s).flatten).length = q * 8 := by
    rw [flat_len (fun y hy => by rw [List.eq_of_mem_replicate hy]; exact hs8), List.length_replicate]
  rw [List.length_map, hr, ← List.map_take, ← List.map_drop, ← List.map_append, ← List.map_append, ← flat_take (mixL_8 hs8 c n), ← Nat.add_mul, ← flat_drop (mixL_8 hs8 c n), ← List.flatten_append, ← List.flatten_append]
  congr 2
  unfold mixL
  rw [List.take_left' (by simp), List.drop_append, List.length_replicate, List.drop_eq_nil_of_le (by simp), List.nil_append, show n + q - n = q by omega, List.drop_replicate, List.replicate_append_replicate]
  congr 2
  omega
theorem mixL_pre {s : List Int} {c n q : Nat} (hq : q ≤ n) {i : Nat} {v : Value} (h : (((List.replicate q s).flatten).map (Value.int .u8))[i]? = some v) : (((mixL s c n).flatten).map (Value.int .u8))[i]? = some v := by
  have e : mixL s c n = List.replicate q s ++ (List.replicate (n - q) s ++ List.replicate (c - n) zr) := by
    unfold mixL
    rw [← List.append_assoc]
    congr 1
    rw [List.replicate_append_replicate]
    congr 1
    omega
  rw [e, List.flatten_append, List.map_append, List.getElem?_append_left (List.getElem?_eq_some_iff.1 h).1]
  exact h
set_option maxRecDepth 20000 in
theorem repeat_c (s : List Int) (hs8 : s.length = 8) (c : Nat) (hc0 : 1 ≤ c) (hc : c ≤ 1000000) (a0 : Option Addr) (c1 : Nat) (own : Nat → Prop) (W : World) (hl : ∀ b, own b → b < W.heap.size) (hv : Has own W (RdF (Value.int .u8) a0 s)) :
    Calls Try.prog 62 ⟨[.slice a0 1 c1, .int .i64 c]⟩ W (Ret W fun v w' => ∃ a' c', v = .slice a' c c' ∧ Owns w' W.heap.size [⟨44, 8, .slice a' c c', c, (List.replicate c s).flatten.map (Value.int .u8)⟩]) := by
  have hM := (Mm.start hl).known hv
  refine f_start Try.func62 rfl Try.ntmps62 rfl rfl ?_; intro a hF
  (repeat' (first | (with_reducible refine w_seq ?_) | (with_reducible refine c_region ?_) | (with_reducible refine s_nil ?_) | ((with_reducible apply s_call (f := 64) hF hM); exact rfl; exact rfl; exact rfl; exact rfl; exact rfl; exact (mul_c c (by omega) _ _ (by omega) (by omega) _); clear hF hM a; rintro v w a rfl - hM hF) | (with_reducible refine q_then_n ?_) | ((with_reducible apply s_pure hF); exact rfl; exact rfl; exact rfl; (first | exact trivial | omega | exact ⟨Int.natCast_nonneg _, Int.ofNat_lt.2 (by assumption)⟩ | decide); clear hF a; intro a hF) | (with_reducible refine w_skip ?_) | ((with_reducible apply c_false2 hF); exact rfl; (first | with_reducible rfl | (refine congrArg Value.bool ?_; focus (simp; done)))) | ((with_reducible apply c_dec hF); exact rfl; all_goals intro hc; all_goals (try (exfalso; omega)))))
  apply s_makeZ c hF hM
  iterate 6 exact rfl
  · omega
  · omega
  · omega
  clear hF hM a
  intro b w a hM hF
  obtain ⟨s0, hs0⟩ : ∃ s0, s[0]? = some s0 := ⟨_, List.getElem?_eq_getElem (by omega)⟩
  obtain ⟨ad, rfl⟩ := rd_some hM (by (repeat (first | exact List.mem_cons_self | refine List.mem_cons_of_mem _ ?_))) hs0
  (repeat (first | (with_reducible refine w_seq ?_) | (with_reducible refine c_region ?_) | (with_reducible refine s_nil ?_) | (with_reducible refine q_then_n ?_) | ((with_reducible apply s_pure hF); exact rfl; exact rfl; exact rfl; (first | exact trivial | omega | exact ⟨Int.natCast_nonneg _, Int.ofNat_lt.2 (by assumption)⟩ | decide); clear hF a; intro a hF)))
  refine s_op hF rfl fun K hK => ?_
  have hz : zerosL [.int .u8 0, .int .u8 0, .int .u8 0, .int .u8 0, .int .u8 0, .int .u8 0, .int .u8 0, .int .u8 0] c = ((mixL s c 0).flatten).map (Value.int .u8) := by
    have := zerosL_ints (k := .u8) (m := 8) c
    unfold mixL
    rw [List.replicate_zero, List.nil_append, Nat.sub_zero]
    exact this
  rw [hz] at hM
  have hml : ∀ k, (((mixL s c k).flatten).map (Value.int .u8)).length = (mixL s c k).length * 8 := fun k => by rw [List.length_map, flat_len (mixL_8 hs8 c k)]
  have h1c : Nat.min 1 c = 1 := Nat.min_eq_left hc0
  refine e_copyR hF hM (cs := ((List.replicate 1 s).flatten).map (Value.int .u8)) (off := 0) rfl rfl rfl ?_ .z ?_ ?_ ?_ ?_
  · intro v hv
    obtain ⟨y, _, rfl⟩ := List.mem_map.1 hv
    rfl
  · rw [h1c]; simp [hs8]
  · intro i v hi
    have hrd := hM.fact (f := RdF (Value.int .u8) (some ad) s) (by (repeat (first | exact List.mem_cons_self | refine List.mem_cons_of_mem _ ?_)))
    simp only [List.replicate_one, List.flatten_cons, List.flatten_nil, List.append_nil, List.getElem?_map] at hi
    cases hy : s[i]? with
    | none => rw [hy] at hi; cases hi
    | some y =>
      rw [hy] at hi
      injection hi with hi
      subst hi
      obtain ⟨b', off', e4, _, e5⟩ := hrd i y hy
      injection e4 with e4
      subst e4
      rw [add_lit]
      exact e5
  · simp [hs8]; omega
  intro w2 hM
  have hst := mixL_step hs8 (c := c) (n := 0) (q := 1) (by omega)
  rw [Nat.zero_mul] at hst
  rw [h1c]
  dsimp only [List.set] at hM
  rw [hst] at hM
  refine hK _ _ ?_
  clear hK
  have hF := hF.put (d := 33) rfl (.int .i64 ((1 : Nat) : Int))
  generalize a.put (some 33) _ = a at *
  (repeat (first | (with_reducible refine w_seq ?_) | (with_reducible refine s_nil ?_) | (with_reducible refine q_then_n ?_) | ((with_reducible apply s_pure hF); exact rfl; exact rfl; exact rfl; (first | exact trivial | omega | exact ⟨Int.natCast_nonneg _, Int.ofNat_lt.2 (by assumption)⟩ | decide); clear hF a; intro a hF) | (with_reducible refine w_block ?_)))
  refine c_loop (m := c - 1) (fun m a w' => ∃ k : Nat, m + k = c ∧ 1 ≤ k ∧ k ≤ c ∧ Fr 48 [] [(8, .int .i64 k), (7, .slice (some ⟨b, 0, none⟩) c c)] a ∧
    Mm own W [] [⟨44, 8, .slice (some ⟨b, 0, none⟩) c c, c, ((mixL s c k).flatten).map (Value.int .u8)⟩] [RdF (Value.int .u8) (some ad) s] w') ⟨1, by omega, by omega, by omega, hF.sub (by repeat (first | exact Sub.nil | refine Sub.cons rfl (by first | with_reducible rfl | (refine congrArg (Value.int _) ?_; omega) | exact rfl) ?_)), hM⟩ ?_
  clear hF hM a
  rintro m a w' ⟨k, hm, hk1, hkc, hF, hM⟩
  by_cases hlt : k < c
  · obtain ⟨q, hq⟩ : ∃ q, Nat.min k (c - k) = q := ⟨_, rfl⟩
    have hq1 : q ≤ k := by rw [← hq]; exact Nat.min_le_left _ _
    have hq2 : q ≤ c - k := by rw [← hq]; exact Nat.min_le_right _ _
    have hq3 : 1 ≤ q := by rw [← hq]; exact Nat.le_min.2 ⟨hk1, by omega⟩
    have hone : ∀ v ∈ ((List.replicate q s).flatten).map (Value.int .u8), v.oneCell' = true := by
      intro v hv
      obtain ⟨y, _, rfl⟩ := List.mem_map.1 hv
      rfl
    have hrl : (((List.replicate q s).flatten).map (Value.int .u8)).length = q * 8 := by
      rw [List.length_map, flat_len (fun y hy => by rw [List.eq_of_mem_replicate hy]; exact hs8), List.length_replicate]
    have hs1 : sadr (some ⟨b, 0, none⟩) k c 8 = some ⟨b, k * 8, none⟩ := by
      unfold sadr
      rw [if_neg (by omega)]
      simp [add_lit]
    have hs2 : sadr (some ⟨b, 0, none⟩) 0 c 8 = some ⟨b, 0, none⟩ := by
      unfold sadr
      rw [if_neg (by omega)]
      simp [add_lit]
    have hst := mixL_step hs8 (c := c) (n := k) (q := q) (by omega)
    with_reducible refine w_seq ?_
    refine c_cut (fun a' w1 => w1 = w' ∧ Fr 48 [] [(8, .int .i64 k), (7, .slice (some ⟨b, 0, none⟩) c c)] a') ?_ ?_
    · (repeat' (first | (with_reducible refine w_seq ?_) | (with_reducible refine c_region ?_) | (with_reducible refine s_nil ?_) | (with_reducible refine q_then_n ?_) | ((with_reducible apply s_pure hF); exact rfl; exact rfl; exact rfl; (first | exact trivial | omega | exact ⟨Int.natCast_nonneg _, Int.ofNat_lt.2 (by assumption)⟩ | decide); clear hF a; intro a hF) | (with_reducible refine w_skip ?_) | ((with_reducible apply c_dec hF); exact rfl; all_goals intro hc; all_goals (try (exfalso; omega)))))
      exact q_cut ⟨rfl, hF.sub (by repeat (first | exact Sub.nil | refine Sub.cons rfl (by first | with_reducible rfl | (refine congrArg (Value.int _) ?_; omega) | exact rfl) ?_))⟩
    clear hF a
    rintro a w1 ⟨rfl, hF⟩
    with_reducible refine w_block ?_
    refine c_draw (fun i => Nat.ble 10 i) hM ?_; clear hM; intro w hM
    (first | (refine t_pure (i := 0) hF rfl rfl rfl rfl (by kernel_rfl) hM.sm (fun _ _ _ h => h) ?_ ?_; (first | exact trivial | omega | decide); clear hF a; intro a hF))
    (first | (refine t_pure (i := 1) hF rfl rfl rfl rfl (by kernel_rfl) hM.sm (fun _ _ _ h => h) ?_ ?_; (first | exact trivial | omega | decide); clear hF a; intro a hF))
    (first | (refine t_pure (i := 2) hF rfl rfl rfl rfl (by kernel_rfl) hM.sm (fun _ _ _ h => h) ?_ ?_; (first | exact trivial | omega | decide); clear hF a; intro a hF))
    (first | (refine t_pure (i := 3) hF rfl rfl rfl rfl (by kernel_rfl) hM.sm (fun _ _ _ h => h) ?_ ?_; (first | exact trivial | omega | decide); clear hF a; intro a hF))
    replace hF := Fr.same (t := 41) (u := .slice (some ⟨b, k * 8, none⟩) (c - k) (c - k)) hF rfl (by rw [Int.toNat_natCast, hs1]; simp)
    (first | (refine t_pure (i := 4) hF rfl rfl rfl rfl (by kernel_rfl) (hM.sm.sub (fun x hx => by repeat (first | exact hx | refine List.mem_cons_of_mem _ ?_)) (fun _ h => by repeat (first | exact h | refine List.mem_cons_of_mem _ ?_))) (fun _ _ _ h => h) ?_ ?_; (first | exact trivial | omega | decide); clear hF a; intro a hF))
    (first | (refine t_pure (i := 5) hF rfl rfl rfl rfl (by kernel_rfl) (hM.sm.sub (fun x hx => by repeat (first | exact hx | refine List.mem_cons_of_mem _ ?_)) (fun _ h => by repeat (first | exact h | refine List.mem_cons_of_mem _ ?_))) (fun _ _ _ h => h) ?_ ?_; (first | exact trivial | omega | decide); clear hF a; intro a hF))
    (first | (refine t_pure (i := 6) hF rfl rfl rfl rfl (by kernel_rfl) (hM.sm.sub (fun x hx => by repeat (first | exact hx | refine List.mem_cons_of_mem _ ?_)) (fun _ h => by repeat (first | exact h | refine List.mem_cons_of_mem _ ?_))) (fun _ _ _ h => h) ?_ ?_; (first | exact trivial | omega | decide); clear hF a; intro a hF))
    replace hF := Fr.same (t := 44) (u := .slice (some ⟨b, 0, none⟩) k c) hF rfl (by rw [show ((0 : Int)).toNat = 0 from rfl, hs2]; simp)
    refine t_one (i := 7) hF rfl (by kernel_rfl) rfl ?_
    intro K hK
    (refine e_copyR hF hM (cs := ((List.replicate q s).flatten).map (Value.int .u8)) (off := k * 8) rfl rfl rfl hone .z (by rw [hrl, hq]) (fun i v hi => (hM.mem.own.own _ List.mem_cons_self).cells (g := b) rfl i v (mixL_pre hq1 hi)) (by rw [hrl]; omega) ?_; clear hM; intro w hM; dsimp only [List.set] at hM; rw [hst] at hM; rw [hq]; replace hF := hF.put (d := 45) rfl (.int .i64 (q : Nat)); generalize a.put (some 45) _ = a at *)
    refine hK _ _ (fun _ => (hM.sm.sub (fun x hx => by repeat (first | exact hx | refine List.mem_cons_of_mem _ ?_)) (fun _ h => by repeat (first | exact h | refine List.mem_cons_of_mem _ ?_)))) ?_; clear hK
    (first | (refine t_pure (i := 8) hF rfl rfl rfl rfl (by kernel_rfl) (hM.sm.sub (fun x hx => by repeat (first | exact hx | refine List.mem_cons_of_mem _ ?_)) (fun _ h => by repeat (first | exact h | refine List.mem_cons_of_mem _ ?_))) (fun _ _ _ h => h) ?_ ?_; (first | exact trivial | omega | decide); clear hF a; intro a hF))
    (first | (refine t_pure (i := 9) hF rfl rfl rfl rfl (by kernel_rfl) (hM.sm.sub (fun x hx => by repeat (first | exact hx | refine List.mem_cons_of_mem _ ?_)) (fun _ h => by repeat (first | exact h | refine List.mem_cons_of_mem _ ?_))) (fun _ _ _ h => h) ?_ ?_; (first | exact trivial | omega | decide); clear hF a; intro a hF))
    refine t_done (by kernel_rfl) ?_
    (repeat' (first | (with_reducible refine q_then_n ?_) | (with_reducible refine q_blk_n ?_)))
    exact ⟨m - q, by omega, k + q, by omega, by omega, by omega, hF.sub (by repeat (first | exact Sub.nil | refine Sub.cons rfl (by first | with_reducible rfl | (refine congrArg (Value.int _) ?_; omega) | exact rfl) ?_)), hM⟩
  · obtain rfl : k = c := by omega
    (repeat' (first | (with_reducible refine w_seq ?_) | (with_reducible refine c_region ?_) | (with_reducible refine s_nil ?_) | (with_reducible refine q_then_n ?_) | ((with_reducible apply s_pure hF); exact rfl; exact rfl; exact rfl; (first | exact trivial | omega | exact ⟨Int.natCast_nonneg _, Int.ofNat_lt.2 (by assumption)⟩ | decide); clear hF a; intro a hF) | (with_reducible refine w_exit ?_) | (with_reducible refine w_ret ?_) | (with_reducible refine q_then_x ?_) | (with_reducible refine q_blk_x ?_) | ((with_reducible apply c_false2 hF); exact rfl; (first | with_reducible rfl | (refine congrArg Value.bool ?_; focus (simp; done))))))
    (apply f_ret Try.results62 hF hM; (repeat (first | exact RL.nil | (apply RL.tmp; exact rfl) | (apply RL.cell; exact rfl; (repeat (first | exact List.mem_cons_self | refine List.mem_cons_of_mem _ ?_)); exact rfl))); refine Ret.mk hM.since ?_; dsimp only [resV])
    refine ⟨some ⟨b, 0, none⟩, k, rfl, ?_⟩
    have hO := hM.mem.own
    unfold mixL at hO
    rw [Nat.sub_self, List.replicate_zero, List.append_nil] at hO
    exact hO
end Go.Proofs.Ytocgpllmfdnfjaa

/- runlength: Size, Runs. -/
namespace Go.Proofs.Ytocgpllmfdnfjaa
open Go.RowKit Go.Shelf
/-- The ranges of equal sectors, from a place on. -/
def runsF (l : List (List Int)) : Nat → Nat → List (Nat × Nat)
  | 0, _ => []
  | f + 1, i => if i < l.length then (if 2 ≤ rl l i then (i, rl l i) :: runsF l f (i + rl l i) else runsF l f (i + rl l i)) else []
def runs (l : List (List Int)) : List (Nat × Nat) := runsF l l.length 0
def extC (p : List (Nat × Nat)) : List Value := p.flatMap fun e => [.int .i64 e.1, .int .i64 e.2]
theorem extC_app (p : List (Nat × Nat)) (e : Nat × Nat) : extC (p ++ [e]) = extC p ++ [.int .i64 e.1, .int .i64 e.2] := by simp [extC]
theorem extC_len : ∀ (p : List (Nat × Nat)), (extC p).length = p.length * 2
  | [] => rfl
  | e :: p => by
    have := extC_len p
    unfold extC at this ⊢
    rw [List.flatMap_cons, List.length_append, this]
    simp only [List.length_cons, List.length_nil]
    omega
end Go.Proofs.Ytocgpllmfdnfjaa

/- runlength: number and sector of a reader. -/
namespace Go.Proofs.Ytocgpllmfdnfjaa
open Go.RowKit Go.Shelf
/-- The value with which a reader stops. -/
def fail (e : Int) : List PanicEntry := [{ v := .iface 90 (.agg #[.int .i64 e]), recovered := false }]
theorem row_capB {own : Nat → Prop} {w w0 : World} {bs : List BoxE} {L : List Ent} {Fs : List (World → Prop)} (hM : Mm own w0 bs L Fs w) {e : TypeId} {size : Nat} {a : Option Addr} {m c : Nat} {xs : List Value} (h : (⟨e, size, .slice a m c, m, xs⟩ : Ent) ∈ L) : m ≤ c := by
  rcases (hM.mem.own.own _ h).2 with ⟨h1, h2⟩ | ⟨g, cap, cur, h1, _, _, h2, _⟩
  · simp only at h2; omega
  · simp only [Value.slice.injEq] at h1
    have h3 : m ≤ cap := h2
    omega
section
variable (xs : List Int) (hxb : ∀ x ∈ xs, 0 ≤ x ∧ x < 256) (hlen : xs.length ≤ 1000000) (a0 : Option Addr) (c0 : Nat) (hc0 : xs.length ≤ c0) {own : Nat → Prop} {w0 W : World} {bs : List BoxE} {L : List Ent} {Fs : List (World → Prop)} {b : Nat} {T : TypeId} {mv ov : Value} (hM : Mm own w0 (⟨b, ⟨[.slice a0 xs.length c0, mv, ov]⟩, T⟩ :: bs) L (RdF (Value.int .u8) a0 xs :: Fs) W)
include hxb hlen hc0 hM
set_option maxRecDepth 20000 in
theorem rnum_ok (he : (rdNum xs).2.1 = 0) : Calls Try.prog 60 ⟨[.pointer (some ⟨b, 0, none⟩)]⟩ W (Rtn fun v w' => v = .int .i64 (rdNum xs).1 ∧ ∃ a1 c1, (xs.drop (rdNum xs).2.2).length ≤ c1 ∧
    Mm own w0 (⟨b, ⟨[.slice a1 (xs.drop (rdNum xs).2.2).length c1, mv, ov]⟩, T⟩ :: bs) L (RdF (Value.int .u8) a1 (xs.drop (rdNum xs).2.2) :: RdF (Value.int .u8) a0 xs :: Fs) w') := by
  refine f_start Try.func60 rfl Try.ntmps60 rfl rfl ?_; intro a hF
  (repeat' (first | (with_reducible refine w_seq ?_) | (with_reducible refine c_region ?_) | (with_reducible refine s_nil ?_) | ((with_reducible apply s_callO (f := 32) hF); exact rfl; exact rfl; exact rfl; exact rfl; exact rfl; exact (Int_ok xs hxb hlen a0 c0 hc0 _ _ hM.lt (hM.facts _ (by (repeat (first | exact List.mem_cons_self | refine List.mem_cons_of_mem _ ?_)))) he); clear hF a; rintro v wn a ⟨a1, c1, rfl, hO⟩ hS hF; replace hM := hM.addRows hS hO; clear hS hO; dsimp only [List.cons_append, List.nil_append] at hM) | (with_reducible refine q_then_n ?_) | ((with_reducible apply s_pure hF); exact rfl; exact rfl; exact rfl; (first | exact trivial | omega | exact ⟨Int.natCast_nonneg _, Int.ofNat_lt.2 (by assumption)⟩ | decide); clear hF a; intro a hF) | ((with_reducible apply s_load hF hM); exact rfl; exact rfl; (repeat (first | exact List.mem_cons_self | refine List.mem_cons_of_mem _ ?_)); exact rfl; exact rfl; clear hF a; intro a hF) | ((with_reducible apply s_store hF hM); exact rfl; exact rfl; exact rfl; exact rfl; (repeat (first | exact Upd.z | apply Upd.s)); exact rfl; exact rfl; exact rfl; clear hM; intro w hM) | (with_reducible refine w_skip ?_) | (with_reducible refine w_ret ?_) | ((with_reducible apply c_false2 hF); exact rfl; (first | with_reducible rfl | (refine congrArg Value.bool ?_; focus (simp; done))))))
  have hcap := row_capB hM List.mem_cons_self
  replace hM := hM.freezeRow
  (apply f_ret Try.results60 hF hM; (repeat (first | exact RL.nil | (apply RL.tmp; exact rfl) | (apply RL.cell; exact rfl; (repeat (first | exact List.mem_cons_self | refine List.mem_cons_of_mem _ ?_)); exact rfl))); refine Both.mk ?_; try dsimp only [resV])
  exact ⟨rfl, a1, c1, hcap, hM⟩
set_option maxRecDepth 20000 in
theorem rnum_err (he : (rdNum xs).2.1 ≠ 0) : Calls Try.prog 60 ⟨[.pointer (some ⟨b, 0, none⟩)]⟩ W (Both (fun _ _ => False) fun c w' => c = fail (rdNum xs).2.1 ∧ ∃ bs' Fs', Mm own w0 (⟨b, bs', T⟩ :: bs) L Fs' w') := by
  refine f_start Try.func60 rfl Try.ntmps60 rfl rfl ?_; intro a hF
  (repeat' (first | (with_reducible refine w_seq ?_) | (with_reducible refine c_region ?_) | (with_reducible refine s_nil ?_) | ((with_reducible apply s_call (f := 32) hF hM); exact rfl; exact rfl; exact rfl; exact rfl; exact rfl; exact (Int_err xs hxb hlen a0 c0 hc0 _ _ hM.lt (hM.facts _ (by (repeat (first | exact List.mem_cons_self | refine List.mem_cons_of_mem _ ?_)))) he); clear hF hM a; rintro v w a rfl - hM hF) | ((with_reducible apply s_pan hF); exact rfl; exact rfl; exact rfl) | (with_reducible refine q_then_p ?_) | (with_reducible refine q_then_n ?_) | ((with_reducible apply s_pure hF); exact rfl; exact rfl; exact rfl; (first | exact trivial | omega | exact ⟨Int.natCast_nonneg _, Int.ofNat_lt.2 (by assumption)⟩ | decide); clear hF a; intro a hF) | ((with_reducible apply s_load hF hM); exact rfl; exact rfl; (repeat (first | exact List.mem_cons_self | refine List.mem_cons_of_mem _ ?_)); exact rfl; exact rfl; clear hF a; intro a hF) | ((with_reducible apply c_dec hF); exact rfl; all_goals intro hc; all_goals (try (exfalso; omega)))))
  refine f_panic hF ?_
  exact Both.panic ⟨rfl, _, _, hM⟩
set_option maxRecDepth 20000 in
theorem sec_ok (h8 : 8 ≤ xs.length) : Calls Try.prog 61 ⟨[.pointer (some ⟨b, 0, none⟩)]⟩ W (Rtn fun v w' => v = .agg ((xs.take 8).map (Value.int .u8)).toArray ∧ ∃ a1 c1, (xs.drop 8).length ≤ c1 ∧
    Mm own w0 (⟨b, ⟨[.slice a1 (xs.drop 8).length c1, mv, ov]⟩, T⟩ :: bs) L (RdF (Value.int .u8) a1 (xs.drop 8) :: RdF (Value.int .u8) a0 xs :: Fs) w') := by
  obtain ⟨x0, x1, x2, x3, x4, x5, x6, x7, r, rfl⟩ : ∃ x0 x1 x2 x3 x4 x5 x6 x7 r, xs = x0 :: x1 :: x2 :: x3 :: x4 :: x5 :: x6 :: x7 :: r := by
    match xs, h8 with
    | x0 :: x1 :: x2 :: x3 :: x4 :: x5 :: x6 :: x7 :: r, _ => exact ⟨x0, x1, x2, x3, x4, x5, x6, x7, r, rfl⟩
  obtain ⟨ad, rfl⟩ := rd_some hM (by (repeat (first | exact List.mem_cons_self | refine List.mem_cons_of_mem _ ?_))) (k := 0) (x := x0) rfl
  refine f_start Try.func61 rfl Try.ntmps61 rfl rfl ?_; intro a hF
  (repeat' (first | (with_reducible refine w_seq ?_) | (with_reducible refine c_region ?_) | (with_reducible refine s_nil ?_) | (with_reducible refine q_then_n ?_) | ((with_reducible apply s_alloc hF hM); exact rfl; exact rfl; exact rfl; clear hF hM a; intro b w a hM hF)))
  refine c_drawS (fun i => Nat.ble 7 i) (fun x hx => List.mem_cons_of_mem _ (List.mem_cons_of_mem _ (hx))) hM ?_; clear hM; intro w hM
  (first | (apply t_arrSl (i := 0) hF rfl rfl rfl rfl rfl; kernel_rfl; exact (hM.sm.sub (fun x hx => by repeat (first | exact hx | refine List.mem_cons_of_mem _ ?_)) (fun _ h => by repeat (first | exact h | refine List.mem_cons_of_mem _ ?_))); exact (fun _ _ _ h => h); clear hF a; intro a hF))
  (first | (refine t_pure (i := 1) hF rfl rfl rfl rfl (by kernel_rfl) (hM.sm.sub (fun x hx => by repeat (first | exact hx | refine List.mem_cons_of_mem _ ?_)) (fun _ h => by repeat (first | exact h | refine List.mem_cons_of_mem _ ?_))) (fun _ _ _ h => h) ?_ ?_; (first | exact trivial | omega | decide); clear hF a; intro a hF))
  (first | (refine t_pure (i := 2) hF rfl rfl rfl rfl (by kernel_rfl) (hM.sm.sub (fun x hx => by repeat (first | exact hx | refine List.mem_cons_of_mem _ ?_)) (fun _ h => by repeat (first | exact h | refine List.mem_cons_of_mem _ ?_))) (fun _ _ _ h => h) ?_ ?_; (first | exact trivial | omega | decide); clear hF a; intro a hF))
  (first | (refine t_pure (i := 3) hF rfl rfl rfl rfl (by kernel_rfl) (hM.sm.sub (fun x hx => by repeat (first | exact hx | refine List.mem_cons_of_mem _ ?_)) (fun _ h => by repeat (first | exact h | refine List.mem_cons_of_mem _ ?_))) (fun _ _ _ h => h) ?_ ?_; (first | exact trivial | omega | decide); clear hF a; intro a hF))
  (first | (apply t_load (i := 4) hF rfl rfl rfl; (repeat (first | exact List.mem_cons_self | refine List.mem_cons_of_mem _ ?_)); exact rfl; exact rfl; kernel_rfl; exact (hM.sm.sub (fun x hx => by repeat (first | exact hx | refine List.mem_cons_of_mem _ ?_)) (fun _ h => by repeat (first | exact h | refine List.mem_cons_of_mem _ ?_))); exact (fun _ _ _ h => h); clear hF a; intro a hF))
  refine t_one (i := 5) hF rfl (by kernel_rfl) rfl ?_
  intro K hK
  (refine e_copyB hF hM (enc := Value.int .u8) (q := 8) (k := 8) (cs' := [.int .u8 x0, .int .u8 x1, .int .u8 x2, .int .u8 x3, .int .u8 x4, .int .u8 x5, .int .u8 x6, .int .u8 x7]) rfl rfl (by (repeat (first | exact List.mem_cons_self | refine List.mem_cons_of_mem _ ?_))) rfl (fun _ => rfl) .z (by rw [Nat.mul_one]) rfl (Nat.min_eq_right h8) rfl ?_; clear hM; intro w hM; replace hF := hF.put (d := 9) rfl (.int .i64 ((8 : Nat) : Int)); generalize a.put (some 9) _ = a at *)
  refine hK _ _ (fun _ => (hM.sm.sub (fun x hx => by repeat (first | exact hx | refine List.mem_cons_of_mem _ ?_)) (fun _ h => by repeat (first | exact h | refine List.mem_cons_of_mem _ ?_)))) ?_; clear hK
  (first | (refine t_pure (i := 6) hF rfl rfl rfl rfl (by kernel_rfl) (hM.sm.sub (fun x hx => by repeat (first | exact hx | refine List.mem_cons_of_mem _ ?_)) (fun _ h => by repeat (first | exact h | refine List.mem_cons_of_mem _ ?_))) (fun _ _ _ h => h) ?_ ?_; (first | exact trivial | omega | decide); clear hF a; intro a hF))
  refine t_done (by kernel_rfl) ?_
  (repeat' (first | (with_reducible refine w_seq ?_) | (with_reducible refine c_region ?_) | (with_reducible refine s_nil ?_) | (with_reducible refine q_then_n ?_) | ((with_reducible apply s_pure hF); exact rfl; exact rfl; exact rfl; (first | exact trivial | omega | exact ⟨Int.natCast_nonneg _, Int.ofNat_lt.2 (by assumption)⟩ | decide); clear hF a; intro a hF) | ((with_reducible apply s_load hF hM); exact rfl; exact rfl; (repeat (first | exact List.mem_cons_self | refine List.mem_cons_of_mem _ ?_)); exact rfl; exact rfl; clear hF a; intro a hF) | ((with_reducible apply s_store hF hM); exact rfl; exact rfl; exact rfl; exact rfl; (repeat (first | exact Upd.z | apply Upd.s)); exact rfl; exact rfl; exact rfl; clear hM; intro w hM) | (with_reducible refine w_skip ?_) | (with_reducible refine w_ret ?_) | ((with_reducible apply c_false2 hF); exact rfl; (first | with_reducible rfl | (refine congrArg Value.bool ?_; focus (simp; done))))))
  rw [show (((x0 :: x1 :: x2 :: x3 :: x4 :: x5 :: x6 :: x7 :: r).length : Nat) : Int).toNat - (8 : Int).toNat = ((x0 :: x1 :: x2 :: x3 :: x4 :: x5 :: x6 :: x7 :: r).drop 8).length by rw [Int.toNat_natCast, List.length_drop]; rfl, show (8 : Int).toNat = 8 from rfl] at hM
  (apply f_ret Try.results61 hF hM; (repeat (first | exact RL.nil | (apply RL.tmp; exact rfl) | (apply RL.cell; exact rfl; (repeat (first | exact List.mem_cons_self | refine List.mem_cons_of_mem _ ?_)); exact rfl))); refine Both.mk ?_; try dsimp only [resV])
  replace hM := hM.sub (bs' := _ :: bs) (.cons _ (.cons _ (.refl _))) (.refl _) (fun _ h => h)
  refine ⟨rfl, sadr (some ad) 8 c0 1, c0 - 8, by simp at hc0 ⊢; omega, ?_⟩
  exact hM.addFact (RdF.drop (hM.facts _ List.mem_cons_self) 8 c0 hc0)
set_option maxRecDepth 20000 in
theorem sec_err (h8 : xs.length < 8) : Calls Try.prog 61 ⟨[.pointer (some ⟨b, 0, none⟩)]⟩ W (Both (fun _ _ => False) fun c w' => c = fail 10 ∧ ∃ bs' Fs', Mm own w0 (⟨b, bs', T⟩ :: bs) L Fs' w') := by
  refine f_start Try.func61 rfl Try.ntmps61 rfl rfl ?_; intro a hF
  (repeat' (first | (with_reducible refine w_seq ?_) | (with_reducible refine c_region ?_) | (with_reducible refine s_nil ?_) | (with_reducible refine q_then_n ?_) | ((with_reducible apply s_alloc hF hM); exact rfl; exact rfl; exact rfl; clear hF hM a; intro b w a hM hF)))
  refine c_drawS (fun i => Nat.ble 7 i) (fun x hx => List.mem_cons_of_mem _ (List.mem_cons_of_mem _ (hx))) hM ?_; clear hM; intro w hM
  (first | (apply t_arrSl (i := 0) hF rfl rfl rfl rfl rfl; kernel_rfl; exact (hM.sm.sub (fun x hx => by repeat (first | exact hx | refine List.mem_cons_of_mem _ ?_)) (fun _ h => by repeat (first | exact h | refine List.mem_cons_of_mem _ ?_))); exact (fun _ _ _ h => h); clear hF a; intro a hF))
  (first | (refine t_pure (i := 1) hF rfl rfl rfl rfl (by kernel_rfl) (hM.sm.sub (fun x hx => by repeat (first | exact hx | refine List.mem_cons_of_mem _ ?_)) (fun _ h => by repeat (first | exact h | refine List.mem_cons_of_mem _ ?_))) (fun _ _ _ h => h) ?_ ?_; (first | exact trivial | omega | decide); clear hF a; intro a hF))
  (first | (refine t_pure (i := 2) hF rfl rfl rfl rfl (by kernel_rfl) (hM.sm.sub (fun x hx => by repeat (first | exact hx | refine List.mem_cons_of_mem _ ?_)) (fun _ h => by repeat (first | exact h | refine List.mem_cons_of_mem _ ?_))) (fun _ _ _ h => h) ?_ ?_; (first | exact trivial | omega | decide); clear hF a; intro a hF))
  (first | (refine t_pure (i := 3) hF rfl rfl rfl rfl (by kernel_rfl) (hM.sm.sub (fun x hx => by repeat (first | exact hx | refine List.mem_cons_of_mem _ ?_)) (fun _ h => by repeat (first | exact h | refine List.mem_cons_of_mem _ ?_))) (fun _ _ _ h => h) ?_ ?_; (first | exact trivial | omega | decide); clear hF a; intro a hF))
  (first | (apply t_load (i := 4) hF rfl rfl rfl; (repeat (first | exact List.mem_cons_self | refine List.mem_cons_of_mem _ ?_)); exact rfl; exact rfl; kernel_rfl; exact (hM.sm.sub (fun x hx => by repeat (first | exact hx | refine List.mem_cons_of_mem _ ?_)) (fun _ h => by repeat (first | exact h | refine List.mem_cons_of_mem _ ?_))); exact (fun _ _ _ h => h); clear hF a; intro a hF))
  refine t_one (i := 5) hF rfl (by kernel_rfl) rfl ?_
  intro K hK
  (refine e_copyB hF hM (enc := Value.int .u8) (q := 8) (k := xs.length) rfl rfl (by (repeat (first | exact List.mem_cons_self | refine List.mem_cons_of_mem _ ?_))) rfl (fun _ => rfl) .z (by rw [Nat.mul_one]) rfl (Nat.min_eq_left (by omega)) rfl ?_; clear hM; intro w hM; replace hF := hF.put (d := 9) rfl (.int .i64 (xs.length : Nat)); generalize a.put (some 9) _ = a at *)
  refine hK _ _ (fun _ => (hM.sm.sub (fun x hx => by repeat (first | exact hx | refine List.mem_cons_of_mem _ ?_)) (fun _ h => by repeat (first | exact h | refine List.mem_cons_of_mem _ ?_)))) ?_; clear hK
  (first | (refine t_pure (i := 6) hF rfl rfl rfl rfl (by kernel_rfl) (hM.sm.sub (fun x hx => by repeat (first | exact hx | refine List.mem_cons_of_mem _ ?_)) (fun _ h => by repeat (first | exact h | refine List.mem_cons_of_mem _ ?_))) (fun _ _ _ h => h) ?_ ?_; (first | exact trivial | omega | decide); clear hF a; intro a hF))
  refine t_done (by kernel_rfl) ?_
  (repeat' (first | (with_reducible refine c_region ?_) | ((with_reducible apply s_pan hF); exact rfl; exact rfl; exact rfl) | (with_reducible refine q_then_p ?_) | (with_reducible refine q_then_n ?_) | ((with_reducible apply s_pure hF); exact rfl; exact rfl; exact rfl; (first | exact trivial | omega | exact ⟨Int.natCast_nonneg _, Int.ofNat_lt.2 (by assumption)⟩ | decide); clear hF a; intro a hF) | ((with_reducible apply c_dec hF); exact rfl; all_goals intro hc; all_goals (try (exfalso; omega)))))
  refine f_panic hF ?_
  exact Both.panic ⟨rfl, _, _, hM.sub (.cons _ (.cons _ (.refl _))) (.refl _) (fun _ h => h)⟩
end
end Go.Proofs.Ytocgpllmfdnfjaa
