/- Deferred calls and recover. -/
import Derived.Test.YthcnnedgfndklaaGu
import Derived.Recover
set_option linter.unusedSimpArgs false
set_option linter.unusedVariables false
set_option linter.unusedSectionVars false
namespace Go.Proofs.Ythcnnedgfndklaa
open Go.RowKit Go.Shelf
section
variable {n : Nat} {ds : List Deferred} {l : List (Nat × Value)} {a : Act} {w w' w0 : World} {own : Nat → Prop} {bs : List BoxE} {L : List Ent} {Fs : List (World → Prop)}
variable {os rest : List Oper} {Q : Exit → Act → World → Prop} {K : Act → World → Prop}
variable {d : Nat} {op : Op} {ty : TypeId} {pos : String} {af : Array Edge} {g : Option (Nat × Bool)}
/-- A deferred call of a closure. -/
def defF (f : FuncId) (ca : List Value) : Deferred := { target := .fn (.func f) ⟨ca⟩, args := #[] }
theorem s_defer {f : FuncId} {X : Operand} {ts : Array TypeId} {ca : List Value} (hF : Fr n ds l a) (hg : wantO os l g = some true) (hX : ev l X = some (.func (.func f) #[] ⟨ca⟩))
    (kk : ∀ a, Fr n (defF f ca :: ds) l a → wl ⟨os⟩ Q rest a w) : wl ⟨os⟩ Q (⟨none, .defer ⟨.value X, ⟨[]⟩, ts⟩, ty, pos, af, g⟩ :: rest) a w := by
  refine s_op hF hg fun K hK => ?_
  have hr : (execOp a.eval ⟨none, .defer ⟨.value X, ⟨[]⟩, ts⟩, ty, pos, af, g⟩).run Try.prog w = .ok (.defer (defF f ca)) w := by
    simp [execOp, resolve, hF.eval hX, Deferred.ofValue, Sem.run_bind, Result.andThen, defF]
  unfold Oper.wp
  rw [hr]
  refine hK _ _ (kk _ ⟨hF.size, ?_, hF.get⟩)
  show _ :: a.defers = _
  rw [hF.defs]
theorem f_startD {f : FuncId} {fn : Func} {c : Code} {vs : List Value} {R : Ending → World → Prop} (hf : Try.prog.funcs[f]? = some fn) (hb : fn.body = some c) (hn : fn.ntmps = n) (hl : Nat.ble vs.length n = true) (hs : startO 0 vs = some l)
    (k : ∀ a, Fr n [] l a → Wk none c (bodyPostD Try.prog fn R) a w) : Calls Try.prog f ⟨vs⟩ w R := by
  have := Fr.start (vs := vs) hn hl
  rw [startO_ok hs] at this
  exact calls_of_wp_defers hf hb (k _ this)
/-- One deferred closure is left to run. -/
theorem leave1 {fn : Func} {R : Ending → World → Prop} {fd : FuncId} {ca : List Value} {u : FrameMode} (hdef : a.defers = [defF fd ca]) (hu : u ≠ .run) (he : memB entL fd = true)
    (hD : CallsD Try.prog fd ⟨ca⟩ u w fun e u' w' => (∃ v, e = .returned v) ∧ settle u' = .returning ∧ ∃ rv, (results fn a.tmps).run Try.prog w' = .ok rv w' ∧ R (.returned rv) w') : Leaves Try.prog fn a.tmps R a.defers u w := by
  rw [hdef]
  refine ⟨hu, .func fd, ⟨ca⟩, fd, ⟨ca⟩, rfl, ?_, ?_⟩
  · have := entL_ok (memB_ok he) ⟨ca⟩ w
    simp [defF, invoke, Sem.run_bind, this]
  · intro c cs hc
    obtain ⟨e, u', w', fr, ⟨⟨v, rfl⟩, h2, rv, h3, h4⟩, h5⟩ := hD c cs hc
    refine ⟨_, u', w', fr, ?_, h5⟩
    show Leaves Try.prog fn a.tmps R [] (settle u') w'
    rw [h2]
    exact ⟨rv, h3, h4⟩
theorem f_retD {fn : Func} {R : Ending → World → Prop} {fd : FuncId} {ca : List Value} (hF : Fr n [defF fd ca] l a) (he : memB entL fd = true)
    (hD : CallsD Try.prog fd ⟨ca⟩ .returning w fun e u' w' => (∃ v, e = .returned v) ∧ settle u' = .returning ∧ ∃ rv, (results fn a.tmps).run Try.prog w' = .ok rv w' ∧ R (.returned rv) w') : bodyPostD Try.prog fn R .ret a w :=
  leave1 hF.defs (fun h => by cases h) he hD
theorem f_panicD {fn : Func} {R : Ending → World → Prop} {fd : FuncId} {ca : List Value} {c : List PanicEntry} (hF : Fr n [defF fd ca] l a) (he : memB entL fd = true)
    (hD : CallsD Try.prog fd ⟨ca⟩ (.panicking c) w fun e u' w' => (∃ v, e = .returned v) ∧ settle u' = .returning ∧ ∃ rv, (results fn a.tmps).run Try.prog w' = .ok rv w' ∧ R (.returned rv) w') : bodyPostD Try.prog fn R (.panic c) a w :=
  leave1 hF.defs (fun h => by cases h) he hD
theorem CallsD.mono {P : Program} {f : FuncId} {args : Array Value} {u : FrameMode} {w : World} {R R' : Ending → FrameMode → World → Prop} (h : CallsD P f args u w R) (hr : ∀ e u w, R e u w → R' e u w) : CallsD P f args u w R' := by
  intro c cs hc
  obtain ⟨e, u', w', fr, h1, h2⟩ := h c cs hc
  exact ⟨e, u', w', fr, hr _ _ _ h1, h2⟩
/-! recover -/
theorem wl_opsS {QS : Exit → Act → List Frame → World → Prop} {cs : List Frame} {ops : Array Oper} : ∀ {rest : List Oper} {k : Nat} {a : Act} {w : World}, (∀ j, rest[j]? = ops[k + j]?) → wl ops (fun e a w => QS e a cs w) rest a w → wpOpsS Try.prog ops QS (List.range' k rest.length) a cs w
  | [], _, _, _, _, h => h
  | o :: rest, k, a, w, hr, h => by
    have h0 : ops[k]? = some o := by simpa using (hr 0).symm
    have hr' : ∀ j, rest[j]? = ops[k + 1 + j]? := fun j => by have := hr (j + 1); simpa [Nat.add_assoc, Nat.add_comm 1 j] using this
    unfold wl at h
    rw [List.length_cons, List.range'_succ, wpOpsS, h0]
    simp only
    split
    · rename_i hw
      rw [if_pos hw] at h
      unfold Oper.wp at h
      generalize (execOp a.eval o).run Try.prog w = r at h ⊢
      cases r with
      | ok x w' =>
        cases x <;> simp only [Oper.upon] at h ⊢ <;> first
          | exact wl_opsS hr' h
          | exact h.elim
          | (refine Calls.mono h ?_; intro e w' h; cases e <;> first | exact wl_opsS hr' h | exact h)
          | (intro c cs'; obtain ⟨v, w', h1, h2⟩ := h c cs'; exact ⟨v, w', wl_opsS hr' h1, h2⟩)
      | halt x w' => cases x <;> simp only [Oper.upon] at h ⊢ <;> first | exact h | exact h.elim
    · rename_i hw
      rw [if_neg hw] at h
      exact wl_opsS hr' h
/-- A region that begins with recover. -/
theorem c_recover {QS : Exit → Act → List Frame → World → Prop} {cs cs' : List Frame} {v : Value} {id : Nat} {ts : Array TypeId} (hF : Fr n ds l a) (hd : Nat.blt d n = true) (hv : (recoverD cs = some (v, cs')) ∨ (recoverD cs = none ∧ v = .nilIface ∧ cs' = cs))
    (h : ∀ a, Fr n ds ((d, v) :: l) a → wl ⟨⟨some d, .call ⟨.builtin .recover, ⟨[]⟩, ts⟩, ty, pos, af, none⟩ :: rest⟩ (fun e a w => QS e a cs' w) rest a w) :
    (Code.region id ⟨⟨some d, .call ⟨.builtin .recover, ⟨[]⟩, ts⟩, ty, pos, af, none⟩ :: rest⟩ false).wpS Try.prog QS a cs w := by
  refine wpS_region ?_
  have hl : (⟨⟨some d, .call ⟨.builtin .recover, ⟨[]⟩, ts⟩, ty, pos, af, none⟩ :: rest⟩ : Array Oper).size = rest.length + 1 := by simp
  rw [hl, List.range_eq_range', List.range'_succ, wpOpsS]
  simp only [List.getElem?_toArray, List.getElem?_cons_zero, Region.wanted, if_true]
  have hx : (execOp a.eval ⟨some d, .call ⟨.builtin .recover, ⟨[]⟩, ts⟩, ty, pos, af, none⟩).run Try.prog w = .ok .recover w := by
    simp [execOp, resolve, invoke, builtin, Sem.run_bind, Result.andThen]
  rw [hx]
  simp only
  have hk := wl_opsS (k := 1) (QS := QS) (cs := cs') (ops := ⟨⟨some d, .call ⟨.builtin .recover, ⟨[]⟩, ts⟩, ty, pos, af, none⟩ :: rest⟩) (rest := rest) (fun j => by simp [Nat.add_comm 1 j]) (h _ (hF.put hd v))
  rcases hv with hv | ⟨hv, rfl, rfl⟩
  · rw [hv]; exact hk
  · rw [hv]; exact hk
theorem f_startS {f : FuncId} {fn : Func} {c : Code} {vs : List Value} {u : FrameMode} {R : Ending → FrameMode → World → Prop} (hf : Try.prog.funcs[f]? = some fn) (hb : fn.body = some c) (hn : fn.ntmps = n) (hl : Nat.ble vs.length n = true) (hs : startO 0 vs = some l)
    (k : ∀ (c₀ : Frame) (cs : List Frame), c₀.mode = u → ∀ a, Fr n [] l a → c.wpS Try.prog (bodyPostS Try.prog fn c₀ cs R) a (c₀ :: cs) w) : CallsD Try.prog f ⟨vs⟩ u w R := by
  have := Fr.start (vs := vs) hn hl
  rw [startO_ok hs] at this
  exact callsD_of_wpS hf hb fun c₀ cs hc => k c₀ cs hc _ this
/-- A type assertion that holds. -/
def plainT (t : TypeId) : Bool := match tyD t with
  | some (.interface _) => false
  | some _ => true
  | none => false
theorem s_tas {X : Operand} {t xt : TypeId} {v : Value} (hF : Fr n ds l a) (hg : wantO os l g = some true) (hX : ev l X = some (.iface t v)) (ht : plainT t = true) (hd : Nat.blt d n = true)
    (kk : ∀ a, Fr n ds ((d, .tuple #[v, .bool true]) :: l) a → wl ⟨os⟩ Q rest a w) : wl ⟨os⟩ Q (⟨some d, .typeAssert X xt t true, ty, pos, af, g⟩ :: rest) a w := by
  refine s_op hF hg fun _ hK => upon_value (v := .tuple #[v, .bool true]) ?_ (hK _ _ (kk _ (hF.put hd _)))
  unfold plainT at ht
  cases hq : tyD t with
  | none => rw [hq] at ht; cases ht
  | some D =>
    rw [hq] at ht
    simp only [execOp, hF.eval hX]
    cases D <;> simp [Instr.typeAssert, Sem.run_bind, tyD_run hq, Result.andThen] at ht ⊢
end
end Go.Proofs.Ythcnnedgfndklaa
