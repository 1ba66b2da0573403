/- Calls of yield; ranges over a function whose loop variable is boxed. -/
import Derived.Test.YtobflnjbdghnhaaGr
import Derived.Test.YtobflnjbdghnhaaGo
import Derived.OrdersIn
set_option linter.unusedSimpArgs false
set_option linter.unusedVariables false
set_option linter.unusedSectionVars false
namespace Go.Proofs.Ytobflnjbdghnhaa
open Go.RowKit Go.Shelf
variable {n : Nat} {ds : List Deferred} {l : List (Nat × Value)} {a : Act} {w w0 : World} {own : Nat → Prop} {bs : List BoxE} {L : List Ent} {Fs : List (World → Prop)}
variable {Q : Exit → Act → World → Prop} {os rest : List Oper}
theorem op_wide {m : Nat} {o : Oper} {a : Act} {w : World} {K : Act → World → Prop} {Q : Exit → Act → World → Prop} (h : o.wp Try.prog a w K Q) : o.wpIn Fence.wide m Try.prog a w K Q := by
  refine ⟨fun _ _ => trivial, ?_⟩
  have he : o.semAt Fence.wide.round a.eval = execOp a.eval o := rfl
  rw [he]
  unfold Oper.wp at h
  generalize (execOp a.eval o).run Try.prog w = r at h ⊢
  cases r with
  | ok x w' =>
    cases x <;> simp only [Oper.upon] at h <;> simp only [Oper.uponIn] <;> first
      | exact h
      | exact ⟨fun hz => by simp [Fence.wide] at hz, callsIn_wide.2 h⟩
      | exact ⟨fun hz => by simp [Fence.wide] at hz, fun c cs _ => let ⟨v, w', r, s⟩ := h c cs; ⟨v, w', r, stepsIn_wide.2 s⟩⟩
      | exact h.elim
  | halt x w' => cases x <;> simp only [Oper.upon] at h <;> simp only [Oper.uponIn] <;> first | exact h | exact h.elim
theorem wl_wide {m : Nat} {ops : Array Oper} {Q : Exit → Act → World → Prop} : ∀ {rest : List Oper} {a : Act} {w : World}, wl ops Q rest a w → wpListIn Fence.wide m Try.prog ops Q rest a w
  | [], _, _, h => h
  | o :: rest, a, w, h => by
    unfold wl at h
    unfold wpListIn
    split
    · rename_i hw
      rw [if_pos hw] at h
      exact op_wide (Oper.wp_mono (fun _ _ h' => wl_wide h') h)
    · rename_i hw
      rw [if_neg hw] at h
      exact ⟨fun _ _ => trivial, wl_wide h⟩
theorem upon_no {o : Oper} {K : Act → World → Prop} {Q Q' : Exit → Act → World → Prop} (hq : ∀ c a w, Q (.panic c) a w → Q' (.panic c) a w) (hq2 : ∀ a w, Q .outgrown a w → Q' .outgrown a w) {a : Act} {w : World} (h : o.wp Try.prog a w K Q) : o.wp Try.prog a w K Q' := by
  unfold Oper.wp at h ⊢
  generalize (execOp a.eval o).run Try.prog w = r at h ⊢
  cases r with
  | ok x w' =>
    cases x <;> simp only [Oper.upon] at h ⊢ <;> first
      | exact h
      | (refine Calls.mono h ?_; intro e w' h; cases e <;> first | exact h | exact hq _ _ _ h | exact (let ⟨a, w, h⟩ := h; ⟨a, w, hq2 _ _ h⟩))
      | exact h.elim
  | halt x w' => cases x <;> simp only [Oper.upon] at h ⊢ <;> first | exact h | exact hq _ _ _ h | exact h.elim
theorem wl_pre {m : Nat} {ops : Array Oper} {Q : Exit → Act → World → Prop} {J : Act → World → Prop} {rest : List Oper} (hJ : ∀ a w, J a w → wpListIn Fence.wide m Try.prog ops Q rest a w) : ∀ {pre : List Oper} {a : Act} {w : World}, wl ops (Exit.then J Q) pre a w → wpListIn Fence.wide m Try.prog ops Q (pre ++ rest) a w
  | [], a, w, h => hJ a w h
  | o :: pre, a, w, h => by
    unfold wl at h
    rw [List.cons_append]
    unfold wpListIn
    split
    · rename_i hw
      rw [if_pos hw] at h
      exact op_wide (upon_no (fun c a w h => h) (fun a w h => h) (Oper.wp_mono (fun _ _ h' => wl_pre hJ h') h))
    · rename_i hw
      rw [if_neg hw] at h
      exact ⟨fun _ _ => trivial, wl_pre hJ h⟩
/-- A call of yield in the middle of a region. -/
theorem c_yield (k m : Nat) {id d : Nat} {X : Operand} {as_ : List Operand} {ts : Array TypeId} {ty : TypeId} {pos : String} {af : Array Edge} (ho : os.drop k = ⟨some d, .call ⟨.value X, ⟨as_⟩, ts⟩, ty, pos, af, none⟩ :: rest) (hd : Nat.blt d n = true)
    (h : wl ⟨os⟩ (Exit.then (fun a w => ∃ l vs lp R, Fr n ds l a ∧ ev l X = some (.func (.yield lp) #[] #[]) ∧ evL l as_ = some vs ∧ YieldAt Fence.wide m Try.prog lp ⟨vs⟩ w R ∧
      ∀ e w', R e w' → ∃ v, e = .returned v ∧ ∀ a', Fr n ds ((d, v) :: l) a' → wl ⟨os⟩ Q rest a' w') Q) (os.take k) a w) : Wk none (Code.region id ⟨os⟩ false) Q a w := by
  refine (wpIn_wide (n := m + 1)).1 (wpIn_region_list ?_)
  have key : wpListIn Fence.wide (m + 1) Try.prog ⟨os⟩ Q (os.take k ++ os.drop k) a w := by
    rw [ho]
    refine wl_pre ?_ h
    rintro a w ⟨l, vs, lp, R, hF, hX, ha, ⟨fn, tmps, assign, body, hy, hR⟩, hk⟩
    unfold wpListIn
    rw [if_pos (by simp [Region.wanted])]
    refine ⟨fun _ _ => trivial, ?_⟩
    have h1 := hF.evalL ha
    have he : (Oper.semAt Fence.wide.round a.eval ⟨some d, .call ⟨.value X, ⟨as_⟩, ts⟩, ty, pos, af, none⟩).run Try.prog w = .ok (.round lp fn tmps assign body) w := by
      have hs : Oper.semAt Fence.wide.round a.eval ⟨some d, .call ⟨.value X, ⟨as_⟩, ts⟩, ty, pos, af, none⟩ = execOp a.eval ⟨some d, .call ⟨.value X, ⟨as_⟩, ts⟩, ty, pos, af, none⟩ := rfl
      rw [hs]
      simp [execOp, resolve, hF.eval hX, Deferred.ofValue, invoke, h1, Sem.run_bind, Result.andThen, hy]
    rw [he, Oper.uponIn_round]
    refine ⟨fun hz => by simp [Fence.wide] at hz, ?_⟩
    refine RoundIn.mono hR ?_
    intro e w' hr
    obtain ⟨v, rfl, hk2⟩ := hk e w' hr
    exact wl_wide (hk2 _ (hF.put hd v))
  rwa [List.take_append_drop] at key
theorem Since.grows {w w' : World} (h : Since w w') : w.grownBy w' none := ⟨h.os, h.tape, h.output, h.size, fun k hk _ => h.block k hk⟩
/-- What has the type T, from B on, stays. -/
def KT (B : Nat) (T : TypeId) (w : World) : World → Prop := fun w' => ∀ k cs, B ≤ k → w.heap[k]? = some (.cells cs T (0, 0)) → w'.heap[k]? = some (.cells cs T (0, 0))
theorem KT.refl (B : Nat) (T : TypeId) (w : World) : KT B T w w := fun _ _ _ h => h
theorem KT.trans {B : Nat} {T : TypeId} {x y z : World} (h : KT B T x y) (k : KT B T y z) : KT B T x z := fun i cs hb hi => k i cs hb (h i cs hb hi)
theorem KT.grown {B : Nat} {T : TypeId} {w w' : World} (h : w.grownBy w' none) : KT B T w w' := fun k _ _ hk => (h.block k (Array.getElem?_eq_some_iff.1 hk).1 (by simp)).trans hk
theorem KT.putObj {B : Nat} {T : TypeId} {w : World} {j : Nat} {o : Obj} (o' : Obj) (h : w.heap[j]? = some o) (hc : o.isCells = false) : KT B T w (w.putObj j o') := fun k _ _ hk =>
  (World.putObj_heap_other (fun e => by subst e; rw [hk] at h; injection h with h; subst h; cases hc)).trans hk
theorem Mm.alien (m : Mm own w0 bs L Fs w) {T : TypeId} {k : Nat} {cs : Array Value} (h1 : ∀ x ∈ bs, x.T ≠ T) (h2 : ∀ y ∈ L, y.e ≠ T) (hb : w0.heap.size ≤ k) (hk : w.heap[k]? = some (.cells cs T (0, 0))) : ¬ ownOf own bs L k := by
  rintro (h | ⟨x, hx, rfl⟩ | ⟨y, hy, he⟩)
  · have := m.low k h; omega
  · rw [show w.heap[x.b]? = _ from m.mem.box x hx] at hk
    injection hk with hk
    injection hk with _ hT
    exact h1 x hx hT
  · obtain ⟨_, r⟩ := m.mem.own.own y hy
    rcases r with ⟨r, _⟩ | ⟨g, cap, cur, e1, e2, e3, r⟩
    · rw [r] at he; cases he
    · rw [e1] at he
      injection he with he
      have he : g = k := he
      subst he
      rw [e3] at hk
      injection hk with hk
      injection hk with _ hT
      exact h2 y hy hT
theorem Mm.kt (m : Mm own w0 bs L Fs w) (T : TypeId) (h1 : ∀ x ∈ bs, x.T ≠ T) (h2 : ∀ y ∈ L, y.e ≠ T) : Has (ownOf own bs L) w (KT w0.heap.size T w) := by
  refine ⟨fun b => w0.heap.size ≤ b ∧ ∃ cs, w.heap[b]? = some (.cells cs T (0, 0)), ?_, ?_⟩
  · rintro b ⟨hb, cs, hk⟩
    exact ⟨(Array.getElem?_eq_some_iff.1 hk).1, m.alien h1 h2 hb hk⟩
  · intro w' h _ k cs hb hk
    exact (h k ⟨hb, cs, hk⟩).trans hk
theorem Mm.bxHas (m : Mm own w0 bs L Fs w) {b : Nat} {cs : List Value} {T : TypeId} (h : Box w b ⟨cs⟩ T) (hb : w0.heap.size ≤ b) (h1 : ∀ x ∈ bs, x.T ≠ T) (h2 : ∀ y ∈ L, y.e ≠ T) : Has (ownOf own bs L) w (BxF b cs T) :=
  ⟨fun x => x = b, fun x hx => ⟨by subst hx; exact h.lt, by subst hx; exact m.alien h1 h2 hb h⟩, fun w' hk _ => h.of_block (hk b rfl)⟩
/-- A range over a function, of one variable, whose assignment may lay blocks; the body never leaves it. -/
theorem c_range2 {α : Type} {g : Operand} {p : Tmp} {assign body : Code} {m gf : Nat} {lb : Array Value} {va : α → Value} {Kp : World → World → Prop} {S Sp : List α → Prop} {N : Nat} {wq : World}
    (hF : Fr n [] l a) (hg : ev l g = some (.func (.func gf) #[] lb)) (he : memB entL gf = true) (hp : Nat.blt p n = true)
    (hseq : SeqStopsK Fence.wide m Try.prog gf lb (fun x => #[va x]) Kp S Sp N wq) (hm : 1 ≤ m) (hKt : ∀ {A B C : World}, Kp A B → Kp B C → Kp A C) (hKb : ∀ (W : World) (l : Nat) (o o' : Obj), w.heap.size ≤ l → W.heap[l]? = some o → o.isCells = false → o.isWalk = false → Kp W (W.putObj l o')) (hb0 : Below wq.heap.size wq w)
    (I : List α → World → Prop) (hI : OwnFrom w.heap.size I) (h0 : I [] w)
    (Ax : α → Act → World → Prop) (hAx : ∀ x a W W' row, Ax x a W → W.grownBy W' row → (∀ r, row = some r → w.heap.size ≤ r ∧ ∃ o : Obj, W.heap[r]? = some o ∧ o.isCells = false) → Ax x a W')
    (hassign : ∀ (l0 k : Nat) (pre : List α) (x : α) (a : Act) (W : World), Fr n [] ((p, va x) :: l) a → I pre W → Wk (some (l0, k)) assign (Cut fun a' W' => KeepsFrom w.heap.size W W' ∧ Kp W W' ∧ I pre W' ∧ Ax x a' W') a W)
    (hbody : ∀ (l0 k : Nat) (pre : List α) (x : α) (a : Act) (W : World), I pre W → Ax x a W → pre.length < N → Wk (some (l0, k)) body (ownPostG w.heap.size Kp I (fun _ _ _ => False) (pre ++ [x]) W) a W)
    (hdone : ∀ (D : Nat) (xs : List α) (a : Act) (W : World), w.heap.size ≤ D → S xs → I xs W → W.heap[D]? = some (.deferred (some [])) → Fr n (markL D) l a → Q .normal a W) :
    Wk none (Code.rangeFunc g #[p] assign body) Q a w := by
  refine (wpIn_wide (n := m + 1)).1 (wpIn_rangeFunc_ownH (F := Fence.wide) (n := m + 1) rfl (by omega) (hF.eval hg) trivial (entL_ok (memB_ok he)) (Kp := Kp) hseq (fun h k => hKt h k) hKb hb0 (fun x => rfl) I (fun _ _ _ => False) hI (fun _ _ _ _ _ h _ _ => h) h0
    Ax (fun x a' _ W W' row h hg hr => hAx x a' W W' row h hg hr) ?_ ?_ ?_ ?_)
  · intro l0 pre x W K hIp hK
    have hr : Fr n [] ((p, va x) :: l) { tmps := (#[p].zip #[va x]).foldl (fun t (p, v) => t.setIfInBounds p v) a.tmps, defers := [] } := by
      have := hF.put hp (va x)
      have e : (a.put (some p) (va x)) = { tmps := (#[p].zip #[va x]).foldl (fun t (p, v) => t.setIfInBounds p v) a.tmps, defers := [] } := by
        simp [Act.put, hF.defs]
      rw [e] at this
      exact this
    refine wpIn_mono (hassign l0 _ pre x _ W hr hIp) ?_
    intro e a' W' h
    cases e <;> first | exact h.elim | skip
    obtain ⟨h1, h2, h3, h4⟩ := h
    exact hK a' W' h1 h2 h3 h4
  · intro l0 pre x a' W _ _ hIp hA hlt
    exact hbody l0 _ pre x a' W hIp hA hlt
  · intro D xs W hD hS hIx hK
    refine hdone D xs _ W hD hS hIx hK ⟨hF.size, ?_, hF.get⟩
    show _ :: a.defers = _
    rw [hF.defs]; rfl
  · intro D c pre W _ _ h _
    exact h.elim
/-! An array as a slice -/
section
variable {d : Nat} {op : Op} {ty : TypeId} {pos : String} {af : Array Edge} {g : Option (Nat × Bool)}
def arrO (t : TypeId) : Option (Nat × Nat) := match tyD t with
  | some (.array m e) => match tyS e with
    | some z => some (m, z)
    | none => none
  | _ => none
theorem arrO_ok {t : TypeId} {m z : Nat} (h : arrO t = some (m, z)) : ∃ e, tyD t = some (.array m e) ∧ tyS e = some z := by
  unfold arrO at h
  split at h
  · rename_i m' e h1
    split at h
    · rename_i z' h2
      injection h with h; injection h with h3 h4
      subst h3 h4
      exact ⟨e, h1, h2⟩
    · cases h
  · cases h
theorem e_arrSl {t : TypeId} {X : Operand} {m z b off : Nat} (hF : Fr n ds l a) (hX : ev l X = some (.pointer (some ⟨b, off, none⟩))) (ht : arrO t = some (m, z)) (w : World) {dst : Option Tmp} :
    (execOp a.eval ⟨dst, .slice t X none none none, ty, pos, af, g⟩).run Try.prog w = .ok (.value (.slice (some ⟨b, off, none⟩) m m)) w := by
  obtain ⟨e, h1, h2⟩ := arrO_ok ht
  simp only [execOp, hF.eval hX, Option.map_none]
  simp [Instr.sliceAt, Instr.sliceBounds, Sem.run_bind, tyD_run h1, tyS_run h2, Result.andThen, Instr.sureAddr, add_lit]
theorem s_arrSl {t : TypeId} {X : Operand} {m z b off : Nat} (hF : Fr n ds l a) (hg : wantO os l g = some true) (hX : ev l X = some (.pointer (some ⟨b, off, none⟩))) (ht : arrO t = some (m, z)) (hd : Nat.blt d n = true)
    (kk : ∀ a, Fr n ds ((d, .slice (some ⟨b, off, none⟩) m m) :: l) a → wl ⟨os⟩ Q rest a w) : wl ⟨os⟩ Q (⟨some d, .slice t X none none none, ty, pos, af, g⟩ :: rest) a w :=
  s_op hF hg fun _ hK => upon_value (e_arrSl hF hX ht w) (hK _ _ (kk _ (hF.put hd _)))
theorem t_arrSl {tail : Nat → Bool} {fuel i : Nat} {listed : Array Bool} {bs0 : List BoxE} {Fs0 : List (World → Prop)} {t : TypeId} {X : Operand} {m z b off : Nat} (hF : Fr n ds l a) (hi : getO os i = some ⟨some d, .slice t X none none none, ty, pos, af, g⟩) (hg : wantO os l g = some true) (hX : ev l X = some (.pointer (some ⟨b, off, none⟩))) (ht : arrO t = some (m, z)) (hd : Nat.blt d n = true) (hb : takeB os tail listed i = true) (hS : Sm bs0 Fs0 w) (hQ : ∀ c a w, Q (.panic c) (a.put (some d) (.slice (some ⟨b, off, none⟩) m m)) w → Q (.panic c) a w)
    (kk : ∀ a, Fr n ds ((d, .slice (some ⟨b, off, none⟩) m m) :: l) a → wpAnyT Try.prog .any ⟨os⟩ Q (Sm bs0 Fs0) tail fuel (listed.setIfInBounds i true) a w) : wpAnyT Try.prog .any ⟨os⟩ Q (Sm bs0 Fs0) tail (fuel + 1) listed a w :=
  t_take hi hb hQ (.inl ⟨wantO_ok (o := ⟨some d, .slice t X none none none, ty, pos, af, g⟩) hF hg, fun w _ => e_arrSl hF hX ht w⟩) hS (kk _ (hF.put hd _))
theorem x_arrSl {t : TypeId} {X : Operand} {m z b off : Nat} {K : Act → World → Prop} (hF : Fr n ds l a) (hX : ev l X = some (.pointer (some ⟨b, off, none⟩))) (ht : arrO t = some (m, z)) (hd : Nat.blt d n = true) (kk : ∀ a, Fr n ds ((d, .slice (some ⟨b, off, none⟩) m m) :: l) a → K a w) : (⟨some d, .slice t X none none none, ty, pos, af, g⟩ : Oper).wp Try.prog a w K Q :=
  upon_value (e_arrSl hF hX ht w) (kk _ (hF.put hd _))
end
/-! Drawn regions in a round -/
theorem any_in {l m : Nat} {ops : Array Oper} {Q : Exit → Act → World → Prop} (hd : ∀ (i : Nat) (o : Oper), ops[i]? = some o → noDefer o = true) (hno : ¬ LetsOut Q) : ∀ (fuel : Nat) (listed : Array Bool) (a : Act) (w : World), wpAny Try.prog .any ops Q fuel listed a w → wpAnyIn (Fence.wide.inRound l) m Try.prog .any ops Q fuel listed a w
  | 0, _, _, _, h => h
  | fuel + 1, listed, a, w, h => by
    refine ⟨h.1, fun i hi => ?_⟩
    have := h.2 i hi
    unfold wpOp at this
    unfold wpOpIn
    split
    · rename_i ho
      rw [ho] at this
      exact any_in hd hno fuel _ a w this
    · rename_i o ho
      rw [ho] at this
      simp only at this
      split
      · rename_i hw
        rw [if_pos hw] at this
        rcases this with h1 | ⟨_, h2⟩
        · exact op_in (hd i o ho) (Oper.wp_mono (fun a w h' => any_in hd hno fuel _ a w h') h1)
        · exact absurd h2 hno
      · rename_i hw
        rw [if_neg hw] at this
        exact ⟨fun _ _ => trivial, any_in hd hno fuel _ _ w this⟩
theorem c_drawR {id l m : Nat} {bs0 : List BoxE} (tail : Nat → Bool) (hd : os.all noDefer = true) (hno : ¬ LetsOut Q) (hs : ∀ x ∈ bs0, x ∈ bs) (hM : Mm own w0 bs L Fs w) (h : ∀ w, Mm own w0 bs L Fs w → wpAnyT Try.prog .any ⟨os⟩ Q (Sm bs0 Fs) tail os.length (Array.replicate os.length false) a w) : Wk (some (l, m)) (Code.region id ⟨os⟩ true) Q a w :=
  wpIn_region_any mixed (any_in (fun i o ho => List.all_eq_true.1 hd o (List.mem_of_getElem? (by simpa using ho))) hno _ _ _ _ (wpAny_of_T _ _ _ _ (by have := h _ hM.drew; simpa using this)))
end Go.Proofs.Ytobflnjbdghnhaa
