/- The walker's step over a range over a function. -/
import Derived.Test.YtobflnjbdghnhaaGh
import Derived.RangeFuncNested
import Derived.RangeFuncBound
import Derived.RangeFuncBox
set_option linter.unusedSimpArgs false
set_option linter.unusedVariables false
set_option linter.unusedSectionVars false
namespace Go.Proofs.Ytobflnjbdghnhaa
open Go.RowKit Go.Shelf
variable {n : Nat} {ds : List Deferred} {l : List (Nat × Value)} {a : Act} {w w0 : World} {own : Nat → Prop} {bs : List BoxE} {L : List Ent} {Fs : List (World → Prop)}
variable {Q : Exit → Act → World → Prop}
/-- A block that is no row of cells turns: boxes and rows stay. -/
theorem Mm.turn {W W' : World} {row : Option Nat} (m : Mm own w0 bs L Fs W) (hg : W.grownBy W' row) (hr : ∀ r, row = some r → w0.heap.size ≤ r ∧ ∃ o : Obj, W.heap[r]? = some o ∧ o.isCells = false) : Mm own w0 bs L [] W' := by
  have hne : ∀ b (cs : Array Value) (T : TypeId) (fz : Nat × Nat), W.heap[b]? = some (.cells cs T fz) → some b ≠ row := by
    rintro b cs T fz h rfl
    obtain ⟨_, o, h1, h2⟩ := hr b rfl
    rw [h] at h1; injection h1 with h1; subst h1; cases h2
  refine ⟨⟨Below.grown m.since hg m.since.size (fun k e => (hr k e).1), fun x hx => (m.mem.box x hx).grown hg (hne _ _ _ _ (m.mem.box x hx)), m.mem.new, m.mem.two, ⟨fun x hx => ?_, m.mem.own.apart⟩, m.mem.far⟩, m.low, by simp⟩
  obtain ⟨h1, h2⟩ := m.mem.own.own x hx
  refine ⟨h1, ?_⟩
  rcases h2 with h2 | ⟨g, cap, cur, e1, e2, e3, r⟩
  · exact .inl h2
  · exact .inr ⟨g, cap, cur, e1, e2, (hg.block g (Array.getElem?_eq_some_iff.1 e3).1 (hne _ _ _ _ e3)).trans e3, r⟩
/-- What is no cells, from B on, stays. -/
theorem Mm.ko (m : Mm own w0 bs L Fs w) {B : Nat} (hB : w0.heap.size ≤ B) : Has (ownOf own bs L) w (KeepsFrom B w) := by
  refine ⟨fun b => B ≤ b ∧ ∃ o : Obj, w.heap[b]? = some o ∧ o.isCells = false, ?_, ?_⟩
  · rintro b ⟨h1, o, h2, h3⟩
    refine ⟨(Array.getElem?_eq_some_iff.1 h2).1, ?_⟩
    rintro (h | ⟨x, hx, rfl⟩ | ⟨y, hy, he⟩)
    · have := m.low b h; omega
    · rw [show w.heap[x.b]? = _ from m.mem.box x hx] at h2; injection h2 with h2; subst h2; cases h3
    · obtain ⟨_, k⟩ := m.mem.own.own y hy
      rcases k with ⟨k, _⟩ | ⟨g, cap, cur, e1, e2, e3, r⟩
      · rw [k] at he; cases he
      · rw [e1] at he
        injection he with he
        have he : g = b := he
        subst he
        rw [e3] at h2; injection h2 with h2; subst h2; cases h3
  · intro w' h1 h2
    exact ⟨h2, fun k o hk ho hc => (h1 k ⟨hk, o, ho, hc⟩).trans ho⟩
/-- A block for deferred calls. -/
def DefF (D : Nat) : World → Prop := fun w => w.heap[D]? = some (.deferred (some []))
theorem Mm.addDef (m : Mm own w0 bs L Fs w) {D : Nat} (h : w.heap[D]? = some (.deferred (some []))) (hD : w0.heap.size ≤ D) : Mm own w0 bs L (DefF D :: Fs) w := by
  refine m.addFact ⟨fun b => b = D, ?_, fun w' hk _ => (hk D rfl).trans h⟩
  rintro b rfl
  refine ⟨(Array.getElem?_eq_some_iff.1 h).1, ?_⟩
  rintro (h1 | ⟨x, hx, rfl⟩ | ⟨y, hy, he⟩)
  · have := m.low b h1; omega
  · rw [show w.heap[x.b]? = _ from m.mem.box x hx] at h; cases h
  · obtain ⟨_, k⟩ := m.mem.own.own y hy
    rcases k with ⟨k, _⟩ | ⟨g, cap, cur, e1, e2, e3, r⟩
    · rw [k] at he; cases he
    · rw [e1] at he
      injection he with he
      have he : g = b := he
      subst he
      rw [e3] at h; cases h
def markL (D : Nat) : List Deferred := [{ target := .collected D, args := #[] }]
/-- A range over a function, of one variable, whose body never leaves it. -/
theorem c_range1 {α : Type} {g : Operand} {p : Tmp} {assign body : Code} {m gf : Nat} {lb : Array Value} {va : α → Value} {la : α → List (Nat × Value)} {Kp : World → World → Prop} {S Sp : List α → Prop} {N : Nat} {wq : World}
    (hF : Fr n [] l a) (hg : ev l g = some (.func (.func gf) #[] lb)) (he : memB entL gf = true) (hp : Nat.blt p n = true)
    (hseq : SeqStopsK Fence.wide m Try.prog gf lb (fun x => #[va x]) Kp S Sp N wq) (hm : 1 ≤ m) (hKr : ∀ W, Kp W W) (hKt : ∀ {A B C : World}, Kp A B → Kp B C → Kp A C) (hKb : ∀ (W : World) (l : Nat) (o o' : Obj), w.heap.size ≤ l → W.heap[l]? = some o → o.isCells = false → o.isWalk = false → Kp W (W.putObj l o')) (hb0 : Below wq.heap.size wq w)
    (I : List α → World → Prop) (hI : OwnFrom w.heap.size I) (h0 : I [] w)
    (hassign : ∀ (l0 k : Nat) (x : α) (a : Act) (W : World), Fr n [] ((p, va x) :: l) a → Wk (some (l0, k)) assign (Cut fun a' W' => W' = W ∧ Fr n [] (la x) a') a W)
    (hbody : ∀ (l0 k : Nat) (pre : List α) (x : α) (a : Act) (W : World), I pre W → Fr n [] (la x) a → pre.length < N → Wk (some (l0, k)) body (ownPostG w.heap.size Kp I (fun _ _ _ => False) (pre ++ [x]) W) a W)
    (hdone : ∀ (D : Nat) (xs : List α) (a : Act) (W : World), w.heap.size ≤ D → S xs → I xs W → W.heap[D]? = some (.deferred (some [])) → Fr n (markL D) l a → Q .normal a W) :
    Wk none (Code.rangeFunc g #[p] assign body) Q a w := by
  refine (wpIn_wide (n := m + 1)).1 (wpIn_rangeFunc_ownH (F := Fence.wide) (n := m + 1) rfl (by omega) (hF.eval hg) trivial (entL_ok (memB_ok he)) (Kp := Kp) hseq (fun h k => hKt h k) hKb hb0 (fun x => rfl) I (fun _ _ _ => False) hI (fun _ _ _ _ _ h _ _ => h) h0
    (fun x a' _ => Fr n [] (la x) a') (fun _ _ _ _ _ _ h _ _ => h) ?_ ?_ ?_ ?_)
  · intro l0 pre x W K hIp hK
    have hr : Fr n [] ((p, va x) :: l) { tmps := (#[p].zip #[va x]).foldl (fun t (p, v) => t.setIfInBounds p v) a.tmps, defers := [] } := by
      have := hF.put hp (va x)
      have e : (a.put (some p) (va x)) = { tmps := (#[p].zip #[va x]).foldl (fun t (p, v) => t.setIfInBounds p v) a.tmps, defers := [] } := by
        simp [Act.put, hF.defs]
      rw [e] at this
      exact this
    refine wpIn_mono (hassign l0 _ x _ W hr) ?_
    intro e a' W' h
    cases e <;> first | exact h.elim | skip
    obtain ⟨rfl, h2⟩ := h
    exact hK a' W' (KeepsFrom.refl _ _) (hKr _) hIp h2
  · intro l0 pre x a' W _ _ hIp hA hlt
    exact hbody l0 _ pre x a' W hIp hA hlt
  · intro D xs W hD hS hIx hK
    refine hdone D xs _ W hD hS hIx hK ⟨hF.size, ?_, hF.get⟩
    show _ :: a.defers = _
    rw [hF.defs]; rfl
  · intro D c pre W _ _ h _
    exact h.elim
/-- The start and the end of a function that holds a range over a function. -/
theorem f_startM {f : FuncId} {fn : Func} {c : Code} {vs : List Value} {R : Ending → World → Prop} (hf : Try.prog.funcs[f]? = some fn) (hb : fn.body = some c) (hn : fn.ntmps = n) (hl : Nat.ble vs.length n = true) (hs : startO 0 vs = some l)
    (k : ∀ a, Fr n [] l a → Wk none c (bodyPostM Fence.wide 9 Try.prog fn R) a w) : Calls Try.prog f ⟨vs⟩ w R := by
  have := Fr.start (vs := vs) hn hl
  rw [startO_ok hs] at this
  exact (callsIn_wide (n := 9)).1 (callsIn_of_wp_marks hf hb trivial (wpIn_wide.2 (k _ this)) rfl)
theorem f_retM {fn : Func} {rs : List ResultVar} {vs : List Value} {R : Ending → World → Prop} {D : Nat} (hr : fn.results = ⟨rs⟩) (hF : Fr n (markL D) l a) (hM : Mm own w0 bs L Fs w) (hD : DefF D ∈ Fs) (hD0 : w0.heap.size ≤ D) (hv : RL l bs rs vs) (hR : ∀ w', Mm own w0 bs L [] w' → R (.returned (resV vs)) w') : bodyPostM Fence.wide 9 Try.prog fn R .ret a w := by
  have hK := hM.fact hD
  have hM' : Mm own w0 bs L [] (w.putObj D (.deferred none)) := hM.turn (grownBy_putObj' w D (.deferred none)) (fun r e => by cases e; exact ⟨hD0, _, hK, rfl⟩)
  have hres := f_res (fn := fn) hr hF hM' hv
  show LeavesInM _ _ _ _ _ _ a.defers _ _
  rw [hF.defs]
  refine ⟨by simp, .inl ⟨D, _, rfl, run_takeDeferred hK, ?_⟩⟩
  exact ⟨_, hres, hR _ hM'⟩
theorem f_ret0 {fn : Func} {rs : List ResultVar} {vs : List Value} {R : Ending → World → Prop} (hr : fn.results = ⟨rs⟩) (hF : Fr n [] l a) (hM : Mm own w0 bs L Fs w) (hv : RL l bs rs vs) (hR : R (.returned (resV vs)) w) : bodyPostM Fence.wide 9 Try.prog fn R .ret a w := by
  have hres := f_res (fn := fn) hr hF hM hv
  show LeavesInM _ _ _ _ _ _ a.defers _ _
  rw [hF.defs]
  exact ⟨_, hres, hR⟩
end Go.Proofs.Ytobflnjbdghnhaa
