/- What a call's own memory holds, with facts that hang on memory that nobody writes. -/
import Derived.Test.YtobflnjbdghnhaaGd
set_option linter.unusedSimpArgs false
set_option linter.unusedVariables false
set_option linter.unusedSectionVars false
namespace Go.Proofs.Ytobflnjbdghnhaa
open Go.RowKit
/-- f holds of w, and goes on to hold while the blocks of w that nobody in own holds stay as they are. -/
def Has (own : Nat → Prop) (w : World) (f : World → Prop) : Prop :=
  ∃ S : Nat → Prop, (∀ b, S b → b < w.heap.size ∧ ¬ own b) ∧ ∀ w', (∀ b, S b → w'.heap[b]? = w.heap[b]?) → w.heap.size ≤ w'.heap.size → f w'
theorem Has.get {own : Nat → Prop} {w : World} {f : World → Prop} (h : Has own w f) : f w := let ⟨_, _, k⟩ := h; k w (fun _ _ => rfl) (Nat.le_refl _)
theorem Has.mono {own own' : Nat → Prop} {w : World} {f : World → Prop} (h : Has own w f) (ho : ∀ b, b < w.heap.size → own' b → own b) : Has own' w f :=
  let ⟨S, h1, h2⟩ := h; ⟨S, fun b hb => ⟨(h1 b hb).1, fun hn => (h1 b hb).2 (ho b (h1 b hb).1 hn)⟩, h2⟩
theorem Has.own_eq {own own' : Nat → Prop} {w : World} {f : World → Prop} (h : Has own w f) (ho : ∀ b, own' b → own b) : Has own' w f := h.mono fun b _ => ho b
theorem Has.imp {own : Nat → Prop} {w : World} {f g : World → Prop} (h : Has own w f) (hi : ∀ w, f w → g w) : Has own w g := let ⟨S, h1, h2⟩ := h; ⟨S, h1, fun w' a b => hi w' (h2 w' a b)⟩
theorem Has.and {own : Nat → Prop} {w : World} {f g : World → Prop} (h : Has own w f) (k : Has own w g) : Has own w fun w => f w ∧ g w := by
  obtain ⟨S, h1, h2⟩ := h
  obtain ⟨T, k1, k2⟩ := k
  exact ⟨fun b => S b ∨ T b, fun b hb => hb.elim (h1 b) (k1 b), fun w' a b => ⟨h2 w' (fun x hx => a x (.inl hx)) b, k2 w' (fun x hx => a x (.inr hx)) b⟩⟩
theorem Has.step {own : Nat → Prop} {w w' : World} {f : World → Prop} (h : Has own w f) (hk : ∀ b, b < w.heap.size → ¬ own b → w'.heap[b]? = w.heap[b]?) (hs : w.heap.size ≤ w'.heap.size) : Has own w' f := by
  obtain ⟨S, h1, h2⟩ := h
  refine ⟨S, fun b hb => ⟨Nat.lt_of_lt_of_le (h1 b hb).1 hs, (h1 b hb).2⟩, fun w2 a b => h2 w2 (fun x hx => (a x hx).trans (hk x (h1 x hx).1 (h1 x hx).2)) (Nat.le_trans hs b)⟩
theorem Has.since {own : Nat → Prop} {w w' : World} {f : World → Prop} (h : Has own w f) (hs : Since w w') : Has own w' f := h.step (fun b hb _ => hs.block b hb) hs.size
theorem Has.pure {own : Nat → Prop} {w : World} {f : World → Prop} (h : ∀ w, f w) : Has own w f := ⟨fun _ => False, fun _ h => h.elim, fun w _ _ => h w⟩
/-- A slice that can be read. -/
def RdF {α : Type} (enc : α → Value) (a : Option Addr) (l : List α) : World → Prop := fun w => Reads enc w a l
theorem RdF.has {α : Type} {enc : α → Value} {a : Option Addr} {l : List α} {own : Nat → Prop} {w : World} (h : Reads enc w a l) (ho : ∀ ad, a = some ad → ¬ own ad.block) : Has own w (RdF enc a l) := by
  refine ⟨fun b => b < w.heap.size ∧ ¬ own b, fun b hb => hb, fun w' hk hs i x hx => ?_⟩
  obtain ⟨b, off, rfl, hb, hc⟩ := h i x hx
  exact ⟨b, off, rfl, Nat.lt_of_lt_of_le hb hs, (World.cell?_of_block (hk b ⟨hb, ho _ rfl⟩)).trans hc⟩
theorem RdF.nil {α : Type} {enc : α → Value} {a : Option Addr} {own : Nat → Prop} {w : World} : Has own w (RdF enc a []) := Has.pure fun _ => Reads.nil _ _ _
/-- Which blocks are held: those of the callers, the boxes, the rows. -/
def ownOf (own : Nat → Prop) (bs : List BoxE) (L : List Ent) (b : Nat) : Prop := own b ∨ (∃ x ∈ bs, x.b = b) ∨ ∃ y ∈ L, y.v.ownBlock = some b
structure Mm (own : Nat → Prop) (w0 : World) (bs : List BoxE) (L : List Ent) (Fs : List (World → Prop)) (w : World) : Prop where
  mem : Mem w0 bs L w
  low : ∀ b, own b → b < w0.heap.size
  facts : ∀ f ∈ Fs, Has (ownOf own bs L) w f
section
variable {own : Nat → Prop} {w0 w w' : World} {bs : List BoxE} {L : List Ent} {Fs : List (World → Prop)}
theorem Mm.start (hl : ∀ b, own b → b < w.heap.size) : Mm own w [] [] [] w := ⟨Mem.start (Since.refl _), hl, by simp⟩
theorem Mm.lt (m : Mm own w0 bs L Fs w) : ∀ b, ownOf own bs L b → b < w.heap.size := by
  rintro b (h | ⟨x, hx, rfl⟩ | ⟨y, hy, he⟩)
  · exact Nat.lt_of_lt_of_le (m.low b h) m.mem.since.size
  · exact (m.mem.box x hx).lt
  · exact (m.mem.own.lt hy _ he).2
theorem Mm.since (m : Mm own w0 bs L Fs w) : Since w0 w := m.mem.since
theorem Mm.addFact (m : Mm own w0 bs L Fs w) {f : World → Prop} (h : Has (ownOf own bs L) w f) : Mm own w0 bs L (f :: Fs) w :=
  ⟨m.mem, m.low, fun g hg => by rcases List.mem_cons.1 hg with rfl | hg; exact h; exact m.facts g hg⟩
theorem Mm.known (m : Mm own w [] [] Fs w) {f : World → Prop} (h : Has own w f) : Mm own w [] [] (f :: Fs) w :=
  m.addFact (h.own_eq (by rintro b (h | ⟨x, hx, -⟩ | ⟨x, hx, -⟩); exact h; cases hx; cases hx))
theorem rd_some (m : Mm own w0 bs L Fs w) {α : Type} {enc : α → Value} {a : Option Addr} {xs : List α} (h : RdF enc a xs ∈ Fs) {k : Nat} {x : α} (hx : xs[k]? = some x) : ∃ ad, a = some ad := by
  obtain ⟨b, off, e, _⟩ := (m.facts _ h).get k x hx
  exact ⟨_, e⟩
theorem Mm.fact (m : Mm own w0 bs L Fs w) {f : World → Prop} (h : f ∈ Fs) : f w := (m.facts f h).get
theorem Mm.keep (m : Mm own w0 bs L Fs w) (h : Since w w') : Mm own w0 bs L Fs w' := ⟨m.mem.keep h, m.low, fun f hf => (m.facts f hf).since h⟩
theorem Mm.drew (m : Mm own w0 bs L Fs w) : Mm own w0 bs L Fs w.drew := m.keep (Since.refl w).drew
theorem Mm.sub (m : Mm own w0 bs L Fs w) {bs' : List BoxE} {L' : List Ent} {Fs' : List (World → Prop)} (h1 : bs'.Sublist bs) (h2 : L'.Sublist L) (h3 : ∀ f ∈ Fs', f ∈ Fs) : Mm own w0 bs' L' Fs' w := by
  have m1 := m.mem.sub h1
  refine ⟨⟨m1.since, m1.box, m1.new, m1.two, ⟨fun x hx => m1.own.own x (h2.subset hx), m1.own.apart.sublist h2⟩, fun x hx y hy => m1.far x hx y (h2.subset hy)⟩, m.low, fun f hf => (m.facts f (h3 f hf)).mono ?_⟩
  rintro b - (h | ⟨x, hx, e⟩ | ⟨y, hy, e⟩)
  · exact .inl h
  · exact .inr (.inl ⟨x, h1.subset hx, e⟩)
  · exact .inr (.inr ⟨y, h2.subset hy, e⟩)
/-- A new box. -/
theorem Mm.box (m : Mm own w0 bs L Fs w) (cs : Array Value) (T : TypeId) : Mm own w0 (⟨w.heap.size, cs, T⟩ :: bs) L Fs (w.alloc (.cells cs T)) := by
  have m' := m.mem.addBox rfl cs T
  have hp : List.Perm (bs ++ [⟨w.heap.size, cs, T⟩]) (⟨w.heap.size, cs, T⟩ :: bs) := List.perm_append_singleton _ _
  refine ⟨⟨m'.since, fun x hx => m'.box x (hp.mem_iff.2 hx), fun x hx => m'.new x (hp.mem_iff.2 hx), ?_, m'.own, fun x hx => m'.far x (hp.mem_iff.2 hx)⟩, m.low, fun f hf => ((m.facts f hf).mono ?_).since ((Since.refl w).alloc _)⟩
  · have := m'.two
    rw [List.pairwise_append] at this
    refine .cons ?_ this.1
    intro y hy
    exact fun e => this.2.2 y hy _ (by simp) e.symm
  · rintro b hb (h | ⟨x, hx, e⟩ | h)
    · exact .inl h
    · rcases List.mem_cons.1 hx with rfl | hx
      · exact absurd hb (by rw [← e]; exact Nat.lt_irrefl _)
      · exact .inr (.inl ⟨x, hx, e⟩)
    · exact .inr (.inr h)
/-- Where x stands in a list, and the list with another one in its place. -/
inductive Upd {α : Type} : List α → α → α → List α → Prop
  | z {x x' : α} {r : List α} : Upd (x :: r) x x' (x' :: r)
  | s {x x' y : α} {r r' : List α} : Upd r x x' r' → Upd (y :: r) x x' (y :: r')
theorem Upd.get {α : Type} {x x' : α} : ∀ {l l' : List α}, Upd l x x' l' → ∃ k, l[k]? = some x ∧ l' = l.set k x'
  | _, _, .z => ⟨0, rfl, rfl⟩
  | _, _, .s h => let ⟨k, h1, h2⟩ := h.get; ⟨k + 1, by simpa using h1, by simp [h2]⟩
theorem ownOf_set {own : Nat → Prop} {bs : List BoxE} {L : List Ent} {k : Nat} {b : Nat} {cs cs' : Array Value} {T T' : TypeId} (hk : bs[k]? = some ⟨b, cs, T⟩) {x : Nat} (h : ownOf own (bs.set k ⟨b, cs', T'⟩) L x) : ownOf own bs L x := by
  rcases h with h | ⟨y, hy, e⟩ | h
  · exact .inl h
  · rcases List.mem_or_eq_of_mem_set hy with hy | rfl
    · exact .inr (.inl ⟨y, hy, e⟩)
    · exact .inr (.inl ⟨_, List.mem_of_getElem? hk, e⟩)
  · exact .inr (.inr h)
/-- A store into a box. -/
theorem Mm.store (m : Mm own w0 bs L Fs w) {b : Nat} {cs : Array Value} {T : TypeId} {bs' : List BoxE} (i : Nat) (v : Value) (hu : Upd bs ⟨b, cs, T⟩ ⟨b, cs.setIfInBounds i v, T⟩ bs') : Mm own w0 bs' L Fs (w.setCell ⟨b, i, none⟩ v) := by
  obtain ⟨k, hk, rfl⟩ := hu.get
  refine ⟨m.mem.store k hk i v, m.low, fun f hf => ?_⟩
  have h1 : Has (ownOf own bs L) (w.setCell ⟨b, i, none⟩ v) f := by
    refine (m.facts f hf).step (fun x _ hx => Below.heap_setCell _ _ _ _ (fun e => hx (.inr (.inl ⟨_, List.mem_of_getElem? hk, e.symm⟩)))) ?_
    simp [World.setCell]
  exact h1.own_eq fun x hx => ownOf_set hk hx
/-- What an append to a row does. -/
theorem Mm.app (m : Mm own w0 bs L Fs w) {i : Nat} {x : Ent} (hx : L[i]? = some x) {v' : Value} {n' : Nat} {xs' : List Value}
    (hown : w'.ownsRow w0.heap.size x.e x.size v' n' xs') (hg : w.grownBy w' x.v.ownBlock) (hat : v'.ownBlock = x.v.ownBlock ∨ v'.ownBlock = some w.heap.size) :
    Mm own w0 bs (L.set i ⟨x.e, x.size, v', n', xs'⟩) Fs w' := by
  refine ⟨m.mem.app hx hown hg hat, m.low, fun f hf => ?_⟩
  have h0 : Has (ownOf own bs (L.set i ⟨x.e, x.size, v', n', xs'⟩)) w f := by
    refine (m.facts f hf).mono ?_
    rintro b hb (h | h | ⟨y, hy, e⟩)
    · exact .inl h
    · exact .inr (.inl h)
    · rcases List.mem_or_eq_of_mem_set hy with hy | rfl
      · exact .inr (.inr ⟨y, hy, e⟩)
      · rcases hat with q | q
        · exact .inr (.inr ⟨x, List.mem_of_getElem? hx, q ▸ e⟩)
        · simp only at e; rw [q] at e; injection e with e; omega
  obtain ⟨S, s1, s2⟩ := h0
  obtain ⟨S1, t1, t2⟩ := m.facts f hf
  refine ⟨fun b => S1 b ∧ S b ∨ S1 b, ?_, ?_⟩
  · intro b hb
    have hb : S1 b := hb.elim (fun h => h.1) id
    refine ⟨Nat.lt_of_lt_of_le (t1 b hb).1 hg.size, ?_⟩
    rintro (h | h | ⟨y, hy, e⟩)
    · exact (t1 b hb).2 (.inl h)
    · exact (t1 b hb).2 (.inr (.inl h))
    · rcases List.mem_or_eq_of_mem_set hy with hy | rfl
      · exact (t1 b hb).2 (.inr (.inr ⟨y, hy, e⟩))
      · rcases hat with q | q
        · exact (t1 b hb).2 (.inr (.inr ⟨x, List.mem_of_getElem? hx, q ▸ e⟩))
        · simp only at e; rw [q] at e; injection e with e; have := (t1 b hb).1; omega
  · intro w2 a b
    refine t2 w2 (fun y hy => (a y (.inr hy)).trans (hg.block y (t1 y hy).1 ?_)) (Nat.le_trans hg.size b)
    intro e
    exact (t1 y hy).2 (.inr (.inr ⟨x, List.mem_of_getElem? hx, e.symm⟩))
/-- A nil slice more. -/
theorem Mm.nilRow (m : Mm own w0 bs L Fs w) (e : TypeId) (size : Nat) : Mm own w0 bs (⟨e, size, .slice none 0 0, 0, []⟩ :: L) Fs w :=
  ⟨m.mem.addNil e size, m.low, fun f hf => (m.facts f hf).own_eq (by
    rintro b (h | h | ⟨y, hy, he⟩)
    · exact .inl h
    · exact .inr (.inl h)
    · rcases List.mem_cons.1 hy with rfl | hy
      · simp [Value.ownBlock] at he
      · exact .inr (.inr ⟨y, hy, he⟩))⟩
/-- A box is a row. -/
theorem Mm.boxRow {b : Nat} {cs : List Value} {e : TypeId} (m : Mm own w0 (⟨b, ⟨cs⟩, e⟩ :: bs) L Fs w) (size n : Nat) (hs : cs.length = n * size) (hn : n ≤ maxLen) :
    Mm own w0 bs (⟨e, size, .slice (some ⟨b, 0, none⟩) n n, n, cs⟩ :: L) Fs w := by
  have hbox := m.mem.box _ List.mem_cons_self
  have hnew := m.mem.new _ List.mem_cons_self
  have htwo := m.mem.two
  rw [List.pairwise_cons] at htwo
  refine ⟨⟨m.mem.since, fun x hx => m.mem.box x (List.mem_cons_of_mem _ hx), fun x hx => m.mem.new x (List.mem_cons_of_mem _ hx), htwo.2, ⟨?_, .cons ?_ m.mem.own.apart⟩, ?_⟩, m.low, fun f hf => (m.facts f hf).own_eq ?_⟩
  · intro x hx
    rcases List.mem_cons.1 hx with rfl | hx
    · refine ⟨hs, .inr ⟨b, n, ⟨cs⟩, rfl, hnew, hbox, Nat.le_refl _, hn, by simpa using hs, ?_⟩⟩
      show cs.take (n * size) = cs
      rw [List.take_of_length_le (by omega)]
    · exact m.mem.own.own x hx
  · intro y hy
    right
    intro e2
    exact m.mem.far _ List.mem_cons_self y hy e2.symm
  · intro x hx y hy
    rcases List.mem_cons.1 hy with rfl | hy
    · intro e2
      injection e2 with e2
      exact htwo.1 x hx e2
    · exact m.mem.far x (List.mem_cons_of_mem _ hx) y hy
  · rintro c (h | ⟨x, hx, h⟩ | ⟨y, hy, he⟩)
    · exact .inl h
    · exact .inr (.inl ⟨x, List.mem_cons_of_mem _ hx, h⟩)
    · rcases List.mem_cons.1 hy with rfl | hy
      · injection he with he; exact .inr (.inl ⟨_, List.mem_cons_self, he⟩)
      · exact .inr (.inr ⟨y, hy, he⟩)
theorem Mm.perm (m : Mm own w0 bs L Fs w) {bs' : List BoxE} (h : bs.Perm bs') : Mm own w0 bs' L Fs w := by
  refine ⟨⟨m.mem.since, fun x hx => m.mem.box x (h.mem_iff.2 hx), fun x hx => m.mem.new x (h.mem_iff.2 hx), ?_, m.mem.own, fun x hx => m.mem.far x (h.mem_iff.2 hx)⟩, m.low, fun f hf => (m.facts f hf).own_eq ?_⟩
  · exact (h.pairwise_iff (fun h e => h e.symm)).1 m.mem.two
  · rintro b (h1 | ⟨x, hx, e⟩ | h1)
    · exact .inl h1
    · exact .inr (.inl ⟨x, h.mem_iff.2 hx, e⟩)
    · exact .inr (.inr h1)
/-- A box, as a fact for the caller. -/
theorem Mm.boxFact (m : Mm own w0 bs L Fs w) {b : Nat} {cs : Array Value} {T : TypeId} (h : ⟨b, cs, T⟩ ∈ bs) : Has own w (Box · b cs T) := by
  refine ⟨fun x => x = b, fun x hx => ?_, fun w' hk _ => (m.mem.box _ h).of_block (hk b rfl)⟩
  subst hx
  refine ⟨(m.mem.box _ h).lt, fun hn => ?_⟩
  have h1 : w0.heap.size ≤ x := m.mem.new _ h
  have := m.low _ hn
  omega
/-- Rows that a call has handed over. -/
theorem Mm.addRows (m : Mm own w0 bs L Fs w) (hs : Since w w') {L' : List Ent} (ho : Owns w' w.heap.size L') : Mm own w0 bs (L' ++ L) Fs w' := by
  have m' := m.keep hs
  have hz := m.mem.since.size
  refine ⟨⟨m'.mem.since, m'.mem.box, m'.mem.new, m'.mem.two, ⟨?_, ?_⟩, ?_⟩, m.low, fun f hf => ?_⟩
  · intro x hx
    rcases List.mem_append.1 hx with hx | hx
    · obtain ⟨h1, h2⟩ := ho.own x hx
      refine ⟨h1, h2.imp id ?_⟩
      rintro ⟨g, cap, cur, r1, r2, r3⟩
      exact ⟨g, cap, cur, r1, Nat.le_trans hz r2, r3⟩
    · exact m'.mem.own.own x hx
  · rw [List.pairwise_append]
    refine ⟨ho.apart, m'.mem.own.apart, ?_⟩
    intro x hx y hy
    cases hb : x.v.ownBlock with
    | none => exact .inl rfl
    | some k =>
      right
      intro e
      have h1 := ho.lt hx k hb
      have h2 := m.mem.own.lt hy k e.symm
      omega
  · intro x hx y hy
    rcases List.mem_append.1 hy with hy | hy
    · intro e
      have h1 := ho.lt hy _ e
      have h2 := (m.mem.box x hx).lt
      omega
    · exact m'.mem.far x hx y hy
  · have h0 := m.facts f hf
    refine (h0.mono ?_).since hs
    rintro b hb (h | h | ⟨y, hy, e⟩)
    · exact .inl h
    · exact .inr (.inl h)
    · rcases List.mem_append.1 hy with hy | hy
      · have h1 := ho.lt hy _ e; omega
      · exact .inr (.inr ⟨y, hy, e⟩)
/-- A row of one-cell elements, as a fact for the caller. -/
theorem Mm.rowFact {α : Type} {enc : α → Value} (m : Mm own w0 bs L Fs w) {e : TypeId} {a : Option Addr} {n c : Nat} {xs : List α} (h : ⟨e, 1, .slice a n c, n, xs.map enc⟩ ∈ L) : Has own w (RdF enc a xs) := by
  have ho : w.ownsRow w0.heap.size e 1 (.slice a n c) n (xs.map enc) := m.mem.own.own _ h
  refine RdF.has (own_reads ho) ?_
  rintro ad rfl hn
  have h1 := m.mem.own.lt h ad.block rfl
  have := m.low _ hn
  omega
theorem Mm.row {α : Type} {enc : α → Value} (m : Mm own w0 bs L Fs w) {e : TypeId} {v : Value} {n : Nat} {xs : List α} (h : ⟨e, 1, v, n, xs.map enc⟩ ∈ L) : ∃ a c, v = .slice a n c ∧ Reads enc w a xs ∧ xs.length = n :=
  own_ints (show w.ownsRow w0.heap.size e 1 v n (xs.map enc) from m.mem.own.own _ h)
theorem Mm.bx (m : Mm own w0 bs L Fs w) {b : Nat} {cs : List Value} {T : TypeId} (h : (⟨b, ⟨cs⟩, T⟩ : BoxE) ∈ bs) : Box w b ⟨cs⟩ T := m.mem.box _ h
/-- What was known when the call began. -/
theorem Mm.old (m : Mm own w0 bs L Fs w) {f : World → Prop} (h : Has own w0 f) : Has (ownOf own bs L) w f := by
  refine Has.since (w := w0) (h.mono ?_) m.since
  rintro b hb (h1 | ⟨x, hx, rfl⟩ | ⟨y, hy, he⟩)
  · exact h1
  · have := m.mem.new x hx; omega
  · have := (m.mem.own.lt hy b he).1; omega
/-- What was known to the caller is known still. -/
theorem Mm.factOut (m : Mm own w0 bs L Fs w) {f : World → Prop} (h : f ∈ Fs) : Has own w f := (m.facts f h).own_eq fun _ hb => .inl hb
end
/-- What holds of the boxes and the facts alone. -/
def Sm (bs : List BoxE) (Fs : List (World → Prop)) (w : World) : Prop := (∀ x ∈ bs, Box w x.b x.cs x.T) ∧ ∀ f ∈ Fs, f w
theorem Mm.sm {own : Nat → Prop} {w0 w : World} {bs : List BoxE} {L : List Ent} {Fs : List (World → Prop)} (m : Mm own w0 bs L Fs w) : Sm bs Fs w := ⟨m.mem.box, fun f hf => m.fact hf⟩
theorem Sm.sub {bs bs' : List BoxE} {Fs Fs' : List (World → Prop)} {w : World} (h : Sm bs Fs w) (h1 : ∀ x ∈ bs', x ∈ bs) (h2 : ∀ f ∈ Fs', f ∈ Fs) : Sm bs' Fs' w := ⟨fun x hx => h.1 x (h1 x hx), fun f hf => h.2 f (h2 f hf)⟩
end Go.Proofs.Ytobflnjbdghnhaa
