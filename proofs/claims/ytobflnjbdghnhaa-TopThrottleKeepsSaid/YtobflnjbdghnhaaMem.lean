/- What a call's own memory holds: boxes whose cells are known, and slices that own their rows; no two share a block. How each kind of step turns it. -/
import Derived.Test.YtobflnjbdghnhaaOwn
set_option linter.unusedSimpArgs false
set_option linter.unusedVariables false
set_option linter.unusedSectionVars false
namespace Go.Proofs.Ytobflnjbdghnhaa
open Go.RowKit

structure BoxE where
  b : Nat
  cs : Array Value
  T : TypeId
/-- Since w0 nothing old has turned; the boxes bs and the rows of L are the call's own. -/
structure Mem (w0 : World) (bs : List BoxE) (L : List Ent) (w : World) : Prop where
  since : Since w0 w
  box : ∀ x ∈ bs, Box w x.b x.cs x.T
  new : ∀ x ∈ bs, w0.heap.size ≤ x.b
  two : bs.Pairwise fun x y => x.b ≠ y.b
  own : Owns w w0.heap.size L
  far : ∀ x ∈ bs, ∀ y ∈ L, y.v.ownBlock ≠ some x.b
theorem Mem.start {w0 w : World} (h : Since w0 w) : Mem w0 [] [] w := ⟨h, by simp, by simp, .nil, Owns.nil _ _, by simp⟩
theorem Mem.keep {w0 w w' : World} {bs : List BoxE} {L : List Ent} (m : Mem w0 bs L w) (h : Since w w') : Mem w0 bs L w' :=
  ⟨m.since.trans h, fun x hx => (m.box x hx).since h, m.new, m.two, m.own.since h, m.far⟩
theorem Mem.alloc {w0 w : World} {bs : List BoxE} {L : List Ent} (m : Mem w0 bs L w) (o : Obj) : Mem w0 bs L (w.alloc o) := m.keep ((Since.refl w).alloc o)
theorem Mem.drew {w0 w : World} {bs : List BoxE} {L : List Ent} (m : Mem w0 bs L w) : Mem w0 bs L w.drew := m.keep (Since.refl w).drew
theorem Mem.drewN {w0 w : World} {bs : List BoxE} {L : List Ent} (m : Mem w0 bs L w) (n : Nat) : Mem w0 bs L (w.drewN n) := m.keep ((Since.refl w).drewN n)
/-- A new box. -/
theorem Mem.addBox {w0 w : World} {bs : List BoxE} {L : List Ent} (m : Mem w0 bs L w) {b : Nat} (hb : w.heap.size = b) (cs : Array Value) (T : TypeId) : Mem w0 (bs ++ [⟨b, cs, T⟩]) L (w.alloc (.cells cs T)) := by
  have m' := m.alloc (.cells cs T)
  refine ⟨m'.since, ?_, ?_, ?_, m'.own, ?_⟩
  · intro x hx
    rcases List.mem_append.1 hx with hx | hx
    · exact m'.box x hx
    · rw [List.mem_singleton] at hx; subst hx; exact Box.at hb cs T
  · intro x hx
    rcases List.mem_append.1 hx with hx | hx
    · exact m.new x hx
    · rw [List.mem_singleton] at hx; subst hx; have := m.since.size; show _ ≤ b; omega
  · rw [List.pairwise_append]
    refine ⟨m.two, .cons (by simp) .nil, ?_⟩
    intro x hx y hy
    rw [List.mem_singleton] at hy; subst hy
    have := (m.box x hx).lt
    show x.b ≠ b; omega
  · intro x hx y hy
    rcases List.mem_append.1 hx with hx | hx
    · exact m.far x hx y hy
    · rw [List.mem_singleton] at hx; subst hx
      intro e
      have := m.own.lt hy _ e
      have h2 : b < w.heap.size := this.2
      omega
/-- Boxes forgotten. -/
theorem Mem.sub {w0 w : World} {bs bs' : List BoxE} {L : List Ent} (m : Mem w0 bs L w) (h : bs'.Sublist bs) : Mem w0 bs' L w :=
  ⟨m.since, fun x hx => m.box x (h.subset hx), fun x hx => m.new x (h.subset hx), m.two.sublist h, m.own, fun x hx => m.far x (h.subset hx)⟩
/-- A nil slice more. -/
theorem Mem.addNil {w0 w : World} {bs : List BoxE} {L : List Ent} (m : Mem w0 bs L w) (e : TypeId) (size : Nat) : Mem w0 bs (⟨e, size, .slice none 0 0, 0, []⟩ :: L) w :=
  ⟨m.since, m.box, m.new, m.two, m.own.cons e size, fun x hx y hy => by rcases List.mem_cons.1 hy with rfl | hy; (simp [Value.ownBlock]); exact m.far x hx y hy⟩
/-- A slice literal just laid: it owns its block. -/
theorem Mem.addRow {w0 w : World} {bs : List BoxE} {L : List Ent} (m : Mem w0 bs L w) {b : Nat} (hb : w.heap.size = b) (cs : Array Value) (e : TypeId) (size n : Nat) (hs : cs.size = n * size) (hm : n ≤ maxLen) :
    Mem w0 bs (⟨e, size, .slice (some ⟨b, 0, none⟩) n n, n, cs.toList⟩ :: L) (w.alloc (.cells cs e)) := by
  subst hb
  have m' := m.alloc (.cells cs e)
  have hsz := m.since.size
  refine ⟨m'.since, m'.box, m.new, m.two, ⟨?_, ?_⟩, ?_⟩
  · intro x hx
    rcases List.mem_cons.1 hx with rfl | hx
    · exact World.ownsRow_lit w cs n hsz hm hs
    · exact m'.own.own x hx
  · refine .cons ?_ m.own.apart
    intro y hy
    right
    intro e2
    exact absurd (m.own.lt hy _ e2.symm).2 (Nat.lt_irrefl _)
  · intro x hx y hy
    rcases List.mem_cons.1 hy with rfl | hy
    · intro e2
      have := (m.box x hx).lt
      simp [Value.ownBlock] at e2
      omega
    · exact m.far x hx y hy
/-- The walk's rules on box j. -/
theorem Mem.rules {w0 w : World} {bs : List BoxE} {L : List Ent} (m : Mem w0 bs L w) (j : Nat) {b : Nat} {cs : Array Value} {T : TypeId} (hj : bs[j]? = some ⟨b, cs, T⟩) :
    (∀ o, w.cell? ⟨b, o, none⟩ = cs[o]?) ∧ (∀ o, w.frozen? ⟨b, o, none⟩ = false) ∧ b < w.heap.size := (m.box _ (List.mem_of_getElem? hj)).rules
theorem Mem.at {w0 w : World} {bs : List BoxE} {L : List Ent} (m : Mem w0 bs L w) (j : Nat) {b : Nat} {cs : Array Value} {T : TypeId} (hj : bs[j]? = some ⟨b, cs, T⟩) : Box w b cs T := m.box _ (List.mem_of_getElem? hj)
/-- A store into box j. -/
theorem Mem.store {w0 w : World} {bs : List BoxE} {L : List Ent} (m : Mem w0 bs L w) (j : Nat) {b : Nat} {cs : Array Value} {T : TypeId} (hj : bs[j]? = some ⟨b, cs, T⟩) (i : Nat) (v : Value) :
    Mem w0 (bs.set j ⟨b, cs.setIfInBounds i v, T⟩) L (w.setCell ⟨b, i, none⟩ v) := by
  have hmem := List.mem_of_getElem? hj
  have hjl : j < bs.length := by
    rcases Nat.lt_or_ge j bs.length with g | g
    · exact g
    · rw [List.getElem?_eq_none g] at hj; cases hj
  have hbj : bs[j] = ⟨b, cs, T⟩ := by rw [List.getElem?_eq_getElem hjl] at hj; injection hj
  have htwo := List.pairwise_iff_getElem.1 m.two
  have hne : ∀ (k : Nat) (hk : k < bs.length), k ≠ j → bs[k].b ≠ b := by
    intro k hk e
    rcases Nat.lt_or_ge k j with g | g
    · have := htwo k j hk hjl g; rw [hbj] at this; exact this
    · have := htwo j k hjl hk (by omega); rw [hbj] at this; exact fun e => this e.symm
  have hmems : ∀ x ∈ bs.set j ⟨b, cs.setIfInBounds i v, T⟩, x = ⟨b, cs.setIfInBounds i v, T⟩ ∨ (x ∈ bs ∧ x.b ≠ b) := by
    intro x hx
    obtain ⟨k, hk, hxk⟩ := List.getElem_of_mem hx
    rw [List.getElem_set] at hxk
    split at hxk
    · exact .inl hxk.symm
    · rename_i hn
      subst hxk
      have hk' : k < bs.length := by simpa using hk
      exact .inr ⟨List.getElem_mem _, hne k hk' (fun e => hn e.symm)⟩
  refine ⟨m.since.setCell (m.new _ hmem) v, ?_, ?_, ?_, ?_, ?_⟩
  · intro x hx
    rcases hmems x hx with rfl | ⟨h1, h2⟩
    · exact (m.box ⟨b, cs, T⟩ hmem).set i v
    · exact (m.box x h1).setOther h2 v
  · intro x hx
    rcases hmems x hx with rfl | ⟨h1, h2⟩
    · exact m.new ⟨b, cs, T⟩ hmem
    · exact m.new x h1
  · rw [List.pairwise_iff_getElem]
    intro x y hx hy hxy
    have hx' : x < bs.length := by simpa using hx
    have hy' : y < bs.length := by simpa using hy
    rw [List.getElem_set, List.getElem_set]
    by_cases e1 : j = x
    · rw [if_pos e1, if_neg (by omega)]; exact fun e => hne y hy' (by omega) e.symm
    · rw [if_neg e1]
      by_cases e2 : j = y
      · rw [if_pos e2]; exact hne x hx' (by omega)
      · rw [if_neg e2]; exact htwo x y hx' hy' hxy
  · exact m.own.of2 fun x hx k hk => Below.heap_setCell _ _ _ _ (fun e => m.far _ hmem x hx (by rw [hk, e]))
  · intro x hx y hy
    rcases hmems x hx with rfl | ⟨h1, h2⟩
    · exact m.far ⟨b, cs, T⟩ hmem y hy
    · exact m.far x h1 y hy
/-- What an append to slice i does. -/
theorem Mem.app {w0 w w' : World} {bs : List BoxE} {L : List Ent} (m : Mem w0 bs L w) {i : Nat} {x : Ent} (hx : L[i]? = some x) {v' : Value} {n' : Nat} {xs' : List Value}
    (hown : w'.ownsRow w0.heap.size x.e x.size v' n' xs') (hg : w.grownBy w' x.v.ownBlock) (hat : v'.ownBlock = x.v.ownBlock ∨ v'.ownBlock = some w.heap.size) :
    Mem w0 bs (L.set i ⟨x.e, x.size, v', n', xs'⟩) w' := by
  have hxm := List.mem_of_getElem? hx
  refine ⟨?_, ?_, m.new, m.two, m.own.set hx hown hg hat, ?_⟩
  · exact Below.grown m.since hg m.since.size (fun k hk => (m.own.lt hxm k hk).1)
  · intro b hb
    exact (m.box b hb).grown hg (fun e => m.far b hb x hxm e.symm)
  · intro b hb y hy
    rcases List.mem_or_eq_of_mem_set hy with hy | rfl
    · exact m.far b hb y hy
    · show v'.ownBlock ≠ some b.b
      rcases hat with e | e
      · rw [e]; exact m.far b hb x hxm
      · rw [e]
        intro e2
        have := (m.box b hb).lt
        injection e2 with e2
        omega
section
variable {P : Program} {w : World}
/-- append(s, xs...) of m elements of size cells each, at the operation. -/
theorem wp_mem_app {o : Oper} {a : Act} {K : Act → World → Prop} {Q : Exit → Act → World → Prop} {w0 : World} {bs : List BoxE} {L : List Ent} (hM : Mem w0 bs L w) (s x : Operand) (t : TypeId)
    (ho : o.op = .call { callee := .builtin .append, args := #[s, x], argTypes := #[t, t] })
    (k : Nat) (e : TypeId) (i : TypeInfo) (z : Value) (size bytes : Nat) (ht : P.underlying t = some (.slice e)) (hi : P.info? e = some i) (hz : i.zero = some z)
    (hsize : i.size = size) (hby : i.bytes = bytes) (hzs : z.cells.size = size) (hs0 : 0 < size)
    (v : Value) (n : Nat) (xs : List Value) (hs : a.eval s = v)  (hL : L[k]? = some ⟨e, size, v, n, xs⟩)
    (ad : Addr) (m c : Nat) (news : List Value) (hx : a.eval x = .slice (some ad) m c) (hl : news.length = m * size) (hnews : ∀ j u, news[j]? = some u → w.cell? (ad.add j) = some u) (h1 : ∀ u ∈ news, u.oneCell' = true)
    (hm : 0 < m) (hn : (n + m) * bytes ≤ 140737488355328) (hn2 : n + m ≤ maxLen)
    (h : ∀ g cap w', Mem w0 bs (L.set k ⟨e, size, .slice (some ⟨g, 0, none⟩) (n + m) cap, n + m, xs ++ news⟩) w' → K (a.put o.dst (.slice (some ⟨g, 0, none⟩) (n + m) cap)) w') : o.wp P a w K Q := by
  refine wp_append_lies w s x t ho w0.heap.size e i z size bytes ht hi hz hsize hby hzs hs0 v n xs hs (hM.own.get hL) ad m c news hx hl hnews h1 hm hn2 hn hM.since.size w.heap.size rfl ?_
  intro g cap w' h2 h3 h4 h5
  refine h g cap w' (hM.app hL h2 h3 ?_)
  rcases h4 with h4 | h4
  · exact .inl h4.symm
  · exact .inr (by simp [Value.ownBlock, h4])
theorem wpList_mem_app {ops : Array Oper} {rest : List Oper} {o : Oper} {a : Act} {Q : Exit → Act → World → Prop} {w0 : World} {bs : List BoxE} {L : List Ent} (hM : Mem w0 bs L w) (hgd : o.guard = none) (s x : Operand) (t : TypeId)
    (ho : o.op = .call { callee := .builtin .append, args := #[s, x], argTypes := #[t, t] })
    (k : Nat) (e : TypeId) (i : TypeInfo) (z : Value) (size bytes : Nat) (ht : P.underlying t = some (.slice e)) (hi : P.info? e = some i) (hz : i.zero = some z)
    (hsize : i.size = size) (hby : i.bytes = bytes) (hzs : z.cells.size = size) (hs0 : 0 < size)
    (v : Value) (n : Nat) (xs : List Value) (hs : a.eval s = v)  (hL : L[k]? = some ⟨e, size, v, n, xs⟩)
    (ad : Addr) (m c : Nat) (news : List Value) (hx : a.eval x = .slice (some ad) m c) (hl : news.length = m * size) (hnews : ∀ j u, news[j]? = some u → w.cell? (ad.add j) = some u) (h1 : ∀ u ∈ news, u.oneCell' = true)
    (hm : 0 < m) (hn : (n + m) * bytes ≤ 140737488355328) (hn2 : n + m ≤ maxLen)
    (h : ∀ g cap w', Mem w0 bs (L.set k ⟨e, size, .slice (some ⟨g, 0, none⟩) (n + m) cap, n + m, xs ++ news⟩) w' → wpList P ops Q rest (a.put o.dst (.slice (some ⟨g, 0, none⟩) (n + m) cap)) w') : wpList P ops Q (o :: rest) a w :=
  wpList_plain hgd fun _ hK => wp_mem_app hM s x t ho k e i z size bytes ht hi hz hsize hby hzs hs0 v n xs hs hL ad m c news hx hl hnews h1 hm hn hn2 fun g cap w' h2 => hK _ _ (h g cap w' h2)
theorem step_mem_app {ops : Array Oper} {o : Oper} {a : Act} {K : Act → World → Prop} {Q : Exit → Act → World → Prop} {E : Prop} {w0 : World} {bs : List BoxE} {L : List Ent} (hM : Mem w0 bs L w) (hgd : o.guard = none) (s x : Operand) (t : TypeId)
    (ho : o.op = .call { callee := .builtin .append, args := #[s, x], argTypes := #[t, t] })
    (k : Nat) (e : TypeId) (i : TypeInfo) (z : Value) (size bytes : Nat) (ht : P.underlying t = some (.slice e)) (hi : P.info? e = some i) (hz : i.zero = some z)
    (hsize : i.size = size) (hby : i.bytes = bytes) (hzs : z.cells.size = size) (hs0 : 0 < size)
    (v : Value) (n : Nat) (xs : List Value) (hs : a.eval s = v)  (hL : L[k]? = some ⟨e, size, v, n, xs⟩)
    (ad : Addr) (m c : Nat) (news : List Value) (hx : a.eval x = .slice (some ad) m c) (hl : news.length = m * size) (hnews : ∀ j u, news[j]? = some u → w.cell? (ad.add j) = some u) (h1 : ∀ u ∈ news, u.oneCell' = true)
    (hm : 0 < m) (hn : (n + m) * bytes ≤ 140737488355328) (hn2 : n + m ≤ maxLen)
    (h : ∀ g cap w', Mem w0 bs (L.set k ⟨e, size, .slice (some ⟨g, 0, none⟩) (n + m) cap, n + m, xs ++ news⟩) w' → K (a.put o.dst (.slice (some ⟨g, 0, none⟩) (n + m) cap)) w') :
    if Region.wanted o (yielded ops a.tmps) = true then Oper.wp P o a w K Q else E := by
  have hw : Region.wanted o (yielded ops a.tmps) = true := by simp [Region.wanted, hgd]
  rw [if_pos hw]
  exact wp_mem_app hM s x t ho k e i z size bytes ht hi hz hsize hby hzs hs0 v n xs hs hL ad m c news hx hl hnews h1 hm hn hn2 h
end
/-- One new cell, in a block just laid. -/
theorem news_one {w : World} {b off : Nat} {y : Value} (h : w.cell? ⟨b, off, none⟩ = some y) : ∀ j u, ([y] : List Value)[j]? = some u → w.cell? ((⟨b, off, none⟩ : Addr).add j) = some u := by
  intro j u hu
  match j, hu with
  | 0, hu => simp at hu; subst hu; simpa [Addr.add] using h
theorem cell_alloc_some {w : World} {a : Addr} {v : Value} (h : w.cell? a = some v) (o : Obj) : (w.alloc o).cell? a = some v :=
  (World.cell?_of_block (Below.heap_alloc w o a.block (World.block_lt_of_cell? w _ h))).trans h
theorem one_int (k : IntKind) (n : Int) : ∀ u ∈ [Value.int k n], u.oneCell' = true := by intro u hu; simp at hu; subst hu; rfl
end Go.Proofs.Ytobflnjbdghnhaa
