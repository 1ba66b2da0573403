/- Slices that a call makes and appends to: which blocks they own, that no two share one, and what an append does to all of them. -/
import Derived.Test.YtobflnjbdghnhaaBase
import Derived.Maps.AppendAt
import Derived.Deep.AppendLies
import Derived.Deep.RegionHeld3
import Derived.Deep.DrawnRows
import Derived.Deep.DeepCutAuto
set_option linter.unusedSimpArgs false
set_option linter.unusedVariables false
set_option linter.unusedSectionVars false
namespace Go.Proofs.Ytobflnjbdghnhaa
open Go.RowKit

/-- A block that holds just these cells, and may be written. -/
def Box (w : World) (b : Nat) (cs : Array Value) (T : TypeId) : Prop := w.heap[b]? = some (.cells cs T (0, 0))
theorem Box.lt {w : World} {b : Nat} {cs : Array Value} {T : TypeId} (h : Box w b cs T) : b < w.heap.size := (Array.getElem?_eq_some_iff.1 h).1
theorem Box.rules {w : World} {b : Nat} {cs : Array Value} {T : TypeId} (h : Box w b cs T) : (∀ o, w.cell? ⟨b, o, none⟩ = cs[o]?) ∧ (∀ o, w.frozen? ⟨b, o, none⟩ = false) ∧ b < w.heap.size :=
  ⟨fun o => by simp [World.cell?, show w.heap[b]? = _ from h], fun o => by simp [World.frozen?, show w.heap[b]? = _ from h], h.lt⟩
theorem Box.of_block {w w' : World} {b : Nat} {cs : Array Value} {T : TypeId} (h : Box w b cs T) (e : w'.heap[b]? = w.heap[b]?) : Box w' b cs T := e.trans h
theorem Box.new (w : World) (cs : Array Value) (T : TypeId) : Box (w.alloc (.cells cs T)) w.heap.size cs T := heap_alloc_new w _
theorem Box.at {w : World} {b : Nat} (h : w.heap.size = b) (cs : Array Value) (T : TypeId) : Box (w.alloc (.cells cs T)) b cs T := h ▸ Box.new w cs T
theorem Box.alloc {w : World} {b : Nat} {cs : Array Value} {T : TypeId} (h : Box w b cs T) (o : Obj) : Box (w.alloc o) b cs T := h.of_block (Below.heap_alloc w o b h.lt)
theorem Box.drew {w : World} {b : Nat} {cs : Array Value} {T : TypeId} (h : Box w b cs T) : Box w.drew b cs T := h
theorem Box.drewN {w : World} {b : Nat} {cs : Array Value} {T : TypeId} (h : Box w b cs T) (n : Nat) : Box (w.drewN n) b cs T := h
theorem Box.since {w w' : World} {b : Nat} {cs : Array Value} {T : TypeId} (h : Box w b cs T) (hs : Since w w') : Box w' b cs T := h.of_block (hs.block b h.lt)
theorem Box.grown {w w' : World} {b : Nat} {cs : Array Value} {T : TypeId} {row : Option Nat} (h : Box w b cs T) (hg : w.grownBy w' row) (hne : some b ≠ row) : Box w' b cs T := h.of_block (hg.block b h.lt hne)
theorem Box.set {w : World} {b : Nat} {cs : Array Value} {T : TypeId} (h : Box w b cs T) (i : Nat) (v : Value) : Box (w.setCell ⟨b, i, none⟩ v) b (cs.setIfInBounds i v) T := by
  unfold Box at h ⊢
  simp [World.setCell, Array.getElem?_modify, h]
theorem Box.setOther {w : World} {b : Nat} {cs : Array Value} {T : TypeId} (h : Box w b cs T) {a : Addr} (hne : b ≠ a.block) (v : Value) : Box (w.setCell a v) b cs T :=
  h.of_block (Below.heap_setCell _ _ _ _ hne)

/-- A slice that owns its row: elements of type e, size cells each. -/
structure Ent where
  e : TypeId
  size : Nat
  v : Value
  n : Nat
  xs : List Value
/-- The slices of L own their rows, in blocks from base on, and no two share one. -/
structure Owns (w : World) (base : Nat) (L : List Ent) : Prop where
  own : ∀ x ∈ L, w.ownsRow base x.e x.size x.v x.n x.xs
  apart : L.Pairwise fun x y => x.v.ownBlock = none ∨ x.v.ownBlock ≠ y.v.ownBlock
theorem Owns.nil (w : World) (base : Nat) : Owns w base [] := ⟨by simp, .nil⟩
theorem Owns.cons {w : World} {base : Nat} {L : List Ent} (h : Owns w base L) (e : TypeId) (size : Nat) : Owns w base (⟨e, size, .slice none 0 0, 0, []⟩ :: L) :=
  ⟨by intro x hx; rcases List.mem_cons.1 hx with rfl | hx; exact World.ownsRow_nil _ _ _ _; exact h.own x hx, .cons (fun y _ => .inl rfl) h.apart⟩
theorem Owns.get {w : World} {base : Nat} {L : List Ent} (h : Owns w base L) {i : Nat} {x : Ent} (hx : L[i]? = some x) : w.ownsRow base x.e x.size x.v x.n x.xs := h.own x (List.mem_of_getElem? hx)
theorem Owns.of {w w' : World} {base : Nat} {L : List Ent} (h : Owns w base L) (hk : ∀ b, base ≤ b → b < w.heap.size → w'.heap[b]? = w.heap[b]?) : Owns w' base L := by
  refine ⟨fun x hx => ?_, h.apart⟩
  obtain ⟨h1, h2⟩ := h.own x hx
  refine ⟨h1, ?_⟩
  rcases h2 with h2 | ⟨g, cap, cur, e1, e2, e3, r⟩
  · exact .inl h2
  · exact .inr ⟨g, cap, cur, e1, e2, by rw [hk g e2 (Array.getElem?_eq_some_iff.1 e3).1]; exact e3, r⟩
theorem Owns.of2 {w w' : World} {base : Nat} {L : List Ent} (h : Owns w base L) (hk : ∀ x ∈ L, ∀ k, x.v.ownBlock = some k → w'.heap[k]? = w.heap[k]?) : Owns w' base L := by
  refine ⟨fun x hx => ?_, h.apart⟩
  obtain ⟨h1, h2⟩ := h.own x hx
  refine ⟨h1, ?_⟩
  rcases h2 with h2 | ⟨g, cap, cur, e1, e2, e3, r⟩
  · exact .inl h2
  · exact .inr ⟨g, cap, cur, e1, e2, by rw [hk x hx g (by rw [e1]; rfl)]; exact e3, r⟩
theorem Owns.since {w w' : World} {base : Nat} {L : List Ent} (h : Owns w base L) (hs : Since w w') : Owns w' base L := h.of fun b _ hb => hs.block b hb
theorem Owns.alloc {w : World} {base : Nat} {L : List Ent} (h : Owns w base L) (o : Obj) : Owns (w.alloc o) base L := h.of fun b _ hb => Below.heap_alloc w o b hb
theorem Owns.drew {w : World} {base : Nat} {L : List Ent} (h : Owns w base L) : Owns w.drew base L := h.of fun _ _ _ => rfl
theorem Owns.drewN {w : World} {base : Nat} {L : List Ent} (h : Owns w base L) (n : Nat) : Owns (w.drewN n) base L := h.of fun _ _ _ => rfl
theorem Owns.setCell {w : World} {base : Nat} {L : List Ent} (h : Owns w base L) {a : Addr} (ha : a.block < base) (v : Value) : Owns (w.setCell a v) base L :=
  h.of fun b hb _ => Below.heap_setCell _ _ _ _ (by omega)
theorem Owns.lt {w : World} {base : Nat} {L : List Ent} (h : Owns w base L) {x : Ent} (hx : x ∈ L) : ∀ k, x.v.ownBlock = some k → base ≤ k ∧ k < w.heap.size := (h.own x hx).lt
/-- What an append to slice i does. -/
theorem Owns.set {w w' : World} {base : Nat} {L : List Ent} (h : Owns w base L) {i : Nat} {x : Ent} (hx : L[i]? = some x) {v' : Value} {n' : Nat} {xs' : List Value}
    (hown : w'.ownsRow base x.e x.size v' n' xs') (hg : w.grownBy w' x.v.ownBlock) (hat : v'.ownBlock = x.v.ownBlock ∨ v'.ownBlock = some w.heap.size) :
    Owns w' base (L.set i ⟨x.e, x.size, v', n', xs'⟩) := by
  have hi : i < L.length := by
    rcases Nat.lt_or_ge i L.length with g | g
    · exact g
    · rw [List.getElem?_eq_none g] at hx; cases hx
  have hxi : L[i] = x := by rw [List.getElem?_eq_getElem hi] at hx; injection hx
  have hap := List.pairwise_iff_getElem.1 h.apart
  have key : ∀ (j : Nat) (hj : j < L.length), j ≠ i → L[j].v.ownBlock = none ∨ L[j].v.ownBlock ≠ x.v.ownBlock := by
    intro j hj hne
    rcases Nat.lt_or_ge j i with g | g
    · have := hap j i hj hi g; rw [hxi] at this; exact this
    · rcases hap i j hi hj (by omega) with q | q
      · rw [hxi] at q
        cases hb : L[j].v.ownBlock with
        | none => exact .inl rfl
        | some k => right; rw [q]; simp
      · rw [hxi] at q; exact .inr fun e => q e.symm
  refine ⟨fun y hy => ?_, ?_⟩
  · obtain ⟨j, hj, hyj⟩ := List.getElem_of_mem hy
    rw [List.getElem_set] at hyj
    split at hyj
    · subst hyj; exact hown
    · rename_i hne
      subst hyj
      have hj' : j < L.length := by simpa using hj
      exact (h.own L[j] (List.getElem_mem _)).kept hg (key j hj' (fun e => hne e.symm))
  · rw [List.pairwise_iff_getElem]
    intro a b ha hb hab
    have ha' : a < L.length := by simpa using ha
    have hb' : b < L.length := by simpa using hb
    have hlt : ∀ (j : Nat) (hj : j < L.length), j ≠ i → L[j].v.ownBlock = none ∨ L[j].v.ownBlock ≠ v'.ownBlock := by
      intro j hj hne
      rcases hat with e | e
      · rw [e]; exact key j hj hne
      · right
        intro e2
        rw [e] at e2
        have := h.lt (List.getElem_mem hj) _ e2
        omega
    rw [List.getElem_set, List.getElem_set]
    by_cases e1 : i = a
    · rw [if_pos e1, if_neg (by omega)]
      rcases hlt b hb' (by omega) with q | q
      · by_cases hn : v'.ownBlock = none
        · exact .inl hn
        · exact .inr fun e => hn (e.trans q)
      · exact .inr fun e => q e.symm
    · rw [if_neg e1]
      by_cases e2 : i = b
      · rw [if_pos e2]; exact hlt a ha' (by omega)
      · rw [if_neg e2]; exact hap a b ha' hb' hab
/-- An owned slice of one-cell elements, read. -/
theorem ownsRow_reads {α : Type} {enc : α → Value} {w : World} {base : Nat} {e : TypeId} {v : Value} {l : List α} (h : w.ownsRow base e 1 v l.length (l.map enc)) :
    ∃ a c, v = .slice a l.length c ∧ Reads enc w a l := by
  rcases h.2 with ⟨rfl, h0⟩ | ⟨g, cap, cur, rfl, hb, hg, hnc, hcm, hcs, htake⟩
  · have : l = [] := List.eq_nil_of_length_eq_zero h0
    subst this
    exact ⟨none, 0, rfl, Reads.nil _ _ _⟩
  · refine ⟨_, cap, rfl, fun i x hx => ⟨g, 0, rfl, (Array.getElem?_eq_some_iff.1 hg).1, ?_⟩⟩
    have hi : i < l.length := by
      rcases Nat.lt_or_ge i l.length with q | q
      · exact q
      · rw [List.getElem?_eq_none q] at hx; cases hx
    rw [cell_of_row w g (0 + i) cur e (0, 0) hg]
    have h2 : (cur.toList.take (l.length * 1))[i]? = (l.map enc)[i]? := by rw [htake]
    rw [List.getElem?_take, if_pos (by omega), List.getElem?_map, hx] at h2
    simpa using h2
theorem own_ints {α : Type} {enc : α → Value} {w : World} {base : Nat} {e : TypeId} {v : Value} {n : Nat} {l : List α} (h : w.ownsRow base e 1 v n (l.map enc)) :
    ∃ a c, v = .slice a n c ∧ Reads enc w a l ∧ l.length = n := by
  have hn : l.length = n := by have := h.1; simpa using this
  subst hn
  obtain ⟨a, c, h1, h2⟩ := ownsRow_reads h
  exact ⟨a, c, h1, h2, rfl⟩
theorem own_reads {α : Type} {enc : α → Value} {w : World} {base : Nat} {e : TypeId} {a : Option Addr} {m c n : Nat} {l : List α} (h : w.ownsRow base e 1 (.slice a m c) n (l.map enc)) : Reads enc w a l := by
  obtain ⟨a', c', h1, h2, _⟩ := own_ints h
  injection h1 with h1
  rw [h1]; exact h2
section
variable {P : Program} {w : World}
/-- A whole struct, out of a block that is known. -/
theorem run_loadVar_box {b : Nat} {cs : Array Value} {T : TypeId} (h : Box w b cs T) (hagg : ∀ w, (isAgg T).run P w = .ok true w) (hsz : ∀ w, (sizeOf T).run P w = .ok cs.size w) :
    (loadVar T ⟨b, 0, none⟩).run P w = .ok (.agg cs) w := by
  have hl : (loadCells ⟨b, 0, none⟩ cs.toList.length).run P w = .ok cs.toList.toArray w :=
    run_loadCells_list (P := P) w ⟨b, 0, none⟩ cs.toList (fun j v hv => by
      have hadd : (⟨b, 0, none⟩ : Addr).add j = ⟨b, j, none⟩ := by unfold Addr.add; split <;> simp_all
      rw [hadd, cell_of_row w b j cs T (0, 0) h]
      simpa using hv)
  simp only [Array.length_toList] at hl
  simp [loadVar, Sem.run_bind, hagg, hsz, hl, Result.andThen]
/-- The end of a function with a struct and a number for results. -/
theorem post_cell_tmp {fn : Func} {R : Ending → World → Prop} {p u : Tmp} {T : TypeId} (h : fn.results = #[.cell p T, .tmp u]) {a : Act} {b : Nat} {cs : Array Value}
    (hp : a.tmps.getD p undef = .pointer (some ⟨b, 0, none⟩)) (hb : Box w b cs T) (hagg : ∀ w, (isAgg T).run P w = .ok true w) (hsz : ∀ w, (sizeOf T).run P w = .ok cs.size w) (hd : a.defers = [])
    (hR : R (.returned (.tuple #[.agg cs, a.tmps.getD u undef])) w) : bodyPost P fn R .ret a w :=
  bodyPost_ret (by rw [results_cell_tmp h, hp]; simp [asAddr, run_loadVar_box hb hagg hsz, Result.andThen]) hd hR
/-- append(s, y) of one cell, at the operation. -/
theorem wp_app_one {o : Oper} {a : Act} {K : Act → World → Prop} {Q : Exit → Act → World → Prop} (s x : Operand) (t : TypeId)
    (ho : o.op = .call { callee := .builtin .append, args := #[s, x], argTypes := #[t, t] })
    (base : Nat) (e : TypeId) (i : TypeInfo) (z : Value) (bytes : Nat) (ht : P.underlying t = some (.slice e)) (hi : P.info? e = some i) (hz : i.zero = some z)
    (hsize : i.size = 1) (hby : i.bytes = bytes) (hzs : z.cells.size = 1)
    (L : List Ent) (k : Nat) (v : Value) (n : Nat) (xs : List Value) (hs : a.eval s = v) (hO : Owns w base L) (hL : L[k]? = some ⟨e, 1, v, n, xs⟩)
    (b off c : Nat) (y : Value) (hx : a.eval x = .slice (some ⟨b, off, none⟩) 1 c) (hy : w.cell? ⟨b, off, none⟩ = some y) (h1 : y.oneCell' = true)
    (hn : (n + 1) * bytes ≤ 140737488355328) (hn2 : n + 1 ≤ maxLen) (hbase : base ≤ w.heap.size)
    (h : ∀ g cap w', Owns w' base (L.set k ⟨e, 1, .slice (some ⟨g, 0, none⟩) (n + 1) cap, n + 1, xs ++ [y]⟩) → w.grownBy w' v.ownBlock → base ≤ g → K (a.put o.dst (.slice (some ⟨g, 0, none⟩) (n + 1) cap)) w') : o.wp P a w K Q := by
  refine wp_append_lies w s x t ho base e i z 1 bytes ht hi hz hsize hby hzs (by decide) v n xs hs (hO.get hL) ⟨b, off, none⟩ 1 c [y] hx rfl ?_ (by intro u hu; simp at hu; subst hu; exact h1) (by decide) hn2 hn hbase w.heap.size rfl ?_
  · intro j u hu
    match j, hu with
    | 0, hu => simp at hu; subst hu; simpa [Addr.add] using hy
  · intro g cap w' h2 h3 h4 h5
    refine h g cap w' (hO.set hL h2 h3 ?_) h3 ?_
    · rcases h4 with h4 | h4
      · exact .inl h4.symm
      · exact .inr (by simp [Value.ownBlock, h4])
    · exact (h2.lt g rfl).1
theorem wpList_app_one {ops : Array Oper} {rest : List Oper} {o : Oper} {a : Act} {Q : Exit → Act → World → Prop} (hgd : o.guard = none) (s x : Operand) (t : TypeId)
    (ho : o.op = .call { callee := .builtin .append, args := #[s, x], argTypes := #[t, t] })
    (base : Nat) (e : TypeId) (i : TypeInfo) (z : Value) (bytes : Nat) (ht : P.underlying t = some (.slice e)) (hi : P.info? e = some i) (hz : i.zero = some z)
    (hsize : i.size = 1) (hby : i.bytes = bytes) (hzs : z.cells.size = 1)
    (L : List Ent) (k : Nat) (v : Value) (n : Nat) (xs : List Value) (hs : a.eval s = v) (hO : Owns w base L) (hL : L[k]? = some ⟨e, 1, v, n, xs⟩)
    (b off c : Nat) (y : Value) (hx : a.eval x = .slice (some ⟨b, off, none⟩) 1 c) (hy : w.cell? ⟨b, off, none⟩ = some y) (h1 : y.oneCell' = true)
    (hn : (n + 1) * bytes ≤ 140737488355328) (hn2 : n + 1 ≤ maxLen) (hbase : base ≤ w.heap.size)
    (h : ∀ g cap w', Owns w' base (L.set k ⟨e, 1, .slice (some ⟨g, 0, none⟩) (n + 1) cap, n + 1, xs ++ [y]⟩) → w.grownBy w' v.ownBlock → base ≤ g → wpList P ops Q rest (a.put o.dst (.slice (some ⟨g, 0, none⟩) (n + 1) cap)) w') : wpList P ops Q (o :: rest) a w :=
  wpList_plain hgd fun _ hK => wp_app_one s x t ho base e i z bytes ht hi hz hsize hby hzs L k v n xs hs hO hL b off c y hx hy h1 hn hn2 hbase fun g cap w' h2 h3 h4 => hK _ _ (h g cap w' h2 h3 h4)
theorem step_app_one {ops : Array Oper} {o : Oper} {a : Act} {K : Act → World → Prop} {Q : Exit → Act → World → Prop} {E : Prop} (hgd : o.guard = none) (s x : Operand) (t : TypeId)
    (ho : o.op = .call { callee := .builtin .append, args := #[s, x], argTypes := #[t, t] })
    (base : Nat) (e : TypeId) (i : TypeInfo) (z : Value) (bytes : Nat) (ht : P.underlying t = some (.slice e)) (hi : P.info? e = some i) (hz : i.zero = some z)
    (hsize : i.size = 1) (hby : i.bytes = bytes) (hzs : z.cells.size = 1)
    (L : List Ent) (k : Nat) (v : Value) (n : Nat) (xs : List Value) (hs : a.eval s = v) (hO : Owns w base L) (hL : L[k]? = some ⟨e, 1, v, n, xs⟩)
    (b off c : Nat) (y : Value) (hx : a.eval x = .slice (some ⟨b, off, none⟩) 1 c) (hy : w.cell? ⟨b, off, none⟩ = some y) (h1 : y.oneCell' = true)
    (hn : (n + 1) * bytes ≤ 140737488355328) (hn2 : n + 1 ≤ maxLen) (hbase : base ≤ w.heap.size)
    (h : ∀ g cap w', Owns w' base (L.set k ⟨e, 1, .slice (some ⟨g, 0, none⟩) (n + 1) cap, n + 1, xs ++ [y]⟩) → w.grownBy w' v.ownBlock → base ≤ g → K (a.put o.dst (.slice (some ⟨g, 0, none⟩) (n + 1) cap)) w') :
    if Region.wanted o (yielded ops a.tmps) = true then Oper.wp P o a w K Q else E := by
  have hw : Region.wanted o (yielded ops a.tmps) = true := by simp [Region.wanted, hgd]
  rw [if_pos hw]
  exact wp_app_one s x t ho base e i z bytes ht hi hz hsize hby hzs L k v n xs hs hO hL b off c y hx hy h1 hn hn2 hbase h
end
end Go.Proofs.Ytobflnjbdghnhaa
