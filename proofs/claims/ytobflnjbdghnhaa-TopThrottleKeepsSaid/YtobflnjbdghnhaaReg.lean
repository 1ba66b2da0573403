/- Regions that draw their order and end in stores: what only reads is taken first, under a condition on the world that need hold only until the first store of the tail. -/
import Derived.Test.YtobflnjbdghnhaaMem
import Derived.OrdersHeld
set_option linter.unusedSimpArgs false
set_option linter.unusedVariables false
set_option linter.unusedSectionVars false
namespace Go.Proofs.Ytobflnjbdghnhaa
open Go.RowKit
section
variable {P : Program} {ops : Array Oper} {Q : Exit → Act → World → Prop} {md : Region.Mode} {S : World → Prop} {tail : Nat → Bool}
/-- Whatever order is picked from here on; S holds behind every operation that is no part of the tail. -/
def wpAnyT (P : Program) (md : Region.Mode) (ops : Array Oper) (Q : Exit → Act → World → Prop) (S : World → Prop) (tail : Nat → Bool) : Nat → Array Bool → Act → World → Prop
  | 0, listed, a, w => Region.ready md ops listed = [] ∧ Q .normal a w
  | fuel + 1, listed, a, w =>
    (Region.ready md ops listed = [] → Q .normal a w) ∧
    ∀ i ∈ Region.ready md ops listed, wpOp P ops Q i (fun a' w' => (tail i = false → S w') ∧ wpAnyT P md ops Q S tail fuel (listed.setIfInBounds i true) a' w') a w
theorem wpAny_of_T : ∀ (fuel : Nat) (listed : Array Bool) (a : Act) (w : World), wpAnyT P md ops Q S tail fuel listed a w → wpAny P md ops Q fuel listed a w
  | 0, _, _, _, h => h
  | fuel + 1, _, _, _, h => ⟨h.1, fun i hi => wpOp_mono (fun a' w' h' => wpAny_of_T fuel _ a' w' h'.2) (h.2 i hi)⟩
/-- Whether operation j waits for operation i, directly or through others. -/
def reach (md : Region.Mode) (ops : Array Oper) : Nat → Nat → Nat → Bool
  | 0, _, _ => false
  | n + 1, j, i => ((ops[j]?).map fun o => o.after.any fun e => Region.binds md e && (e.on == i || reach md ops n e.on i)).getD false
/-- What has come up has come up behind all that it waits for. -/
def Closed (md : Region.Mode) (ops : Array Oper) (listed : Array Bool) : Prop :=
  ∀ j oj, ops[j]? = some oj → listed.getD j false = true → ∀ e ∈ oj.after, Region.binds md e = true → listed.getD e.on false = true
def closedB (md : Region.Mode) (ops : Array Oper) (listed : Array Bool) : Bool :=
  (List.range ops.size).all fun j => !listed.getD j false || ((ops[j]?).map fun o => o.after.all fun e => !Region.binds md e || listed.getD e.on false).getD true
theorem closed_of {listed : Array Bool} (h : closedB md ops listed = true) : Closed md ops listed := by
  intro j oj hj hl e he hb
  simp only [closedB, List.all_eq_true, List.mem_range] at h
  have := h j (Array.getElem?_eq_some_iff.1 hj).1
  rw [hl, hj] at this
  simp only [Bool.not_true, Bool.false_or, Option.map_some, Option.getD_some, Array.all_eq_true] at this
  obtain ⟨k, hk, rfl⟩ := Array.mem_iff_getElem.1 he
  have := this k hk
  rw [hb] at this
  simpa using this
theorem reach_listed {listed : Array Bool} (hc : Closed md ops listed) : ∀ (n j i : Nat), (∀ oj, ops[j]? = some oj → ∀ e ∈ oj.after, Region.binds md e = true → listed.getD e.on false = true) → reach md ops n j i = true → listed.getD i false = true := by
  intro n
  induction n with
  | zero => intro j i _ h; simp [reach] at h
  | succ n ih =>
    intro j i hp h
    unfold reach at h
    cases hj : ops[j]? with
    | none => rw [hj] at h; simp at h
    | some oj =>
      rw [hj] at h
      simp only [Option.map_some, Option.getD_some, Array.any_eq_true] at h
      obtain ⟨k, hk, hb⟩ := h
      simp only [Bool.and_eq_true, Bool.or_eq_true, beq_iff_eq] at hb
      have hl := hp oj hj _ (Array.getElem_mem hk) hb.1
      rcases hb.2 with e | e
      · rw [← e]; exact hl
      · exact ih _ _ (fun o ho e' he' hb' => hc _ o ho hl e' he' hb') e
theorem Closed.set {listed : Array Bool} (hc : Closed md ops listed) {i : Nat} (hi : i ∈ Region.ready md ops listed) : Closed md ops (listed.setIfInBounds i true) := by
  obtain ⟨_, oi, hoi, hall⟩ := mem_ready.1 hi
  have up : ∀ k, listed.getD k false = true → (listed.setIfInBounds i true).getD k false = true := by
    intro k hk
    by_cases e : i = k
    · subst e
      have hlt : i < listed.size := by
        rcases Nat.lt_or_ge i listed.size with h | h
        · exact h
        · simp [Array.getElem?_eq_none h] at hk
      simp [hlt]
    · rw [getD_set_ne false e]; exact hk
  intro j oj hj hl e he hb
  by_cases hji : i = j
  · subst hji
    rw [hoi] at hj
    injection hj with hj
    subst hj
    exact up _ (hall e he hb)
  · rw [getD_set_ne false hji] at hl
    exact up _ (hc j oj hj hl e he hb)
/-- Whether each operation of the tail waits for operation i. -/
def tailWaits (md : Region.Mode) (ops : Array Oper) (tail : Nat → Bool) (i : Nat) : Bool :=
  !tail i && (List.range ops.size).all fun j => !tail j || reach md ops ops.size j i
theorem tailWaits_spec {i : Nat} (h : tailWaits md ops tail i = true) : tail i = false ∧ ∀ j oj, ops[j]? = some oj → tail j = true → reach md ops ops.size j i = true := by
  simp only [tailWaits, Bool.and_eq_true, Bool.not_eq_true', List.all_eq_true, List.mem_range] at h
  refine ⟨h.1, fun j oj hj ht => ?_⟩
  have := h.2 j (Array.getElem?_eq_some_iff.1 hj).1
  rw [ht] at this
  simpa using this
theorem wpAnyT_first {i : Nat} {oi : Oper} {v : Value} (hi : ops[i]? = some oi) (hsel : ∀ (j : Nat) (o : Oper) cs b, ops[j]? = some o → o.op ≠ .select cs b)
    (hQ : ∀ c a w, Q (.panic c) (a.put oi.dst v) w → Q (.panic c) a w) (hti : tail i = false) (htl : ∀ j oj, ops[j]? = some oj → tail j = true → reach md ops ops.size j i = true) :
    ∀ (fuel : Nat) (listed : Array Bool) (a : Act) (w : World), Closed md ops listed →
      (∀ j oj, ops[j]? = some oj → j ≠ i → listed.getD j true = false → (∀ e ∈ oj.after, Region.binds md e = true → e.on ≠ i) → oi.apart ops oj = true) →
      i ∈ Region.ready md ops listed → YieldsIf P ops S oi v a → S w →
      wpAnyT P md ops Q S tail fuel (listed.setIfInBounds i true) (a.put oi.dst v) w → wpAnyT P md ops Q S tail (fuel + 1) listed a w := by
  intro fuel
  induction fuel with
  | zero =>
    intro listed a w _ _ hr hy hS H
    refine ⟨fun h => (by rw [h] at hr; cases hr), fun j hj => ?_⟩
    by_cases hji : j = i
    · subst hji; exact hy.wpOp hi hS ⟨fun _ => hS, H⟩
    · have := ready_mono hj hji
      rw [H.1] at this
      cases this
  | succ fuel ih =>
    intro listed a w hcl hfree hr hy hS H
    refine ⟨fun h => (by rw [h] at hr; cases hr), fun j hj => ?_⟩
    by_cases hji : j = i
    · subst hji; exact hy.wpOp hi hS ⟨fun _ => hS, H⟩
    · have h1 := H.2 j (ready_mono hj hji)
      obtain ⟨hjun, oj, hoj, hall⟩ := mem_ready.1 hj
      have hnot : ∀ e ∈ oj.after, Region.binds md e = true → e.on ≠ i := fun e he hb heq => by
        have h1 := hall e he hb
        have h0 := (mem_ready.1 hr).1
        rw [heq] at h1
        rcases Nat.lt_or_ge i listed.size with h' | h'
        · simp [h'] at h0 h1; rw [h0] at h1; cases h1
        · simp [Array.getElem?_eq_none h'] at h1
      have htj : tail j = false := by
        cases ht : tail j
        · rfl
        · have h0 := (mem_ready.1 hr).1
          have h1 := reach_listed hcl _ j i (fun o ho e he hb => by rw [hoj] at ho; injection ho with ho; subst ho; exact hall e he hb) (htl j oj hoj ht)
          rcases Nat.lt_or_ge i listed.size with h' | h'
          · simp [h'] at h0 h1; rw [h0] at h1; cases h1
          · simp [Array.getElem?_eq_none h'] at h1
      have h2 := wpOp_putIf hoj (hfree j oj hoj hji hjun hnot) (fun cs b => hsel i oi cs b hi) (fun cs b => hsel j oj cs b hoj) hQ hy h1
      have hfree' : ∀ k ok, ops[k]? = some ok → k ≠ i → (listed.setIfInBounds j true).getD k true = false →
          (∀ e ∈ ok.after, Region.binds md e = true → e.on ≠ i) → oi.apart ops ok = true := fun k ok hk hki hun hno => by
        refine hfree k ok hk hki ?_ hno
        by_cases hjk : j = k
        · subst hjk; exact hjun
        · rw [getD_set_ne true hjk] at hun; exact hun
      refine wpOp_mono (fun a' w' h3 => ⟨fun _ => h3.2.1 htj, ih (listed.setIfInBounds j true) a' w' (hcl.set hj) hfree' (ready_mono hr (Ne.symm hji)) h3.1 (h3.2.1 htj) ?_⟩) h2
      rw [Array.setIfInBounds_comm _ _ hji]
      exact h3.2.2
/-- Take operation i first: it yields v in every world that meets S. -/
theorem wpAnyT_take {i : Nat} {oi : Oper} {v : Value} {fuel : Nat} {listed : Array Bool} {a : Act} {w : World} (hi : ops[i]? = some oi)
    (hs : Region.noSelect ops = true) (hf : Region.free md ops listed i = true) (hr : (Region.ready md ops listed).contains i = true) (ht : tailWaits md ops tail i = true) (hc : closedB md ops listed = true)
    (hQ : ∀ c a w, Q (.panic c) (a.put oi.dst v) w → Q (.panic c) a w) (hy : YieldsIf P ops S oi v a) (hS : S w)
    (h : wpAnyT P md ops Q S tail fuel (listed.setIfInBounds i true) (a.put oi.dst v) w) : wpAnyT P md ops Q S tail (fuel + 1) listed a w :=
  wpAnyT_first hi (Region.noSelect_spec hs) hQ (tailWaits_spec ht).1 (tailWaits_spec ht).2 fuel listed a w (closed_of hc) (Region.free_spec hi hf) (by simpa using hr) hy hS h
/-- Whichever of those that may come up comes up. -/
theorem wpAnyT_all {rs : List Nat} {fuel : Nat} {listed : Array Bool} {a : Act} {w : World} (hr : Region.ready md ops listed = rs) (hne : rs ≠ [])
    (h : ∀ i ∈ rs, wpOp P ops Q i (fun a' w' => (tail i = false → S w') ∧ wpAnyT P md ops Q S tail fuel (listed.setIfInBounds i true) a' w') a w) : wpAnyT P md ops Q S tail (fuel + 1) listed a w :=
  ⟨fun h0 => absurd (hr ▸ h0) hne, hr ▸ h⟩
/-- Only operation i may come up. -/
theorem wpAnyT_one {i : Nat} {o : Oper} {fuel : Nat} {listed : Array Bool} {a : Act} {w : World} (hr : Region.ready md ops listed = [i]) (hi : ops[i]? = some o) (hw : Region.wanted o (yielded ops a.tmps) = true)
    (h : ∀ K : Act → World → Prop, (∀ a' w', (tail i = false → S w') → ((tail i = false → S w') → wpAnyT P md ops Q S tail fuel (listed.setIfInBounds i true) a' w') → K a' w') → o.wp P a w K Q) : wpAnyT P md ops Q S tail (fuel + 1) listed a w :=
  wpAnyT_all hr (by simp) fun j hj => by
    rw [List.mem_singleton] at hj
    subst hj
    unfold wpOp
    simp only [hi, hw, if_true]
    exact .inl (h _ fun a' w' h1 h2 => ⟨h1, h2 h1⟩)
/-- Two operations may come up. -/
theorem wpAnyT_two {i j : Nat} {o u : Oper} {fuel : Nat} {listed : Array Bool} {a : Act} {w : World} (hr : Region.ready md ops listed = [i, j]) (hi : ops[i]? = some o) (hw : Region.wanted o (yielded ops a.tmps) = true)
    (hj : ops[j]? = some u) (hu : Region.wanted u (yielded ops a.tmps) = true)
    (h : ∀ K : Act → World → Prop, (∀ a' w', (tail i = false → S w') → ((tail i = false → S w') → wpAnyT P md ops Q S tail fuel (listed.setIfInBounds i true) a' w') → K a' w') → o.wp P a w K Q)
    (h' : ∀ K : Act → World → Prop, (∀ a' w', (tail j = false → S w') → ((tail j = false → S w') → wpAnyT P md ops Q S tail fuel (listed.setIfInBounds j true) a' w') → K a' w') → u.wp P a w K Q) : wpAnyT P md ops Q S tail (fuel + 1) listed a w :=
  wpAnyT_all hr (by simp) fun k hk => by
    rw [List.mem_cons, List.mem_singleton] at hk
    rcases hk with rfl | rfl
    · unfold wpOp
      simp only [hi, hw, if_true]
      exact .inl (h _ fun a' w' h1 h2 => ⟨h1, h2 h1⟩)
    · unfold wpOp
      simp only [hj, hu, if_true]
      exact .inl (h' _ fun a' w' h1 h2 => ⟨h1, h2 h1⟩)
theorem wpAnyT_done {listed : Array Bool} {a : Act} {w : World} (hr : Region.ready md ops listed = []) (h : Q .normal a w) : ∀ fuel, wpAnyT P md ops Q S tail fuel listed a w
  | 0 => ⟨hr, h⟩
  | _ + 1 => ⟨fun _ => h, by rw [hr]; simp⟩
theorem wp_region_T {id : Nat} {a : Act} {w : World} (S : World → Prop) (tail : Nat → Bool) (hm : P.follows .mixedOrders = true)
    (hS : S w.drew) (h : S w.drew → wpAnyT P .any ops Q S tail ops.size (Array.replicate ops.size false) a w.drew) : (Code.region id ops true).wp P Q a w :=
  wp_region_any hm (wpAny_of_T _ _ _ _ (h hS))
end
end Go.Proofs.Ytobflnjbdghnhaa
