/- The reference's Plan. -/
import Derived.Test.YtfjelofpahcfpaaPl4
import Derived.Test.YtfjelofpahcfpaaReg
import Derived.Test.YtfjelofpahcfpaaMm
import Derived.Deep.RegionLaw
import Derived.StillTactics
import Derived.Laws.Pointers
set_option linter.unusedSimpArgs false
set_option linter.unusedVariables false
namespace Go.Proofs.Ytfjelofpahcfpaa
open Go.RowKit Go.Shelf
attribute [local go_sem ↓] Go.wp_at_zero Go.wp_at_succ
/-- A plan and an error are returned, in new memory. -/
def PlanRes (r : P56.Pl × Int) (w : World) (e : Ending) (w' : World) : Prop := ∃ pv, e = .returned (.tuple #[pv, .int .i64 r.2]) ∧ (∀ own : Nat → Prop, (∀ b, own b → b < w.heap.size) → Has own w' (IsPl · pv r.1)) ∧ Since w w'
theorem row_has {α : Type} {enc : α → Value} {own : Nat → Prop} {w w0 : World} {bs : List BoxE} {L : List Ent} (m : Mem w0 bs L w) (hl : ∀ b, own b → b < w0.heap.size) {e : TypeId} {a : Option Addr} {n c : Nat} {xs : List α} (h : ⟨e, 1, .slice a n c, n, xs.map enc⟩ ∈ L) : Has own w (RdF enc a xs) := by
  have ho : w.ownsRow w0.heap.size e 1 (.slice a n c) n (xs.map enc) := m.own.own _ h
  refine RdF.has (own_reads ho) ?_
  rintro ad rfl hn
  have h1 := m.own.lt h ad.block rfl
  have := hl _ hn
  omega
/-- The empty plan, in cells. -/
theorem isPl_none (w : World) : IsPl w (.agg #[.slice none 0 0, .slice none 0 0, .slice none 0 0, .slice none 0 0, .int .i64 0]) P56.none :=
  ⟨none, none, none, none, 0, 0, 0, 0, rfl, Reads.nil _ _ _, Reads.nil _ _ _, Reads.nil _ _ _, Reads.nil _ _ _, by decide, by decide, by decide, by decide⟩
theorem isPl_lists {t : P56.Tr} {n : Nat} {b : Int} {w : World} {a1 a2 a3 a4 : Option Addr} {c1 c2 c3 c4 : Nat} (q1 : Reads (Value.int .i64) w a1 (P56.cls t n)) (q2 : Reads (Value.int .i64) w a2 (P56.sts t n))
    (q3 : Reads (Value.int .i64) w a3 (P56.ens t n)) (q4 : Reads (Value.int .i64) w a4 (P56.aps t n)) (hn : n ≤ 4096) : IsPl w (.agg #[.slice a1 n c1, .slice a2 n c2, .slice a3 n c3, .slice a4 n c4, .int .i64 b]) (P56.lists t n b) := by
  have e1 := P56.cls_length t n
  have e2 := P56.sts_length t n
  have e3 := P56.ens_length t n
  have e4 := P56.aps_length t n
  refine ⟨a1, a2, a3, a4, c1, c2, c3, c4, ?_, q1, q2, q3, q4, ?_, ?_, ?_, ?_⟩
  · rw [P56.lists_eq]; simp only [e1, e2, e3, e4]
  all_goals (rw [P56.lists_eq]; simp only [e1, e2, e3, e4]; omega)
theorem refPlan_bad (t : P56.Tr) (v : Value) (w : World) (ht : IsTr w v t) (hc : P56.check t ≠ 0) : Calls Try.prog 13 #[v] w (PlanRes (P56.none, P56.check t) w) := by
  have ht0 := ht
  obtain ⟨a, a', c, c', rfl, hr, hr', hW, hC, -⟩ := ht
  have hE : (P56.check t != 0) = true := by simp [hc]
  clear hc hr hr'
  go_enter Try.func13, Try.ntmps13
  go_wp2_with (first
    | (go_at_call 15; refine (refCheck_any t _ _ (ht0.since ?_)).mono ?_; ((repeat (first | with_reducible exact Since.refl _ | with_reducible assumption | with_reducible refine Since.alloc ?_ _ | with_reducible refine Since.drew ?_ | with_reducible refine Since.drewN ?_ _ | (with_reducible refine Since.setCell ?_ ?_ _; rotate_left; (first | (dsimp only; omega) | (simp; done) | (simp; omega))) | with_reducible refine Since.trans ?_ (by with_reducible assumption)))); rintro e w1 ⟨rfl, hs1⟩; obtain ⟨kc_hs1_0, kf_hs1_0, kz_hs1_0⟩ := hs1.at (β := w.heap.size) (by first | assumption | omega | (simp only [World.size_alloc, World.size_setCell, World.size_drew, World.heap_drewN]; omega) | (simp; omega)); obtain ⟨kc_hs1_1, kf_hs1_1, kz_hs1_1⟩ := hs1.at (β := w.heap.size + 1) (by first | assumption | omega | (simp only [World.size_alloc, World.size_setCell, World.size_drew, World.heap_drewN]; omega) | (simp; omega))))
  have hb1 : Box w1 (w.heap.size + 1) #[.slice none 0 0, .slice none 0 0, .slice none 0 0, .slice none 0 0, .int .i64 0] 28 := (Box.at (by simp) _ _).since hs1
  have hb2 := ((((hb1.set 0 (.slice none 0 0)).set 1 (.slice none 0 0)).set 2 (.slice none 0 0)).set 3 (.slice none 0 0)).set 4 (.int .i64 0)
  simp only [List.setIfInBounds_toArray, List.set_cons_zero, List.set_cons_succ] at hb2
  refine post_cell_tmp Try.results13 rfl hb2 Try.isAgg28 Try.sizeOf28 rfl ?_
  refine ⟨.agg #[.slice none 0 0, .slice none 0 0, .slice none 0 0, .slice none 0 0, .int .i64 0], rfl, fun own hl => Has.pure (f := (IsPl · _ P56.none)) fun w => isPl_none w, ?_⟩
  (repeat (first | with_reducible exact Since.refl _ | with_reducible assumption | with_reducible refine Since.alloc ?_ _ | with_reducible refine Since.drew ?_ | with_reducible refine Since.drewN ?_ _ | (with_reducible refine Since.setCell ?_ ?_ _; rotate_left; (first | (dsimp only; omega) | (simp; done) | (simp; omega))) | with_reducible refine Since.trans ?_ (by with_reducible assumption)))

/-- What memory holds while the plan grows: the trace's box at B, the result's at B + 1, the plan's at B2, and its lists. -/
def PlInv (w : World) (B2 : Nat) (tv : Array Value) (v1 v2 v3 v4 : Value) (m1 m2 : Nat) (l1 l2 l3 l4 : List Int) (bd : Int) (wr : World) : Prop :=
  Mem w [⟨w.heap.size, tv, 24⟩, ⟨w.heap.size + 1, #[.slice none 0 0, .slice none 0 0, .slice none 0 0, .slice none 0 0, .int .i64 0], 28⟩, ⟨B2, #[v1, v2, v3, v4, .int .i64 bd], 28⟩]
    [⟨3, 1, v1, m1, l1.map (Value.int .i64)⟩, ⟨3, 1, v2, m1, l2.map (Value.int .i64)⟩, ⟨3, 1, v3, m2, l3.map (Value.int .i64)⟩, ⟨3, 1, v4, m2, l4.map (Value.int .i64)⟩] wr
theorem plInv_12 {w wx : World} {B2 : Nat} {tv : Array Value} {x y : BoxE} {v1 v2 v3 v4 : Value} {g1 c1 g2 c2 m : Nat} {l1 l2 l3 l4 : List Int} {a1 a2 bd : Int}
    (hM : Mem w [⟨w.heap.size, tv, 24⟩, ⟨w.heap.size + 1, #[.slice none 0 0, .slice none 0 0, .slice none 0 0, .slice none 0 0, .int .i64 0], 28⟩, ⟨B2, #[v1, v2, v3, v4, .int .i64 bd], 28⟩, x, y]
      [⟨3, 1, .slice (some ⟨g1, 0, none⟩) (m + 1) c1, m + 1, l1.map (Value.int .i64) ++ [.int .i64 a1]⟩, ⟨3, 1, .slice (some ⟨g2, 0, none⟩) (m + 1) c2, m + 1, l2.map (Value.int .i64) ++ [.int .i64 a2]⟩, ⟨3, 1, v3, m, l3.map (Value.int .i64)⟩, ⟨3, 1, v4, m, l4.map (Value.int .i64)⟩] wx) :
    PlInv w B2 tv (.slice (some ⟨g1, 0, none⟩) (m + 1) c1) (.slice (some ⟨g2, 0, none⟩) (m + 1) c2) v3 v4 (m + 1) m (l1 ++ [a1]) (l2 ++ [a2]) l3 l4 bd
      ((wx.setCell ⟨B2, 0, none⟩ (.slice (some ⟨g1, 0, none⟩) (m + 1) c1)).setCell ⟨B2, 1, none⟩ (.slice (some ⟨g2, 0, none⟩) (m + 1) c2)) := by
  have h := ((hM.store 2 rfl 0 (.slice (some ⟨g1, 0, none⟩) (m + 1) c1)).store 2 rfl 1 (.slice (some ⟨g2, 0, none⟩) (m + 1) c2))
  simp only [List.setIfInBounds_toArray, List.set_cons_zero, List.set_cons_succ] at h
  have h2 := h.sub (List.sublist_append_left [_, _, _] [x, y])
  unfold PlInv
  rw [List.map_append, List.map_append]
  exact h2
theorem plInv_34 {w wx : World} {B2 : Nat} {tv : Array Value} {x y : BoxE} {v1 v2 v3 v4 : Value} {g1 c1 g2 c2 m : Nat} {l1 l2 l3 l4 : List Int} {a1 a2 bd : Int}
    (hM : Mem w [⟨w.heap.size, tv, 24⟩, ⟨w.heap.size + 1, #[.slice none 0 0, .slice none 0 0, .slice none 0 0, .slice none 0 0, .int .i64 0], 28⟩, ⟨B2, #[v1, v2, v3, v4, .int .i64 bd], 28⟩, x, y]
      [⟨3, 1, v1, m + 1, l1.map (Value.int .i64)⟩, ⟨3, 1, v2, m + 1, l2.map (Value.int .i64)⟩, ⟨3, 1, .slice (some ⟨g1, 0, none⟩) (m + 1) c1, m + 1, l3.map (Value.int .i64) ++ [.int .i64 a1]⟩, ⟨3, 1, .slice (some ⟨g2, 0, none⟩) (m + 1) c2, m + 1, l4.map (Value.int .i64) ++ [.int .i64 a2]⟩] wx) :
    PlInv w B2 tv v1 v2 (.slice (some ⟨g1, 0, none⟩) (m + 1) c1) (.slice (some ⟨g2, 0, none⟩) (m + 1) c2) (m + 1) (m + 1) l1 l2 (l3 ++ [a1]) (l4 ++ [a2]) bd
      ((wx.setCell ⟨B2, 2, none⟩ (.slice (some ⟨g1, 0, none⟩) (m + 1) c1)).setCell ⟨B2, 3, none⟩ (.slice (some ⟨g2, 0, none⟩) (m + 1) c2)) := by
  have h := ((hM.store 2 rfl 2 (.slice (some ⟨g1, 0, none⟩) (m + 1) c1)).store 2 rfl 3 (.slice (some ⟨g2, 0, none⟩) (m + 1) c2))
  simp only [List.setIfInBounds_toArray, List.set_cons_zero, List.set_cons_succ] at h
  have h2 := h.sub (List.sublist_append_left [_, _, _] [x, y])
  unfold PlInv
  rw [List.map_append, List.map_append]
  exact h2
theorem info_int : (Try.prog.info? 3).map (fun i => (i.zero, i.size, i.bytes)) = some (some (.int .i64 0), 1, 8) := by kernel_rfl
set_option maxRecDepth 100000 in
set_option maxHeartbeats 4000000 in
theorem refPlan_ok (t : P56.Tr) (v : Value) (w : World) (ht : IsTr w v t) (ok : P56.Ok t) : Calls Try.prog 13 #[v] w (PlanRes (P56.planOk t) w) := by
  have ht0 := ht
  have hchk := P56.check_ok.2 ok
  obtain ⟨a, a', c, c', rfl, hr, hr', hW, hC, -⟩ := ht
  obtain ⟨p, hp⟩ : ∃ p : Nat, t.P = p := ⟨t.P.toNat, by have := ok.p0; omega⟩
  have hp0 : 1 ≤ p := by have := ok.p0; omega
  have hp1 : p ≤ 4096 := by have := ok.p; omega
  have hwl := ok.wlen
  have hcyc : P56.cycles t = (t.W.length + p - 1) / p := by unfold P56.cycles; rw [hp]; rfl
  have hcy := P56.cycles_le ok
  have hcz : ((t.W.length : Int) + (p : Int) - 1) / (p : Int) = (P56.cycles t : Int) := by rw [hcyc]; exact P56.div_up_cast hp0
  have hE : (P56.check t != 0) = false := by simp [hchk]
  clear hr hr' hchk hcyc
  rw [hp] at ht0 ⊢
  have HP := Lib.hid hp
  clear hp
  have HCZ := Lib.hid hcz
  clear hcz
  have OK := Lib.hid ok
  clear ok
  go_enter Try.func13, Try.ntmps13
  go_wp2_with (first
    | (go_at_call 15; refine (refCheck_any t _ _ (ht0.since ?_)).mono ?_; ((repeat (first | with_reducible exact Since.refl _ | with_reducible assumption | with_reducible refine Since.alloc ?_ _ | with_reducible refine Since.drew ?_ | with_reducible refine Since.drewN ?_ _ | (with_reducible refine Since.setCell ?_ ?_ _; rotate_left; (first | (dsimp only; omega) | (simp; done) | (simp; omega))) | with_reducible refine Since.trans ?_ (by with_reducible assumption)))); rintro e w1 ⟨rfl, hs1⟩; obtain ⟨kc_hs1_0, kf_hs1_0, kz_hs1_0⟩ := hs1.at (β := w.heap.size) (by first | assumption | omega | (simp only [World.size_alloc, World.size_setCell, World.size_drew, World.heap_drewN]; omega) | (simp; omega)); obtain ⟨kc_hs1_1, kf_hs1_1, kz_hs1_1⟩ := hs1.at (β := w.heap.size + 1) (by first | assumption | omega | (simp only [World.size_alloc, World.size_setCell, World.size_drew, World.heap_drewN]; omega) | (simp; omega))))
  rw [HCZ.out]
  go_loopg [7, 8, 9] (P56.cycles t) (fun gg s7 s8 s9 wr => ∃ (k : Nat) (v1 v2 v3 v4 : Value), k ≤ P56.cycles t ∧ P56.cycles t - k ≤ gg ∧ Aside (P56.endOf t k = some (P56.en t k)) ∧
    s7 = .int .i64 (P56.en t k : Nat) ∧ s8 = .int .i64 ((k : Int) * (p : Int)) ∧ s9 = .int .i64 k ∧
    PlInv w w1.heap.size #[.slice a t.W.length c, .slice a' t.C.length c', .int .i64 p, .int .i64 t.L, .int .i64 t.A] v1 v2 v3 v4 k k (P56.cls t k) (P56.sts t k) (P56.ens t k) (P56.aps t k) (P56.bdR t k) wr)
  case atStart =>
    refine ⟨0, .slice none 0 0, .slice none 0 0, .slice none 0 0, .slice none 0 0, Nat.zero_le _, by omega, (show P56.endOf t 0 = some (P56.en t 0) from rfl), rfl, by simp, rfl, ?_⟩
    have m0 := ((Mem.start (Since.refl w)).addBox rfl #[.slice a t.W.length c, .slice a' t.C.length c', .int .i64 p, .int .i64 t.L, .int .i64 t.A] 24).addBox (b := w.heap.size + 1) (by simp) #[.slice none 0 0, .slice none 0 0, .slice none 0 0, .slice none 0 0, .int .i64 0] 28
    exact (((((m0.keep hs1).addBox rfl _ _).addNil _ _).addNil _ _).addNil _ _).addNil _ _
  case round =>
    obtain ⟨k, v1, v2, v3, v4, hk, hg, E, rfl, rfl, rfl, hI⟩ := hrel
    have hsr : Since w wr := hI.since
    have hM : Mem w _ _ wr := hI
    clear hI
    by_cases hlt : k < P56.cycles t
    · have hlt' : (k : Int) < (P56.cycles t : Int) := by omega
      have hen := P56.en_le OK.out (show k ≤ 4097 by omega)
      obtain ⟨e0, e1, e2, e3⟩ := P56.mul_bd (k := k) (p := p) (by omega) hp1
      have r0 := hM.rules 0 rfl
      go_upto_region 12 with fail
      have hst : (if ((k : Int) + 1) * (p : Int) < (P56.en t k : Int) then (P56.en t k : Int) else ((k : Int) + 1) * (p : Int)) = (P56.st t k : Int) := P56.st_if HP.out
      rw [hst]
      clear hst
      have hstb : P56.st t k ≤ 1000000000000 := P56.st_le OK.out (by omega)
      have hszb := P56.size_bd OK.out k
      go_region_held3 (fun w' => w'.cell? ⟨w.heap.size, 0, none⟩ = some (.slice a t.W.length c) ∧ w'.cell? ⟨w.heap.size, 1, none⟩ = some (.slice a' t.C.length c') ∧ w'.cell? ⟨w.heap.size, 2, none⟩ = some (.int .i64 p) ∧ w'.cell? ⟨w.heap.size, 3, none⟩ = some (.int .i64 t.L) ∧ w'.cell? ⟨w.heap.size, 4, none⟩ = some (.int .i64 t.A))
        (simp [*])
        (first
          | (go_at_call 35; refine (size_any t _ k _ (ht0.since ?_) OK.out (by omega)).mono ?_; ((repeat (first | with_reducible exact Since.refl _ | with_reducible assumption | with_reducible refine Since.alloc ?_ _ | with_reducible refine Since.drew ?_ | with_reducible refine Since.drewN ?_ _ | (with_reducible refine Since.setCell ?_ ?_ _; rotate_left; (first | (dsimp only; omega) | (simp; done) | (simp; omega))) | with_reducible refine Since.trans ?_ (by with_reducible assumption)))); rintro e x1 ⟨rfl, hs2⟩; obtain ⟨kc_hs2_0, kf_hs2_0, kz_hs2_0⟩ := hs2.at (β := w.heap.size) (by first | assumption | omega | (simp only [World.size_alloc, World.size_setCell, World.size_drew, World.heap_drewN]; omega) | (simp; omega)))
          | (go_at_call 34; refine (finish_any t _ (P56.st t k) (P56.size t k) _ (ht0.since ?_) OK.out hstb hszb.1 hszb.2).mono ?_; ((repeat (first | with_reducible exact Since.refl _ | with_reducible assumption | with_reducible refine Since.alloc ?_ _ | with_reducible refine Since.drew ?_ | with_reducible refine Since.drewN ?_ _ | (with_reducible refine Since.setCell ?_ ?_ _; rotate_left; (first | (dsimp only; omega) | (simp; done) | (simp; omega))) | with_reducible refine Since.trans ?_ (by with_reducible assumption)))); rintro e x2 ⟨rfl, hs3⟩; obtain ⟨kc_hs3_0, kf_hs3_0, kz_hs3_0⟩ := hs3.at (β := w.heap.size) (by first | assumption | omega | (simp only [World.size_alloc, World.size_setCell, World.size_drew, World.heap_drewN]; omega) | (simp; omega))))
      have hs4 : Since wr x2 := by (repeat (first | with_reducible exact Since.refl _ | with_reducible assumption | with_reducible refine Since.alloc ?_ _ | with_reducible refine Since.drew ?_ | with_reducible refine Since.drewN ?_ _ | (with_reducible refine Since.setCell ?_ ?_ _; rotate_left; (first | (dsimp only; omega) | (simp; done) | (simp; omega))) | with_reducible refine Since.trans ?_ (by with_reducible assumption)))
      have hs5 : Since w x2 := by (repeat (first | with_reducible exact Since.refl _ | with_reducible assumption | with_reducible refine Since.alloc ?_ _ | with_reducible refine Since.drew ?_ | with_reducible refine Since.drewN ?_ _ | (with_reducible refine Since.setCell ?_ ?_ _; rotate_left; (first | (dsimp only; omega) | (simp; done) | (simp; omega))) | with_reducible refine Since.trans ?_ (by with_reducible assumption)))
      have hEs := P56.endOf_succ E.out
      have hM2 := hM.keep hs4
      clear hs3 hs2 hs4 hsr hM r0 kc_hs3_0 kf_hs3_0 kz_hs3_0 kc_hs2_0 kf_hs2_0 kz_hs2_0
      have r0 := hM2.rules 0 rfl
      have r1 := hM2.rules 1 rfl
      have r2 := hM2.rules 2 rfl
      generalize P56.finish t.C (P56.st t k) (P56.size t k) = F at hEs ⊢
      have HES := Lib.hid hEs
      clear hEs
      cases F with
      | none =>
        have hres : P56.planOk t = (P56.none, 21) := P56.planOk_none (show k + 1 ≤ P56.cycles t by omega) HES.out
        have HRES := Lib.hid hres
        clear hres
        go_wp2
        have hb2 := (((((hM2.at 1 rfl).set 0 (.slice none 0 0)).set 1 (.slice none 0 0)).set 2 (.slice none 0 0)).set 3 (.slice none 0 0)).set 4 (.int .i64 0)
        simp only [List.setIfInBounds_toArray, List.set_cons_zero, List.set_cons_succ] at hb2
        refine post_cell_tmp Try.results13 rfl hb2 Try.isAgg28 Try.sizeOf28 rfl ?_
        rw [HRES.out]
        exact ⟨.agg #[.slice none 0 0, .slice none 0 0, .slice none 0 0, .slice none 0 0, .int .i64 0], rfl, fun own hl => Has.pure (f := (IsPl · _ P56.none)) fun w => isPl_none w, by (repeat (first | with_reducible exact Since.refl _ | with_reducible assumption | with_reducible refine Since.alloc ?_ _ | with_reducible refine Since.drew ?_ | with_reducible refine Since.drewN ?_ _ | (with_reducible refine Since.setCell ?_ ?_ _; rotate_left; (first | (dsimp only; omega) | (simp; done) | (simp; omega))) | with_reducible refine Since.trans ?_ (by with_reducible assumption)))⟩
      | some x =>
        have hx : P56.en t (k + 1) = x := by unfold P56.en; rw [HES.out]; rfl
        have HX := Lib.hid hx
        have hxb := P56.en_le OK.out (show k + 1 ≤ 4097 by omega)
        rw [hx] at hxb
        have hL : 0 ≤ t.L ∧ t.L ≤ 1073741824 := ⟨OK.out.l0, OK.out.l⟩
        have hA : 0 ≤ t.A ∧ t.A ≤ 1073741824 := ⟨OK.out.a0, OK.out.a⟩
        clear hx
        go_upto_region 17 with fail
        simp only [Option.getD_some, Option.isSome_some]
        obtain ⟨i0, hi, hz0, hz1, hz2⟩ := info_parts info_int
        have CL := Lib.hid (P56.cls_step HP.out k)
        have ST := Lib.hid (P56.sts_succ t k)
        go_cut [] (fun wx => ∃ u1 u2, PlInv w w1.heap.size #[.slice a t.W.length c, .slice a' t.C.length c', .int .i64 p, .int .i64 t.L, .int .i64 t.A] u1 u2 v3 v4 (k + 1) k (P56.cls t (k + 1)) (P56.sts t (k + 1)) (P56.ens t k) (P56.aps t k) (P56.bdR t k) wx)
        case first =>
          refine wp_region_T (fun w' : World => w'.cell? ⟨w1.heap.size, 0, none⟩ = some v1 ∧ w'.cell? ⟨w1.heap.size, 1, none⟩ = some v2) (fun i => Nat.ble 11 i) (by kernel_rfl) (by simp [*]) (fun hSw => ?_)
          refine wpAnyT_take (i := 0) (v := ?_) rfl (by kernel_rfl) (by kernel_rfl) (by kernel_rfl) (by kernel_rfl) (by kernel_rfl) (fun _ _ _ h => h) (Or.inl ⟨by rfl, ?_⟩) (by exact hSw) ?_; rotate_left; (intro wS hS1; (try dsimp only at hS1); go_simp; try with_reducible rfl); (try simp only [Act.put, List.setIfInBounds_toArray, List.set_cons_zero, List.set_cons_succ])
          refine wpAnyT_take (i := 1) (v := ?_) rfl (by kernel_rfl) (by kernel_rfl) (by kernel_rfl) (by kernel_rfl) (by kernel_rfl) (fun _ _ _ h => h) (Or.inl ⟨by rfl, ?_⟩) (by exact hSw) ?_; rotate_left; (intro wS hS1; (try dsimp only at hS1); go_simp; try with_reducible rfl); (try simp only [Act.put, List.setIfInBounds_toArray, List.set_cons_zero, List.set_cons_succ])
          refine wpAnyT_take (i := 2) (v := ?_) rfl (by kernel_rfl) (by kernel_rfl) (by kernel_rfl) (by kernel_rfl) (by kernel_rfl) (fun _ _ _ h => h) (Or.inl ⟨by rfl, ?_⟩) (by exact hSw) ?_; rotate_left; (intro wS hS1; (try dsimp only at hS1); go_simp; try with_reducible rfl); (try simp only [Act.put, List.setIfInBounds_toArray, List.set_cons_zero, List.set_cons_succ])
          refine wpAnyT_take (i := 5) (v := ?_) rfl (by kernel_rfl) (by kernel_rfl) (by kernel_rfl) (by kernel_rfl) (by kernel_rfl) (fun _ _ _ h => h) (Or.inl ⟨by rfl, ?_⟩) (by exact hSw) ?_; rotate_left; (intro wS hS1; (try dsimp only at hS1); go_simp; try with_reducible rfl); (try simp only [Act.put, List.setIfInBounds_toArray, List.set_cons_zero, List.set_cons_succ])
          refine wpAnyT_take (i := 6) (v := ?_) rfl (by kernel_rfl) (by kernel_rfl) (by kernel_rfl) (by kernel_rfl) (by kernel_rfl) (fun _ _ _ h => h) (Or.inl ⟨by rfl, ?_⟩) (by exact hSw) ?_; rotate_left; (intro wS hS1; (try dsimp only at hS1); go_simp; try with_reducible rfl); (try simp only [Act.put, List.setIfInBounds_toArray, List.set_cons_zero, List.set_cons_succ])
          refine wpAnyT_take (i := 7) (v := ?_) rfl (by kernel_rfl) (by kernel_rfl) (by kernel_rfl) (by kernel_rfl) (by kernel_rfl) (fun _ _ _ h => h) (Or.inl ⟨by rfl, ?_⟩) (by exact hSw) ?_; rotate_left; (intro wS hS1; (try dsimp only at hS1); go_simp; try with_reducible rfl); (try simp only [Act.put, List.setIfInBounds_toArray, List.set_cons_zero, List.set_cons_succ])
          refine wpAnyT_two (i := 3) (j := 8) (by kernel_rfl) rfl (by rfl) rfl (by rfl) ?_ ?_
          ·
            intro K hK
            go_simp
            refine hK _ _ (fun _ => ?_) (fun hS => ?_)
            · first | (simp [World.cell?_alloc_past, *]; done) | exact ⟨cell_alloc_some hSw.1 _, cell_alloc_some hSw.2 _⟩
            have hSw := hS rfl; clear hS hK; (try simp only [Act.put, List.setIfInBounds_toArray, List.set_cons_zero, List.set_cons_succ])
            refine wpAnyT_two (i := 4) (j := 8) (by kernel_rfl) rfl (by rfl) rfl (by rfl) ?_ ?_
            ·
              intro K hK
              refine wp_mem_app (by (repeat (first | with_reducible assumption | with_reducible apply Mem.drew | with_reducible apply Mem.drewN | (with_reducible apply Mem.addBox; rotate_left 1; (first | (simp only [World.size_alloc, World.size_drew, World.heap_drewN]; rfl) | rfl); rotate_right 1) | with_reducible apply Mem.alloc))) (.tmp 65) (.tmp 67) _ (by rfl) 0 3 i0 _ 1 8 Try.underlying22 hi hz0 hz1 hz2 rfl (by decide) v1 k _ (by rfl) (by rfl) _ 1 1 [.int .i64 (((k : Int) + 1) * (p : Int))] (by rfl) rfl (news_one (by simp [go_sem, *])) (one_int _ _) (by decide) (by omega) (by unfold maxLen; omega) ?_
              intro g1 cap1 wa hMa
              have ra2 := hMa.rules 2 rfl
              try have ra3 := hMa.rules 3 rfl
              try have ra4 := hMa.rules 4 rfl
              refine hK _ _ (fun _ => ?_) (fun hS => ?_)
              · first | (simp [World.cell?_alloc_past, *]; done) | exact ⟨cell_alloc_some hSw.1 _, cell_alloc_some hSw.2 _⟩
              have hSw := hS rfl; clear hS hK; (try simp only [Act.put, List.setIfInBounds_toArray, List.set_cons_zero, List.set_cons_succ])
              refine wpAnyT_take (i := 10) (v := ?_) rfl (by kernel_rfl) (by kernel_rfl) (by kernel_rfl) (by kernel_rfl) (by kernel_rfl) (fun _ _ _ h => h) (Or.inl ⟨by rfl, ?_⟩) (by exact hSw) ?_; rotate_left; (intro wS hS1; (try dsimp only at hS1); go_simp; try with_reducible rfl); (try simp only [Act.put, List.setIfInBounds_toArray, List.set_cons_zero, List.set_cons_succ])
              refine wpAnyT_one (i := 8) (by kernel_rfl) rfl (by rfl) ?_
              intro K hK
              go_simp
              refine hK _ _ (fun _ => ?_) (fun hS => ?_)
              · first | (simp [World.cell?_alloc_past, *]; done) | exact ⟨cell_alloc_some hSw.1 _, cell_alloc_some hSw.2 _⟩
              have hSw := hS rfl; clear hS hK; (try simp only [Act.put, List.setIfInBounds_toArray, List.set_cons_zero, List.set_cons_succ])
              refine wpAnyT_one (i := 9) (by kernel_rfl) rfl (by rfl) ?_
              intro K hK
              refine wp_mem_app (by (repeat (first | with_reducible assumption | with_reducible apply Mem.drew | with_reducible apply Mem.drewN | (with_reducible apply Mem.addBox; rotate_left 1; (first | (simp only [World.size_alloc, World.size_drew, World.heap_drewN]; rfl) | rfl); rotate_right 1) | with_reducible apply Mem.alloc))) (.tmp 70) (.tmp 72) _ (by rfl) 1 3 i0 _ 1 8 Try.underlying22 hi hz0 hz1 hz2 rfl (by decide) v2 k _ (by rfl) (by rfl) _ 1 1 [.int .i64 (P56.st t k)] (by rfl) rfl (news_one (by simp [go_sem, *])) (one_int _ _) (by decide) (by omega) (by unfold maxLen; omega) ?_
              intro g2 cap2 wb hMb
              have rb2 := hMb.rules 2 rfl
              refine hK _ _ (fun _ => ?_) (fun hS => ?_)
              · first | (simp [World.cell?_alloc_past, *]; done) | exact ⟨cell_alloc_some hSw.1 _, cell_alloc_some hSw.2 _⟩
              have hSw := hS rfl; clear hS hK; (try simp only [Act.put, List.setIfInBounds_toArray, List.set_cons_zero, List.set_cons_succ])
              refine wpAnyT_one (i := 11) (by kernel_rfl) rfl (by rfl) ?_
              intro K hK
              go_simp
              refine hK _ _ (fun h => by cases h) (fun _ => ?_)
              clear hK; (try simp only [Act.put, List.setIfInBounds_toArray, List.set_cons_zero, List.set_cons_succ])
              refine wpAnyT_one (i := 12) (by kernel_rfl) rfl (by rfl) ?_
              intro K hK
              go_simp
              refine hK _ _ (fun h => by cases h) (fun _ => ?_)
              clear hK; (try simp only [Act.put, List.setIfInBounds_toArray, List.set_cons_zero, List.set_cons_succ])
              refine wpAnyT_one (i := 13) (by kernel_rfl) rfl (by rfl) ?_
              intro K hK
              go_simp
              refine hK _ _ (fun h => by cases h) (fun _ => ?_)
              clear hK; (try simp only [Act.put, List.setIfInBounds_toArray, List.set_cons_zero, List.set_cons_succ])
              refine wpAnyT_done (by kernel_rfl) ?_ _
              go_wp2_with fail
              go_meet
              rw [CL.out, ST.out]
              exact ⟨_, _, plInv_12 hMb⟩
            ·
              intro K hK
              go_simp
              refine hK _ _ (fun _ => ?_) (fun hS => ?_)
              · first | (simp [World.cell?_alloc_past, *]; done) | exact ⟨cell_alloc_some hSw.1 _, cell_alloc_some hSw.2 _⟩
              have hSw := hS rfl; clear hS hK; (try simp only [Act.put, List.setIfInBounds_toArray, List.set_cons_zero, List.set_cons_succ])
              refine wpAnyT_one (i := 4) (by kernel_rfl) rfl (by rfl) ?_
              intro K hK
              refine wp_mem_app (by (repeat (first | with_reducible assumption | with_reducible apply Mem.drew | with_reducible apply Mem.drewN | (with_reducible apply Mem.addBox; rotate_left 1; (first | (simp only [World.size_alloc, World.size_drew, World.heap_drewN]; rfl) | rfl); rotate_right 1) | with_reducible apply Mem.alloc))) (.tmp 65) (.tmp 67) _ (by rfl) 0 3 i0 _ 1 8 Try.underlying22 hi hz0 hz1 hz2 rfl (by decide) v1 k _ (by rfl) (by rfl) _ 1 1 [.int .i64 (((k : Int) + 1) * (p : Int))] (by rfl) rfl (news_one (by simp [go_sem, *])) (one_int _ _) (by decide) (by omega) (by unfold maxLen; omega) ?_
              intro g1 cap1 wa hMa
              have ra2 := hMa.rules 2 rfl
              try have ra3 := hMa.rules 3 rfl
              try have ra4 := hMa.rules 4 rfl
              refine hK _ _ (fun _ => ?_) (fun hS => ?_)
              · first | (simp [World.cell?_alloc_past, *]; done) | exact ⟨cell_alloc_some hSw.1 _, cell_alloc_some hSw.2 _⟩
              have hSw := hS rfl; clear hS hK; (try simp only [Act.put, List.setIfInBounds_toArray, List.set_cons_zero, List.set_cons_succ])
              refine wpAnyT_take (i := 10) (v := ?_) rfl (by kernel_rfl) (by kernel_rfl) (by kernel_rfl) (by kernel_rfl) (by kernel_rfl) (fun _ _ _ h => h) (Or.inl ⟨by rfl, ?_⟩) (by exact hSw) ?_; rotate_left; (intro wS hS1; (try dsimp only at hS1); go_simp; try with_reducible rfl); (try simp only [Act.put, List.setIfInBounds_toArray, List.set_cons_zero, List.set_cons_succ])
              refine wpAnyT_one (i := 9) (by kernel_rfl) rfl (by rfl) ?_
              intro K hK
              refine wp_mem_app (by (repeat (first | with_reducible assumption | with_reducible apply Mem.drew | with_reducible apply Mem.drewN | (with_reducible apply Mem.addBox; rotate_left 1; (first | (simp only [World.size_alloc, World.size_drew, World.heap_drewN]; rfl) | rfl); rotate_right 1) | with_reducible apply Mem.alloc))) (.tmp 70) (.tmp 72) _ (by rfl) 1 3 i0 _ 1 8 Try.underlying22 hi hz0 hz1 hz2 rfl (by decide) v2 k _ (by rfl) (by rfl) _ 1 1 [.int .i64 (P56.st t k)] (by rfl) rfl (news_one (by simp [go_sem, *])) (one_int _ _) (by decide) (by omega) (by unfold maxLen; omega) ?_
              intro g2 cap2 wb hMb
              have rb2 := hMb.rules 2 rfl
              refine hK _ _ (fun _ => ?_) (fun hS => ?_)
              · first | (simp [World.cell?_alloc_past, *]; done) | exact ⟨cell_alloc_some hSw.1 _, cell_alloc_some hSw.2 _⟩
              have hSw := hS rfl; clear hS hK; (try simp only [Act.put, List.setIfInBounds_toArray, List.set_cons_zero, List.set_cons_succ])
              refine wpAnyT_one (i := 11) (by kernel_rfl) rfl (by rfl) ?_
              intro K hK
              go_simp
              refine hK _ _ (fun h => by cases h) (fun _ => ?_)
              clear hK; (try simp only [Act.put, List.setIfInBounds_toArray, List.set_cons_zero, List.set_cons_succ])
              refine wpAnyT_one (i := 12) (by kernel_rfl) rfl (by rfl) ?_
              intro K hK
              go_simp
              refine hK _ _ (fun h => by cases h) (fun _ => ?_)
              clear hK; (try simp only [Act.put, List.setIfInBounds_toArray, List.set_cons_zero, List.set_cons_succ])
              refine wpAnyT_one (i := 13) (by kernel_rfl) rfl (by rfl) ?_
              intro K hK
              go_simp
              refine hK _ _ (fun h => by cases h) (fun _ => ?_)
              clear hK; (try simp only [Act.put, List.setIfInBounds_toArray, List.set_cons_zero, List.set_cons_succ])
              refine wpAnyT_done (by kernel_rfl) ?_ _
              go_wp2_with fail
              go_meet
              rw [CL.out, ST.out]
              exact ⟨_, _, plInv_12 hMb⟩
          ·
            intro K hK
            go_simp
            refine hK _ _ (fun _ => ?_) (fun hS => ?_)
            · first | (simp [World.cell?_alloc_past, *]; done) | exact ⟨cell_alloc_some hSw.1 _, cell_alloc_some hSw.2 _⟩
            have hSw := hS rfl; clear hS hK; (try simp only [Act.put, List.setIfInBounds_toArray, List.set_cons_zero, List.set_cons_succ])
            refine wpAnyT_one (i := 3) (by kernel_rfl) rfl (by rfl) ?_
            intro K hK
            go_simp
            refine hK _ _ (fun _ => ?_) (fun hS => ?_)
            · first | (simp [World.cell?_alloc_past, *]; done) | exact ⟨cell_alloc_some hSw.1 _, cell_alloc_some hSw.2 _⟩
            have hSw := hS rfl; clear hS hK; (try simp only [Act.put, List.setIfInBounds_toArray, List.set_cons_zero, List.set_cons_succ])
            refine wpAnyT_one (i := 4) (by kernel_rfl) rfl (by rfl) ?_
            intro K hK
            refine wp_mem_app (by (repeat (first | with_reducible assumption | with_reducible apply Mem.drew | with_reducible apply Mem.drewN | (with_reducible apply Mem.addBox; rotate_left 1; (first | (simp only [World.size_alloc, World.size_drew, World.heap_drewN]; rfl) | rfl); rotate_right 1) | with_reducible apply Mem.alloc))) (.tmp 65) (.tmp 67) _ (by rfl) 0 3 i0 _ 1 8 Try.underlying22 hi hz0 hz1 hz2 rfl (by decide) v1 k _ (by rfl) (by rfl) _ 1 1 [.int .i64 (((k : Int) + 1) * (p : Int))] (by rfl) rfl (news_one (by simp [go_sem, *])) (one_int _ _) (by decide) (by omega) (by unfold maxLen; omega) ?_
            intro g1 cap1 wa hMa
            have ra2 := hMa.rules 2 rfl
            try have ra3 := hMa.rules 3 rfl
            try have ra4 := hMa.rules 4 rfl
            refine hK _ _ (fun _ => ?_) (fun hS => ?_)
            · first | (simp [World.cell?_alloc_past, *]; done) | exact ⟨cell_alloc_some hSw.1 _, cell_alloc_some hSw.2 _⟩
            have hSw := hS rfl; clear hS hK; (try simp only [Act.put, List.setIfInBounds_toArray, List.set_cons_zero, List.set_cons_succ])
            refine wpAnyT_take (i := 10) (v := ?_) rfl (by kernel_rfl) (by kernel_rfl) (by kernel_rfl) (by kernel_rfl) (by kernel_rfl) (fun _ _ _ h => h) (Or.inl ⟨by rfl, ?_⟩) (by exact hSw) ?_; rotate_left; (intro wS hS1; (try dsimp only at hS1); go_simp; try with_reducible rfl); (try simp only [Act.put, List.setIfInBounds_toArray, List.set_cons_zero, List.set_cons_succ])
            refine wpAnyT_one (i := 9) (by kernel_rfl) rfl (by rfl) ?_
            intro K hK
            refine wp_mem_app (by (repeat (first | with_reducible assumption | with_reducible apply Mem.drew | with_reducible apply Mem.drewN | (with_reducible apply Mem.addBox; rotate_left 1; (first | (simp only [World.size_alloc, World.size_drew, World.heap_drewN]; rfl) | rfl); rotate_right 1) | with_reducible apply Mem.alloc))) (.tmp 70) (.tmp 72) _ (by rfl) 1 3 i0 _ 1 8 Try.underlying22 hi hz0 hz1 hz2 rfl (by decide) v2 k _ (by rfl) (by rfl) _ 1 1 [.int .i64 (P56.st t k)] (by rfl) rfl (news_one (by simp [go_sem, *])) (one_int _ _) (by decide) (by omega) (by unfold maxLen; omega) ?_
            intro g2 cap2 wb hMb
            have rb2 := hMb.rules 2 rfl
            refine hK _ _ (fun _ => ?_) (fun hS => ?_)
            · first | (simp [World.cell?_alloc_past, *]; done) | exact ⟨cell_alloc_some hSw.1 _, cell_alloc_some hSw.2 _⟩
            have hSw := hS rfl; clear hS hK; (try simp only [Act.put, List.setIfInBounds_toArray, List.set_cons_zero, List.set_cons_succ])
            refine wpAnyT_one (i := 11) (by kernel_rfl) rfl (by rfl) ?_
            intro K hK
            go_simp
            refine hK _ _ (fun h => by cases h) (fun _ => ?_)
            clear hK; (try simp only [Act.put, List.setIfInBounds_toArray, List.set_cons_zero, List.set_cons_succ])
            refine wpAnyT_one (i := 12) (by kernel_rfl) rfl (by rfl) ?_
            intro K hK
            go_simp
            refine hK _ _ (fun h => by cases h) (fun _ => ?_)
            clear hK; (try simp only [Act.put, List.setIfInBounds_toArray, List.set_cons_zero, List.set_cons_succ])
            refine wpAnyT_one (i := 13) (by kernel_rfl) rfl (by rfl) ?_
            intro K hK
            go_simp
            refine hK _ _ (fun h => by cases h) (fun _ => ?_)
            clear hK; (try simp only [Act.put, List.setIfInBounds_toArray, List.set_cons_zero, List.set_cons_succ])
            refine wpAnyT_done (by kernel_rfl) ?_ _
            go_wp2_with fail
            go_meet
            rw [CL.out, ST.out]
            exact ⟨_, _, plInv_12 hMb⟩
        case rest =>
          obtain ⟨u1, u2, hI2⟩ := hcut
          have hM3 : Mem w _ _ wc := hI2
          clear hI2 hM2 r0 r1 r2
          have r2 := hM3.rules 2 rfl
          have EN := Lib.hid (P56.ens_succ t k)
          have AP := Lib.hid (P56.aps_succ t k)
          have HAP : Hid (P56.ap t k = (x : Int) + t.L + t.A) := by show _ = _; unfold P56.ap; rw [HX.out]
          go_upto_region 18 with fail
          go_cut [] (fun wx => ∃ u3 u4, PlInv w w1.heap.size #[.slice a t.W.length c, .slice a' t.C.length c', .int .i64 p, .int .i64 t.L, .int .i64 t.A] u1 u2 u3 u4 (k + 1) (k + 1) (P56.cls t (k + 1)) (P56.sts t (k + 1)) (P56.ens t (k + 1)) (P56.aps t (k + 1)) (P56.bdR t k) wx)
          case first =>
            refine wp_region_T (fun w' : World => w'.cell? ⟨w1.heap.size, 2, none⟩ = some v3 ∧ w'.cell? ⟨w1.heap.size, 3, none⟩ = some v4) (fun i => Nat.ble 11 i) (by kernel_rfl) (by simp [*]) (fun hSw => ?_)
            refine wpAnyT_take (i := 0) (v := ?_) rfl (by kernel_rfl) (by kernel_rfl) (by kernel_rfl) (by kernel_rfl) (by kernel_rfl) (fun _ _ _ h => h) (Or.inl ⟨by rfl, ?_⟩) (by exact hSw) ?_; rotate_left; (intro wS hS1; (try dsimp only at hS1); go_simp; try with_reducible rfl); (try simp only [Act.put, List.setIfInBounds_toArray, List.set_cons_zero, List.set_cons_succ])
            refine wpAnyT_take (i := 1) (v := ?_) rfl (by kernel_rfl) (by kernel_rfl) (by kernel_rfl) (by kernel_rfl) (by kernel_rfl) (fun _ _ _ h => h) (Or.inl ⟨by rfl, ?_⟩) (by exact hSw) ?_; rotate_left; (intro wS hS1; (try dsimp only at hS1); go_simp; try with_reducible rfl); (try simp only [Act.put, List.setIfInBounds_toArray, List.set_cons_zero, List.set_cons_succ])
            refine wpAnyT_take (i := 2) (v := ?_) rfl (by kernel_rfl) (by kernel_rfl) (by kernel_rfl) (by kernel_rfl) (by kernel_rfl) (fun _ _ _ h => h) (Or.inl ⟨by rfl, ?_⟩) (by exact hSw) ?_; rotate_left; (intro wS hS1; (try dsimp only at hS1); go_simp; try with_reducible rfl); (try simp only [Act.put, List.setIfInBounds_toArray, List.set_cons_zero, List.set_cons_succ])
            refine wpAnyT_take (i := 5) (v := ?_) rfl (by kernel_rfl) (by kernel_rfl) (by kernel_rfl) (by kernel_rfl) (by kernel_rfl) (fun _ _ _ h => h) (Or.inl ⟨by rfl, ?_⟩) (by exact hSw) ?_; rotate_left; (intro wS hS1; (try dsimp only at hS1); go_simp; try with_reducible rfl); (try simp only [Act.put, List.setIfInBounds_toArray, List.set_cons_zero, List.set_cons_succ])
            refine wpAnyT_take (i := 6) (v := ?_) rfl (by kernel_rfl) (by kernel_rfl) (by kernel_rfl) (by kernel_rfl) (by kernel_rfl) (fun _ _ _ h => h) (Or.inl ⟨by rfl, ?_⟩) (by exact hSw) ?_; rotate_left; (intro wS hS1; (try dsimp only at hS1); go_simp; try with_reducible rfl); (try simp only [Act.put, List.setIfInBounds_toArray, List.set_cons_zero, List.set_cons_succ])
            refine wpAnyT_take (i := 7) (v := ?_) rfl (by kernel_rfl) (by kernel_rfl) (by kernel_rfl) (by kernel_rfl) (by kernel_rfl) (fun _ _ _ h => h) (Or.inl ⟨by rfl, ?_⟩) (by exact hSw) ?_; rotate_left; (intro wS hS1; (try dsimp only at hS1); go_simp; try with_reducible rfl); (try simp only [Act.put, List.setIfInBounds_toArray, List.set_cons_zero, List.set_cons_succ])
            refine wpAnyT_two (i := 3) (j := 8) (by kernel_rfl) rfl (by rfl) rfl (by rfl) ?_ ?_
            ·
              intro K hK
              go_simp
              refine hK _ _ (fun _ => ?_) (fun hS => ?_)
              · first | (simp [World.cell?_alloc_past, *]; done) | exact ⟨cell_alloc_some hSw.1 _, cell_alloc_some hSw.2 _⟩
              have hSw := hS rfl; clear hS hK; (try simp only [Act.put, List.setIfInBounds_toArray, List.set_cons_zero, List.set_cons_succ])
              refine wpAnyT_two (i := 4) (j := 8) (by kernel_rfl) rfl (by rfl) rfl (by rfl) ?_ ?_
              ·
                intro K hK
                refine wp_mem_app (by (repeat (first | with_reducible assumption | with_reducible apply Mem.drew | with_reducible apply Mem.drewN | (with_reducible apply Mem.addBox; rotate_left 1; (first | (simp only [World.size_alloc, World.size_drew, World.heap_drewN]; rfl) | rfl); rotate_right 1) | with_reducible apply Mem.alloc))) (.tmp 77) (.tmp 79) _ (by rfl) 2 3 i0 _ 1 8 Try.underlying22 hi hz0 hz1 hz2 rfl (by decide) v3 k _ (by rfl) (by rfl) _ 1 1 [.int .i64 (x : Int)] (by rfl) rfl (news_one (by simp [go_sem, *])) (one_int _ _) (by decide) (by omega) (by unfold maxLen; omega) ?_
                intro g1 cap1 wa hMa
                have ra2 := hMa.rules 2 rfl
                try have ra3 := hMa.rules 3 rfl
                try have ra4 := hMa.rules 4 rfl
                refine hK _ _ (fun _ => ?_) (fun hS => ?_)
                · first | (simp [World.cell?_alloc_past, *]; done) | exact ⟨cell_alloc_some hSw.1 _, cell_alloc_some hSw.2 _⟩
                have hSw := hS rfl; clear hS hK; (try simp only [Act.put, List.setIfInBounds_toArray, List.set_cons_zero, List.set_cons_succ])
                refine wpAnyT_take (i := 10) (v := ?_) rfl (by kernel_rfl) (by kernel_rfl) (by kernel_rfl) (by kernel_rfl) (by kernel_rfl) (fun _ _ _ h => h) (Or.inl ⟨by rfl, ?_⟩) (by exact hSw) ?_; rotate_left; (intro wS hS1; (try dsimp only at hS1); go_simp; try with_reducible rfl); (try simp only [Act.put, List.setIfInBounds_toArray, List.set_cons_zero, List.set_cons_succ])
                refine wpAnyT_one (i := 8) (by kernel_rfl) rfl (by rfl) ?_
                intro K hK
                go_simp
                refine hK _ _ (fun _ => ?_) (fun hS => ?_)
                · first | (simp [World.cell?_alloc_past, *]; done) | exact ⟨cell_alloc_some hSw.1 _, cell_alloc_some hSw.2 _⟩
                have hSw := hS rfl; clear hS hK; (try simp only [Act.put, List.setIfInBounds_toArray, List.set_cons_zero, List.set_cons_succ])
                refine wpAnyT_one (i := 9) (by kernel_rfl) rfl (by rfl) ?_
                intro K hK
                refine wp_mem_app (by (repeat (first | with_reducible assumption | with_reducible apply Mem.drew | with_reducible apply Mem.drewN | (with_reducible apply Mem.addBox; rotate_left 1; (first | (simp only [World.size_alloc, World.size_drew, World.heap_drewN]; rfl) | rfl); rotate_right 1) | with_reducible apply Mem.alloc))) (.tmp 82) (.tmp 84) _ (by rfl) 3 3 i0 _ 1 8 Try.underlying22 hi hz0 hz1 hz2 rfl (by decide) v4 k _ (by rfl) (by rfl) _ 1 1 [.int .i64 ((x : Int) + t.L + t.A)] (by rfl) rfl (news_one (by simp [go_sem, *])) (one_int _ _) (by decide) (by omega) (by unfold maxLen; omega) ?_
                intro g2 cap2 wb hMb
                have rb2 := hMb.rules 2 rfl
                refine hK _ _ (fun _ => ?_) (fun hS => ?_)
                · first | (simp [World.cell?_alloc_past, *]; done) | exact ⟨cell_alloc_some hSw.1 _, cell_alloc_some hSw.2 _⟩
                have hSw := hS rfl; clear hS hK; (try simp only [Act.put, List.setIfInBounds_toArray, List.set_cons_zero, List.set_cons_succ])
                refine wpAnyT_one (i := 11) (by kernel_rfl) rfl (by rfl) ?_
                intro K hK
                go_simp
                refine hK _ _ (fun h => by cases h) (fun _ => ?_)
                clear hK; (try simp only [Act.put, List.setIfInBounds_toArray, List.set_cons_zero, List.set_cons_succ])
                refine wpAnyT_one (i := 12) (by kernel_rfl) rfl (by rfl) ?_
                intro K hK
                go_simp
                refine hK _ _ (fun h => by cases h) (fun _ => ?_)
                clear hK; (try simp only [Act.put, List.setIfInBounds_toArray, List.set_cons_zero, List.set_cons_succ])
                refine wpAnyT_one (i := 13) (by kernel_rfl) rfl (by rfl) ?_
                intro K hK
                go_simp
                refine hK _ _ (fun h => by cases h) (fun _ => ?_)
                clear hK; (try simp only [Act.put, List.setIfInBounds_toArray, List.set_cons_zero, List.set_cons_succ])
                refine wpAnyT_done (by kernel_rfl) ?_ _
                go_wp2_with fail
                go_meet
                rw [EN.out, AP.out, HAP.out, HX.out]
                exact ⟨_, _, plInv_34 hMb⟩
              ·
                intro K hK
                go_simp
                refine hK _ _ (fun _ => ?_) (fun hS => ?_)
                · first | (simp [World.cell?_alloc_past, *]; done) | exact ⟨cell_alloc_some hSw.1 _, cell_alloc_some hSw.2 _⟩
                have hSw := hS rfl; clear hS hK; (try simp only [Act.put, List.setIfInBounds_toArray, List.set_cons_zero, List.set_cons_succ])
                refine wpAnyT_one (i := 4) (by kernel_rfl) rfl (by rfl) ?_
                intro K hK
                refine wp_mem_app (by (repeat (first | with_reducible assumption | with_reducible apply Mem.drew | with_reducible apply Mem.drewN | (with_reducible apply Mem.addBox; rotate_left 1; (first | (simp only [World.size_alloc, World.size_drew, World.heap_drewN]; rfl) | rfl); rotate_right 1) | with_reducible apply Mem.alloc))) (.tmp 77) (.tmp 79) _ (by rfl) 2 3 i0 _ 1 8 Try.underlying22 hi hz0 hz1 hz2 rfl (by decide) v3 k _ (by rfl) (by rfl) _ 1 1 [.int .i64 (x : Int)] (by rfl) rfl (news_one (by simp [go_sem, *])) (one_int _ _) (by decide) (by omega) (by unfold maxLen; omega) ?_
                intro g1 cap1 wa hMa
                have ra2 := hMa.rules 2 rfl
                try have ra3 := hMa.rules 3 rfl
                try have ra4 := hMa.rules 4 rfl
                refine hK _ _ (fun _ => ?_) (fun hS => ?_)
                · first | (simp [World.cell?_alloc_past, *]; done) | exact ⟨cell_alloc_some hSw.1 _, cell_alloc_some hSw.2 _⟩
                have hSw := hS rfl; clear hS hK; (try simp only [Act.put, List.setIfInBounds_toArray, List.set_cons_zero, List.set_cons_succ])
                refine wpAnyT_take (i := 10) (v := ?_) rfl (by kernel_rfl) (by kernel_rfl) (by kernel_rfl) (by kernel_rfl) (by kernel_rfl) (fun _ _ _ h => h) (Or.inl ⟨by rfl, ?_⟩) (by exact hSw) ?_; rotate_left; (intro wS hS1; (try dsimp only at hS1); go_simp; try with_reducible rfl); (try simp only [Act.put, List.setIfInBounds_toArray, List.set_cons_zero, List.set_cons_succ])
                refine wpAnyT_one (i := 9) (by kernel_rfl) rfl (by rfl) ?_
                intro K hK
                refine wp_mem_app (by (repeat (first | with_reducible assumption | with_reducible apply Mem.drew | with_reducible apply Mem.drewN | (with_reducible apply Mem.addBox; rotate_left 1; (first | (simp only [World.size_alloc, World.size_drew, World.heap_drewN]; rfl) | rfl); rotate_right 1) | with_reducible apply Mem.alloc))) (.tmp 82) (.tmp 84) _ (by rfl) 3 3 i0 _ 1 8 Try.underlying22 hi hz0 hz1 hz2 rfl (by decide) v4 k _ (by rfl) (by rfl) _ 1 1 [.int .i64 ((x : Int) + t.L + t.A)] (by rfl) rfl (news_one (by simp [go_sem, *])) (one_int _ _) (by decide) (by omega) (by unfold maxLen; omega) ?_
                intro g2 cap2 wb hMb
                have rb2 := hMb.rules 2 rfl
                refine hK _ _ (fun _ => ?_) (fun hS => ?_)
                · first | (simp [World.cell?_alloc_past, *]; done) | exact ⟨cell_alloc_some hSw.1 _, cell_alloc_some hSw.2 _⟩
                have hSw := hS rfl; clear hS hK; (try simp only [Act.put, List.setIfInBounds_toArray, List.set_cons_zero, List.set_cons_succ])
                refine wpAnyT_one (i := 11) (by kernel_rfl) rfl (by rfl) ?_
                intro K hK
                go_simp
                refine hK _ _ (fun h => by cases h) (fun _ => ?_)
                clear hK; (try simp only [Act.put, List.setIfInBounds_toArray, List.set_cons_zero, List.set_cons_succ])
                refine wpAnyT_one (i := 12) (by kernel_rfl) rfl (by rfl) ?_
                intro K hK
                go_simp
                refine hK _ _ (fun h => by cases h) (fun _ => ?_)
                clear hK; (try simp only [Act.put, List.setIfInBounds_toArray, List.set_cons_zero, List.set_cons_succ])
                refine wpAnyT_one (i := 13) (by kernel_rfl) rfl (by rfl) ?_
                intro K hK
                go_simp
                refine hK _ _ (fun h => by cases h) (fun _ => ?_)
                clear hK; (try simp only [Act.put, List.setIfInBounds_toArray, List.set_cons_zero, List.set_cons_succ])
                refine wpAnyT_done (by kernel_rfl) ?_ _
                go_wp2_with fail
                go_meet
                rw [EN.out, AP.out, HAP.out, HX.out]
                exact ⟨_, _, plInv_34 hMb⟩
            ·
              intro K hK
              go_simp
              refine hK _ _ (fun _ => ?_) (fun hS => ?_)
              · first | (simp [World.cell?_alloc_past, *]; done) | exact ⟨cell_alloc_some hSw.1 _, cell_alloc_some hSw.2 _⟩
              have hSw := hS rfl; clear hS hK; (try simp only [Act.put, List.setIfInBounds_toArray, List.set_cons_zero, List.set_cons_succ])
              refine wpAnyT_one (i := 3) (by kernel_rfl) rfl (by rfl) ?_
              intro K hK
              go_simp
              refine hK _ _ (fun _ => ?_) (fun hS => ?_)
              · first | (simp [World.cell?_alloc_past, *]; done) | exact ⟨cell_alloc_some hSw.1 _, cell_alloc_some hSw.2 _⟩
              have hSw := hS rfl; clear hS hK; (try simp only [Act.put, List.setIfInBounds_toArray, List.set_cons_zero, List.set_cons_succ])
              refine wpAnyT_one (i := 4) (by kernel_rfl) rfl (by rfl) ?_
              intro K hK
              refine wp_mem_app (by (repeat (first | with_reducible assumption | with_reducible apply Mem.drew | with_reducible apply Mem.drewN | (with_reducible apply Mem.addBox; rotate_left 1; (first | (simp only [World.size_alloc, World.size_drew, World.heap_drewN]; rfl) | rfl); rotate_right 1) | with_reducible apply Mem.alloc))) (.tmp 77) (.tmp 79) _ (by rfl) 2 3 i0 _ 1 8 Try.underlying22 hi hz0 hz1 hz2 rfl (by decide) v3 k _ (by rfl) (by rfl) _ 1 1 [.int .i64 (x : Int)] (by rfl) rfl (news_one (by simp [go_sem, *])) (one_int _ _) (by decide) (by omega) (by unfold maxLen; omega) ?_
              intro g1 cap1 wa hMa
              have ra2 := hMa.rules 2 rfl
              try have ra3 := hMa.rules 3 rfl
              try have ra4 := hMa.rules 4 rfl
              refine hK _ _ (fun _ => ?_) (fun hS => ?_)
              · first | (simp [World.cell?_alloc_past, *]; done) | exact ⟨cell_alloc_some hSw.1 _, cell_alloc_some hSw.2 _⟩
              have hSw := hS rfl; clear hS hK; (try simp only [Act.put, List.setIfInBounds_toArray, List.set_cons_zero, List.set_cons_succ])
              refine wpAnyT_take (i := 10) (v := ?_) rfl (by kernel_rfl) (by kernel_rfl) (by kernel_rfl) (by kernel_rfl) (by kernel_rfl) (fun _ _ _ h => h) (Or.inl ⟨by rfl, ?_⟩) (by exact hSw) ?_; rotate_left; (intro wS hS1; (try dsimp only at hS1); go_simp; try with_reducible rfl); (try simp only [Act.put, List.setIfInBounds_toArray, List.set_cons_zero, List.set_cons_succ])
              refine wpAnyT_one (i := 9) (by kernel_rfl) rfl (by rfl) ?_
              intro K hK
              refine wp_mem_app (by (repeat (first | with_reducible assumption | with_reducible apply Mem.drew | with_reducible apply Mem.drewN | (with_reducible apply Mem.addBox; rotate_left 1; (first | (simp only [World.size_alloc, World.size_drew, World.heap_drewN]; rfl) | rfl); rotate_right 1) | with_reducible apply Mem.alloc))) (.tmp 82) (.tmp 84) _ (by rfl) 3 3 i0 _ 1 8 Try.underlying22 hi hz0 hz1 hz2 rfl (by decide) v4 k _ (by rfl) (by rfl) _ 1 1 [.int .i64 ((x : Int) + t.L + t.A)] (by rfl) rfl (news_one (by simp [go_sem, *])) (one_int _ _) (by decide) (by omega) (by unfold maxLen; omega) ?_
              intro g2 cap2 wb hMb
              have rb2 := hMb.rules 2 rfl
              refine hK _ _ (fun _ => ?_) (fun hS => ?_)
              · first | (simp [World.cell?_alloc_past, *]; done) | exact ⟨cell_alloc_some hSw.1 _, cell_alloc_some hSw.2 _⟩
              have hSw := hS rfl; clear hS hK; (try simp only [Act.put, List.setIfInBounds_toArray, List.set_cons_zero, List.set_cons_succ])
              refine wpAnyT_one (i := 11) (by kernel_rfl) rfl (by rfl) ?_
              intro K hK
              go_simp
              refine hK _ _ (fun h => by cases h) (fun _ => ?_)
              clear hK; (try simp only [Act.put, List.setIfInBounds_toArray, List.set_cons_zero, List.set_cons_succ])
              refine wpAnyT_one (i := 12) (by kernel_rfl) rfl (by rfl) ?_
              intro K hK
              go_simp
              refine hK _ _ (fun h => by cases h) (fun _ => ?_)
              clear hK; (try simp only [Act.put, List.setIfInBounds_toArray, List.set_cons_zero, List.set_cons_succ])
              refine wpAnyT_one (i := 13) (by kernel_rfl) rfl (by rfl) ?_
              intro K hK
              go_simp
              refine hK _ _ (fun h => by cases h) (fun _ => ?_)
              clear hK; (try simp only [Act.put, List.setIfInBounds_toArray, List.set_cons_zero, List.set_cons_succ])
              refine wpAnyT_done (by kernel_rfl) ?_ _
              go_wp2_with fail
              go_meet
              rw [EN.out, AP.out, HAP.out, HX.out]
              exact ⟨_, _, plInv_34 hMb⟩
          case rest =>
            obtain ⟨u3, u4, hI4⟩ := hcut
            have hM4 : Mem w _ _ wc := hI4
            have ho4 : wc.ownsRow w.heap.size 3 1 u4 (k + 1) ((P56.aps t (k + 1)).map (Value.int .i64)) := hM4.own.get (i := 3) rfl
            obtain ⟨a4, c4, rfl, hr4, hl4⟩ := own_ints ho4
            clear hI4 hM3 r2
            have r2 := hM4.rules 2 rfl
            have HE2 : Hid (P56.endOf t (k + 1) = some (P56.en t (k + 1))) := by show _ = _; rw [HES.out, HX.out]
            clear ho4 hl4
            by_cases hk0 : k = 0
            · have g0 : ((k : Int) == 0) = true := by simp [hk0]
              have hB := P56.bd_yes HP.out HAP.out (.inl hk0)
              clear hr4 hk0
              go_wp2
              go_roundg (P56.cycles t - (k + 1))
              case measure => omega
              case rel =>
                have hM5 := hM4.store 2 rfl 4 (.int .i64 (P56.bdR t (k + 1)))
                simp only [List.setIfInBounds_toArray, List.set_cons_zero, List.set_cons_succ] at hM5
                exact ⟨k + 1, u1, u2, u3, _, by omega, by omega, HE2.out, by rw [HX.out], by simp, by go_num, hM5⟩
            · have g0 : ((k : Int) == 0) = false := by simp [hk0]
              obtain ⟨b4, off4, rfl, hb4, hc4⟩ := hr4 (k - 1) (P56.ap t (k - 1)) (P56.aps_get t (by omega))
              have hk1 : 1 ≤ k := by omega
              clear hr4 hk0
              by_cases hlt4 : P56.ap t (k - 1) < (x : Int) + t.L + t.A
              · have hB := P56.bd_yes HP.out HAP.out (.inr hlt4)
                go_wp2
                go_roundg (P56.cycles t - (k + 1))
                case measure => omega
                case rel =>
                  have hM5 := hM4.store 2 rfl 4 (.int .i64 (P56.bdR t (k + 1)))
                  simp only [List.setIfInBounds_toArray, List.set_cons_zero, List.set_cons_succ] at hM5
                  exact ⟨k + 1, u1, u2, u3, _, by omega, by omega, HE2.out, by rw [HX.out], by simp, by go_num, hM5⟩
              · have HB := Lib.hid (P56.bd_no (k := k) HAP.out (by omega))
                go_wp2
                go_roundg (P56.cycles t - (k + 1))
                case measure => omega
                case rel =>
                  refine ⟨k + 1, u1, u2, u3, .slice (some ⟨b4, off4, none⟩) (k + 1) c4, by omega, by omega, HE2.out, by rw [HX.out], by simp, by go_num, ?_⟩
                  rw [← HB.out]
                  exact hM4
    · have hkc : k = P56.cycles t := by omega
      subst hkc
      have hen := P56.en_le OK.out (show P56.cycles t ≤ 4097 by omega)
      obtain ⟨e0, e1, e2, e3⟩ := P56.mul_bd (k := P56.cycles t) (p := p) (by omega) hp1
      have o1 : wr.ownsRow w.heap.size 3 1 v1 (P56.cycles t) ((P56.cls t (P56.cycles t)).map (Value.int .i64)) := hM.own.get (i := 0) rfl
      have o2 : wr.ownsRow w.heap.size 3 1 v2 (P56.cycles t) ((P56.sts t (P56.cycles t)).map (Value.int .i64)) := hM.own.get (i := 1) rfl
      have o3 : wr.ownsRow w.heap.size 3 1 v3 (P56.cycles t) ((P56.ens t (P56.cycles t)).map (Value.int .i64)) := hM.own.get (i := 2) rfl
      have o4 : wr.ownsRow w.heap.size 3 1 v4 (P56.cycles t) ((P56.aps t (P56.cycles t)).map (Value.int .i64)) := hM.own.get (i := 3) rfl
      obtain ⟨a1, c1, rfl, q1, l1⟩ := own_ints o1
      obtain ⟨a2, c2, rfl, q2, l2⟩ := own_ints o2
      obtain ⟨a3, c3, rfl, q3, l3⟩ := own_ints o3
      obtain ⟨a4, c4, rfl, q4, l4⟩ := own_ints o4
      clear o1 o2 o3 o4 l1 l2 l3 l4
      have r0 := hM.rules 0 rfl
      have r1 := hM.rules 1 rfl
      have r2 := hM.rules 2 rfl
      have hL : 0 ≤ t.L ∧ t.L ≤ 1073741824 := ⟨OK.out.l0, OK.out.l⟩
      have hA : 0 ≤ t.A ∧ t.A ≤ 1073741824 := ⟨OK.out.a0, OK.out.a⟩
      have HRES := Lib.hid (P56.planOk_some E.out)
      by_cases hc0 : 0 < P56.cycles t
      · have hB := P56.bd_end HP.out hc0
        go_wp2
        have hMf := (((((hM.store 2 rfl 4 (.int .i64 (P56.boundR t))).store 1 rfl 0 (.slice a1 (P56.cycles t) c1)).store 1 rfl 1 (.slice a2 (P56.cycles t) c2)).store 1 rfl 2 (.slice a3 (P56.cycles t) c3)).store 1 rfl 3 (.slice a4 (P56.cycles t) c4)).store 1 rfl 4 (.int .i64 (P56.boundR t))
        simp only [List.setIfInBounds_toArray, List.set_cons_zero, List.set_cons_succ] at hMf
        refine post_cell_tmp Try.results13 rfl (hMf.at 1 rfl) Try.isAgg28 Try.sizeOf28 rfl ?_
        rw [HRES.out]
        exact ⟨_, rfl, fun own hl => (((row_has hMf hl (List.mem_of_getElem? (i := 0) rfl)).and (row_has hMf hl (List.mem_of_getElem? (i := 1) rfl))).and ((row_has hMf hl (List.mem_of_getElem? (i := 2) rfl)).and (row_has hMf hl (List.mem_of_getElem? (i := 3) rfl)))).imp fun _ k => isPl_lists k.1.1 k.1.2 k.2.1 k.2.2 hcy, hMf.since⟩
      · have hB := P56.bd_end0 hc0
        go_wp2
        have hMf := ((((hM.store 1 rfl 0 (.slice a1 (P56.cycles t) c1)).store 1 rfl 1 (.slice a2 (P56.cycles t) c2)).store 1 rfl 2 (.slice a3 (P56.cycles t) c3)).store 1 rfl 3 (.slice a4 (P56.cycles t) c4)).store 1 rfl 4 (.int .i64 (P56.boundR t))
        simp only [List.setIfInBounds_toArray, List.set_cons_zero, List.set_cons_succ] at hMf
        refine post_cell_tmp Try.results13 rfl (hMf.at 1 rfl) Try.isAgg28 Try.sizeOf28 rfl ?_
        rw [HRES.out]
        exact ⟨_, rfl, fun own hl => (((row_has hMf hl (List.mem_of_getElem? (i := 0) rfl)).and (row_has hMf hl (List.mem_of_getElem? (i := 1) rfl))).and ((row_has hMf hl (List.mem_of_getElem? (i := 2) rfl)).and (row_has hMf hl (List.mem_of_getElem? (i := 3) rfl)))).imp fun _ k => isPl_lists k.1.1 k.1.2 k.2.1 k.2.2 hcy, hMf.since⟩
/-- The reference's Plan returns the plan of the definitions. -/
theorem refPlan_any (t : P56.Tr) (v : Value) (w : World) (ht : IsTr w v t) : Calls Try.prog 13 #[v] w (PlanRes (P56.plan t) w) := by
  unfold P56.plan
  split
  · rename_i h; exact refPlan_ok t v w ht (P56.check_ok.1 h)
  · rename_i h; exact refPlan_bad t v w ht h
end Go.Proofs.Ytfjelofpahcfpaa
