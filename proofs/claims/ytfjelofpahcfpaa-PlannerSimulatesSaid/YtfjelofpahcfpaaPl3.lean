/- Same, Few, fewPlan, and the reference's Size and finish: what each call returns. -/
import Derived.Test.YtfjelofpahcfpaaPl2
set_option linter.unusedSimpArgs false
set_option linter.unusedVariables false
namespace Go.Proofs.Ytfjelofpahcfpaa
open Go.RowKit Go.Shelf

/-- The value v is the plan p, in memory. -/
def IsPl (w : World) (v : Value) (p : P56.Pl) : Prop :=
  ∃ a1 a2 a3 a4 c1 c2 c3 c4, v = .agg #[.slice a1 p.close.length c1, .slice a2 p.start.length c2, .slice a3 p.fin.length c3, .slice a4 p.applied.length c4, .int .i64 p.bound] ∧
    Reads (Value.int .i64) w a1 p.close ∧ Reads (Value.int .i64) w a2 p.start ∧ Reads (Value.int .i64) w a3 p.fin ∧ Reads (Value.int .i64) w a4 p.applied ∧
    p.close.length ≤ 9223372036854775807 ∧ p.start.length ≤ 9223372036854775807 ∧ p.fin.length ≤ 9223372036854775807 ∧ p.applied.length ≤ 9223372036854775807
theorem IsPl.since {w w' : World} {v : Value} {p : P56.Pl} (h : IsPl w v p) (hs : Since w w') : IsPl w' v p := by
  obtain ⟨a1, a2, a3, a4, c1, c2, c3, c4, h1, h2, h3, h4, h5, h6⟩ := h
  exact ⟨a1, a2, a3, a4, c1, c2, c3, c4, h1, h2.since hs, h3.since hs, h4.since hs, h5.since hs, h6⟩
/-- Whether two plans are equal. -/
def eqPl (p q : P56.Pl) : Bool := eqI p.close q.close && eqI p.start q.start && eqI p.fin q.fin && eqI p.applied q.applied && (p.bound == q.bound)
theorem eqPl_iff (p q : P56.Pl) : eqPl p q = true ↔ p = q := by
  obtain ⟨a, b, c, d, e⟩ := p
  obtain ⟨a', b', c', d', e'⟩ := q
  simp [eqPl, eqI, and_assoc]

set_option maxHeartbeats 1000000 in
theorem same_any (p q : P56.Pl) (v u : Value) (w : World) (hp : IsPl w v p) (hq : IsPl w u q) :
    Calls Try.prog 16 #[v, u] w fun e w' => e = .returned (.bool (eqPl p q)) ∧ Since w w' := by
  obtain ⟨a1, a2, a3, a4, c1, c2, c3, c4, rfl, r1, r2, r3, r4, l1, l2, l3, l4⟩ := hp
  obtain ⟨b1, b2, b3, b4, d1, d2, d3, d4, rfl, q1, q2, q3, q4, m1, m2, m3, m4⟩ := hq
  go_enter Try.func16, Try.ntmps16
  go_wp2_with (first
    | (go_at_call 38; (with_reducible refine (bool_split (sameInts_any a1 b1 _ _ p.close q.close _ l1 m1 (r1.since ?_) (q1.since ?_))).mono ?_); ((repeat (first | with_reducible exact Since.refl _ | with_reducible assumption | with_reducible refine Since.alloc ?_ _ | with_reducible refine Since.drew ?_ | with_reducible refine Since.drewN ?_ _ | (with_reducible refine Since.setCell ?_ ?_ _; rotate_left; (first | (dsimp only; omega) | (simp; done) | (simp; omega))) | with_reducible refine Since.trans ?_ (by with_reducible assumption)))); ((repeat (first | with_reducible exact Since.refl _ | with_reducible assumption | with_reducible refine Since.alloc ?_ _ | with_reducible refine Since.drew ?_ | with_reducible refine Since.drewN ?_ _ | (with_reducible refine Since.setCell ?_ ?_ _; rotate_left; (first | (dsimp only; omega) | (simp; done) | (simp; omega))) | with_reducible refine Since.trans ?_ (by with_reducible assumption)))); rintro e x1 (⟨rfl, H1, hs1⟩ | ⟨rfl, H1, hs1⟩) <;> (obtain ⟨kc_hs1_0, kf_hs1_0, kz_hs1_0⟩ := hs1.at (β := w.heap.size) (by first | assumption | omega | (simp only [World.size_alloc, World.size_setCell, World.size_drew, World.heap_drewN]; omega) | (simp; omega)); obtain ⟨kc_hs1_1, kf_hs1_1, kz_hs1_1⟩ := hs1.at (β := w.heap.size + 1) (by first | assumption | omega | (simp only [World.size_alloc, World.size_setCell, World.size_drew, World.heap_drewN]; omega) | (simp; omega))))
    | (go_at_call 38; (with_reducible refine (bool_split (sameInts_any a2 b2 _ _ p.start q.start _ l2 m2 (r2.since ?_) (q2.since ?_))).mono ?_); ((repeat (first | with_reducible exact Since.refl _ | with_reducible assumption | with_reducible refine Since.alloc ?_ _ | with_reducible refine Since.drew ?_ | with_reducible refine Since.drewN ?_ _ | (with_reducible refine Since.setCell ?_ ?_ _; rotate_left; (first | (dsimp only; omega) | (simp; done) | (simp; omega))) | with_reducible refine Since.trans ?_ (by with_reducible assumption)))); ((repeat (first | with_reducible exact Since.refl _ | with_reducible assumption | with_reducible refine Since.alloc ?_ _ | with_reducible refine Since.drew ?_ | with_reducible refine Since.drewN ?_ _ | (with_reducible refine Since.setCell ?_ ?_ _; rotate_left; (first | (dsimp only; omega) | (simp; done) | (simp; omega))) | with_reducible refine Since.trans ?_ (by with_reducible assumption)))); rintro e x2 (⟨rfl, H2, hs2⟩ | ⟨rfl, H2, hs2⟩) <;> (obtain ⟨kc_hs2_0, kf_hs2_0, kz_hs2_0⟩ := hs2.at (β := w.heap.size) (by first | assumption | omega | (simp only [World.size_alloc, World.size_setCell, World.size_drew, World.heap_drewN]; omega) | (simp; omega)); obtain ⟨kc_hs2_1, kf_hs2_1, kz_hs2_1⟩ := hs2.at (β := w.heap.size + 1) (by first | assumption | omega | (simp only [World.size_alloc, World.size_setCell, World.size_drew, World.heap_drewN]; omega) | (simp; omega))))
    | (go_at_call 38; (with_reducible refine (bool_split (sameInts_any a3 b3 _ _ p.fin q.fin _ l3 m3 (r3.since ?_) (q3.since ?_))).mono ?_); ((repeat (first | with_reducible exact Since.refl _ | with_reducible assumption | with_reducible refine Since.alloc ?_ _ | with_reducible refine Since.drew ?_ | with_reducible refine Since.drewN ?_ _ | (with_reducible refine Since.setCell ?_ ?_ _; rotate_left; (first | (dsimp only; omega) | (simp; done) | (simp; omega))) | with_reducible refine Since.trans ?_ (by with_reducible assumption)))); ((repeat (first | with_reducible exact Since.refl _ | with_reducible assumption | with_reducible refine Since.alloc ?_ _ | with_reducible refine Since.drew ?_ | with_reducible refine Since.drewN ?_ _ | (with_reducible refine Since.setCell ?_ ?_ _; rotate_left; (first | (dsimp only; omega) | (simp; done) | (simp; omega))) | with_reducible refine Since.trans ?_ (by with_reducible assumption)))); rintro e x3 (⟨rfl, H3, hs3⟩ | ⟨rfl, H3, hs3⟩) <;> (obtain ⟨kc_hs3_0, kf_hs3_0, kz_hs3_0⟩ := hs3.at (β := w.heap.size) (by first | assumption | omega | (simp only [World.size_alloc, World.size_setCell, World.size_drew, World.heap_drewN]; omega) | (simp; omega)); obtain ⟨kc_hs3_1, kf_hs3_1, kz_hs3_1⟩ := hs3.at (β := w.heap.size + 1) (by first | assumption | omega | (simp only [World.size_alloc, World.size_setCell, World.size_drew, World.heap_drewN]; omega) | (simp; omega))))
    | (go_at_call 38; (with_reducible refine (bool_split (sameInts_any a4 b4 _ _ p.applied q.applied _ l4 m4 (r4.since ?_) (q4.since ?_))).mono ?_); ((repeat (first | with_reducible exact Since.refl _ | with_reducible assumption | with_reducible refine Since.alloc ?_ _ | with_reducible refine Since.drew ?_ | with_reducible refine Since.drewN ?_ _ | (with_reducible refine Since.setCell ?_ ?_ _; rotate_left; (first | (dsimp only; omega) | (simp; done) | (simp; omega))) | with_reducible refine Since.trans ?_ (by with_reducible assumption)))); ((repeat (first | with_reducible exact Since.refl _ | with_reducible assumption | with_reducible refine Since.alloc ?_ _ | with_reducible refine Since.drew ?_ | with_reducible refine Since.drewN ?_ _ | (with_reducible refine Since.setCell ?_ ?_ _; rotate_left; (first | (dsimp only; omega) | (simp; done) | (simp; omega))) | with_reducible refine Since.trans ?_ (by with_reducible assumption)))); rintro e x4 (⟨rfl, H4, hs4⟩ | ⟨rfl, H4, hs4⟩) <;> (obtain ⟨kc_hs4_0, kf_hs4_0, kz_hs4_0⟩ := hs4.at (β := w.heap.size) (by first | assumption | omega | (simp only [World.size_alloc, World.size_setCell, World.size_drew, World.heap_drewN]; omega) | (simp; omega)); obtain ⟨kc_hs4_1, kf_hs4_1, kz_hs4_1⟩ := hs4.at (β := w.heap.size + 1) (by first | assumption | omega | (simp only [World.size_alloc, World.size_setCell, World.size_drew, World.heap_drewN]; omega) | (simp; omega)))))
  all_goals
    go_ret
    refine ⟨ret_bool ?_, by (repeat (first | with_reducible exact Since.refl _ | with_reducible assumption | with_reducible refine Since.alloc ?_ _ | with_reducible refine Since.drew ?_ | with_reducible refine Since.drewN ?_ _ | (with_reducible refine Since.setCell ?_ ?_ _; rotate_left; (first | (dsimp only; omega) | (simp; done) | (simp; omega))) | with_reducible refine Since.trans ?_ (by with_reducible assumption)))⟩
    first
      | (simp [eqPl, H1.out]; done)
      | (simp [eqPl, H1.out, H2.out]; done)
      | (simp [eqPl, H1.out, H2.out, H3.out]; done)
      | (simp [eqPl, H1.out, H2.out, H3.out, H4.out]; done)

/-- Whether a trace is small. -/
def fewB (t : P56.Tr) : Bool := decide (t.W.length ≤ 40) && decide (t.C.length ≤ 60)
theorem few_any (t : P56.Tr) (v : Value) (w : World) (ht : IsTr w v t) :
    Calls Try.prog 10 #[v] w fun e w' => e = .returned (.bool (fewB t)) ∧ Since w w' := by
  obtain ⟨a, a', c, c', rfl, hr, hr', hW, hC, -⟩ := ht
  go_enter Try.func10, Try.ntmps10
  go_wp2
  all_goals (go_ret; refine ⟨ret_bool ?_, by (repeat (first | with_reducible exact Since.refl _ | with_reducible assumption | with_reducible refine Since.alloc ?_ _ | with_reducible refine Since.drew ?_ | with_reducible refine Since.drewN ?_ _ | (with_reducible refine Since.setCell ?_ ?_ _; rotate_left; (first | (dsimp only; omega) | (simp; done) | (simp; omega))) | with_reducible refine Since.trans ?_ (by with_reducible assumption)))⟩; rw [Bool.eq_iff_iff]; simp [fewB]; omega)
/-- Whether a plan is small. -/
def fewPlB (p : P56.Pl) : Bool := decide (p.close.length ≤ 50) && decide (p.start.length ≤ 50) && decide (p.fin.length ≤ 50) && decide (p.applied.length ≤ 50)
theorem fewPlan_any (p : P56.Pl) (v : Value) (w : World) (hp : IsPl w v p) :
    Calls Try.prog 17 #[v] w fun e w' => e = .returned (.bool (fewPlB p)) ∧ Since w w' := by
  obtain ⟨a1, a2, a3, a4, c1, c2, c3, c4, rfl, r1, r2, r3, r4, l1, l2, l3, l4⟩ := hp
  go_enter Try.func17, Try.ntmps17
  go_wp2
  all_goals (go_ret; refine ⟨ret_bool ?_, by (repeat (first | with_reducible exact Since.refl _ | with_reducible assumption | with_reducible refine Since.alloc ?_ _ | with_reducible refine Since.drew ?_ | with_reducible refine Since.drewN ?_ _ | (with_reducible refine Since.setCell ?_ ?_ _; rotate_left; (first | (dsimp only; omega) | (simp; done) | (simp; omega))) | with_reducible refine Since.trans ?_ (by with_reducible assumption)))⟩; rw [Bool.eq_iff_iff]; simp [fewPlB]; omega)

set_option maxHeartbeats 1000000 in
/-- The reference's Size: the sectors of a cycle. -/
theorem size_any (t : P56.Tr) (v : Value) (k : Nat) (w : World) (ht : IsTr w v t) (ok : P56.Ok t) (hk : k ≤ 4096) :
    Calls Try.prog 35 #[v, .int .i64 k] w fun e w' => e = .returned (.int .i64 (P56.size t k)) ∧ Since w w' := by
  obtain ⟨a, a', c, c', rfl, hr, hr', hW, hC, -⟩ := ht
  obtain ⟨p, hp⟩ : ∃ p : Nat, t.P = p := ⟨t.P.toNat, by have := ok.p0; omega⟩
  have hp0 : 1 ≤ p := by have := ok.p0; omega
  have hp1 : p ≤ 4096 := by have := ok.p; omega
  have hwl := ok.wlen
  have hsz : P56.size t k = ((t.W.drop (k * p)).take p).sum := by unfold P56.size; rw [hp]; rfl
  have hw := ok.w
  rw [hsz, hp]
  clear hsz hp hr' ok
  generalize t.W = W at *
  obtain ⟨e0, e1, e2, e3⟩ := P56.mul_bd hk hp1
  have e4 := P56.mul_succ_int k p
  have E4 := Lib.hid e4
  clear e4
  generalize hD : W.drop (k * p) = D
  have HD := Lib.hid hD
  clear hD
  have hDw : ∀ x ∈ D, 0 ≤ x ∧ x ≤ 4096 := fun x hx => hw x (by rw [← HD.out] at hx; exact List.mem_of_mem_drop hx)
  have hDl : D.length = W.length - k * p := by rw [← HD.out, List.length_drop]
  have hget : ∀ n, D[n]? = W[k * p + n]? := fun n => by rw [← HD.out, List.getElem?_drop]
  have HDW := Lib.hid hDw
  have HDL := Lib.hid hDl
  have HG := Lib.hid hget
  clear hDw hDl hget hw
  go_enter Try.func35, Try.ntmps35
  go_wp2
  go_loop [5, 6] (fun s i => ∃ n j : Nat, n ≤ p ∧ Aside (j = k * p + n) ∧ j ≤ 20000000 ∧ n ≤ D.length ∧ s = .int .i64 (D.take n).sum ∧ i = .int .i64 j) (fun _ i => (k * p + p) - (intOf i).toNat)
  case atStart => exact ⟨0, k * p, Nat.zero_le _, (show _ = _ from rfl), by omega, Nat.zero_le _, rfl, by rw [Int.natCast_mul]⟩
  case round =>
    obtain ⟨n, j, hn, J, hj, hnD, rfl, rfl⟩ := hrel
    have hbd := P56.sum_take_bd HDW.out n (by have := HDL.out; omega)
    by_cases h1 : n < p
    · have g1 : (j : Int) < ((k : Int) + 1) * (p : Int) := by have := J.out; have := E4.out; rw [this, J.out, Int.natCast_add, Int.natCast_mul]; omega
      by_cases h2 : n < D.length
      · obtain ⟨x, hx⟩ := get_of_lt h2
        obtain ⟨b, off, rfl, hb, hc⟩ := hr j x (by rw [J.out, ← HG.out]; exact hx)
        have hx0 := HDW.out x (List.mem_of_getElem? hx)
        have g2 : (j : Int) < (W.length : Int) := by have := HDL.out; have := J.out; omega
        have HX := Lib.hid (P56.sum_take_step hx)
        have hnn : (0 : Int) ≤ (j : Int) := by omega
        clear hx hr
        go_wp2
        go_round
        case rel => exact ⟨n + 1, j + 1, by omega, (show _ = _ from by rw [J.out]; omega), by have := J.out; omega, by omega, by rw [HX.out], by go_num⟩
        case measure => have := J.out; simp [intOf]; omega
      · have g2 : (W.length : Int) ≤ (j : Int) := by have := HDL.out; have := J.out; omega
        clear hr
        go_wp2
        go_ret
        refine ⟨ret_int ?_, by (repeat (first | with_reducible exact Since.refl _ | with_reducible assumption | with_reducible refine Since.alloc ?_ _ | with_reducible refine Since.drew ?_ | with_reducible refine Since.drewN ?_ _ | (with_reducible refine Since.setCell ?_ ?_ _; rotate_left; (first | (dsimp only; omega) | (simp; done) | (simp; omega))) | with_reducible refine Since.trans ?_ (by with_reducible assumption)))⟩
        rw [List.take_of_length_le (show D.length ≤ n by omega), List.take_of_length_le (show D.length ≤ p by omega)]
    · have g1 : ((k : Int) + 1) * (p : Int) ≤ (j : Int) := by have := J.out; have := E4.out; rw [this, J.out, Int.natCast_add, Int.natCast_mul]; omega
      clear hr
      go_wp2
      go_ret
      refine ⟨ret_int ?_, by (repeat (first | with_reducible exact Since.refl _ | with_reducible assumption | with_reducible refine Since.alloc ?_ _ | with_reducible refine Since.drew ?_ | with_reducible refine Since.drewN ?_ _ | (with_reducible refine Since.setCell ?_ ?_ _; rotate_left; (first | (dsimp only; omega) | (simp; done) | (simp; omega))) | with_reducible refine Since.trans ?_ (by with_reducible assumption)))⟩
      rw [show n = p from by omega]
end Go.Proofs.Ytfjelofpahcfpaa
