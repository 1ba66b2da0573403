/- Texts of this seat, one behind the other: Ko Kp Chunk Pl3 Ql1 Pl4 Pl5 Pl6 Search Pl7 Ql2 Ql3 Ql4 Ql5 Ql6 Ql7 Qs Kq Kr Ks Kt Ku Kv Kw Ark. -/
import Derived.RangeFuncBox
import Derived.RangeFuncLeaves
import Derived.RangeFuncNested
import Derived.RangeFuncBound
import Derived.RangeFuncCalls
import Derived.Shelf.Abstract
import Derived.Shelf.RegionOpen
import Derived.WalkKit
import Derived.OwnWalkIn
import Derived.TacticsInMore
import Derived.LoopNIn
import Derived.LoopIn
import Derived.BigRegionIn
import Derived.Deep.RegionLaw
import Derived.StillTactics
import Derived.Laws.Pointers
import Derived.Laws.EntriesVeiled
import Derived.Test.YtabfhoipclbeeaaQRK3d
set_option linter.unusedSimpArgs false
set_option linter.unusedVariables false
set_option linter.unusedSectionVars false
set_option maxRecDepth 3000
/- The reference's Encode. -/
namespace Go.Proofs.Ytabfhoipclbeeaa
open Go.RowKit Go.Shelf C55 K57
theorem enc_rg {c : Ce} (hc : chkE c = 0) : (∀ x ∈ c.A.V, 0 ≤ x ∧ x ≤ 9007199254740991) ∧ (∀ x ∈ c.S.V, 0 ≤ x ∧ x ≤ 9007199254740991) ∧ (0 ≤ c.B ∧ c.B ≤ 9007199254740991) ∧ (putsL c.A.V).length ≤ 40000 ∧ (putsL c.S.V).length ≤ 40000 := by
  obtain ⟨hb, hB⟩ := chk_bok hc
  have hP := hb.num
  have htr := hb.tr
  have hA1 := hb.A.l1
  have hS1 := hb.S.l1
  have htr0 : 0 ≤ tr c := (rch_bd hb.S (x := most c) (by have := most_rg hb.A ⟨hP.1, hP.2.1⟩; omega) (fun e => by
    have := fpos_le c.S.V (most c)
    rcases Nat.lt_or_ge (fpos c.S.V (most c)) c.S.V.length with h | h
    · exact h
    · have hnv := hb.nv
      unfold never at hnv
      rw [decide_eq_true (by omega), decide_eq_true e] at hnv
      cases hnv)).1
  have vA : ∀ x ∈ c.A.V, 0 ≤ x ∧ x ≤ 9007199254740991 := fun x hx => by have := hb.A.v x hx; omega
  have vS : ∀ x ∈ c.S.V, 0 ≤ x ∧ x ≤ 9007199254740991 := fun x hx => by have := hb.S.v x hx; omega
  refine ⟨vA, vS, by unfold bndV at hB; omega, ?_, ?_⟩
  · have h1 := puts_len8 (n := c.A.V.length) (by omega)
    have h2 := flat_len8 vA
    unfold putsL
    rw [List.length_append]
    omega
  · have h1 := puts_len8 (n := c.S.V.length) (by omega)
    have h2 := flat_len8 vS
    unfold putsL
    rw [List.length_append]
    omega
end Go.Proofs.Ytabfhoipclbeeaa


/- slices.Chunk at slices of int: the function that it returns calls yield with one part after another. -/
namespace Go.Proofs.Ytabfhoipclbeeaa
open Go.RowKit Go.Shelf
attribute [local go_sem] Oper.semAt_some
namespace Chunk
/-- Part k of a slice of len elements at b, off; p elements each. -/
def cpart (b off len p k : Nat) : Value := .slice (some ⟨b, off + k * p, none⟩) (min p (len - k * p)) (min p (len - k * p))
/-- What a round keeps: what lay below n₀, and the two boxes. -/
def Kept (n₀ Bs Bp : Nat) (W W' : World) : Prop := Below n₀ W W' ∧ W'.cell? ⟨Bs, 0, none⟩ = W.cell? ⟨Bs, 0, none⟩ ∧ W'.cell? ⟨Bp, 0, none⟩ = W.cell? ⟨Bp, 0, none⟩
theorem Kept.refl (n₀ Bs Bp : Nat) (W : World) : Kept n₀ Bs Bp W W := ⟨Below.refl _ _, rfl, rfl⟩
theorem Kept.trans {n₀ Bs Bp : Nat} {A B C : World} (h : Kept n₀ Bs Bp A B) (k : Kept n₀ Bs Bp B C) : Kept n₀ Bs Bp A C := ⟨h.1.trans k.1, k.2.1.trans h.2.1, k.2.2.trans h.2.2⟩
theorem Kept.drew {n₀ Bs Bp : Nat} {A B : World} (h : Kept n₀ Bs Bp A B) : Kept n₀ Bs Bp A B.drew := ⟨h.1.drew, h.2.1, h.2.2⟩
theorem cell_putObj {W : World} {l b : Nat} (o : Obj) (h : b ≠ l) : (W.putObj l o).cell? ⟨b, 0, none⟩ = W.cell? ⟨b, 0, none⟩ :=
  World.cell?_of_block (World.putObj_heap_other (fun e => h e))
end Chunk
open Chunk
set_option maxRecDepth 100000 in
set_option maxHeartbeats 2000000 in
theorem chunk1_in (F : Fence) (n : Nat) (h7 : F.fn 132) (hro : F.round = none) (hn : 1 ≤ n) (l Bs Bp n₀ b off len cap p N : Nat) (hlen : len ≤ 4096) (hp0 : 1 ≤ p) (hp : p ≤ 4096) (hN : N = (len + p - 1) / p) (hcap : len ≤ cap) (J Jx : List Nat → World → Prop)
    (hY : ∀ pre x W, J pre W → pre.length < N → YieldAt F (n - 1) Try.prog l #[cpart b off len p x] W fun e W' =>
      (e = .returned (.bool true) ∧ J (pre ++ [x]) W' ∧ Chunk.Kept n₀ Bs Bp W W') ∨ (e = .returned (.bool false) ∧ Jx (pre ++ [x]) W'))
    (hJd : ∀ pre W, J pre W → J pre W.drew)
    (W : World) (hBs : W.cell? ⟨Bs, 0, none⟩ = some (.slice (some ⟨b, off, none⟩) len cap)) (hBp : W.cell? ⟨Bp, 0, none⟩ = some (.int .i64 p)) (h0 : J [] W) :
    CallsIn F n Try.prog 132 #[.func (.yield l) #[] #[], .pointer (some ⟨Bs, 0, none⟩), .pointer (some ⟨Bp, 0, none⟩)] W fun e W' => (∃ v, e = .returned v) ∧
      ((∃ ys, ys = List.range N ∧ J ys W') ∨ (∃ pre, (∃ k, k ≤ N ∧ pre = List.range k) ∧ Jx pre W')) := by
  refine callsIn_of_wp Try.func132 rfl h7 ?_ hro
  simp only [Try.ntmps132, List.size_toArray, List.length_cons, List.length_nil, Nat.reduceAdd, Nat.reduceSub, Array.replicate_succ, Array.replicate_zero, List.push_toArray, List.append_toArray, List.nil_append, List.cons_append]
  gi_wp2
  gi_loopw [4] (fun i wr => ∃ k : Nat, k ≤ N ∧ i = .int .i64 ((k * p : Nat) : Int) ∧ J (List.range k) wr ∧ Chunk.Kept n₀ Bs Bp W wr)
    (fun i _ => len - (intOf i).toNat)
  case atStart => exact ⟨0, Nat.zero_le _, by simp, h0, Chunk.Kept.refl _ _ _ _⟩
  case round =>
    obtain ⟨k, hk, rfl, hJs, hnx⟩ := hrel
    have hc1 : wr.cell? ⟨Bs, 0, none⟩ = some (.slice (some ⟨b, off, none⟩) len cap) := hnx.2.1.trans hBs
    have hc2 : wr.cell? ⟨Bp, 0, none⟩ = some (.int .i64 p) := hnx.2.2.trans hBp
    by_cases hlt : k < N
    · have hql : k * p < len := by
        have h1 : k + 1 ≤ (len + p - 1) / p := by omega
        have h2 := (Nat.le_div_iff_mul_le (by omega)).1 h1
        rw [Nat.succ_mul] at h2
        omega
      have hsucc : (k + 1) * p = k * p + p := Nat.succ_mul _ _
      have hpart : cpart b off len p k = .slice (some ⟨b, off + k * p, none⟩) (min p (len - k * p)) (min p (len - k * p)) := rfl
      have hps : List.range (k + 1) = List.range k ++ [k] := List.range_succ
      have HJS := Lib.hid hJs
      have hYk := hY _ k wr.drew (hJd _ _ HJS.out) (by rw [List.length_range]; exact hlt)
      rw [hpart] at hYk
      clear hY hJs hpart
      generalize k * p = q at *
      obtain ⟨e, he⟩ : ∃ e, min p (len - q) = e := ⟨_, rfl⟩
      rw [he] at hYk
      have HPS := Lib.hid hps
      clear hps
      have hqz : (q : Int) < (len : Int) := by omega
      have hmin : (if (p : Int) < (len : Int) - (q : Int) then (p : Int) else (len : Int) - (q : Int)) = (e : Int) := by split <;> omega
      have hmin2 : (if (len : Int) - (q : Int) < (p : Int) then (len : Int) - (q : Int) else (p : Int)) = (e : Int) := by split <;> omega
      have hmin3 : (if len - q < p then ((len - q : Nat) : Int) else (p : Int)) = (e : Int) := by split <;> omega
      have heq : q + e ≤ len := by omega
      obtain ⟨fn, tmps, assign, body, hy, hR⟩ := hYk
      clear he hmin hmin2
      gi_wp2
      gi_region
      all_goals gi_wp2
      all_goals
        refine hR.mono ?_
        rintro e2 W3 (⟨rfl, hJ3, hk3⟩ | ⟨rfl, hJx3⟩)
        · have hc3 : W3.cell? ⟨Bp, 0, none⟩ = some (.int .i64 p) := hk3.2.2.trans hc2
          have HJ3 := Lib.hid hJ3
          have HK3 := Lib.hid (hnx.drew.trans hk3)
          clear hJ3 hk3
          gi_wp2
          go_roundw
          case rel => exact ⟨k + 1, by omega, by rw [hsucc]; go_num, by rw [HPS.out]; exact HJ3.out, HK3.out⟩
          case measure => simp [intOf]; omega
        · gi_wp2
          refine bodyPost_ret (results_none rfl _ _ _) rfl ?_
          exact ⟨⟨_, rfl⟩, .inr ⟨_, ⟨k + 1, by omega, HPS.out.symm⟩, hJx3⟩⟩
    · have hkN : k = N := by omega
      have hql : ¬ k * p < len := by
        rw [hkN, hN]
        have h2 : (len + p - 1) / p + 1 > (len + p - 1) / p := by omega
        have h3 := (Nat.div_lt_iff_lt_mul (show 0 < p by omega)).1 h2
        rw [Nat.succ_mul] at h3
        omega
      rw [hkN] at hJs
      have HJ := Lib.hid hJs
      clear hJs hN
      generalize k * p = q at *
      have hqz : ¬ (q : Int) < (len : Int) := by omega
      gi_wp2
      go_end0
      exact ⟨⟨_, rfl⟩, .inl HJ.out⟩
set_option maxHeartbeats 1000000 in
/-- No round at an empty slice. -/
theorem chunk1_nil_in (F : Fence) (n : Nat) (h7 : F.fn 132) (hro : F.round = none) (l Bs Bp cap : Nat) (a : Option Addr) (J : List Nat → World → Prop) (W : World) (hBs : W.cell? ⟨Bs, 0, none⟩ = some (.slice a 0 cap)) (h0 : J [] W) :
    CallsIn F n Try.prog 132 #[.func (.yield l) #[] #[], .pointer (some ⟨Bs, 0, none⟩), .pointer (some ⟨Bp, 0, none⟩)] W fun e W' => (∃ v, e = .returned v) ∧ J [] W' := by
  refine callsIn_of_wp Try.func132 rfl h7 ?_ hro
  simp only [Try.ntmps132, List.size_toArray, List.length_cons, List.length_nil, Nat.reduceAdd, Nat.reduceSub, Array.replicate_succ, Array.replicate_zero, List.push_toArray, List.append_toArray, List.nil_append, List.cons_append]
  gi_wp2
  gi_loopw [4] (fun i wr => i = .int .i64 0 ∧ J [] wr ∧ wr = W) (fun _ _ => 0)
  case atStart => exact ⟨rfl, h0, rfl⟩
  case round =>
    obtain ⟨rfl, hJs, rfl⟩ := hrel
    gi_wp2
    go_end0
    exact ⟨⟨_, rfl⟩, hJs⟩
set_option maxHeartbeats 1000000 in
/-- slices.Chunk: both arguments are boxed; the function value captures the boxes. -/
theorem chunk_in (F : Fence) (n : Nat) (h5 : F.fn 128) (hro : F.round = none) (a : Option Addr) (len cap p : Nat) (hp0 : 1 ≤ p) (w : World) :
    CallsIn F n Try.prog 128 #[.slice a len cap, .int .i64 p] w fun e w' => e = .returned (.func (.func 132) #[] #[.pointer (some ⟨w.heap.size, 0, none⟩), .pointer (some ⟨w.heap.size + 1, 0, none⟩)]) ∧ w' = (w.alloc (.cells #[.slice a len cap] 22)).alloc (.cells #[.int .i64 p] 3) := by
  have hpz : ¬ (p : Int) < 1 := by omega
  refine callsIn_of_wp Try.func128 rfl h5 ?_ hro
  simp only [Try.ntmps128, List.size_toArray, List.length_cons, List.length_nil, Nat.reduceAdd, Nat.reduceSub, Array.replicate_succ, Array.replicate_zero, List.push_toArray, List.append_toArray, List.nil_append, List.cons_append]
  gi_wp2
  go_ret
  exact ⟨rfl, rfl⟩
/-- What slices.Chunk returns calls yield with all parts, or with the first ones. -/
theorem chunk_stops (F : Fence) (n : Nat) (h7 : F.fn 132) (hro : F.round = none) (hn : 1 ≤ n) (Bs Bp n₀ b off len cap p N : Nat) (hlen : len ≤ 4096) (hp0 : 1 ≤ p) (hp : p ≤ 4096) (hN : N = (len + p - 1) / p) (hcap : len ≤ cap)
    (w : World) (hbs : Bs < w.heap.size) (hbp : Bp < w.heap.size) (hBs : w.cell? ⟨Bs, 0, none⟩ = some (.slice (some ⟨b, off, none⟩) len cap)) (hBp : w.cell? ⟨Bp, 0, none⟩ = some (.int .i64 p)) :
    SeqStopsK F n Try.prog 132 #[.pointer (some ⟨Bs, 0, none⟩), .pointer (some ⟨Bp, 0, none⟩)] (fun k : Nat => #[cpart b off len p k]) (Chunk.Kept n₀ Bs Bp) (fun ys => ys = List.range N) (fun pre => ∃ k, k ≤ N ∧ pre = List.range k) N w := fun l J Jx W hW hJ _ hY h0 =>
  chunk1_in F n h7 hro hn l Bs Bp n₀ b off len cap p N hlen hp0 hp hN hcap J Jx hY
    (fun pre W hj => hJ pre W W.drew none hj ⟨rfl, rfl, rfl, Nat.le_refl _, fun _ _ _ => rfl⟩ (fun r e => by cases e)) W
    ((hW.cell (p := ⟨Bs, 0, none⟩) hbs).trans hBs) ((hW.cell (p := ⟨Bp, 0, none⟩) hbp).trans hBp) h0
/-- Part k, wherever the slice lies. -/
def apart (a : Option Addr) (len p k : Nat) : Value := match a with | some d => Chunk.cpart d.block d.off len p k | none => .slice none 0 0
/-- The contract of slices.Chunk's function at a slice that can be read. -/
theorem chunk_reads (F : Fence) (n : Nat) (h7 : F.fn 132) (hro : F.round = none) (hn : 1 ≤ n) (Bs Bp n₀ cap p : Nat) (a : Option Addr) (l : List Int) (hlen : l.length ≤ 4096) (hp0 : 1 ≤ p) (hp : p ≤ 4096) (hcap : l.length ≤ cap)
    (w0 w : World) (hbs : Bs < w.heap.size) (hbp : Bp < w.heap.size) (hr : Reads (Value.int .i64) w0 a l) (hBs : w.cell? ⟨Bs, 0, none⟩ = some (.slice a l.length cap)) (hBp : w.cell? ⟨Bp, 0, none⟩ = some (.int .i64 p)) :
    SeqStopsK F n Try.prog 132 #[.pointer (some ⟨Bs, 0, none⟩), .pointer (some ⟨Bp, 0, none⟩)] (fun k : Nat => #[apart a l.length p k]) (Chunk.Kept n₀ Bs Bp) (fun ys => ys = List.range ((l.length + p - 1) / p)) (fun pre => ∃ k, k ≤ ((l.length + p - 1) / p) ∧ pre = List.range k) ((l.length + p - 1) / p) w := by
  by_cases h0 : l.length = 0
  · intro lp J Jx W hW hJ _ hY hj
    rw [h0] at hBs
    refine (chunk1_nil_in F n h7 hro lp Bs Bp cap a J W ((hW.cell (p := ⟨Bs, 0, none⟩) hbs).trans hBs) hj).mono ?_
    rintro e W' ⟨he, hJ'⟩
    refine ⟨he, .inl ⟨_, rfl, ?_⟩⟩
    rw [h0, show (0 + p - 1) / p = 0 from Nat.div_eq_of_lt (by omega)]
    exact hJ'
  · obtain ⟨x, hx⟩ := get_of_lt (l := l) (i := 0) (by omega)
    obtain ⟨b, off, rfl, hb, hc⟩ := hr 0 x hx
    exact chunk_stops F n h7 hro hn Bs Bp n₀ b off l.length cap p _ hlen hp0 hp rfl hcap w hbs hbp hBs hBp
end Go.Proofs.Ytabfhoipclbeeaa


/- Same, Few, fewPlan, and the reference's Size and finish: what each call returns. -/
namespace Go.Proofs.Ytabfhoipclbeeaa
open Go.RowKit Go.Shelf

/-- The value v is the plan p, in memory. -/
def IsPl (w : World) (v : Value) (p : P56.Pl) : Prop :=
  ∃ a1 a2 a3 a4 c1 c2 c3 c4, v = .agg #[.slice a1 p.close.length c1, .slice a2 p.start.length c2, .slice a3 p.fin.length c3, .slice a4 p.applied.length c4, .int .i64 p.bound] ∧
    Reads (Value.int .i64) w a1 p.close ∧ Reads (Value.int .i64) w a2 p.start ∧ Reads (Value.int .i64) w a3 p.fin ∧ Reads (Value.int .i64) w a4 p.applied ∧
    p.close.length ≤ 9223372036854775807 ∧ p.start.length ≤ 9223372036854775807 ∧ p.fin.length ≤ 9223372036854775807 ∧ p.applied.length ≤ 9223372036854775807
theorem IsPl.since {w w' : World} {v : Value} {p : P56.Pl} (h : IsPl w v p) (hs : Since w w') : IsPl w' v p := by
  obtain ⟨a1, a2, a3, a4, c1, c2, c3, c4, h1, h2, h3, h4, h5, h6⟩ := h
  exact ⟨a1, a2, a3, a4, c1, c2, c3, c4, h1, h2.since hs, h3.since hs, h4.since hs, h5.since hs, h6⟩
end Go.Proofs.Ytabfhoipclbeeaa


/- The planner: bound. -/
namespace Go.Proofs.Ytabfhoipclbeeaa
open Go.RowKit Go.Shelf
def bdL (A C : List Int) : Nat → Int
  | 0 => 0
  | k + 1 => max (if k = 0 ∨ A.getD (k - 1) 0 < A.getD k 0 then max (bdL A C k) (A.getD k 0 - 1 - (if k = 0 then 0 else C.getD (k - 1) 0)) else bdL A C k) (A.getD k 0 - C.getD k 0)
theorem getD_bd {A : List Int} {m : Int} (hm : 0 ≤ m) (hA : ∀ x ∈ A, 0 ≤ x ∧ x ≤ m) (k : Nat) : 0 ≤ A.getD k 0 ∧ A.getD k 0 ≤ m := by
  rw [List.getD_eq_getElem?_getD]
  cases h : A[k]? with
  | none => simp [hm]
  | some x => exact hA x (List.mem_of_getElem? h)
theorem getD_get {A : List Int} {k : Nat} {x : Int} (h : A[k]? = some x) : A.getD k 0 = x := by rw [List.getD_eq_getElem?_getD, h]; rfl
theorem bdL_bd {A C : List Int} (hA : ∀ x ∈ A, 0 ≤ x ∧ x ≤ 100000000000000) (hC : ∀ x ∈ C, 0 ≤ x ∧ x ≤ 100000000000000) (k : Nat) : 0 ≤ bdL A C k ∧ bdL A C k ≤ 100000000000000 := by
  have gA := getD_bd (by decide) hA
  have gC := getD_bd (by decide) hC
  induction k with
  | zero => simp [bdL]
  | succ k ih =>
    have h1 := gA k; have h2 := gC k; have h3 := gC (k - 1)
    unfold bdL
    have e1 : 0 ≤ (if k = 0 then 0 else C.getD (k - 1) 0) := by split <;> omega
    generalize (if k = 0 then 0 else C.getD (k - 1) 0) = q at *
    have e2 : 0 ≤ (if k = 0 ∨ A.getD (k - 1) 0 < A.getD k 0 then max (bdL A C k) (A.getD k 0 - 1 - q) else bdL A C k) ∧ (if k = 0 ∨ A.getD (k - 1) 0 < A.getD k 0 then max (bdL A C k) (A.getD k 0 - 1 - q) else bdL A C k) ≤ 100000000000000 := by split <;> omega
    omega
def clL (C : List Int) (k : Nat) : Int := if k = 0 then 0 else C.getD (k - 1) 0
theorem clL_succ {C : List Int} {k : Nat} {y : Int} (hy : C[k]? = some y) : y = clL C (k + 1) := by simp [clL, hy]
theorem clL_bd {C : List Int} {m : Int} (hm : 0 ≤ m) (hC : ∀ x ∈ C, 0 ≤ x ∧ x ≤ m) (k : Nat) : 0 ≤ clL C k ∧ clL C k ≤ m := by unfold clL; split; omega; exact getD_bd hm hC _
theorem bdL_yes {A C : List Int} {k : Nat} {x y : Int} (hx : A[k]? = some x) (hy : C[k]? = some y) (h : k = 0 ∨ A.getD (k - 1) 0 < x) : max (max (bdL A C k) (x - 1 - clL C k)) (x - y) = bdL A C (k + 1) := by
  rw [bdL, getD_get hx, getD_get hy, if_pos h]; rfl
theorem bdL_no {A C : List Int} {k : Nat} {x y : Int} (hx : A[k]? = some x) (hy : C[k]? = some y) (h : ¬ (k = 0 ∨ A.getD (k - 1) 0 < x)) : max (bdL A C k) (x - y) = bdL A C (k + 1) := by
  rw [bdL, getD_get hx, getD_get hy, if_neg h]
theorem isPl_open {own : Nat → Prop} {w : World} {v : Value} {p : P56.Pl} (h : Has own w (IsPl · v p)) : ∃ a1 a2 a3 a4 c1 c2 c3 c4, v = .agg #[.slice a1 p.close.length c1, .slice a2 p.start.length c2, .slice a3 p.fin.length c3, .slice a4 p.applied.length c4, .int .i64 p.bound] ∧
    Has own w (RdF (Value.int .i64) a1 p.close) ∧ Has own w (RdF (Value.int .i64) a2 p.start) ∧ Has own w (RdF (Value.int .i64) a3 p.fin) ∧ Has own w (RdF (Value.int .i64) a4 p.applied) ∧
    p.close.length ≤ 9223372036854775807 ∧ p.start.length ≤ 9223372036854775807 ∧ p.fin.length ≤ 9223372036854775807 ∧ p.applied.length ≤ 9223372036854775807 := by
  obtain ⟨a1, a2, a3, a4, c1, c2, c3, c4, hv, -, -, -, -, h5⟩ := h.get
  have key : ∀ w', IsPl w' v p → Reads (Value.int .i64) w' a1 p.close ∧ Reads (Value.int .i64) w' a2 p.start ∧ Reads (Value.int .i64) w' a3 p.fin ∧ Reads (Value.int .i64) w' a4 p.applied := by
    rintro w' ⟨b1, b2, b3, b4, d1, d2, d3, d4, e, q1, q2, q3, q4, -⟩
    rw [hv] at e
    simp only [Value.agg.injEq, Array.mk.injEq, List.cons.injEq, Value.slice.injEq, true_and, and_true] at e
    obtain ⟨⟨rfl, -⟩, ⟨rfl, -⟩, ⟨rfl, -⟩, rfl, -⟩ := e
    exact ⟨q1, q2, q3, q4⟩
  exact ⟨a1, a2, a3, a4, c1, c2, c3, c4, hv, h.imp fun w' k => (key w' k).1, h.imp fun w' k => (key w' k).2.1, h.imp fun w' k => (key w' k).2.2.1, h.imp fun w' k => (key w' k).2.2.2, h5⟩
set_option maxHeartbeats 1000000 in
theorem bound_any (p : P56.Pl) (v : Value) (own : Nat → Prop) (w : World) (hl : ∀ b, own b → b < w.heap.size) (hv : Has own w (IsPl · v p)) (hlen : p.close.length = p.applied.length) (hlen2 : p.applied.length ≤ 4096)
    (hA : ∀ x ∈ p.applied, 0 ≤ x ∧ x ≤ 100000000000000) (hC : ∀ x ∈ p.close, 0 ≤ x ∧ x ≤ 100000000000000) :
    Calls Try.prog 112 ⟨[v]⟩ w (Ret w fun u _ => u = .int .i64 (bdL p.applied p.close p.applied.length)) := by
  obtain ⟨a1, a2, a3, a4, c1, c2, c3, c4, rfl, r1, -, -, r4, l1, l2, l3, l4⟩ := isPl_open hv
  have hM := ((Mm.start hl).known r1).known r4
  refine f_start Try.func112 rfl Try.ntmps112 rfl rfl ?_; intro a hF
  (repeat (first | (with_reducible refine w_seq ?_) | (with_reducible refine c_region ?_) | (with_reducible refine s_nil ?_) | (with_reducible refine q_then_n ?_) | ((with_reducible apply s_pure hF); exact rfl; exact rfl; exact rfl; (first | exact trivial | omega | exact ⟨Int.natCast_nonneg _, Int.ofNat_lt.2 (by assumption)⟩ | decide); clear hF a; intro a hF) | ((with_reducible apply s_load hF hM); exact rfl; exact rfl; (repeat (first | exact List.mem_cons_self | refine List.mem_cons_of_mem _ ?_)); exact rfl; exact rfl; clear hF a; intro a hF) | ((with_reducible apply s_box hF hM); exact rfl; exact rfl; exact rfl; exact rfl; clear hF hM a; intro b w a hM hF) | (with_reducible refine w_block ?_)))
  refine c_loop (m := p.applied.length) (fun m a w' => ∃ k : Nat, m + k = p.applied.length ∧ Fr _ [] [(3, .int .i64 (bdL p.applied p.close k)), (4, .int .i64 (clL p.close k)), (10, .int .i64 k), (9, .int .i64 (p.applied.length : Int)), (8, .slice a4 p.applied.length c4), (1, .pointer (some ⟨b, 0, none⟩))] a ∧ Mm _ _ _ _ _ w') ⟨0, by omega, hF.sub (by repeat (first | exact Sub.nil | refine Sub.cons rfl (by first | with_reducible rfl | (refine congrArg (Value.int _) ?_; omega) | exact rfl) ?_)), hM⟩ ?_
  clear hF hM a
  rintro m a w' ⟨k, hk, hF, hM⟩
  have hb := bdL_bd hA hC k
  by_cases hlt : k < p.applied.length
  · obtain ⟨x, hx⟩ := get_of_lt hlt
    obtain ⟨y, hy⟩ := get_of_lt (l := p.close) (show k < p.close.length by omega)
    obtain ⟨ad, rfl⟩ := rd_some hM (by (repeat (first | exact List.mem_cons_self | refine List.mem_cons_of_mem _ ?_))) hx
    obtain ⟨ad1, rfl⟩ := rd_some hM (by (repeat (first | exact List.mem_cons_self | refine List.mem_cons_of_mem _ ?_))) hy
    have hxb := hA x (List.mem_of_getElem? hx)
    have hyb := hC y (List.mem_of_getElem? hy)
    have hcb := clL_bd (by decide) hC k
    obtain ⟨z, hz⟩ := get_of_lt (l := p.applied) (show k - 1 < p.applied.length by omega)
    have hz' : ¬ (k : Int) = 0 → p.applied[((k : Int) - 1).toNat]? = some z := fun _ => by rw [show ((k : Int) - 1).toNat = k - 1 by omega]; exact hz
    have hzz := getD_get hz
    by_cases hk0 : (k : Int) = 0
    · (repeat' (first | (with_reducible refine w_seq ?_) | (with_reducible refine c_region ?_) | (with_reducible refine s_nil ?_) | (with_reducible refine q_then_n ?_) | ((with_reducible apply s_pure hF); exact rfl; exact rfl; exact rfl; (first | exact trivial | omega | exact ⟨Int.natCast_nonneg _, Int.ofNat_lt.2 (by assumption)⟩ | decide); clear hF a; intro a hF) | ((with_reducible apply s_load hF hM); exact rfl; exact rfl; (repeat (first | exact List.mem_cons_self | refine List.mem_cons_of_mem _ ?_)); exact rfl; exact rfl; clear hF a; intro a hF) | ((with_reducible apply s_loadF hF hM); exact rfl; exact rfl; (repeat (first | exact List.mem_cons_self | refine List.mem_cons_of_mem _ ?_)); exact rfl; exact rfl; (first | with_reducible assumption | (simp only [Int.toNat_natCast]; with_reducible assumption)); clear hF a; intro a hF) | (with_reducible refine w_skip ?_) | (with_reducible refine w_block ?_) | (with_reducible refine q_blk_n ?_) | ((with_reducible apply c_true2 hF); exact rfl; (first | with_reducible rfl | (refine congrArg Value.bool ?_; focus (simp; done)))) | ((with_reducible apply s_skip hF); exact rfl; exact rfl; clear hF a; intro a hF) | ((fail_if_success ((with_reducible refine g_known true hF ?_ ?_); focus exact rfl)); (fail_if_success ((with_reducible refine g_known false hF ?_ ?_); focus exact rfl)); (with_reducible apply g_dec hF); exact rfl; exact rfl; all_goals (clear hF; intro hc hF); all_goals (try (exfalso; omega))) | ((with_reducible apply c_dec hF); exact rfl; all_goals intro hc; all_goals (try (exfalso; omega)))))
      exact ⟨m - 1, by omega, k + 1, by omega, hF.sub (by repeat (first | exact Sub.nil | refine Sub.cons rfl (by first | with_reducible rfl | (refine congrArg (Value.int _) ?_; omega) | (rw [bdL_yes hx hy (.inl (by omega))]) | (exact congrArg _ (clL_succ hy)) | exact rfl) ?_)), hM⟩
    · replace hz' := hz' hk0
      (repeat' (first | (with_reducible refine w_seq ?_) | (with_reducible refine c_region ?_) | (with_reducible refine s_nil ?_) | (with_reducible refine q_then_n ?_) | ((with_reducible apply s_pure hF); exact rfl; exact rfl; exact rfl; (first | exact trivial | omega | exact ⟨Int.natCast_nonneg _, Int.ofNat_lt.2 (by assumption)⟩ | decide); clear hF a; intro a hF) | ((with_reducible apply s_load hF hM); exact rfl; exact rfl; (repeat (first | exact List.mem_cons_self | refine List.mem_cons_of_mem _ ?_)); exact rfl; exact rfl; clear hF a; intro a hF) | ((with_reducible apply s_loadF hF hM); exact rfl; exact rfl; (repeat (first | exact List.mem_cons_self | refine List.mem_cons_of_mem _ ?_)); exact rfl; exact rfl; (first | with_reducible assumption | (simp only [Int.toNat_natCast]; with_reducible assumption)); clear hF a; intro a hF) | (with_reducible refine w_skip ?_) | (with_reducible refine w_block ?_) | (with_reducible refine q_blk_n ?_) | ((fail_if_success ((with_reducible refine g_known true hF ?_ ?_); focus exact rfl)); (fail_if_success ((with_reducible refine g_known false hF ?_ ?_); focus exact rfl)); (with_reducible apply g_dec hF); exact rfl; exact rfl; all_goals (clear hF; intro hc hF); all_goals (try (exfalso; omega))) | ((with_reducible apply c_dec hF); exact rfl; all_goals intro hc; all_goals (try (exfalso; omega)))))
      · exact ⟨m - 1, by omega, k + 1, by omega, hF.sub (by repeat (first | exact Sub.nil | refine Sub.cons rfl (by first | with_reducible rfl | (refine congrArg (Value.int _) ?_; omega) | (rw [bdL_yes hx hy (.inr (by omega))]) | (exact congrArg _ (clL_succ hy)) | exact rfl) ?_)), hM⟩
      · exact ⟨m - 1, by omega, k + 1, by omega, hF.sub (by repeat (first | exact Sub.nil | refine Sub.cons rfl (by first | with_reducible rfl | (refine congrArg (Value.int _) ?_; omega) | (rw [bdL_no hx hy (by omega)]) | (exact congrArg _ (clL_succ hy)) | exact rfl) ?_)), hM⟩
  · (repeat' (first | (with_reducible refine w_seq ?_) | (with_reducible refine c_region ?_) | (with_reducible refine s_nil ?_) | (with_reducible refine q_then_n ?_) | ((with_reducible apply s_pure hF); exact rfl; exact rfl; exact rfl; (first | exact trivial | omega | exact ⟨Int.natCast_nonneg _, Int.ofNat_lt.2 (by assumption)⟩ | decide); clear hF a; intro a hF) | (with_reducible refine w_exit ?_) | (with_reducible refine w_ret ?_) | (with_reducible refine q_then_x ?_) | (with_reducible refine q_blk_x ?_) | ((with_reducible apply c_dec hF); exact rfl; all_goals intro hc; all_goals (try (exfalso; omega)))))
    (apply f_ret Try.results112 hF hM; (repeat (first | exact RL.nil | (apply RL.tmp; exact rfl) | (apply RL.cell; exact rfl; (repeat (first | exact List.mem_cons_self | refine List.mem_cons_of_mem _ ?_)); exact rfl))); refine Ret.mk hM.since ?_; dsimp only [resV])
    rw [show k = p.applied.length by omega]
end Go.Proofs.Ytabfhoipclbeeaa


/- The reference's finish: the end of a transfer. -/
namespace Go.Proofs.Ytabfhoipclbeeaa
open Go.RowKit Go.Shelf
theorem ret_ib {a b : Int} {x y : Bool} (h : a = b) (k : x = y) : Ending.returned (.tuple #[.int .i64 a, .bool x]) = Ending.returned (.tuple #[.int .i64 b, .bool y]) := by rw [h, k]
end Go.Proofs.Ytabfhoipclbeeaa


/- The reference's Plan. -/
namespace Go.Proofs.Ytabfhoipclbeeaa
open Go.RowKit Go.Shelf
attribute [local go_sem ↓] Go.wp_at_zero Go.wp_at_succ
/-- The empty plan, in cells. -/
theorem isPl_none (w : World) : IsPl w (.agg #[.slice none 0 0, .slice none 0 0, .slice none 0 0, .slice none 0 0, .int .i64 0]) P56.none :=
  ⟨none, none, none, none, 0, 0, 0, 0, rfl, Reads.nil _ _ _, Reads.nil _ _ _, Reads.nil _ _ _, Reads.nil _ _ _, by decide, by decide, by decide, by decide⟩
theorem isPl_lists {t : P56.Tr} {n : Nat} {b : Int} {w : World} {a1 a2 a3 a4 : Option Addr} {c1 c2 c3 c4 : Nat} (q1 : Reads (Value.int .i64) w a1 (P56.cls t n)) (q2 : Reads (Value.int .i64) w a2 (P56.sts t n))
    (q3 : Reads (Value.int .i64) w a3 (P56.ens t n)) (q4 : Reads (Value.int .i64) w a4 (P56.aps t n)) (hn : n ≤ 4096) : IsPl w (.agg #[.slice a1 n c1, .slice a2 n c2, .slice a3 n c3, .slice a4 n c4, .int .i64 b]) (P56.lists t n b) := by
  have e1 := P56.cls_length t n
  have e2 := P56.sts_length t n
  have e3 := P56.ens_length t n
  have e4 := P56.aps_length t n
  refine ⟨a1, a2, a3, a4, c1, c2, c3, c4, ?_, q1, q2, q3, q4, ?_, ?_, ?_, ?_⟩
  · rw [P56.lists_eq]; simp only [e1, e2, e3, e4]
  all_goals (rw [P56.lists_eq]; simp only [e1, e2, e3, e4]; omega)
end Go.Proofs.Ytabfhoipclbeeaa


/- The planner's carrier: newCarrier and before. -/
namespace Go.Proofs.Ytabfhoipclbeeaa
open Go.RowKit Go.Shelf
attribute [local go_sem ↓] Go.wp_at_zero Go.wp_at_succ
namespace Car
/-- The sums of the first capacities. -/
def sums (C : List Int) (k : Nat) : List Int := (List.range (k + 1)).map fun j => (C.take j).sum
theorem sums_succ (C : List Int) (k : Nat) : sums C (k + 1) = sums C k ++ [(C.take (k + 1)).sum] := by simp [sums, List.range_succ]
theorem sums_get (C : List Int) {k j : Nat} (h : j ≤ k) : (sums C k)[j]? = some (C.take j).sum := by
  rw [sums, List.getElem?_map, List.getElem?_range (by omega)]; rfl
theorem last_step {C : List Int} {k : Nat} {x : Int} (h : C[k]? = some x) : (C.take (k + 1)).getLastD 0 = x := by
  rw [List.take_add_one, h]; simp
end Car
/-- The value points to a carrier of the link C. -/
def IsCar (w : World) (v : Value) (C : List Int) : Prop :=
  ∃ b a c, v = .pointer (some ⟨b, 0, none⟩) ∧ Box w b #[.slice a (C.length + 1) c, .int .i64 (P56.last C)] 158 ∧ Reads (Value.int .i64) w a (Car.sums C C.length)
theorem IsCar.since {w w' : World} {v : Value} {C : List Int} (h : IsCar w v C) (hs : Since w w') : IsCar w' v C := by
  obtain ⟨b, a, c, h1, h2, h3⟩ := h
  exact ⟨b, a, c, h1, h2.since hs, h3.since hs⟩
theorem Car.carr_small {C : List Int} {t : Nat} (h : t ≤ C.length) : (C.take t).sum = P56.carr C t := by
  unfold P56.carr; rw [show t - C.length = 0 from by omega]; simp
theorem Car.carr_big {C : List Int} {t : Nat} (h : C.length ≤ t) : (C.take C.length).sum + ((t : Int) - (C.length : Int)) * P56.last C = P56.carr C t := by
  unfold P56.carr; rw [List.take_of_length_le (Nat.le_refl _), List.take_of_length_le h, Int.ofNat_sub h]
set_option maxHeartbeats 1000000 in
theorem before_any (C : List Int) (v : Value) (t : Nat) (w : World) (hv : IsCar w v C) (hl : C.length ≤ 4096) (hC : ∀ x ∈ C, 0 ≤ x ∧ x ≤ 4096) (ht : t ≤ 1000000000000) :
    Calls Try.prog 113 #[v, .int .i64 t] w fun e w' => e = .returned (.int .i64 (P56.carr C t)) ∧ Since w w' := by
  obtain ⟨b, a, c, rfl, hb, hr⟩ := hv
  have HCB := Lib.hid (P56.carr_bd hC t)
  have hlast := P56.last_nonneg hC
  have rb := hb.rules
  by_cases hle : t ≤ C.length
  · obtain ⟨b1, o1, rfl, hb1, hc1⟩ := hr t _ (Car.sums_get C hle)
    rw [← Car.carr_small hle]
    have hlez : (t : Int) ≤ (C.length : Int) := by omega
    clear hr hb hC
    go_enter Try.func113, Try.ntmps113
    go_wp2
    go_ret
    exact ⟨rfl, Since.refl _⟩
  · obtain ⟨b1, o1, rfl, hb1, hc1⟩ := hr C.length _ (Car.sums_get C (Nat.le_refl _))
    have hbig := Car.carr_big (C := C) (t := t) (by omega)
    have hsb := P56.sum_take_bd hC C.length hl
    have hlez : ¬ (t : Int) ≤ (C.length : Int) := by omega
    have hprod : 0 ≤ ((t : Int) - (C.length : Int)) * P56.last C ∧ ((t : Int) - (C.length : Int)) * P56.last C ≤ 4096000000000000 := by
      constructor
      · exact Int.mul_nonneg (by omega) hlast.1
      · have h1 := Int.mul_le_mul_of_nonneg_left hlast.2 (show 0 ≤ (t : Int) - (C.length : Int) by omega)
        omega
    generalize (C.take C.length).sum = S at hc1 hbig hsb
    have HBIG := Lib.hid hbig
    clear hr hb hC hbig
    go_enter Try.func113, Try.ntmps113
    go_wp2_with (first | go_quiet (fail))
    go_ret
    exact ⟨ret_int HBIG.out, by (repeat (first | with_reducible exact Since.refl _ | with_reducible assumption | with_reducible refine Since.alloc ?_ _ | with_reducible refine Since.drew ?_ | with_reducible refine Since.drewN ?_ _ | (with_reducible refine Since.setCell ?_ ?_ _; rotate_left; (first | (dsimp only; omega) | (simp; done) | (simp; omega))) | with_reducible refine Since.trans ?_ (by with_reducible assumption)))⟩
end Go.Proofs.Ytabfhoipclbeeaa


/- sort.Search with a function that only makes new memory. -/
namespace Go.Proofs.Ytabfhoipclbeeaa
open Go.RowKit Go.Shelf
/-- r is the first place below n at which p holds; n if there is none; from there on p holds. -/
structure IsFirst (p : Nat → Bool) (n r : Nat) : Prop where
  le : r ≤ n
  below : ∀ t, t < r → p t = false
  above : ∀ t, r ≤ t → t < n → p t = true
/-- What a function of a number below n answers, in every world that has grown from w. -/
def PredAt (P : Program) (g : Nat) (lb : Array Value) (n : Nat) (p : Nat → Bool) (w : World) : Prop :=
  ∀ (i : Nat) w', i < n → Since w w' → Calls P g (#[.int .i64 i] ++ lb) w' fun e w'' => e = .returned (.bool (p i)) ∧ Since w' w''
theorem PredAt.since {P : Program} {g : Nat} {lb : Array Value} {n : Nat} {p : Nat → Bool} {w w' : World} (h : PredAt P g lb n p w) (hs : Since w w') : PredAt P g lb n p w' :=
  fun i w2 hi h2 => h i w2 hi (hs.trans h2)
set_option maxHeartbeats 1000000 in
theorem search_any (g : Nat) (lb : Array Value) (p : Nat → Bool) (n r : Nat) (w : World) (hn : n ≤ 4000000000000000000) (hf : PredAt Try.prog g lb n p w) (hr : IsFirst p n r)
    (eg : ∀ args w, (callFunc g args).run Try.prog w = .ok (.enter g args) w) :
    Calls Try.prog 114 #[.int .i64 n, .func (.func g) #[] lb] w fun e w' => e = .returned (.int .i64 r) ∧ Since w w' := by
  have HF := Lib.hid hf
  have HR := Lib.hid hr
  clear hf hr
  go_enter Try.func114, Try.ntmps114
  go_wp2
  go_loopg [5, 6] n (fun kx s5 s6 wr => ∃ (lo hi : Nat), s5 = .int .i64 lo ∧ s6 = .int .i64 hi ∧ hi ≤ n ∧ hi - lo ≤ kx ∧ Since w wr ∧ Aside (lo ≤ r ∧ r ≤ hi))
  case atStart => exact ⟨0, n, rfl, rfl, Nat.le_refl _, by omega, Since.refl _, (show _ ∧ _ from ⟨Nat.zero_le _, HR.out.le⟩)⟩
  case round =>
    obtain ⟨lo, hi, rfl, rfl, hin, hg, hs, I⟩ := hrel
    by_cases hlt : lo < hi
    · have hltz : (lo : Int) < (hi : Int) := by omega
      have hc := HF.out ((lo + hi) / 2) wr (by omega) hs
      rw [show (((lo + hi) / 2 : Nat) : Int) = ((lo : Int) + (hi : Int)) / 2 by omega] at hc
      have HS := Lib.hid hs
      clear hs
      cases hp : p ((lo + hi) / 2) <;> rw [hp] at hc
      · have HP := Lib.hid hp
        clear hp
        go_wp2_with (go_at_fn g; refine hc.mono ?_; rintro e w' ⟨rfl, hs1⟩)
        go_roundg (hi - ((lo + hi) / 2 + 1))
        case measure => omega
        case rel =>
          refine ⟨(lo + hi) / 2 + 1, hi, by go_num, rfl, by omega, by omega, HS.out.trans hs1, (show _ ∧ _ from ⟨?_, I.out.2⟩)⟩
          by_cases hrr : r ≤ (lo + hi) / 2
          · have := HR.out.above _ hrr (by omega); rw [HP.out] at this; cases this
          · omega
      · have HP := Lib.hid hp
        clear hp
        go_wp2_with (go_at_fn g; refine hc.mono ?_; rintro e w' ⟨rfl, hs1⟩)
        go_roundg ((lo + hi) / 2 - lo)
        case measure => omega
        case rel =>
          refine ⟨lo, (lo + hi) / 2, rfl, by go_num, by omega, by omega, HS.out.trans hs1, (show _ ∧ _ from ⟨I.out.1, ?_⟩)⟩
          by_cases hrr : (lo + hi) / 2 < r
          · have := HR.out.below _ hrr; rw [HP.out] at this; cases this
          · omega
    · have hltz : ¬ (lo : Int) < (hi : Int) := by omega
      have HS := Lib.hid hs
      clear hs
      go_wp2
      go_ret
      exact ⟨by rw [show r = lo from by have := I.out; omega]; rfl, HS.out⟩
end Go.Proofs.Ytabfhoipclbeeaa


/- The planner's end: the end of a transfer, by search and by division. -/
namespace Go.Proofs.Ytabfhoipclbeeaa
open Go.RowKit Go.Shelf
namespace Car
open P56
variable {C : List Int} (hC : ∀ x ∈ C, 0 ≤ x ∧ x ≤ 4096)
include hC
theorem fin_zero (s : Nat) : finish C s 0 = some s := finish_of_isEnd hC ⟨Nat.le_refl _, by omega, fun x h1 h2 => by omega⟩
theorem fin_search {s m : Nat} {n : Int} (hm : m = max s C.length) (hn : 0 < n) (h : carr C s + n ≤ carr C m) :
    ∃ r : Nat, finish C s n = some (s + r) ∧ s < C.length ∧ IsFirst (fun i => decide (carr C s + n ≤ carr C (s + i))) (C.length - s) r := by
  have hs : s < C.length := by
    rcases Nat.lt_or_ge s C.length with g | g
    · exact g
    · rw [show m = s from by omega] at h; omega
  rw [show m = C.length from by omega] at h
  cases hf : finish C s n with
  | none => have := (finish_none hC hf).2 C.length (by omega); omega
  | some e =>
    have he := finish_some hC hf
    have hel : e ≤ C.length := by
      rcases Nat.lt_or_ge C.length e with g | g
      · have := he.first C.length (by omega) g; omega
      · exact g
    have := he.le
    refine ⟨e - s, by congr 1; omega, hs, by omega, fun t ht => ?_, fun t ht _ => ?_⟩
    · have := he.first (s + t) (by omega) (by omega)
      simp; omega
    · have h1 := he.enough
      have h2 := carr_mono hC (show e ≤ s + t by omega)
      simp; omega
theorem fin_never {s m : Nat} {n : Int} (hm : m = max s C.length) (hl : last C = 0) (h : ¬ carr C s + n ≤ carr C m) : finish C s n = Option.none := by
  refine finish_of_never hC fun x hx => ?_
  by_cases hxm : x ≤ m
  · have := carr_mono hC hxm; omega
  · have := carr_far C m (x - m) (by omega)
    rw [show m + (x - m) = x from by omega, hl] at this
    omega
theorem fin_far {s m : Nat} {n : Int} (hm : m = max s C.length) (hl : last C ≠ 0) (h : ¬ carr C s + n ≤ carr C m) :
    ∃ d : Nat, finish C s n = some (m + d) ∧ (carr C s + n - carr C m + last C - 1) / last C = (d : Int) ∧ (d : Int) ≤ carr C s + n - carr C m := by
  have hl' := last_nonneg hC
  obtain ⟨c1, c2, c3⟩ := ceil_spec (a := carr C s + n - carr C m) (b := last C) (by omega) (by omega)
  generalize hq : (carr C s + n - carr C m + last C - 1) / last C = q at c1 c2 c3
  obtain ⟨d, rfl⟩ : ∃ d : Nat, q = d := ⟨q.toNat, by omega⟩
  have hfar := carr_far C m d (by omega)
  have hd1 : (d : Int) - 1 ≤ ((d : Int) - 1) * last C := by
    have := Int.mul_le_mul_of_nonneg_left (show (1 : Int) ≤ last C by omega) (show (0 : Int) ≤ (d : Int) - 1 by omega)
    omega
  refine ⟨d, finish_of_isEnd hC ⟨by omega, by omega, fun x hx hx' => ?_⟩, rfl, by omega⟩
  by_cases hxm : x ≤ m
  · have := carr_mono hC hxm; omega
  · have hfar2 := carr_far C m (x - m) (by omega)
    rw [show m + (x - m) = x from by omega] at hfar2
    have hle : ((x - m : Nat) : Int) ≤ (d : Int) - 1 := by omega
    have := Int.mul_le_mul_of_nonneg_right hle (by omega : 0 ≤ last C)
    omega
end Car
set_option maxHeartbeats 1000000 in
theorem endc_any (C : List Int) (v : Value) (s : Nat) (g : Int) (b8 b4 b9 : Nat) (w : World) (hv : IsCar w v C) (hl : C.length ≤ 4096) (hC : ∀ x ∈ C, 0 ≤ x ∧ x ≤ 4096) (hs : s ≤ C.length)
    (h8 : Box w b8 #[.func (.func 113) #[v] #[]] 154) (h4 : Box w b4 #[.int .i64 s] 3) (h9 : Box w b9 #[.int .i64 g] 3) :
    PredAt Try.prog 115 #[.pointer (some ⟨b8, 0, none⟩), .pointer (some ⟨b4, 0, none⟩), .pointer (some ⟨b9, 0, none⟩)] (C.length - s) (fun i => decide (g ≤ P56.carr C (s + i))) w := by
  intro i w' hi hsw
  dsimp only
  have hcall : ∀ w2, Since w' w2 → Calls Try.prog 113 #[v, .int .i64 ((s : Int) + (i : Int))] w2 (fun e w3 => e = .returned (.int .i64 (P56.carr C (s + i))) ∧ Since w2 w3) := by
    intro w2 h2
    have := before_any C v (s + i) w2 ((hv.since hsw).since h2) hl hC (by omega)
    rw [Int.natCast_add] at this
    exact this
  obtain ⟨hc8, hf8, hz8⟩ := (h8.since hsw).rules
  obtain ⟨hc4, hf4, hz4⟩ := (h4.since hsw).rules
  obtain ⟨hc9, hf9, hz9⟩ := (h9.since hsw).rules
  generalize P56.carr C (s + i) = r at hcall ⊢
  have HCALL := Lib.hid hcall
  clear h8 h4 h9 hv hC hsw hcall
  go_enter Try.func115, Try.ntmps115
  have hwk : IntKind.i64.wrap ((s : Int) + (i : Int)) = (s : Int) + (i : Int) := IntWalk.i64_in _ (by omega)
  go_upto_region 1 with fail
  go_region_held3 (fun w' => w'.cell? ⟨b8, 0, none⟩ = some (.func (.func 113) #[v] #[]) ∧ w'.cell? ⟨b4, 0, none⟩ = some (.int .i64 s) ∧ w'.cell? ⟨b9, 0, none⟩ = some (.int .i64 g))
    (simp [*])
    (first | (go_at_call 113; refine (HCALL.out _ ?_).mono ?_; ((repeat (first | with_reducible exact Since.refl _ | with_reducible assumption | with_reducible refine Since.alloc ?_ _ | with_reducible refine Since.drew ?_ | with_reducible refine Since.drewN ?_ _ | (with_reducible refine Since.setCell ?_ ?_ _; rotate_left; (first | (dsimp only; omega) | (simp; done) | (simp; omega))) | with_reducible refine Since.trans ?_ (by with_reducible assumption)))); rintro e x1 ⟨rfl, hs2⟩; obtain ⟨kc_hs2_0, kf_hs2_0, kz_hs2_0⟩ := hs2.at (β := b8) (by first | assumption | omega | (simp only [World.size_alloc, World.size_setCell, World.size_drew, World.heap_drewN]; omega) | (simp; omega)); obtain ⟨kc_hs2_1, kf_hs2_1, kz_hs2_1⟩ := hs2.at (β := b4) (by first | assumption | omega | (simp only [World.size_alloc, World.size_setCell, World.size_drew, World.heap_drewN]; omega) | (simp; omega)); obtain ⟨kc_hs2_2, kf_hs2_2, kz_hs2_2⟩ := hs2.at (β := b9) (by first | assumption | omega | (simp only [World.size_alloc, World.size_setCell, World.size_drew, World.heap_drewN]; omega) | (simp; omega))))
  all_goals go_wp2
  all_goals go_ret
  all_goals exact ⟨rfl, by (repeat (first | with_reducible exact Since.refl _ | with_reducible assumption | with_reducible refine Since.alloc ?_ _ | with_reducible refine Since.drew ?_ | with_reducible refine Since.drewN ?_ _ | (with_reducible refine Since.setCell ?_ ?_ _; rotate_left; (first | (dsimp only; omega) | (simp; done) | (simp; omega))) | with_reducible refine Since.trans ?_ (by with_reducible assumption)))⟩
theorem fin_ret {o : Option Nat} {x : Int} {b : Bool} {a : Nat} (h : o = some a) (hx : x = (a : Int)) (hb : b = true) : Ending.returned (.tuple #[.int .i64 x, .bool b]) = Ending.returned (.tuple #[.int .i64 (o.getD 0 : Nat), .bool o.isSome]) := by rw [h, hx, hb]; rfl
set_option maxRecDepth 100000 in
set_option maxHeartbeats 2000000 in
theorem end_any (C : List Int) (v : Value) (s : Nat) (n : Int) (w : World) (hv : IsCar w v C) (hl : C.length ≤ 4096) (hC : ∀ x ∈ C, 0 ≤ x ∧ x ≤ 4096) (hs : s ≤ 900000000000) (hn0 : 0 ≤ n) (hn : n ≤ 16777216) :
    Calls Try.prog 83 #[v, .int .i64 s, .int .i64 n] w fun e w' => e = .returned (.tuple #[.int .i64 ((P56.finish C s n).getD 0 : Nat), .bool (P56.finish C s n).isSome]) ∧ Since w w' := by
  have call : ∀ (t : Nat) w2, t ≤ 1000000000000 → Since w w2 → Calls Try.prog 113 #[v, .int .i64 t] w2 (fun e w3 => e = .returned (.int .i64 (P56.carr C t)) ∧ Since w2 w3) :=
    fun t w2 ht h2 => before_any C v t w2 (hv.since h2) hl hC ht
  have FZ := Lib.hid (fun (h : n = 0) => (show P56.finish C s n = some s from by subst h; exact Car.fin_zero hC s))
  obtain ⟨m, hm⟩ : ∃ m, m = max s C.length := ⟨_, rfl⟩
  have FS := Lib.hid (Car.fin_search (n := n) hC hm)
  have FN := Lib.hid (Car.fin_never (n := n) hC hm)
  have FF := Lib.hid (Car.fin_far (n := n) hC hm)
  have ENDC := Lib.hid (fun (g : Int) (b8 b4 b9 : Nat) w2 (h2 : Since w w2) (hs : s ≤ C.length) => endc_any C v s g b8 b4 b9 w2 (hv.since h2) hl hC hs)
  have hlast := P56.last_nonneg hC
  have hbs := P56.carr_bd hC s
  have hbm := P56.carr_bd hC m
  have hmx : (if (s : Int) < (C.length : Int) then (C.length : Int) else (s : Int)) = (m : Int) := by split <;> omega
  have hmn : (if s < C.length then (C.length : Int) else (s : Int)) = (m : Int) := by split <;> omega
  obtain ⟨b, a, c, rfl, hb, hr⟩ := hv
  obtain ⟨rc, rf, rz⟩ := hb.rules
  generalize P56.finish C s n = F at *
  have callS := call s
  have callM := call m
  have HBB := Lib.hid hb
  generalize hq1 : P56.carr C s = S at *
  generalize hq2 : P56.carr C m = M at *
  have CALLS := Lib.hid callS
  have CALLM := Lib.hid callM
  clear call callS callM
  have HQ1 := Lib.hid hq1
  have HQ2 := Lib.hid hq2
  clear hr hb hC hq1 hq2
  by_cases hz0 : n = 0
  · have hz1 : (n == 0) = true := by simp [hz0]
    have HZ := Lib.hid hz0
    clear hz0
    go_enter Try.func83, Try.ntmps83
    go_wp2_with (first
      | (go_at_call 113; refine (CALLS.out _ (by omega) ?_).mono ?_; ((repeat (first | with_reducible exact Since.refl _ | with_reducible assumption | with_reducible refine Since.alloc ?_ _ | with_reducible refine Since.drew ?_ | with_reducible refine Since.drewN ?_ _ | (with_reducible refine Since.setCell ?_ ?_ _; rotate_left; (first | (dsimp only; omega) | (simp; done) | (simp; omega))) | with_reducible refine Since.trans ?_ (by with_reducible assumption)))); rintro e w1 ⟨rfl, hs1⟩; obtain ⟨kc_hs1_0, kf_hs1_0, kz_hs1_0⟩ := hs1.at (β := b) (by first | assumption | omega | (simp only [World.size_alloc, World.size_setCell, World.size_drew, World.heap_drewN]; omega) | (simp; omega)); obtain ⟨kc_hs1_1, kf_hs1_1, kz_hs1_1⟩ := hs1.at (β := w.heap.size) (by first | assumption | omega | (simp only [World.size_alloc, World.size_setCell, World.size_drew, World.heap_drewN]; omega) | (simp; omega)); obtain ⟨kc_hs1_2, kf_hs1_2, kz_hs1_2⟩ := hs1.at (β := w.heap.size + 1) (by first | assumption | omega | (simp only [World.size_alloc, World.size_setCell, World.size_drew, World.heap_drewN]; omega) | (simp; omega))))
    go_ret2
    exact ⟨fin_ret (FZ.out HZ.out) rfl rfl, by (repeat (first | with_reducible exact Since.refl _ | with_reducible assumption | with_reducible refine Since.alloc ?_ _ | with_reducible refine Since.drew ?_ | with_reducible refine Since.drewN ?_ _ | (with_reducible refine Since.setCell ?_ ?_ _; rotate_left; (first | (dsimp only; omega) | (simp; done) | (simp; omega))) | with_reducible refine Since.trans ?_ (by with_reducible assumption)))⟩
  · have hz1 : (n == 0) = false := by simp [hz0]
    have hw1 : IntKind.i64.wrap (S + n) = S + n := IntWalk.i64_in _ (by omega)
    clear hmx hmn
    rcases Nat.lt_or_ge s C.length with hsl | hsl
    · have hme : m = C.length := by omega
      clear hm
      subst hme
      have hslz : (s : Int) < (C.length : Int) := by omega
      go_enter Try.func83, Try.ntmps83
      go_upto_region 6 with (first
        | (go_at_call 113; refine (CALLS.out _ (by omega) ?_).mono ?_; ((repeat (first | with_reducible exact Since.refl _ | with_reducible assumption | with_reducible refine Since.alloc ?_ _ | with_reducible refine Since.drew ?_ | with_reducible refine Since.drewN ?_ _ | (with_reducible refine Since.setCell ?_ ?_ _; rotate_left; (first | (dsimp only; omega) | (simp; done) | (simp; omega))) | with_reducible refine Since.trans ?_ (by with_reducible assumption)))); rintro e w1 ⟨rfl, hs1⟩; obtain ⟨kc_hs1_0, kf_hs1_0, kz_hs1_0⟩ := hs1.at (β := b) (by first | assumption | omega | (simp only [World.size_alloc, World.size_setCell, World.size_drew, World.heap_drewN]; omega) | (simp; omega)); obtain ⟨kc_hs1_1, kf_hs1_1, kz_hs1_1⟩ := hs1.at (β := w.heap.size) (by first | assumption | omega | (simp only [World.size_alloc, World.size_setCell, World.size_drew, World.heap_drewN]; omega) | (simp; omega)); obtain ⟨kc_hs1_2, kf_hs1_2, kz_hs1_2⟩ := hs1.at (β := w.heap.size + 1) (by first | assumption | omega | (simp only [World.size_alloc, World.size_setCell, World.size_drew, World.heap_drewN]; omega) | (simp; omega))))
      go_region_held3 (fun w' => w'.cell? ⟨w.heap.size + 1, 0, none⟩ = some (.func (.func 113) #[.pointer (some ⟨b, 0, none⟩)] #[]) ∧ w'.cell? ⟨w.heap.size, 0, none⟩ = some (.int .i64 s) ∧ w'.cell? ⟨w1.heap.size, 0, none⟩ = some (.int .i64 (S + n)))
        (simp [World.cell?_alloc_past, *])
        (first | (go_at_call 113; refine (CALLM.out _ (by omega) ?_).mono ?_; ((repeat (first | with_reducible exact Since.refl _ | with_reducible assumption | with_reducible refine Since.alloc ?_ _ | with_reducible refine Since.drew ?_ | with_reducible refine Since.drewN ?_ _ | (with_reducible refine Since.setCell ?_ ?_ _; rotate_left; (first | (dsimp only; omega) | (simp; done) | (simp; omega))) | with_reducible refine Since.trans ?_ (by with_reducible assumption)))); rintro e w2 ⟨rfl, hs2⟩; obtain ⟨kc_hs2_0, kf_hs2_0, kz_hs2_0⟩ := hs2.at (β := b) (by first | assumption | omega | (simp only [World.size_alloc, World.size_setCell, World.size_drew, World.heap_drewN]; omega) | (simp; omega)); obtain ⟨kc_hs2_1, kf_hs2_1, kz_hs2_1⟩ := hs2.at (β := w.heap.size) (by first | assumption | omega | (simp only [World.size_alloc, World.size_setCell, World.size_drew, World.heap_drewN]; omega) | (simp; omega)); obtain ⟨kc_hs2_2, kf_hs2_2, kz_hs2_2⟩ := hs2.at (β := w.heap.size + 1) (by first | assumption | omega | (simp only [World.size_alloc, World.size_setCell, World.size_drew, World.heap_drewN]; omega) | (simp; omega)); obtain ⟨kc_hs2_3, kf_hs2_3, kz_hs2_3⟩ := hs2.at (β := w1.heap.size) (by first | assumption | omega | (simp only [World.size_alloc, World.size_setCell, World.size_drew, World.heap_drewN]; omega) | (simp; omega))))
      have hbn : b ≠ w.heap.size + 1 := by omega
      have hbn0 : b ≠ w.heap.size := by omega
      by_cases hSM : S + n ≤ M
      · obtain ⟨r, hF, -, hfirst⟩ := FS.out (by omega) hSM
        have HF := Lib.hid hF
        have hrl := hfirst.le
        have hb4 := Box.at (w := w) rfl #[.int .i64 s] 3
        have hb8 := Box.at (w := w.alloc (.cells #[.int .i64 s] 3)) (b := w.heap.size + 1) (by simp) #[Value.func (.func 113) #[.pointer (some ⟨b, 0, none⟩)] #[]] 154
        have hb9 := Box.at (w := w1) rfl #[.int .i64 (S + n)] 3
        have hsz : ((C.length - s : Nat) : Int) = (C.length : Int) - (s : Int) := by omega
        have hwz : IntKind.i64.wrap ((C.length : Int) - (s : Int)) = (C.length : Int) - (s : Int) := IntWalk.i64_in _ (by omega)
        have hwr : IntKind.i64.wrap ((s : Int) + (r : Int)) = (s : Int) + (r : Int) := IntWalk.i64_in _ (by omega)
        have HB4 := Lib.hid hb4
        have HB8 := Lib.hid hb8
        have HB9 := Lib.hid hb9
        have SRCH : Hid (∀ w2, Since w w2 → Box w2 w.heap.size _ _ → Box w2 (w.heap.size + 1) _ _ → Box w2 w1.heap.size _ _ → Calls Try.prog 114 #[.int .i64 ((C.length : Int) - (s : Int)), _] w2 _) := fun w2 h2 h4 h8 h9 => hsz ▸ search_any _ _ _ _ r w2 (by omega) (ENDC.out (S + n) _ _ _ w2 h2 (by omega) h8 h4 h9) hfirst (enters_of Try.func115 (by kernel_rfl) rfl)
        clear hF hfirst hb4 hb8 hb9 hsz
        go_upto_region 7 with fail
        go_region_held3 (fun w' => w'.cell? ⟨w.heap.size, 0, none⟩ = some (.int .i64 s))
          (simp [World.cell?_alloc_past, *])
          (first | (go_at_call 114; refine (SRCH.out _ (by (repeat (first | with_reducible exact Since.refl _ | with_reducible assumption | with_reducible refine Since.alloc ?_ _ | with_reducible refine Since.drew ?_ | with_reducible refine Since.drewN ?_ _ | (with_reducible refine Since.setCell ?_ ?_ _; rotate_left; (first | (dsimp only; omega) | (simp; done) | (simp; omega))) | with_reducible refine Since.trans ?_ (by with_reducible assumption)))) (HB4.out.since (by (repeat (first | with_reducible exact Since.refl _ | with_reducible assumption | with_reducible refine Since.alloc ?_ _ | with_reducible refine Since.drew ?_ | with_reducible refine Since.drewN ?_ _ | (with_reducible refine Since.setCell ?_ ?_ _; rotate_left; (first | (dsimp only; omega) | (simp; done) | (simp; omega))) | with_reducible refine Since.trans ?_ (by with_reducible assumption))))) (HB8.out.since (by (repeat (first | with_reducible exact Since.refl _ | with_reducible assumption | with_reducible refine Since.alloc ?_ _ | with_reducible refine Since.drew ?_ | with_reducible refine Since.drewN ?_ _ | (with_reducible refine Since.setCell ?_ ?_ _; rotate_left; (first | (dsimp only; omega) | (simp; done) | (simp; omega))) | with_reducible refine Since.trans ?_ (by with_reducible assumption))))) (HB9.out.since (by (repeat (first | with_reducible exact Since.refl _ | with_reducible assumption | with_reducible refine Since.alloc ?_ _ | with_reducible refine Since.drew ?_ | with_reducible refine Since.drewN ?_ _ | (with_reducible refine Since.setCell ?_ ?_ _; rotate_left; (first | (dsimp only; omega) | (simp; done) | (simp; omega))) | with_reducible refine Since.trans ?_ (by with_reducible assumption)))))).mono ?_; rintro e w3 ⟨rfl, hs3⟩; obtain ⟨kc_hs3_0, kf_hs3_0, kz_hs3_0⟩ := hs3.at (β := b) (by first | assumption | omega | (simp only [World.size_alloc, World.size_setCell, World.size_drew, World.heap_drewN]; omega) | (simp; omega)); obtain ⟨kc_hs3_1, kf_hs3_1, kz_hs3_1⟩ := hs3.at (β := w.heap.size) (by first | assumption | omega | (simp only [World.size_alloc, World.size_setCell, World.size_drew, World.heap_drewN]; omega) | (simp; omega)); obtain ⟨kc_hs3_2, kf_hs3_2, kz_hs3_2⟩ := hs3.at (β := w.heap.size + 1) (by first | assumption | omega | (simp only [World.size_alloc, World.size_setCell, World.size_drew, World.heap_drewN]; omega) | (simp; omega)); obtain ⟨kc_hs3_3, kf_hs3_3, kz_hs3_3⟩ := hs3.at (β := w1.heap.size) (by first | assumption | omega | (simp only [World.size_alloc, World.size_setCell, World.size_drew, World.heap_drewN]; omega) | (simp; omega))))
        go_wp2
        go_ret2
        exact ⟨fin_ret HF.out (by simp) rfl, by (repeat (first | with_reducible exact Since.refl _ | with_reducible assumption | with_reducible refine Since.alloc ?_ _ | with_reducible refine Since.drew ?_ | with_reducible refine Since.drewN ?_ _ | (with_reducible refine Since.setCell ?_ ?_ _; rotate_left; (first | (dsimp only; omega) | (simp; done) | (simp; omega))) | with_reducible refine Since.trans ?_ (by with_reducible assumption)))⟩
      ·
        by_cases hl0 : P56.last C = 0
        · have HF : Hid (F = none) := FN.out hl0 (by omega)
          go_wp2
          go_ret2
          exact ⟨by rw [HF.out]; exact ret_ib rfl rfl, by (repeat (first | with_reducible exact Since.refl _ | with_reducible assumption | with_reducible refine Since.alloc ?_ _ | with_reducible refine Since.drew ?_ | with_reducible refine Since.drewN ?_ _ | (with_reducible refine Since.setCell ?_ ?_ _; rotate_left; (first | (dsimp only; omega) | (simp; done) | (simp; omega))) | with_reducible refine Since.trans ?_ (by with_reducible assumption)))⟩
        · obtain ⟨d, hF, hd, hdb⟩ := FF.out hl0 (by omega)
          have HF := Lib.hid hF
          have hw2 : IntKind.i64.wrap (S + n - M) = S + n - M := IntWalk.i64_in _ (by omega)
          have hw3 : IntKind.i64.wrap (S + n - M + P56.last C) = S + n - M + P56.last C := IntWalk.i64_in _ (by omega)
          have hw4 : IntKind.i64.wrap (S + n - M + P56.last C - 1) = S + n - M + P56.last C - 1 := IntWalk.i64_in _ (by omega)
          have hw5 : IntKind.i64.wrap ((S + n - M + P56.last C - 1).tdiv (P56.last C)) = d := (IntWalk.i64_quo _ _ (by omega)).trans hd
          have hw6 : IntKind.i64.wrap ((C.length : Int) + (d : Int)) = (C.length : Int) + (d : Int) := IntWalk.i64_in _ (by omega)
          have HD := Lib.hid hdb
          clear hF hd hdb
          have hcb := (HBB.out.since (w' := w2) (by (repeat (first | with_reducible exact Since.refl _ | with_reducible assumption | with_reducible refine Since.alloc ?_ _ | with_reducible refine Since.drew ?_ | with_reducible refine Since.drewN ?_ _ | (with_reducible refine Since.setCell ?_ ?_ _; rotate_left; (first | (dsimp only; omega) | (simp; done) | (simp; omega))) | with_reducible refine Since.trans ?_ (by with_reducible assumption))))).rules.1 1
          clear kc_hs2_0 kc_hs1_0
          go_upto_region 11 with fail
          go_region_held3 (fun w' => w'.cell? ⟨w.heap.size + 1, 0, none⟩ = some (.func (.func 113) #[.pointer (some ⟨b, 0, none⟩)] #[]) ∧ w'.cell? ⟨w1.heap.size, 0, none⟩ = some (.int .i64 (S + n)) ∧ w'.cell? ⟨b, 1, none⟩ = some (.int .i64 (P56.last C)))
            (simp [World.cell?_alloc_past, *])
            (first | (go_at_call 113; refine (CALLM.out _ (by omega) ?_).mono ?_; ((repeat (first | with_reducible exact Since.refl _ | with_reducible assumption | with_reducible refine Since.alloc ?_ _ | with_reducible refine Since.drew ?_ | with_reducible refine Since.drewN ?_ _ | (with_reducible refine Since.setCell ?_ ?_ _; rotate_left; (first | (dsimp only; omega) | (simp; done) | (simp; omega))) | with_reducible refine Since.trans ?_ (by with_reducible assumption)))); rintro e w3 ⟨rfl, hs3⟩; obtain ⟨kc_hs3_0, kf_hs3_0, kz_hs3_0⟩ := hs3.at (β := b) (by first | assumption | omega | (simp only [World.size_alloc, World.size_setCell, World.size_drew, World.heap_drewN]; omega) | (simp; omega)); obtain ⟨kc_hs3_1, kf_hs3_1, kz_hs3_1⟩ := hs3.at (β := w.heap.size) (by first | assumption | omega | (simp only [World.size_alloc, World.size_setCell, World.size_drew, World.heap_drewN]; omega) | (simp; omega)); obtain ⟨kc_hs3_2, kf_hs3_2, kz_hs3_2⟩ := hs3.at (β := w.heap.size + 1) (by first | assumption | omega | (simp only [World.size_alloc, World.size_setCell, World.size_drew, World.heap_drewN]; omega) | (simp; omega)); obtain ⟨kc_hs3_3, kf_hs3_3, kz_hs3_3⟩ := hs3.at (β := w1.heap.size) (by first | assumption | omega | (simp only [World.size_alloc, World.size_setCell, World.size_drew, World.heap_drewN]; omega) | (simp; omega))))
          go_wp2
          go_ret2
          exact ⟨fin_ret HF.out (by simp) rfl, by (repeat (first | with_reducible exact Since.refl _ | with_reducible assumption | with_reducible refine Since.alloc ?_ _ | with_reducible refine Since.drew ?_ | with_reducible refine Since.drewN ?_ _ | (with_reducible refine Since.setCell ?_ ?_ _; rotate_left; (first | (dsimp only; omega) | (simp; done) | (simp; omega))) | with_reducible refine Since.trans ?_ (by with_reducible assumption)))⟩
    · have hme : m = s := by omega
      clear hm
      subst hme
      have hslz : ¬ (m : Int) < (C.length : Int) := by omega
      have hsln : ¬ m < C.length := by omega
      have hbn : b ≠ w.heap.size + 1 := by omega
      have hbn0 : b ≠ w.heap.size := by omega
      have hSM : ¬ S + n ≤ M := by have h1 := HQ1.out; have h2 := HQ2.out; omega
      go_enter Try.func83, Try.ntmps83
      go_upto_region 6 with (first
        | (go_at_call 113; refine (CALLS.out _ (by omega) ?_).mono ?_; ((repeat (first | with_reducible exact Since.refl _ | with_reducible assumption | with_reducible refine Since.alloc ?_ _ | with_reducible refine Since.drew ?_ | with_reducible refine Since.drewN ?_ _ | (with_reducible refine Since.setCell ?_ ?_ _; rotate_left; (first | (dsimp only; omega) | (simp; done) | (simp; omega))) | with_reducible refine Since.trans ?_ (by with_reducible assumption)))); rintro e w1 ⟨rfl, hs1⟩; obtain ⟨kc_hs1_0, kf_hs1_0, kz_hs1_0⟩ := hs1.at (β := b) (by first | assumption | omega | (simp only [World.size_alloc, World.size_setCell, World.size_drew, World.heap_drewN]; omega) | (simp; omega)); obtain ⟨kc_hs1_1, kf_hs1_1, kz_hs1_1⟩ := hs1.at (β := w.heap.size) (by first | assumption | omega | (simp only [World.size_alloc, World.size_setCell, World.size_drew, World.heap_drewN]; omega) | (simp; omega)); obtain ⟨kc_hs1_2, kf_hs1_2, kz_hs1_2⟩ := hs1.at (β := w.heap.size + 1) (by first | assumption | omega | (simp only [World.size_alloc, World.size_setCell, World.size_drew, World.heap_drewN]; omega) | (simp; omega))))
      go_region_held3 (fun w' => w'.cell? ⟨w.heap.size + 1, 0, none⟩ = some (.func (.func 113) #[.pointer (some ⟨b, 0, none⟩)] #[]) ∧ w'.cell? ⟨w.heap.size, 0, none⟩ = some (.int .i64 m) ∧ w'.cell? ⟨w1.heap.size, 0, none⟩ = some (.int .i64 (S + n)))
        (simp [World.cell?_alloc_past, *])
        (first | (go_at_call 113; refine (CALLM.out _ (by omega) ?_).mono ?_; ((repeat (first | with_reducible exact Since.refl _ | with_reducible assumption | with_reducible refine Since.alloc ?_ _ | with_reducible refine Since.drew ?_ | with_reducible refine Since.drewN ?_ _ | (with_reducible refine Since.setCell ?_ ?_ _; rotate_left; (first | (dsimp only; omega) | (simp; done) | (simp; omega))) | with_reducible refine Since.trans ?_ (by with_reducible assumption)))); rintro e w2 ⟨rfl, hs2⟩; obtain ⟨kc_hs2_0, kf_hs2_0, kz_hs2_0⟩ := hs2.at (β := b) (by first | assumption | omega | (simp only [World.size_alloc, World.size_setCell, World.size_drew, World.heap_drewN]; omega) | (simp; omega)); obtain ⟨kc_hs2_1, kf_hs2_1, kz_hs2_1⟩ := hs2.at (β := w.heap.size) (by first | assumption | omega | (simp only [World.size_alloc, World.size_setCell, World.size_drew, World.heap_drewN]; omega) | (simp; omega)); obtain ⟨kc_hs2_2, kf_hs2_2, kz_hs2_2⟩ := hs2.at (β := w.heap.size + 1) (by first | assumption | omega | (simp only [World.size_alloc, World.size_setCell, World.size_drew, World.heap_drewN]; omega) | (simp; omega)); obtain ⟨kc_hs2_3, kf_hs2_3, kz_hs2_3⟩ := hs2.at (β := w1.heap.size) (by first | assumption | omega | (simp only [World.size_alloc, World.size_setCell, World.size_drew, World.heap_drewN]; omega) | (simp; omega))))
      by_cases hl0 : P56.last C = 0
      · have HF : Hid (F = none) := FN.out hl0 (by omega)
        go_wp2
        go_ret2
        exact ⟨by rw [HF.out]; exact ret_ib rfl rfl, by (repeat (first | with_reducible exact Since.refl _ | with_reducible assumption | with_reducible refine Since.alloc ?_ _ | with_reducible refine Since.drew ?_ | with_reducible refine Since.drewN ?_ _ | (with_reducible refine Since.setCell ?_ ?_ _; rotate_left; (first | (dsimp only; omega) | (simp; done) | (simp; omega))) | with_reducible refine Since.trans ?_ (by with_reducible assumption)))⟩
      · obtain ⟨d, hF, hd, hdb⟩ := FF.out hl0 (by omega)
        have HF := Lib.hid hF
        have hw2 : IntKind.i64.wrap (S + n - M) = S + n - M := IntWalk.i64_in _ (by omega)
        have hw3 : IntKind.i64.wrap (S + n - M + P56.last C) = S + n - M + P56.last C := IntWalk.i64_in _ (by omega)
        have hw4 : IntKind.i64.wrap (S + n - M + P56.last C - 1) = S + n - M + P56.last C - 1 := IntWalk.i64_in _ (by omega)
        have hw5 : IntKind.i64.wrap ((S + n - M + P56.last C - 1).tdiv (P56.last C)) = d := (IntWalk.i64_quo _ _ (by omega)).trans hd
        have hw6 : IntKind.i64.wrap ((m : Int) + (d : Int)) = (m : Int) + (d : Int) := IntWalk.i64_in _ (by omega)
        have HD := Lib.hid hdb
        clear hF hd hdb
        have hcb := (HBB.out.since (w' := w2) (by (repeat (first | with_reducible exact Since.refl _ | with_reducible assumption | with_reducible refine Since.alloc ?_ _ | with_reducible refine Since.drew ?_ | with_reducible refine Since.drewN ?_ _ | (with_reducible refine Since.setCell ?_ ?_ _; rotate_left; (first | (dsimp only; omega) | (simp; done) | (simp; omega))) | with_reducible refine Since.trans ?_ (by with_reducible assumption))))).rules.1 1
        clear kc_hs2_0 kc_hs1_0
        go_upto_region 11 with fail
        go_region_held3 (fun w' => w'.cell? ⟨w.heap.size + 1, 0, none⟩ = some (.func (.func 113) #[.pointer (some ⟨b, 0, none⟩)] #[]) ∧ w'.cell? ⟨w1.heap.size, 0, none⟩ = some (.int .i64 (S + n)) ∧ w'.cell? ⟨b, 1, none⟩ = some (.int .i64 (P56.last C)))
          (simp [World.cell?_alloc_past, *])
          (first | (go_at_call 113; refine (CALLM.out _ (by omega) ?_).mono ?_; ((repeat (first | with_reducible exact Since.refl _ | with_reducible assumption | with_reducible refine Since.alloc ?_ _ | with_reducible refine Since.drew ?_ | with_reducible refine Since.drewN ?_ _ | (with_reducible refine Since.setCell ?_ ?_ _; rotate_left; (first | (dsimp only; omega) | (simp; done) | (simp; omega))) | with_reducible refine Since.trans ?_ (by with_reducible assumption)))); rintro e w3 ⟨rfl, hs3⟩; obtain ⟨kc_hs3_0, kf_hs3_0, kz_hs3_0⟩ := hs3.at (β := b) (by first | assumption | omega | (simp only [World.size_alloc, World.size_setCell, World.size_drew, World.heap_drewN]; omega) | (simp; omega)); obtain ⟨kc_hs3_1, kf_hs3_1, kz_hs3_1⟩ := hs3.at (β := w.heap.size) (by first | assumption | omega | (simp only [World.size_alloc, World.size_setCell, World.size_drew, World.heap_drewN]; omega) | (simp; omega)); obtain ⟨kc_hs3_2, kf_hs3_2, kz_hs3_2⟩ := hs3.at (β := w.heap.size + 1) (by first | assumption | omega | (simp only [World.size_alloc, World.size_setCell, World.size_drew, World.heap_drewN]; omega) | (simp; omega)); obtain ⟨kc_hs3_3, kf_hs3_3, kz_hs3_3⟩ := hs3.at (β := w1.heap.size) (by first | assumption | omega | (simp only [World.size_alloc, World.size_setCell, World.size_drew, World.heap_drewN]; omega) | (simp; omega))))
        go_wp2
        go_ret2
        exact ⟨fin_ret HF.out (by simp) rfl, by (repeat (first | with_reducible exact Since.refl _ | with_reducible assumption | with_reducible refine Since.alloc ?_ _ | with_reducible refine Since.drew ?_ | with_reducible refine Since.drewN ?_ _ | (with_reducible refine Since.setCell ?_ ?_ _; rotate_left; (first | (dsimp only; omega) | (simp; done) | (simp; omega))) | with_reducible refine Since.trans ?_ (by with_reducible assumption)))⟩
end Go.Proofs.Ytabfhoipclbeeaa


/- The planner: newCarrier, as a fact for the caller. -/
namespace Go.Proofs.Ytabfhoipclbeeaa
open Go.RowKit Go.Shelf
set_option maxHeartbeats 2000000 in
theorem newCarrier_c (C : List Int) (a0 : Option Addr) (c : Nat) (own : Nat → Prop) (W : World) (hl : ∀ b, own b → b < W.heap.size) (hr : Has own W (RdF (Value.int .i64) a0 C)) (hlen : C.length ≤ 4096) (hC : ∀ x ∈ C, 0 ≤ x ∧ x ≤ 4096) :
    Calls Try.prog 82 ⟨[.slice a0 C.length c]⟩ W (Ret W fun u w' => Has own w' (IsCar · u C)) := by
  have hM := (Mm.start hl).known hr
  refine f_start Try.func82 rfl Try.ntmps82 rfl rfl ?_; intro a hF
  (repeat (first | (with_reducible refine w_seq ?_) | (with_reducible refine c_region ?_) | (with_reducible refine s_nil ?_) | (with_reducible refine q_then_n ?_) | ((with_reducible apply s_pure hF); exact rfl; exact rfl; exact rfl; (first | exact trivial | omega | exact ⟨Int.natCast_nonneg _, Int.ofNat_lt.2 (by assumption)⟩ | decide); clear hF a; intro a hF) | ((with_reducible apply s_box hF hM); exact rfl; exact rfl; exact rfl; exact rfl; clear hF hM a; intro b w a hM hF) | ((with_reducible apply s_lit hF hM); exact rfl; exact rfl; exact rfl; exact rfl; clear hF hM a; intro bl w a hM hF) | (with_reducible refine w_block ?_)))
  replace hM := (hM.perm (List.Perm.swap _ _ _)).boxRow 1 1 rfl (by decide)
  refine c_loop (m := C.length) (fun m a w' => ∃ (k : Nat) (u : Value), m + k = C.length ∧ Fr _ [] [(3, .pointer (some ⟨b, 0, none⟩)), (9, .slice a0 C.length c), (10, .int .i64 (C.length : Int)), (11, .int .i64 k)] a ∧
    Mm own W [⟨b, ⟨[u, .int .i64 ((C.take k).getLastD 0)]⟩, 158⟩] [⟨3, 1, u, k + 1, (Car.sums C k).map (Value.int .i64)⟩] [RdF (Value.int .i64) a0 C] w') ⟨0, _, by omega, hF.sub (by repeat (first | exact Sub.nil | refine Sub.cons rfl (by first | with_reducible rfl | (refine congrArg (Value.int _) ?_; omega) | exact rfl) ?_)), hM⟩ ?_
  clear hF hM a
  rintro m a w' ⟨k, u, hk, hF, hM⟩
  by_cases hlt : k < C.length
  · obtain ⟨x, hx⟩ := get_of_lt hlt
    obtain ⟨ad, rfl⟩ := rd_some hM (by (repeat (first | exact List.mem_cons_self | refine List.mem_cons_of_mem _ ?_))) hx
    obtain ⟨au, cu, rfl, hru, hlu⟩ := hM.row List.mem_cons_self
    obtain ⟨bu, ou, rfl, -, -⟩ := hru k _ (Car.sums_get C (Nat.le_refl k))
    have hs' : (Car.sums C k)[((((k + 1 : Nat) : Int)) - 1).toNat]? = some (C.take k).sum := by rw [show ((((k + 1 : Nat) : Int)) - 1).toNat = k by omega]; exact Car.sums_get C (Nat.le_refl k)
    have hx0 := hC x (List.mem_of_getElem? hx)
    have hsb := P56.sum_take_bd hC k hlen
    (repeat' (first | (with_reducible refine w_seq ?_) | (with_reducible refine c_region ?_) | (with_reducible refine s_nil ?_) | (with_reducible refine q_then_n ?_) | ((with_reducible apply s_pure hF); exact rfl; exact rfl; exact rfl; (first | exact trivial | omega | exact ⟨Int.natCast_nonneg _, Int.ofNat_lt.2 (by assumption)⟩ | decide); clear hF a; intro a hF) | ((with_reducible apply s_loadF hF hM); exact rfl; exact rfl; (repeat (first | exact List.mem_cons_self | refine List.mem_cons_of_mem _ ?_)); exact rfl; exact rfl; (first | with_reducible assumption | (simp only [Int.toNat_natCast]; with_reducible assumption)); clear hF a; intro a hF) | (with_reducible refine w_skip ?_) | (with_reducible refine w_block ?_) | ((with_reducible apply c_dec hF); exact rfl; all_goals intro hc; all_goals (try (exfalso; omega)))))
    refine c_draw (fun i => Nat.ble 23 i) hM ?_; clear hM; intro w hM
    (first | (refine t_pure (i := 0) hF rfl rfl rfl rfl (by kernel_rfl) hM.sm (fun _ _ _ h => h) ?_ ?_; (first | exact trivial | omega | decide); clear hF a; intro a hF))
    (first | (refine t_pure (i := 1) hF rfl rfl rfl rfl (by kernel_rfl) hM.sm (fun _ _ _ h => h) ?_ ?_; (first | exact trivial | omega | decide); clear hF a; intro a hF))
    (first | (refine t_pure (i := 2) hF rfl rfl rfl rfl (by kernel_rfl) hM.sm (fun _ _ _ h => h) ?_ ?_; (first | exact trivial | omega | decide); clear hF a; intro a hF))
    (first | (refine t_pure (i := 3) hF rfl rfl rfl rfl (by kernel_rfl) hM.sm (fun _ _ _ h => h) ?_ ?_; (first | exact trivial | omega | decide); clear hF a; intro a hF))
    (first | (apply t_load (i := 4) hF rfl rfl rfl; (repeat (first | exact List.mem_cons_self | refine List.mem_cons_of_mem _ ?_)); exact rfl; exact rfl; kernel_rfl; exact hM.sm; exact (fun _ _ _ h => h); clear hF a; intro a hF))
    (first | (refine t_pure (i := 5) hF rfl rfl rfl rfl (by kernel_rfl) hM.sm (fun _ _ _ h => h) ?_ ?_; (first | exact trivial | omega | decide); clear hF a; intro a hF))
    (first | (refine t_pure (i := 6) hF rfl rfl rfl rfl (by kernel_rfl) hM.sm (fun _ _ _ h => h) ?_ ?_; (first | exact trivial | omega | decide); clear hF a; intro a hF))
    (first | (refine t_pure (i := 7) hF rfl rfl rfl rfl (by kernel_rfl) hM.sm (fun _ _ _ h => h) ?_ ?_; (first | exact trivial | omega | decide); clear hF a; intro a hF))
    (first | (apply t_load (i := 8) hF rfl rfl rfl; (repeat (first | exact List.mem_cons_self | refine List.mem_cons_of_mem _ ?_)); exact rfl; exact rfl; kernel_rfl; exact hM.sm; exact (fun _ _ _ h => h); clear hF a; intro a hF))
    (first | (refine t_pure (i := 9) hF rfl rfl rfl rfl (by kernel_rfl) hM.sm (fun _ _ _ h => h) ?_ ?_; (first | exact trivial | omega | decide); clear hF a; intro a hF))
    (first | (refine t_pure (i := 10) hF rfl rfl rfl rfl (by kernel_rfl) hM.sm (fun _ _ _ h => h) ?_ ?_; (first | exact trivial | omega | decide); clear hF a; intro a hF))
    (first | (refine t_pure (i := 11) hF rfl rfl rfl rfl (by kernel_rfl) hM.sm (fun _ _ _ h => h) ?_ ?_; (first | exact trivial | omega | decide); clear hF a; intro a hF))
    (first | (apply t_load (i := 12) hF rfl rfl rfl; (repeat (first | exact List.mem_cons_self | refine List.mem_cons_of_mem _ ?_)); exact rfl; exact rfl; kernel_rfl; exact hM.sm; exact (fun _ _ _ h => h); clear hF a; intro a hF))
    (first | (refine t_pure (i := 13) hF rfl rfl rfl rfl (by kernel_rfl) hM.sm (fun _ _ _ h => h) ?_ ?_; (first | exact trivial | omega | decide); clear hF a; intro a hF))
    (first | (refine t_pure (i := 14) hF rfl rfl rfl rfl (by kernel_rfl) hM.sm (fun _ _ _ h => h) ?_ ?_; (first | exact trivial | omega | decide); clear hF a; intro a hF))
    (first | (refine t_pure (i := 15) hF rfl rfl rfl rfl (by kernel_rfl) hM.sm (fun _ _ _ h => h) ?_ ?_; (first | exact trivial | omega | decide); clear hF a; intro a hF))
    (first | (refine t_pure (i := 17) hF rfl rfl rfl rfl (by kernel_rfl) hM.sm (fun _ _ _ h => h) ?_ ?_; (first | exact trivial | omega | decide); clear hF a; intro a hF))
    refine t_one (i := 16) hF rfl (by kernel_rfl) rfl ?_
    intro K hK
    ((apply x_loadR hF hM); exact rfl; (repeat (first | exact List.mem_cons_self | refine List.mem_cons_of_mem _ ?_)); exact rfl; exact rfl; (first | with_reducible assumption | (simp only [Int.toNat_natCast]; with_reducible assumption)); clear hF a; intro a hF)
    refine hK _ _ (fun _ => (hM.sm.sub (fun x hx => by repeat (first | exact hx | refine List.mem_cons_of_mem _ ?_)) (fun _ h => by repeat (first | exact h | refine List.mem_cons_of_mem _ ?_)))) ?_; clear hK
    (first | (refine t_pure (i := 18) hF rfl rfl rfl rfl (by kernel_rfl) (hM.sm.sub (fun x hx => by repeat (first | exact hx | refine List.mem_cons_of_mem _ ?_)) (fun _ h => by repeat (first | exact h | refine List.mem_cons_of_mem _ ?_))) (fun _ _ _ h => h) ?_ ?_; (first | exact trivial | omega | decide); clear hF a; intro a hF))
    refine t_one (i := 19) hF rfl (by kernel_rfl) rfl ?_
    intro K hK
    (refine x_lit hF hM rfl rfl rfl ?_; clear hF hM a; intro bl w a hM hF)
    refine hK _ _ (fun _ => (hM.sm.sub (fun x hx => by repeat (first | exact hx | refine List.mem_cons_of_mem _ ?_)) (fun _ h => by repeat (first | exact h | refine List.mem_cons_of_mem _ ?_)))) ?_; clear hK
    refine t_one (i := 20) hF rfl (by kernel_rfl) rfl ?_
    intro K hK
    (apply x_app hF hM rfl rfl rfl; (repeat (first | exact List.mem_cons_self | refine List.mem_cons_of_mem _ ?_)); (repeat (first | exact Kth.z | apply Kth.s)); exact rfl; exact rfl; exact rfl; exact rfl; omega; clear hF hM a; intro g cap w a hM hF; dsimp only [List.set] at hM)
    refine hK _ _ (fun _ => (hM.sm.sub (fun x hx => by repeat (first | exact hx | refine List.mem_cons_of_mem _ ?_)) (fun _ h => by repeat (first | exact h | refine List.mem_cons_of_mem _ ?_)))) ?_; clear hK
    (first | (refine t_pure (i := 21) hF rfl rfl rfl rfl (by kernel_rfl) (hM.sm.sub (fun x hx => by repeat (first | exact hx | refine List.mem_cons_of_mem _ ?_)) (fun _ h => by repeat (first | exact h | refine List.mem_cons_of_mem _ ?_))) (fun _ _ _ h => h) ?_ ?_; (first | exact trivial | omega | decide); clear hF a; intro a hF))
    (first | (refine t_pure (i := 22) hF rfl rfl rfl rfl (by kernel_rfl) (hM.sm.sub (fun x hx => by repeat (first | exact hx | refine List.mem_cons_of_mem _ ?_)) (fun _ h => by repeat (first | exact h | refine List.mem_cons_of_mem _ ?_))) (fun _ _ _ h => h) ?_ ?_; (first | exact trivial | omega | decide); clear hF a; intro a hF))
    refine t_one (i := 23) hF rfl (by kernel_rfl) rfl ?_
    intro K hK
    (apply x_store hF hM rfl rfl rfl; (repeat (first | exact Upd.z | apply Upd.s)); exact rfl; exact rfl; exact rfl; clear hF hM a; intro w a hM hF)
    refine hK _ _ (fun h => by cases h) ?_; clear hK
    refine t_done (by kernel_rfl) ?_
    (repeat (first | (with_reducible refine c_region ?_) | (with_reducible refine s_nil ?_) | (with_reducible refine q_then_n ?_) | ((with_reducible apply s_pure hF); exact rfl; exact rfl; exact rfl; (first | exact trivial | omega | exact ⟨Int.natCast_nonneg _, Int.ofNat_lt.2 (by assumption)⟩ | decide); clear hF a; intro a hF) | ((with_reducible apply s_store hF hM); exact rfl; exact rfl; exact rfl; exact rfl; (repeat (first | exact Upd.z | apply Upd.s)); exact rfl; exact rfl; exact rfl; clear hM; intro w hM) | (with_reducible refine q_blk_n ?_)))
    refine ⟨m - 1, by omega, k + 1, .slice (some ⟨g, 0, none⟩) (k + 1 + 1) cap, by omega, hF.sub (by repeat (first | exact Sub.nil | refine Sub.cons rfl (by first | with_reducible rfl | (refine congrArg (Value.int _) ?_; omega) | exact rfl) ?_)), ?_⟩
    rw [Car.sums_succ, P56.sum_take_step hx, List.map_append, Car.last_step hx]
    exact hM.sub (List.Sublist.cons _ (List.Sublist.refl _)) (List.Sublist.refl _) (fun _ h => h)
  · obtain ⟨au, cu, rfl, hru, hlu⟩ := hM.row List.mem_cons_self
    obtain rfl : k = C.length := by omega
    (repeat' (first | (with_reducible refine w_seq ?_) | (with_reducible refine c_region ?_) | (with_reducible refine s_nil ?_) | (with_reducible refine q_then_n ?_) | ((with_reducible apply s_pure hF); exact rfl; exact rfl; exact rfl; (first | exact trivial | omega | exact ⟨Int.natCast_nonneg _, Int.ofNat_lt.2 (by assumption)⟩ | decide); clear hF a; intro a hF) | (with_reducible refine w_exit ?_) | (with_reducible refine w_ret ?_) | (with_reducible refine q_then_x ?_) | (with_reducible refine q_blk_x ?_) | ((with_reducible apply c_false2 hF); exact rfl; (first | with_reducible rfl | (refine congrArg Value.bool ?_; focus (simp; done))))))
    (apply f_ret Try.results82 hF hM; (repeat (first | exact RL.nil | (apply RL.tmp; exact rfl) | (apply RL.cell; exact rfl; (repeat (first | exact List.mem_cons_self | refine List.mem_cons_of_mem _ ?_)); exact rfl))); refine Ret.mk hM.since ?_; dsimp only [resV])
    have h1 := hM.boxFact (List.mem_cons_self)
    have h2 := hM.rowFact (List.mem_cons_self)
    refine (h1.and h2).imp fun w' k => ⟨_, au, cu, rfl, ?_, k.2⟩
    have := k.1
    rw [List.take_length] at this
    exact this
end Go.Proofs.Ytabfhoipclbeeaa


/- The planner: plan, given sizes. -/
namespace Go.Proofs.Ytabfhoipclbeeaa
open Go.RowKit Go.Shelf
/-- The sizes of the cycles. -/
def szs (t : P56.Tr) : List Int := (List.range (P56.cycles t)).map (P56.size t)
theorem szs_get (t : P56.Tr) {k : Nat} (h : k < P56.cycles t) : (szs t)[k]? = some (P56.size t k) := by simp [szs, h]
/-- What sizes answers. -/
def SizesSpec : Prop := ∀ (t : P56.Tr) (a0 : Option Addr) (c : Nat) (y : Option Addr) (z u : Nat) (own : Nat → Prop) (W : World), (∀ b, own b → b < W.heap.size) → Has own W (RdF (Value.int .i64) a0 t.W) → P56.Ok t → t.W.length ≤ c →
  Calls Try.prog 111 ⟨[.agg #[.slice a0 t.W.length c, .slice y z u, .int .i64 t.P, .int .i64 t.L, .int .i64 t.A]]⟩ W (Ret W fun v w' => ∃ a1 c1, v = .slice a1 (P56.cycles t) c1 ∧ Has own w' (RdF (Value.int .i64) a1 (szs t)))
theorem max_st {t : P56.Tr} {p : Nat} (hp : t.P = (p : Int)) {k : Nat} : max (((k : Int) + 1) * (p : Int)) (P56.en t k : Int) = (P56.st t k : Int) := by
  unfold P56.st
  rw [show t.P.toNat = p from by omega]
  have h4 : ((k : Int) + 1) * (p : Int) = (((k + 1) * p : Nat) : Int) := by rw [Int.natCast_mul]; simp
  rw [h4]; omega
theorem bdL_lists (t : P56.Tr) (hP : 1 ≤ t.P.toNat) (n : Nat) : ∀ k, k ≤ n → bdL (P56.aps t n) (P56.cls t n) k = P56.bdP t k := by
  intro k
  induction k with
  | zero => intro _; rfl
  | succ k ih =>
    intro hk
    have hA : ∀ j, j < n → (P56.aps t n).getD j 0 = P56.ap t j := fun j hj => by simp [P56.aps, hj]
    have hC : ∀ j, j < n → (P56.cls t n).getD j 0 = P56.cl t j := fun j hj => by simp [P56.cls, hj]
    rw [bdL, P56.bdP, ih (by omega), hA k (by omega), hC k (by omega), hA (k - 1) (by omega), hC (k - 1) (by omega)]
    have e : (if k = 0 then (0 : Int) else P56.cl t (k - 1)) = ((k * t.P.toNat : Nat) : Int) := by
      split
      · rename_i h; subst h; simp
      · unfold P56.cl; rw [show k - 1 + 1 = k by omega]
    rw [e]
theorem aps_bd {t : P56.Tr} (ok : P56.Ok t) : ∀ x ∈ P56.aps t (P56.cycles t), 0 ≤ x ∧ x ≤ 100000000000000 := by
  intro x hx
  simp only [P56.aps, List.mem_map, List.mem_range] at hx
  obtain ⟨k, hk, rfl⟩ := hx
  have := P56.ap_bd ok k (by have := P56.cycles_le ok; omega)
  omega
theorem cls_bd {t : P56.Tr} (ok : P56.Ok t) : ∀ x ∈ P56.cls t (P56.cycles t), 0 ≤ x ∧ x ≤ 100000000000000 := by
  intro x hx
  simp only [P56.cls, List.mem_map, List.mem_range] at hx
  obtain ⟨k, hk, rfl⟩ := hx
  have h2 : (k + 1) * t.P.toNat ≤ 4097 * t.P.toNat := Nat.mul_le_mul_right _ (by have := P56.cycles_le ok; omega)
  have := ok.p
  unfold P56.cl; omega
theorem bdL_bound {t : P56.Tr} (ok : P56.Ok t) : bdL (P56.lists t (P56.cycles t) 0).applied (P56.lists t (P56.cycles t) 0).close (P56.lists t (P56.cycles t) 0).applied.length = P56.boundR t := by
  have hP : 1 ≤ t.P.toNat := by have := ok.p0; omega
  show bdL (P56.aps t (P56.cycles t)) (P56.cls t (P56.cycles t)) (P56.aps t (P56.cycles t)).length = _
  rw [P56.aps_length, bdL_lists t hP _ _ (Nat.le_refl _), P56.bdP_eq t hP, P56.boundR_eq t hP]
/-- A plan and an error. -/
def PlanR (own : Nat → Prop) (r : P56.Pl × Int) (v : Value) (w' : World) : Prop := ∃ pv, v = .tuple #[pv, .int .i64 r.2] ∧ Has own w' (IsPl · pv r.1)
set_option maxHeartbeats 4000000 in
theorem plan_c (SZ : SizesSpec) (t : P56.Tr) (a0 : Option Addr) (c : Nat) (y : Option Addr) (z u : Nat) (cv : Value) (own : Nat → Prop) (W : World) (hl : ∀ b, own b → b < W.heap.size) (hr : Has own W (RdF (Value.int .i64) a0 t.W)) (hc : Has own W (IsCar · cv t.C)) (ok : P56.Ok t) (hwc : t.W.length ≤ c) :
    Calls Try.prog 81 ⟨[.agg #[.slice a0 t.W.length c, .slice y z u, .int .i64 t.P, .int .i64 t.L, .int .i64 t.A], .func (.func 83) #[cv] #[]]⟩ W (Ret W (PlanR own (P56.planOk t))) := by
  have hM := ((Mm.start hl).known hc).known hr
  obtain ⟨p, hp⟩ : ∃ p : Nat, t.P = p := ⟨t.P.toNat, by have := ok.p0; omega⟩
  have hp0 : 1 ≤ p := by have := ok.p0; omega
  have hp1 : p ≤ 4096 := by have := ok.p; omega
  have hcy := P56.cycles_le ok
  have hL : 0 ≤ t.L ∧ t.L ≤ 1073741824 := ⟨ok.l0, ok.l⟩
  have hA : 0 ≤ t.A ∧ t.A ≤ 1073741824 := ⟨ok.a0, ok.a⟩
  refine f_start Try.func81 rfl Try.ntmps81 rfl rfl ?_; intro a hF
  (repeat (first | (with_reducible refine w_seq ?_) | (with_reducible refine c_region ?_) | (with_reducible refine s_nil ?_) | ((with_reducible apply s_call (f := 111) hF hM); exact rfl; exact rfl; exact rfl; exact rfl; exact rfl; exact (SZ t a0 c y z u _ _ hM.lt (hM.facts _ (by (repeat (first | exact List.mem_cons_self | refine List.mem_cons_of_mem _ ?_)))) ok hwc); clear hF hM a; rintro v w a ⟨as_, cs_, rfl, hsz⟩ - hM hF) | (with_reducible refine q_then_n ?_) | ((with_reducible apply s_pure hF); exact rfl; exact rfl; exact rfl; (first | exact trivial | omega | exact ⟨Int.natCast_nonneg _, Int.ofNat_lt.2 (by assumption)⟩ | decide); clear hF a; intro a hF) | ((with_reducible apply s_load hF hM); exact rfl; exact rfl; (repeat (first | exact List.mem_cons_self | refine List.mem_cons_of_mem _ ?_)); exact rfl; exact rfl; clear hF a; intro a hF) | ((with_reducible apply s_alloc hF hM); exact rfl; exact rfl; exact rfl; clear hF hM a; intro b w a hM hF) | ((with_reducible apply s_box hF hM); exact rfl; exact rfl; exact rfl; exact rfl; clear hF hM a; intro b w a hM hF) | (with_reducible refine w_block ?_)))
  rename_i b2 wx b4 wy wz
  replace hM := ((hM.addFact hsz).nilRow 3 1).nilRow 3 1 |>.nilRow 3 1 |>.nilRow 3 1
  clear hsz
  refine c_loop (m := P56.cycles t) (fun m a w' => ∃ (k : Nat) (v1 v2 v3 v4 : Value), m + k = P56.cycles t ∧ P56.endOf t k = some (P56.en t k) ∧ Fr _ [] [(17, .int .i64 k), (16, .int .i64 (P56.cycles t)), (15, .slice as_ (P56.cycles t) cs_), (7, .int .i64 (P56.en t k)), (6, .pointer (some ⟨b, 0, none⟩)), (4, .pointer (some ⟨b4, 0, none⟩)), (2, .pointer (some ⟨b2, 0, none⟩)), (1, .func (.func 83) #[cv] #[])] a ∧
    Mm own W [⟨b, ⟨[v1, v2, v3, v4, .int .i64 0]⟩, 73⟩, ⟨b4, ⟨[.slice none 0 0, .slice none 0 0, .slice none 0 0, .slice none 0 0, .int .i64 0]⟩, 73⟩, ⟨b2, ⟨[.slice a0 t.W.length c, .slice y z u, .int .i64 t.P, .int .i64 t.L, .int .i64 t.A]⟩, 42⟩]
      [⟨3, 1, v1, k, (P56.cls t k).map (Value.int .i64)⟩, ⟨3, 1, v2, k, (P56.sts t k).map (Value.int .i64)⟩, ⟨3, 1, v3, k, (P56.ens t k).map (Value.int .i64)⟩, ⟨3, 1, v4, k, (P56.aps t k).map (Value.int .i64)⟩]
      [RdF (Value.int .i64) as_ (szs t), RdF (Value.int .i64) a0 t.W, (IsCar · cv t.C)] w') ⟨0, _, _, _, _, by omega, rfl, hF.sub (by repeat (first | exact Sub.nil | refine Sub.cons rfl (by first | with_reducible rfl | (refine congrArg (Value.int _) ?_; omega) | exact rfl) ?_)), hM⟩ ?_
  clear hF hM a
  rintro m a w' ⟨k, v1, v2, v3, v4, hk, hE, hF, hM⟩
  have hen := P56.en_le ok (show k ≤ 4097 by omega)
  obtain ⟨e0, e1, e2, e3⟩ := P56.mul_bd (k := k) (p := p) (by omega) hp1
  by_cases hlt : k < P56.cycles t
  · have hsg := szs_get t hlt
    obtain ⟨ad, rfl⟩ := rd_some hM (by (repeat (first | exact List.mem_cons_self | refine List.mem_cons_of_mem _ ?_))) hsg
    have hsb := P56.size_bd ok k
    have hst : P56.st t k ≤ 900000000000 := by
      have h2 : (k + 1) * t.P.toNat ≤ 4097 * t.P.toNat := Nat.mul_le_mul_right _ (by omega)
      unfold P56.st; omega
    have hEs := P56.endOf_succ hE
    rw [hp] at hM
    (repeat' (first | (with_reducible refine w_seq ?_) | (with_reducible refine c_region ?_) | (with_reducible refine s_nil ?_) | (with_reducible refine q_then_n ?_) | ((with_reducible apply s_pure hF); exact rfl; exact rfl; exact rfl; (first | exact trivial | omega | exact ⟨Int.natCast_nonneg _, Int.ofNat_lt.2 (by assumption)⟩ | decide); clear hF a; intro a hF) | ((with_reducible apply s_load hF hM); exact rfl; exact rfl; (repeat (first | exact List.mem_cons_self | refine List.mem_cons_of_mem _ ?_)); exact rfl; exact rfl; clear hF a; intro a hF) | ((with_reducible apply s_loadF hF hM); exact rfl; exact rfl; (repeat (first | exact List.mem_cons_self | refine List.mem_cons_of_mem _ ?_)); exact rfl; exact rfl; (first | with_reducible assumption | (simp only [Int.toNat_natCast]; with_reducible assumption)); clear hF a; intro a hF) | (with_reducible refine w_skip ?_) | (with_reducible refine w_block ?_) | ((with_reducible apply c_dec hF); exact rfl; all_goals intro hc; all_goals (try (exfalso; omega)))))
    rw [max_st hp] at hF
    (repeat (first | (with_reducible refine w_seq ?_) | (with_reducible refine c_region ?_) | (with_reducible refine s_nil ?_) | ((with_reducible apply s_callc (f := 83) hF hM); exact rfl; exact rfl; exact rfl; exact rfl; exact rfl; exact rfl; exact rfl; exact (Ret.of (end_any t.C cv (P56.st t k) (P56.size t k) _ (hM.fact (f := (IsCar · cv t.C)) (by (repeat (first | exact List.mem_cons_self | refine List.mem_cons_of_mem _ ?_)))) ok.clen ok.c hst hsb.1 hsb.2)); clear hF hM a; rintro v w a rfl - hM hF) | (with_reducible refine q_then_n ?_) | ((with_reducible apply s_pure hF); exact rfl; exact rfl; exact rfl; (first | exact trivial | omega | exact ⟨Int.natCast_nonneg _, Int.ofNat_lt.2 (by assumption)⟩ | decide); clear hF a; intro a hF)))
    generalize P56.finish t.C (P56.st t k) (P56.size t k) = fi at *
    cases fi with
    | none =>
      (repeat' (first | (with_reducible refine w_seq ?_) | (with_reducible refine c_region ?_) | (with_reducible refine s_nil ?_) | (with_reducible refine q_then_n ?_) | ((with_reducible apply s_pure hF); exact rfl; exact rfl; exact rfl; (first | exact trivial | omega | exact ⟨Int.natCast_nonneg _, Int.ofNat_lt.2 (by assumption)⟩ | decide); clear hF a; intro a hF) | ((with_reducible apply s_store hF hM); exact rfl; exact rfl; exact rfl; exact rfl; (repeat (first | exact Upd.z | apply Upd.s)); exact rfl; exact rfl; exact rfl; clear hM; intro w hM) | (with_reducible refine w_ret ?_) | (with_reducible refine q_then_r ?_) | (with_reducible refine q_blk_r ?_) | ((with_reducible apply c_true2 hF); exact rfl; (first | with_reducible rfl | (refine congrArg Value.bool ?_; focus (simp; done))))))
      (apply f_ret Try.results81 hF hM; (repeat (first | exact RL.nil | (apply RL.tmp; exact rfl) | (apply RL.cell; exact rfl; (repeat (first | exact List.mem_cons_self | refine List.mem_cons_of_mem _ ?_)); exact rfl))); refine Ret.mk hM.since ?_; dsimp only [resV])
      rw [P56.planOk_none (show k + 1 ≤ P56.cycles t by omega) hEs]
      exact ⟨_, rfl, Has.pure fun w => isPl_none w⟩
    | some x =>
      have hx : P56.en t (k + 1) = x := by unfold P56.en; rw [hEs]; rfl
      have hxb := P56.en_le ok (show k + 1 ≤ 4097 by omega)
      rw [hx] at hxb
      have hap : (x : Int) + t.L + t.A = P56.ap t k := by unfold P56.ap; rw [hx]
      (repeat' (first | (with_reducible refine w_seq ?_) | (with_reducible refine c_region ?_) | (with_reducible refine s_nil ?_) | (with_reducible refine q_then_n ?_) | ((with_reducible apply s_pure hF); exact rfl; exact rfl; exact rfl; (first | exact trivial | omega | exact ⟨Int.natCast_nonneg _, Int.ofNat_lt.2 (by assumption)⟩ | decide); clear hF a; intro a hF) | (with_reducible refine w_skip ?_) | ((with_reducible apply c_false2 hF); exact rfl; (first | with_reducible rfl | (refine congrArg Value.bool ?_; focus (simp; done))))))
      simp only [Option.getD_some, Option.isSome_some] at hF
      have e1 : (P56.cls t k).map (Value.int .i64) ++ [.int .i64 (((k : Int) + 1) * (p : Int))] = (P56.cls t (k + 1)).map (Value.int .i64) := by rw [P56.cls_step hp, List.map_append]; rfl
      have e2 : (P56.sts t k).map (Value.int .i64) ++ [.int .i64 (P56.st t k)] = (P56.sts t (k + 1)).map (Value.int .i64) := by rw [P56.sts_succ, List.map_append]; rfl
      have e3 : (P56.ens t k).map (Value.int .i64) ++ [.int .i64 x] = (P56.ens t (k + 1)).map (Value.int .i64) := by rw [P56.ens_succ, List.map_append, hx]; rfl
      have e4 : (P56.aps t k).map (Value.int .i64) ++ [.int .i64 ((x : Int) + t.L + t.A)] = (P56.aps t (k + 1)).map (Value.int .i64) := by rw [P56.aps_succ, List.map_append, hap]; rfl
      refine c_cut (fun a w' => ∃ u1 u2, Fr 76 [] [(12, .int .i64 x), (17, .int .i64 k), (16, .int .i64 (P56.cycles t)), (15, .slice (some ad) (P56.cycles t) cs_), (7, .int .i64 x), (6, .pointer (some ⟨b, 0, none⟩)), (4, .pointer (some ⟨b4, 0, none⟩)), (2, .pointer (some ⟨b2, 0, none⟩)), (1, .func (.func 83) #[cv] #[])] a ∧ Mm own W [⟨b, ⟨[u1, u2, v3, v4, .int .i64 0]⟩, 73⟩, ⟨b4, ⟨[.slice none 0 0, .slice none 0 0, .slice none 0 0, .slice none 0 0, .int .i64 0]⟩, 73⟩, ⟨b2, ⟨[.slice a0 t.W.length c, .slice y z u, .int .i64 p, .int .i64 t.L, .int .i64 t.A]⟩, 42⟩] [⟨3, 1, u1, k + 1, (P56.cls t k).map (Value.int .i64) ++ [.int .i64 (((k : Int) + 1) * (p : Int))]⟩, ⟨3, 1, u2, k + 1, (P56.sts t k).map (Value.int .i64) ++ [.int .i64 (P56.st t k)]⟩, ⟨3, 1, v3, k, (P56.ens t k).map (Value.int .i64)⟩, ⟨3, 1, v4, k, (P56.aps t k).map (Value.int .i64)⟩] [RdF (Value.int .i64) (some ad) (szs t), RdF (Value.int .i64) a0 t.W, (IsCar · cv t.C)] w') ?_ ?_
      · refine c_draw (fun i => Nat.ble 11 i) hM ?_; clear hM; intro w hM
        (first | (refine t_pure (i := 0) hF rfl rfl rfl rfl (by kernel_rfl) hM.sm (fun _ _ _ h => h) ?_ ?_; (first | exact trivial | omega | decide); clear hF a; intro a hF))
        (first | (apply t_load (i := 1) hF rfl rfl rfl; (repeat (first | exact List.mem_cons_self | refine List.mem_cons_of_mem _ ?_)); exact rfl; exact rfl; kernel_rfl; exact hM.sm; exact (fun _ _ _ h => h); clear hF a; intro a hF))
        (first | (refine t_pure (i := 2) hF rfl rfl rfl rfl (by kernel_rfl) hM.sm (fun _ _ _ h => h) ?_ ?_; (first | exact trivial | omega | decide); clear hF a; intro a hF))
        (first | (refine t_pure (i := 5) hF rfl rfl rfl rfl (by kernel_rfl) hM.sm (fun _ _ _ h => h) ?_ ?_; (first | exact trivial | omega | decide); clear hF a; intro a hF))
        (first | (apply t_load (i := 6) hF rfl rfl rfl; (repeat (first | exact List.mem_cons_self | refine List.mem_cons_of_mem _ ?_)); exact rfl; exact rfl; kernel_rfl; exact hM.sm; exact (fun _ _ _ h => h); clear hF a; intro a hF))
        (first | (refine t_pure (i := 7) hF rfl rfl rfl rfl (by kernel_rfl) hM.sm (fun _ _ _ h => h) ?_ ?_; (first | exact trivial | omega | decide); clear hF a; intro a hF))
        refine t_two (i := 3) (j := 8) hF rfl rfl (by kernel_rfl) rfl rfl ?_ ?_
        ·
          intro K hK
          (refine x_lit hF hM rfl rfl rfl ?_; clear hF hM a; intro bl w a hM hF)
          refine hK _ _ (fun _ => (hM.sm.sub (fun x hx => by repeat (first | exact hx | refine List.mem_cons_of_mem _ ?_)) (fun _ h => by repeat (first | exact h | refine List.mem_cons_of_mem _ ?_)))) ?_; clear hK
          refine t_two (i := 4) (j := 8) hF rfl rfl (by kernel_rfl) rfl rfl ?_ ?_
          ·
            intro K hK
            (apply x_app hF hM rfl rfl rfl; (repeat (first | exact List.mem_cons_self | refine List.mem_cons_of_mem _ ?_)); (repeat (first | exact Kth.z | apply Kth.s)); exact rfl; exact rfl; exact rfl; exact rfl; omega; clear hF hM a; intro g cap w a hM hF; dsimp only [List.set] at hM)
            refine hK _ _ (fun _ => (hM.sm.sub (fun x hx => by repeat (first | exact hx | refine List.mem_cons_of_mem _ ?_)) (fun _ h => by repeat (first | exact h | refine List.mem_cons_of_mem _ ?_)))) ?_; clear hK
            (first | (refine t_pure (i := 10) hF rfl rfl rfl rfl (by kernel_rfl) (hM.sm.sub (fun x hx => by repeat (first | exact hx | refine List.mem_cons_of_mem _ ?_)) (fun _ h => by repeat (first | exact h | refine List.mem_cons_of_mem _ ?_))) (fun _ _ _ h => h) ?_ ?_; (first | exact trivial | omega | decide); clear hF a; intro a hF))
            refine t_one (i := 8) hF rfl (by kernel_rfl) rfl ?_
            intro K hK
            (refine x_lit hF hM rfl rfl rfl ?_; clear hF hM a; intro bl w a hM hF)
            refine hK _ _ (fun _ => (hM.sm.sub (fun x hx => by repeat (first | exact hx | refine List.mem_cons_of_mem _ ?_)) (fun _ h => by repeat (first | exact h | refine List.mem_cons_of_mem _ ?_)))) ?_; clear hK
            refine t_one (i := 9) hF rfl (by kernel_rfl) rfl ?_
            intro K hK
            (apply x_app hF hM rfl rfl rfl; (repeat (first | exact List.mem_cons_self | refine List.mem_cons_of_mem _ ?_)); (repeat (first | exact Kth.z | apply Kth.s)); exact rfl; exact rfl; exact rfl; exact rfl; omega; clear hF hM a; intro g cap w a hM hF; dsimp only [List.set] at hM)
            refine hK _ _ (fun _ => (hM.sm.sub (fun x hx => by repeat (first | exact hx | refine List.mem_cons_of_mem _ ?_)) (fun _ h => by repeat (first | exact h | refine List.mem_cons_of_mem _ ?_)))) ?_; clear hK
            refine t_one (i := 11) hF rfl (by kernel_rfl) rfl ?_
            intro K hK
            (apply x_store hF hM rfl rfl rfl; (repeat (first | exact Upd.z | apply Upd.s)); exact rfl; exact rfl; exact rfl; clear hF hM a; intro w a hM hF)
            refine hK _ _ (fun h => by cases h) ?_; clear hK
            refine t_one (i := 12) hF rfl (by kernel_rfl) rfl ?_
            intro K hK
            (first | (refine x_pure hF hM rfl rfl ?_ ?_; (first | exact trivial | omega | decide); clear hF a; intro a hF) | (apply x_load hF hM rfl; (repeat (first | exact List.mem_cons_self | refine List.mem_cons_of_mem _ ?_)); exact rfl; exact rfl; clear hF a; intro a hF))
            refine hK _ _ (fun h => by cases h) ?_; clear hK
            refine t_one (i := 13) hF rfl (by kernel_rfl) rfl ?_
            intro K hK
            (apply x_store hF hM rfl rfl rfl; (repeat (first | exact Upd.z | apply Upd.s)); exact rfl; exact rfl; exact rfl; clear hF hM a; intro w a hM hF)
            refine hK _ _ (fun h => by cases h) ?_; clear hK
            refine t_done (by kernel_rfl) ?_
            exact q_cut ⟨_, _, hF.sub (by repeat (first | exact Sub.nil | refine Sub.cons rfl (by first | with_reducible rfl | (refine congrArg (Value.int _) ?_; omega) | exact rfl) ?_)), hM.sub (.cons _ (.cons _ (.refl _))) (.refl _) (fun _ h => h)⟩
          ·
            intro K hK
            (refine x_lit hF hM rfl rfl rfl ?_; clear hF hM a; intro bl w a hM hF)
            refine hK _ _ (fun _ => (hM.sm.sub (fun x hx => by repeat (first | exact hx | refine List.mem_cons_of_mem _ ?_)) (fun _ h => by repeat (first | exact h | refine List.mem_cons_of_mem _ ?_)))) ?_; clear hK
            refine t_one (i := 4) hF rfl (by kernel_rfl) rfl ?_
            intro K hK
            (apply x_app hF hM rfl rfl rfl; (repeat (first | exact List.mem_cons_self | refine List.mem_cons_of_mem _ ?_)); (repeat (first | exact Kth.z | apply Kth.s)); exact rfl; exact rfl; exact rfl; exact rfl; omega; clear hF hM a; intro g cap w a hM hF; dsimp only [List.set] at hM)
            refine hK _ _ (fun _ => (hM.sm.sub (fun x hx => by repeat (first | exact hx | refine List.mem_cons_of_mem _ ?_)) (fun _ h => by repeat (first | exact h | refine List.mem_cons_of_mem _ ?_)))) ?_; clear hK
            (first | (refine t_pure (i := 10) hF rfl rfl rfl rfl (by kernel_rfl) (hM.sm.sub (fun x hx => by repeat (first | exact hx | refine List.mem_cons_of_mem _ ?_)) (fun _ h => by repeat (first | exact h | refine List.mem_cons_of_mem _ ?_))) (fun _ _ _ h => h) ?_ ?_; (first | exact trivial | omega | decide); clear hF a; intro a hF))
            refine t_one (i := 9) hF rfl (by kernel_rfl) rfl ?_
            intro K hK
            (apply x_app hF hM rfl rfl rfl; (repeat (first | exact List.mem_cons_self | refine List.mem_cons_of_mem _ ?_)); (repeat (first | exact Kth.z | apply Kth.s)); exact rfl; exact rfl; exact rfl; exact rfl; omega; clear hF hM a; intro g cap w a hM hF; dsimp only [List.set] at hM)
            refine hK _ _ (fun _ => (hM.sm.sub (fun x hx => by repeat (first | exact hx | refine List.mem_cons_of_mem _ ?_)) (fun _ h => by repeat (first | exact h | refine List.mem_cons_of_mem _ ?_)))) ?_; clear hK
            refine t_one (i := 11) hF rfl (by kernel_rfl) rfl ?_
            intro K hK
            (apply x_store hF hM rfl rfl rfl; (repeat (first | exact Upd.z | apply Upd.s)); exact rfl; exact rfl; exact rfl; clear hF hM a; intro w a hM hF)
            refine hK _ _ (fun h => by cases h) ?_; clear hK
            refine t_one (i := 12) hF rfl (by kernel_rfl) rfl ?_
            intro K hK
            (first | (refine x_pure hF hM rfl rfl ?_ ?_; (first | exact trivial | omega | decide); clear hF a; intro a hF) | (apply x_load hF hM rfl; (repeat (first | exact List.mem_cons_self | refine List.mem_cons_of_mem _ ?_)); exact rfl; exact rfl; clear hF a; intro a hF))
            refine hK _ _ (fun h => by cases h) ?_; clear hK
            refine t_one (i := 13) hF rfl (by kernel_rfl) rfl ?_
            intro K hK
            (apply x_store hF hM rfl rfl rfl; (repeat (first | exact Upd.z | apply Upd.s)); exact rfl; exact rfl; exact rfl; clear hF hM a; intro w a hM hF)
            refine hK _ _ (fun h => by cases h) ?_; clear hK
            refine t_done (by kernel_rfl) ?_
            exact q_cut ⟨_, _, hF.sub (by repeat (first | exact Sub.nil | refine Sub.cons rfl (by first | with_reducible rfl | (refine congrArg (Value.int _) ?_; omega) | exact rfl) ?_)), hM.sub (.cons _ (.cons _ (.refl _))) (.refl _) (fun _ h => h)⟩
        ·
          intro K hK
          (refine x_lit hF hM rfl rfl rfl ?_; clear hF hM a; intro bl w a hM hF)
          refine hK _ _ (fun _ => (hM.sm.sub (fun x hx => by repeat (first | exact hx | refine List.mem_cons_of_mem _ ?_)) (fun _ h => by repeat (first | exact h | refine List.mem_cons_of_mem _ ?_)))) ?_; clear hK
          refine t_one (i := 3) hF rfl (by kernel_rfl) rfl ?_
          intro K hK
          (refine x_lit hF hM rfl rfl rfl ?_; clear hF hM a; intro bl w a hM hF)
          refine hK _ _ (fun _ => (hM.sm.sub (fun x hx => by repeat (first | exact hx | refine List.mem_cons_of_mem _ ?_)) (fun _ h => by repeat (first | exact h | refine List.mem_cons_of_mem _ ?_)))) ?_; clear hK
          refine t_one (i := 4) hF rfl (by kernel_rfl) rfl ?_
          intro K hK
          (apply x_app hF hM rfl rfl rfl; (repeat (first | exact List.mem_cons_self | refine List.mem_cons_of_mem _ ?_)); (repeat (first | exact Kth.z | apply Kth.s)); exact rfl; exact rfl; exact rfl; exact rfl; omega; clear hF hM a; intro g cap w a hM hF; dsimp only [List.set] at hM)
          refine hK _ _ (fun _ => (hM.sm.sub (fun x hx => by repeat (first | exact hx | refine List.mem_cons_of_mem _ ?_)) (fun _ h => by repeat (first | exact h | refine List.mem_cons_of_mem _ ?_)))) ?_; clear hK
          (first | (refine t_pure (i := 10) hF rfl rfl rfl rfl (by kernel_rfl) (hM.sm.sub (fun x hx => by repeat (first | exact hx | refine List.mem_cons_of_mem _ ?_)) (fun _ h => by repeat (first | exact h | refine List.mem_cons_of_mem _ ?_))) (fun _ _ _ h => h) ?_ ?_; (first | exact trivial | omega | decide); clear hF a; intro a hF))
          refine t_one (i := 9) hF rfl (by kernel_rfl) rfl ?_
          intro K hK
          (apply x_app hF hM rfl rfl rfl; (repeat (first | exact List.mem_cons_self | refine List.mem_cons_of_mem _ ?_)); (repeat (first | exact Kth.z | apply Kth.s)); exact rfl; exact rfl; exact rfl; exact rfl; omega; clear hF hM a; intro g cap w a hM hF; dsimp only [List.set] at hM)
          refine hK _ _ (fun _ => (hM.sm.sub (fun x hx => by repeat (first | exact hx | refine List.mem_cons_of_mem _ ?_)) (fun _ h => by repeat (first | exact h | refine List.mem_cons_of_mem _ ?_)))) ?_; clear hK
          refine t_one (i := 11) hF rfl (by kernel_rfl) rfl ?_
          intro K hK
          (apply x_store hF hM rfl rfl rfl; (repeat (first | exact Upd.z | apply Upd.s)); exact rfl; exact rfl; exact rfl; clear hF hM a; intro w a hM hF)
          refine hK _ _ (fun h => by cases h) ?_; clear hK
          refine t_one (i := 12) hF rfl (by kernel_rfl) rfl ?_
          intro K hK
          (first | (refine x_pure hF hM rfl rfl ?_ ?_; (first | exact trivial | omega | decide); clear hF a; intro a hF) | (apply x_load hF hM rfl; (repeat (first | exact List.mem_cons_self | refine List.mem_cons_of_mem _ ?_)); exact rfl; exact rfl; clear hF a; intro a hF))
          refine hK _ _ (fun h => by cases h) ?_; clear hK
          refine t_one (i := 13) hF rfl (by kernel_rfl) rfl ?_
          intro K hK
          (apply x_store hF hM rfl rfl rfl; (repeat (first | exact Upd.z | apply Upd.s)); exact rfl; exact rfl; exact rfl; clear hF hM a; intro w a hM hF)
          refine hK _ _ (fun h => by cases h) ?_; clear hK
          refine t_done (by kernel_rfl) ?_
          exact q_cut ⟨_, _, hF.sub (by repeat (first | exact Sub.nil | refine Sub.cons rfl (by first | with_reducible rfl | (refine congrArg (Value.int _) ?_; omega) | exact rfl) ?_)), hM.sub (.cons _ (.cons _ (.refl _))) (.refl _) (fun _ h => h)⟩
      clear hF hM a
      rintro a w' ⟨u1, u2, hF, hM⟩
      rw [e1, e2] at hM
      (repeat (first | fail))
      refine c_draw (fun i => Nat.ble 17 i) hM ?_; clear hM; intro w hM
      (first | (refine t_pure (i := 0) hF rfl rfl rfl rfl (by kernel_rfl) hM.sm (fun _ _ _ h => h) ?_ ?_; (first | exact trivial | omega | decide); clear hF a; intro a hF))
      (first | (apply t_load (i := 1) hF rfl rfl rfl; (repeat (first | exact List.mem_cons_self | refine List.mem_cons_of_mem _ ?_)); exact rfl; exact rfl; kernel_rfl; exact hM.sm; exact (fun _ _ _ h => h); clear hF a; intro a hF))
      (first | (refine t_pure (i := 2) hF rfl rfl rfl rfl (by kernel_rfl) hM.sm (fun _ _ _ h => h) ?_ ?_; (first | exact trivial | omega | decide); clear hF a; intro a hF))
      (first | (refine t_pure (i := 5) hF rfl rfl rfl rfl (by kernel_rfl) hM.sm (fun _ _ _ h => h) ?_ ?_; (first | exact trivial | omega | decide); clear hF a; intro a hF))
      (first | (apply t_load (i := 6) hF rfl rfl rfl; (repeat (first | exact List.mem_cons_self | refine List.mem_cons_of_mem _ ?_)); exact rfl; exact rfl; kernel_rfl; exact hM.sm; exact (fun _ _ _ h => h); clear hF a; intro a hF))
      (first | (refine t_pure (i := 7) hF rfl rfl rfl rfl (by kernel_rfl) hM.sm (fun _ _ _ h => h) ?_ ?_; (first | exact trivial | omega | decide); clear hF a; intro a hF))
      (first | (refine t_pure (i := 8) hF rfl rfl rfl rfl (by kernel_rfl) hM.sm (fun _ _ _ h => h) ?_ ?_; (first | exact trivial | omega | decide); clear hF a; intro a hF))
      (first | (apply t_load (i := 9) hF rfl rfl rfl; (repeat (first | exact List.mem_cons_self | refine List.mem_cons_of_mem _ ?_)); exact rfl; exact rfl; kernel_rfl; exact hM.sm; exact (fun _ _ _ h => h); clear hF a; intro a hF))
      (first | (refine t_pure (i := 10) hF rfl rfl rfl rfl (by kernel_rfl) hM.sm (fun _ _ _ h => h) ?_ ?_; (first | exact trivial | omega | decide); clear hF a; intro a hF))
      (first | (refine t_pure (i := 11) hF rfl rfl rfl rfl (by kernel_rfl) hM.sm (fun _ _ _ h => h) ?_ ?_; (first | exact trivial | omega | decide); clear hF a; intro a hF))
      (first | (apply t_load (i := 12) hF rfl rfl rfl; (repeat (first | exact List.mem_cons_self | refine List.mem_cons_of_mem _ ?_)); exact rfl; exact rfl; kernel_rfl; exact hM.sm; exact (fun _ _ _ h => h); clear hF a; intro a hF))
      (first | (refine t_pure (i := 13) hF rfl rfl rfl rfl (by kernel_rfl) hM.sm (fun _ _ _ h => h) ?_ ?_; (first | exact trivial | omega | decide); clear hF a; intro a hF))
      refine t_two (i := 3) (j := 14) hF rfl rfl (by kernel_rfl) rfl rfl ?_ ?_
      ·
        intro K hK
        (refine x_lit hF hM rfl rfl rfl ?_; clear hF hM a; intro bl w a hM hF)
        refine hK _ _ (fun _ => (hM.sm.sub (fun x hx => by repeat (first | exact hx | refine List.mem_cons_of_mem _ ?_)) (fun _ h => by repeat (first | exact h | refine List.mem_cons_of_mem _ ?_)))) ?_; clear hK
        refine t_two (i := 4) (j := 14) hF rfl rfl (by kernel_rfl) rfl rfl ?_ ?_
        ·
          intro K hK
          (apply x_app hF hM rfl rfl rfl; (repeat (first | exact List.mem_cons_self | refine List.mem_cons_of_mem _ ?_)); (repeat (first | exact Kth.z | apply Kth.s)); exact rfl; exact rfl; exact rfl; exact rfl; omega; clear hF hM a; intro g cap w a hM hF; dsimp only [List.set] at hM)
          refine hK _ _ (fun _ => (hM.sm.sub (fun x hx => by repeat (first | exact hx | refine List.mem_cons_of_mem _ ?_)) (fun _ h => by repeat (first | exact h | refine List.mem_cons_of_mem _ ?_)))) ?_; clear hK
          (first | (refine t_pure (i := 16) hF rfl rfl rfl rfl (by kernel_rfl) (hM.sm.sub (fun x hx => by repeat (first | exact hx | refine List.mem_cons_of_mem _ ?_)) (fun _ h => by repeat (first | exact h | refine List.mem_cons_of_mem _ ?_))) (fun _ _ _ h => h) ?_ ?_; (first | exact trivial | omega | decide); clear hF a; intro a hF))
          refine t_one (i := 14) hF rfl (by kernel_rfl) rfl ?_
          intro K hK
          (refine x_lit hF hM rfl rfl rfl ?_; clear hF hM a; intro bl w a hM hF)
          refine hK _ _ (fun _ => (hM.sm.sub (fun x hx => by repeat (first | exact hx | refine List.mem_cons_of_mem _ ?_)) (fun _ h => by repeat (first | exact h | refine List.mem_cons_of_mem _ ?_)))) ?_; clear hK
          refine t_one (i := 15) hF rfl (by kernel_rfl) rfl ?_
          intro K hK
          (apply x_app hF hM rfl rfl rfl; (repeat (first | exact List.mem_cons_self | refine List.mem_cons_of_mem _ ?_)); (repeat (first | exact Kth.z | apply Kth.s)); exact rfl; exact rfl; exact rfl; exact rfl; omega; clear hF hM a; intro g cap w a hM hF; dsimp only [List.set] at hM)
          refine hK _ _ (fun _ => (hM.sm.sub (fun x hx => by repeat (first | exact hx | refine List.mem_cons_of_mem _ ?_)) (fun _ h => by repeat (first | exact h | refine List.mem_cons_of_mem _ ?_)))) ?_; clear hK
          refine t_one (i := 17) hF rfl (by kernel_rfl) rfl ?_
          intro K hK
          (apply x_store hF hM rfl rfl rfl; (repeat (first | exact Upd.z | apply Upd.s)); exact rfl; exact rfl; exact rfl; clear hF hM a; intro w a hM hF)
          refine hK _ _ (fun h => by cases h) ?_; clear hK
          refine t_one (i := 18) hF rfl (by kernel_rfl) rfl ?_
          intro K hK
          (first | (refine x_pure hF hM rfl rfl ?_ ?_; (first | exact trivial | omega | decide); clear hF a; intro a hF) | (apply x_load hF hM rfl; (repeat (first | exact List.mem_cons_self | refine List.mem_cons_of_mem _ ?_)); exact rfl; exact rfl; clear hF a; intro a hF))
          refine hK _ _ (fun h => by cases h) ?_; clear hK
          refine t_one (i := 19) hF rfl (by kernel_rfl) rfl ?_
          intro K hK
          (apply x_store hF hM rfl rfl rfl; (repeat (first | exact Upd.z | apply Upd.s)); exact rfl; exact rfl; exact rfl; clear hF hM a; intro w a hM hF)
          refine hK _ _ (fun h => by cases h) ?_; clear hK
          refine t_done (by kernel_rfl) ?_
          (repeat (first | (with_reducible refine c_region ?_) | (with_reducible refine s_nil ?_) | (with_reducible refine q_then_n ?_) | ((with_reducible apply s_pure hF); exact rfl; exact rfl; exact rfl; (first | exact trivial | omega | exact ⟨Int.natCast_nonneg _, Int.ofNat_lt.2 (by assumption)⟩ | decide); clear hF a; intro a hF) | (with_reducible refine q_blk_n ?_)))
          replace hM := hM.sub (.cons _ (.cons _ (.refl _))) (.refl _) (fun _ h => h)
          have hM : Mm own W [⟨b, ⟨[u1, u2, _, _, .int .i64 0]⟩, 73⟩, _, _] [_, _, ⟨3, 1, _, k + 1, (P56.ens t k).map (Value.int .i64) ++ [.int .i64 x]⟩, ⟨3, 1, _, k + 1, (P56.aps t k).map (Value.int .i64) ++ [.int .i64 ((x : Int) + t.L + t.A)]⟩] _ _ := hM
          rw [e3, e4, ← hp] at hM
          exact ⟨m - 1, by omega, k + 1, _, _, _, _, by omega, by rw [hEs, hx], hF.sub (by repeat (first | exact Sub.nil | refine Sub.cons rfl (by first | with_reducible rfl | (refine congrArg (Value.int _) ?_; omega) | (rw [hx]) | exact rfl) ?_)), hM⟩
        ·
          intro K hK
          (refine x_lit hF hM rfl rfl rfl ?_; clear hF hM a; intro bl w a hM hF)
          refine hK _ _ (fun _ => (hM.sm.sub (fun x hx => by repeat (first | exact hx | refine List.mem_cons_of_mem _ ?_)) (fun _ h => by repeat (first | exact h | refine List.mem_cons_of_mem _ ?_)))) ?_; clear hK
          refine t_one (i := 4) hF rfl (by kernel_rfl) rfl ?_
          intro K hK
          (apply x_app hF hM rfl rfl rfl; (repeat (first | exact List.mem_cons_self | refine List.mem_cons_of_mem _ ?_)); (repeat (first | exact Kth.z | apply Kth.s)); exact rfl; exact rfl; exact rfl; exact rfl; omega; clear hF hM a; intro g cap w a hM hF; dsimp only [List.set] at hM)
          refine hK _ _ (fun _ => (hM.sm.sub (fun x hx => by repeat (first | exact hx | refine List.mem_cons_of_mem _ ?_)) (fun _ h => by repeat (first | exact h | refine List.mem_cons_of_mem _ ?_)))) ?_; clear hK
          (first | (refine t_pure (i := 16) hF rfl rfl rfl rfl (by kernel_rfl) (hM.sm.sub (fun x hx => by repeat (first | exact hx | refine List.mem_cons_of_mem _ ?_)) (fun _ h => by repeat (first | exact h | refine List.mem_cons_of_mem _ ?_))) (fun _ _ _ h => h) ?_ ?_; (first | exact trivial | omega | decide); clear hF a; intro a hF))
          refine t_one (i := 15) hF rfl (by kernel_rfl) rfl ?_
          intro K hK
          (apply x_app hF hM rfl rfl rfl; (repeat (first | exact List.mem_cons_self | refine List.mem_cons_of_mem _ ?_)); (repeat (first | exact Kth.z | apply Kth.s)); exact rfl; exact rfl; exact rfl; exact rfl; omega; clear hF hM a; intro g cap w a hM hF; dsimp only [List.set] at hM)
          refine hK _ _ (fun _ => (hM.sm.sub (fun x hx => by repeat (first | exact hx | refine List.mem_cons_of_mem _ ?_)) (fun _ h => by repeat (first | exact h | refine List.mem_cons_of_mem _ ?_)))) ?_; clear hK
          refine t_one (i := 17) hF rfl (by kernel_rfl) rfl ?_
          intro K hK
          (apply x_store hF hM rfl rfl rfl; (repeat (first | exact Upd.z | apply Upd.s)); exact rfl; exact rfl; exact rfl; clear hF hM a; intro w a hM hF)
          refine hK _ _ (fun h => by cases h) ?_; clear hK
          refine t_one (i := 18) hF rfl (by kernel_rfl) rfl ?_
          intro K hK
          (first | (refine x_pure hF hM rfl rfl ?_ ?_; (first | exact trivial | omega | decide); clear hF a; intro a hF) | (apply x_load hF hM rfl; (repeat (first | exact List.mem_cons_self | refine List.mem_cons_of_mem _ ?_)); exact rfl; exact rfl; clear hF a; intro a hF))
          refine hK _ _ (fun h => by cases h) ?_; clear hK
          refine t_one (i := 19) hF rfl (by kernel_rfl) rfl ?_
          intro K hK
          (apply x_store hF hM rfl rfl rfl; (repeat (first | exact Upd.z | apply Upd.s)); exact rfl; exact rfl; exact rfl; clear hF hM a; intro w a hM hF)
          refine hK _ _ (fun h => by cases h) ?_; clear hK
          refine t_done (by kernel_rfl) ?_
          (repeat (first | (with_reducible refine c_region ?_) | (with_reducible refine s_nil ?_) | (with_reducible refine q_then_n ?_) | ((with_reducible apply s_pure hF); exact rfl; exact rfl; exact rfl; (first | exact trivial | omega | exact ⟨Int.natCast_nonneg _, Int.ofNat_lt.2 (by assumption)⟩ | decide); clear hF a; intro a hF) | (with_reducible refine q_blk_n ?_)))
          replace hM := hM.sub (.cons _ (.cons _ (.refl _))) (.refl _) (fun _ h => h)
          have hM : Mm own W [⟨b, ⟨[u1, u2, _, _, .int .i64 0]⟩, 73⟩, _, _] [_, _, ⟨3, 1, _, k + 1, (P56.ens t k).map (Value.int .i64) ++ [.int .i64 x]⟩, ⟨3, 1, _, k + 1, (P56.aps t k).map (Value.int .i64) ++ [.int .i64 ((x : Int) + t.L + t.A)]⟩] _ _ := hM
          rw [e3, e4, ← hp] at hM
          exact ⟨m - 1, by omega, k + 1, _, _, _, _, by omega, by rw [hEs, hx], hF.sub (by repeat (first | exact Sub.nil | refine Sub.cons rfl (by first | with_reducible rfl | (refine congrArg (Value.int _) ?_; omega) | (rw [hx]) | exact rfl) ?_)), hM⟩
      ·
        intro K hK
        (refine x_lit hF hM rfl rfl rfl ?_; clear hF hM a; intro bl w a hM hF)
        refine hK _ _ (fun _ => (hM.sm.sub (fun x hx => by repeat (first | exact hx | refine List.mem_cons_of_mem _ ?_)) (fun _ h => by repeat (first | exact h | refine List.mem_cons_of_mem _ ?_)))) ?_; clear hK
        refine t_one (i := 3) hF rfl (by kernel_rfl) rfl ?_
        intro K hK
        (refine x_lit hF hM rfl rfl rfl ?_; clear hF hM a; intro bl w a hM hF)
        refine hK _ _ (fun _ => (hM.sm.sub (fun x hx => by repeat (first | exact hx | refine List.mem_cons_of_mem _ ?_)) (fun _ h => by repeat (first | exact h | refine List.mem_cons_of_mem _ ?_)))) ?_; clear hK
        refine t_one (i := 4) hF rfl (by kernel_rfl) rfl ?_
        intro K hK
        (apply x_app hF hM rfl rfl rfl; (repeat (first | exact List.mem_cons_self | refine List.mem_cons_of_mem _ ?_)); (repeat (first | exact Kth.z | apply Kth.s)); exact rfl; exact rfl; exact rfl; exact rfl; omega; clear hF hM a; intro g cap w a hM hF; dsimp only [List.set] at hM)
        refine hK _ _ (fun _ => (hM.sm.sub (fun x hx => by repeat (first | exact hx | refine List.mem_cons_of_mem _ ?_)) (fun _ h => by repeat (first | exact h | refine List.mem_cons_of_mem _ ?_)))) ?_; clear hK
        (first | (refine t_pure (i := 16) hF rfl rfl rfl rfl (by kernel_rfl) (hM.sm.sub (fun x hx => by repeat (first | exact hx | refine List.mem_cons_of_mem _ ?_)) (fun _ h => by repeat (first | exact h | refine List.mem_cons_of_mem _ ?_))) (fun _ _ _ h => h) ?_ ?_; (first | exact trivial | omega | decide); clear hF a; intro a hF))
        refine t_one (i := 15) hF rfl (by kernel_rfl) rfl ?_
        intro K hK
        (apply x_app hF hM rfl rfl rfl; (repeat (first | exact List.mem_cons_self | refine List.mem_cons_of_mem _ ?_)); (repeat (first | exact Kth.z | apply Kth.s)); exact rfl; exact rfl; exact rfl; exact rfl; omega; clear hF hM a; intro g cap w a hM hF; dsimp only [List.set] at hM)
        refine hK _ _ (fun _ => (hM.sm.sub (fun x hx => by repeat (first | exact hx | refine List.mem_cons_of_mem _ ?_)) (fun _ h => by repeat (first | exact h | refine List.mem_cons_of_mem _ ?_)))) ?_; clear hK
        refine t_one (i := 17) hF rfl (by kernel_rfl) rfl ?_
        intro K hK
        (apply x_store hF hM rfl rfl rfl; (repeat (first | exact Upd.z | apply Upd.s)); exact rfl; exact rfl; exact rfl; clear hF hM a; intro w a hM hF)
        refine hK _ _ (fun h => by cases h) ?_; clear hK
        refine t_one (i := 18) hF rfl (by kernel_rfl) rfl ?_
        intro K hK
        (first | (refine x_pure hF hM rfl rfl ?_ ?_; (first | exact trivial | omega | decide); clear hF a; intro a hF) | (apply x_load hF hM rfl; (repeat (first | exact List.mem_cons_self | refine List.mem_cons_of_mem _ ?_)); exact rfl; exact rfl; clear hF a; intro a hF))
        refine hK _ _ (fun h => by cases h) ?_; clear hK
        refine t_one (i := 19) hF rfl (by kernel_rfl) rfl ?_
        intro K hK
        (apply x_store hF hM rfl rfl rfl; (repeat (first | exact Upd.z | apply Upd.s)); exact rfl; exact rfl; exact rfl; clear hF hM a; intro w a hM hF)
        refine hK _ _ (fun h => by cases h) ?_; clear hK
        refine t_done (by kernel_rfl) ?_
        (repeat (first | (with_reducible refine c_region ?_) | (with_reducible refine s_nil ?_) | (with_reducible refine q_then_n ?_) | ((with_reducible apply s_pure hF); exact rfl; exact rfl; exact rfl; (first | exact trivial | omega | exact ⟨Int.natCast_nonneg _, Int.ofNat_lt.2 (by assumption)⟩ | decide); clear hF a; intro a hF) | (with_reducible refine q_blk_n ?_)))
        replace hM := hM.sub (.cons _ (.cons _ (.refl _))) (.refl _) (fun _ h => h)
        have hM : Mm own W [⟨b, ⟨[u1, u2, _, _, .int .i64 0]⟩, 73⟩, _, _] [_, _, ⟨3, 1, _, k + 1, (P56.ens t k).map (Value.int .i64) ++ [.int .i64 x]⟩, ⟨3, 1, _, k + 1, (P56.aps t k).map (Value.int .i64) ++ [.int .i64 ((x : Int) + t.L + t.A)]⟩] _ _ := hM
        rw [e3, e4, ← hp] at hM
        exact ⟨m - 1, by omega, k + 1, _, _, _, _, by omega, by rw [hEs, hx], hF.sub (by repeat (first | exact Sub.nil | refine Sub.cons rfl (by first | with_reducible rfl | (refine congrArg (Value.int _) ?_; omega) | (rw [hx]) | exact rfl) ?_)), hM⟩
  · obtain rfl : k = P56.cycles t := by omega
    obtain ⟨a1, d1, rfl, -, -⟩ := hM.row (List.mem_cons_self)
    obtain ⟨a2, d2, rfl, -, -⟩ := hM.row (List.mem_cons_of_mem _ List.mem_cons_self)
    obtain ⟨a3, d3, rfl, -, -⟩ := hM.row (List.mem_cons_of_mem _ (List.mem_cons_of_mem _ List.mem_cons_self))
    obtain ⟨a4, d4, rfl, -, -⟩ := hM.row (List.mem_cons_of_mem _ (List.mem_cons_of_mem _ (List.mem_cons_of_mem _ List.mem_cons_self)))
    have hm2 : ∀ {α : Type} {x y z : α} {r : List α}, z ∈ x :: y :: z :: r := by simp
    have hm3 : ∀ {α : Type} {x y z u : α} {r : List α}, u ∈ x :: y :: z :: u :: r := by simp
    have f1 := hM.rowFact List.mem_cons_self
    have f2 := hM.rowFact (List.mem_cons_of_mem _ List.mem_cons_self)
    have f3 := hM.rowFact hm2
    have f4 := hM.rowFact hm3
    have hpl := fun (b : Int) => ((f1.and f2).and (f3.and f4)).imp fun _ k => isPl_lists (b := b) (c1 := d1) (c2 := d2) (c3 := d3) (c4 := d4) k.1.1 k.1.2 k.2.1 k.2.2 hcy
    clear f1 f2 f3 f4
    (repeat' (first | (with_reducible refine w_seq ?_) | (with_reducible refine c_region ?_) | (with_reducible refine s_nil ?_) | ((with_reducible apply s_call (f := 112) hF hM); exact rfl; exact rfl; exact rfl; exact rfl; exact rfl; exact (bound_any (P56.lists t (P56.cycles t) 0) _ own _ (fun b hb => Nat.lt_of_lt_of_le (hM.low b hb) hM.since.size) (hpl 0) (by simp [P56.lists]) (by simpa [P56.lists] using hcy) (aps_bd ok) (cls_bd ok)); clear hF hM a; rintro v w a rfl - hM hF) | (with_reducible refine q_then_n ?_) | ((with_reducible apply s_pure hF); exact rfl; exact rfl; exact rfl; (first | exact trivial | omega | exact ⟨Int.natCast_nonneg _, Int.ofNat_lt.2 (by assumption)⟩ | decide); clear hF a; intro a hF) | ((with_reducible apply s_load hF hM); exact rfl; exact rfl; (repeat (first | exact List.mem_cons_self | refine List.mem_cons_of_mem _ ?_)); exact rfl; exact rfl; clear hF a; intro a hF) | ((with_reducible apply s_store hF hM); exact rfl; exact rfl; exact rfl; exact rfl; (repeat (first | exact Upd.z | apply Upd.s)); exact rfl; exact rfl; exact rfl; clear hM; intro w hM) | (with_reducible refine w_exit ?_) | (with_reducible refine w_ret ?_) | (with_reducible refine q_then_x ?_) | (with_reducible refine q_blk_x ?_) | ((with_reducible apply c_false2 hF); exact rfl; (first | with_reducible rfl | (refine congrArg Value.bool ?_; focus (simp; done))))))
    (apply f_ret Try.results81 hF hM; (repeat (first | exact RL.nil | (apply RL.tmp; exact rfl) | (apply RL.cell; exact rfl; (repeat (first | exact List.mem_cons_self | refine List.mem_cons_of_mem _ ?_)); exact rfl))); refine Ret.mk hM.since ?_; dsimp only [resV])
    rw [P56.planOk_some hE]
    have g1 := hM.rowFact List.mem_cons_self
    have g2 := hM.rowFact (List.mem_cons_of_mem _ List.mem_cons_self)
    have g3 := hM.rowFact hm2
    have g4 := hM.rowFact hm3
    rw [← bdL_bound ok]
    exact ⟨_, rfl, ((g1.and g2).and (g3.and g4)).imp fun _ k => isPl_lists k.1.1 k.1.2 k.2.1 k.2.2 hcy⟩
end Go.Proofs.Ytabfhoipclbeeaa


/- The planner: Plan, Verify, Age, given sizes; slices.Equal. -/
namespace Go.Proofs.Ytabfhoipclbeeaa
open Go.RowKit Go.Shelf
theorem isTr_open {own : Nat → Prop} {w : World} {v : Value} {t : P56.Tr} (h : Has own w (IsTr · v t)) : ∃ a a' c c', v = .agg #[.slice a t.W.length c, .slice a' t.C.length c', .int .i64 t.P, .int .i64 t.L, .int .i64 t.A] ∧
    Has own w (RdF (Value.int .i64) a t.W) ∧ Has own w (RdF (Value.int .i64) a' t.C) ∧ t.W.length ≤ 9223372036854775807 ∧ t.C.length ≤ 9223372036854775807 ∧ t.W.length ≤ c ∧ t.C.length ≤ c' := by
  obtain ⟨a, a', c, c', hv, -, -, h1, h2, h3, h4⟩ := h.get
  have key : ∀ w', IsTr w' v t → Reads (Value.int .i64) w' a t.W ∧ Reads (Value.int .i64) w' a' t.C := by
    rintro w' ⟨b, b', d, d', e, q1, q2, -⟩
    rw [hv] at e
    simp only [Value.agg.injEq, Array.mk.injEq, List.cons.injEq, Value.slice.injEq, true_and, and_true] at e
    obtain ⟨⟨rfl, -⟩, rfl, -⟩ := e
    exact ⟨q1, q2⟩
  exact ⟨a, a', c, c', hv, h.imp fun w' k => (key w' k).1, h.imp fun w' k => (key w' k).2, h1, h2, h3, h4⟩
theorem Plan_c (SZ : SizesSpec) (t : P56.Tr) (v : Value) (own : Nat → Prop) (W : World) (hl : ∀ b, own b → b < W.heap.size) (hv : Has own W (IsTr · v t)) :
    Calls Try.prog 36 ⟨[v]⟩ W (Ret W (PlanR own (P56.plan t))) := by
  obtain ⟨a0, a1, c0, c1, rfl, hW, hC, l1, l2, l3, l4⟩ := isTr_open hv
  have hM := (((Mm.start hl).known hv).known hW).known hC
  refine f_start Try.func36 rfl Try.ntmps36 rfl rfl ?_; intro a hF
  (repeat (first | (with_reducible refine w_seq ?_) | (with_reducible refine c_region ?_) | (with_reducible refine s_nil ?_) | ((with_reducible apply s_call (f := 37) hF hM); exact rfl; exact rfl; exact rfl; exact rfl; exact rfl; exact (Ret.of (check_any t _ _ (hM.fact (f := (IsTr · _ t)) (by (repeat (first | exact List.mem_cons_self | refine List.mem_cons_of_mem _ ?_)))))); clear hF hM a; rintro v w a rfl - hM hF) | (with_reducible refine q_then_n ?_) | ((with_reducible apply s_pure hF); exact rfl; exact rfl; exact rfl; (first | exact trivial | omega | exact ⟨Int.natCast_nonneg _, Int.ofNat_lt.2 (by assumption)⟩ | decide); clear hF a; intro a hF) | ((with_reducible apply s_load hF hM); exact rfl; exact rfl; (repeat (first | exact List.mem_cons_self | refine List.mem_cons_of_mem _ ?_)); exact rfl; exact rfl; clear hF a; intro a hF) | ((with_reducible apply s_alloc hF hM); exact rfl; exact rfl; exact rfl; clear hF hM a; intro b w a hM hF) | ((with_reducible apply s_box hF hM); exact rfl; exact rfl; exact rfl; exact rfl; clear hF hM a; intro b w a hM hF)))
  have hbetw : ∀ n lo hi w, Calls Try.prog 84 ⟨[.int .i64 n, .int .i64 lo, .int .i64 hi]⟩ w (Ret w fun v _ => v = .bool (decide (lo ≤ n ∧ n ≤ hi))) := fun n lo hi w => Ret.of ((between_any n lo hi w).mono fun _ _ h => ⟨h.1, h.2 ▸ Since.refl _⟩)
  by_cases hchk : P56.check t = 0
  · have ok := P56.check_ok.1 hchk
    (repeat' (first | (with_reducible refine w_seq ?_) | (with_reducible refine q_then_n ?_) | (with_reducible refine w_skip ?_) | ((with_reducible apply c_dec hF); exact rfl; all_goals intro hc; all_goals (try (exfalso; omega)))))
    refine c_draw (fun i => Nat.ble 8 i) hM ?_; clear hM; intro w hM
    (first | (apply t_load (i := 0) hF rfl rfl rfl; (repeat (first | exact List.mem_cons_self | refine List.mem_cons_of_mem _ ?_)); exact rfl; exact rfl; kernel_rfl; exact hM.sm; exact (fun _ _ _ h => h); clear hF a; intro a hF))
    (first | (refine t_pure (i := 1) hF rfl rfl rfl rfl (by kernel_rfl) hM.sm (fun _ _ _ h => h) ?_ ?_; (first | exact trivial | omega | decide); clear hF a; intro a hF))
    (first | (apply t_load (i := 2) hF rfl rfl rfl; (repeat (first | exact List.mem_cons_self | refine List.mem_cons_of_mem _ ?_)); exact rfl; exact rfl; kernel_rfl; exact hM.sm; exact (fun _ _ _ h => h); clear hF a; intro a hF))
    refine t_one (i := 3) hF rfl (by kernel_rfl) rfl ?_
    intro K hK
    (apply x_call hF hM; exact rfl; exact rfl; exact rfl; exact rfl; exact (newCarrier_c t.C a1 c1 _ _ hM.lt (hM.facts _ (by (repeat (first | exact List.mem_cons_self | refine List.mem_cons_of_mem _ ?_)))) ok.clen ok.c); clear hF hM a; rintro v w a hcar - hM hF)
    replace hM := hM.addFact hcar
    refine hK _ _ (fun _ => (hM.sm.sub (fun x hx => by repeat (first | exact hx | refine List.mem_cons_of_mem _ ?_)) (fun _ h => by repeat (first | exact h | refine List.mem_cons_of_mem _ ?_)))) ?_; clear hK
    (first | (refine t_pure (i := 4) hF rfl rfl rfl rfl (by kernel_rfl) (hM.sm.sub (fun x hx => by repeat (first | exact hx | refine List.mem_cons_of_mem _ ?_)) (fun _ h => by repeat (first | exact h | refine List.mem_cons_of_mem _ ?_))) (fun _ _ _ h => h) ?_ ?_; (first | exact trivial | omega | decide); clear hF a; intro a hF))
    refine t_one (i := 5) hF rfl (by kernel_rfl) rfl ?_
    intro K hK
    (apply x_call hF hM; exact rfl; exact rfl; exact rfl; exact rfl; exact (plan_c SZ t a0 c0 a1 t.C.length c1 _ _ _ hM.lt (hM.facts _ (by (repeat (first | exact List.mem_cons_self | refine List.mem_cons_of_mem _ ?_)))) (hM.facts _ List.mem_cons_self) ok l3); clear hF hM a; rintro v w a ⟨pv, rfl, hpv⟩ - hM hF)
    obtain ⟨q1, q2, q3, q4, d1, d2, d3, d4, rfl, -⟩ := hpv.get; replace hM := hM.addFact hpv
    refine hK _ _ (fun _ => (hM.sm.sub (fun x hx => by repeat (first | exact hx | refine List.mem_cons_of_mem _ ?_)) (fun _ h => by repeat (first | exact h | refine List.mem_cons_of_mem _ ?_)))) ?_; clear hK
    (first | (refine t_pure (i := 6) hF rfl rfl rfl rfl (by kernel_rfl) (hM.sm.sub (fun x hx => by repeat (first | exact hx | refine List.mem_cons_of_mem _ ?_)) (fun _ h => by repeat (first | exact h | refine List.mem_cons_of_mem _ ?_))) (fun _ _ _ h => h) ?_ ?_; (first | exact trivial | omega | decide); clear hF a; intro a hF))
    (first | (refine t_pure (i := 7) hF rfl rfl rfl rfl (by kernel_rfl) (hM.sm.sub (fun x hx => by repeat (first | exact hx | refine List.mem_cons_of_mem _ ?_)) (fun _ h => by repeat (first | exact h | refine List.mem_cons_of_mem _ ?_))) (fun _ _ _ h => h) ?_ ?_; (first | exact trivial | omega | decide); clear hF a; intro a hF))
    refine t_one (i := 8) hF rfl (by kernel_rfl) rfl ?_
    intro K hK
    (apply x_store hF hM rfl rfl rfl; (repeat (first | exact Upd.z | apply Upd.s)); exact rfl; exact rfl; exact rfl; clear hF hM a; intro w a hM hF)
    refine hK _ _ (fun h => by cases h) ?_; clear hK
    refine t_one (i := 9) hF rfl (by kernel_rfl) rfl ?_
    intro K hK
    (first | (refine x_pure hF hM rfl rfl ?_ ?_; (first | exact trivial | omega | decide); clear hF a; intro a hF) | (apply x_load hF hM rfl; (repeat (first | exact List.mem_cons_self | refine List.mem_cons_of_mem _ ?_)); exact rfl; exact rfl; clear hF a; intro a hF))
    refine hK _ _ (fun h => by cases h) ?_; clear hK
    refine t_done (by kernel_rfl) ?_
    (repeat (first | (with_reducible refine q_then_n ?_) | (with_reducible refine w_ret ?_)))
    (apply f_ret Try.results36 hF hM; (repeat (first | exact RL.nil | (apply RL.tmp; exact rfl) | (apply RL.cell; exact rfl; (repeat (first | exact List.mem_cons_self | refine List.mem_cons_of_mem _ ?_)); exact rfl))); refine Ret.mk hM.since ?_; dsimp only [resV])
    unfold P56.plan
    rw [if_pos hchk]
    exact ⟨_, rfl, hM.factOut List.mem_cons_self⟩
  · (repeat' (first | (with_reducible refine w_seq ?_) | (with_reducible refine c_region ?_) | (with_reducible refine s_nil ?_) | (with_reducible refine q_then_n ?_) | ((with_reducible apply s_pure hF); exact rfl; exact rfl; exact rfl; (first | exact trivial | omega | exact ⟨Int.natCast_nonneg _, Int.ofNat_lt.2 (by assumption)⟩ | decide); clear hF a; intro a hF) | ((with_reducible apply s_store hF hM); exact rfl; exact rfl; exact rfl; exact rfl; (repeat (first | exact Upd.z | apply Upd.s)); exact rfl; exact rfl; exact rfl; clear hM; intro w hM) | (with_reducible refine w_ret ?_) | (with_reducible refine q_then_r ?_) | ((with_reducible apply c_dec hF); exact rfl; all_goals intro hc; all_goals (try (exfalso; omega)))))
    (apply f_ret Try.results36 hF hM; (repeat (first | exact RL.nil | (apply RL.tmp; exact rfl) | (apply RL.cell; exact rfl; (repeat (first | exact List.mem_cons_self | refine List.mem_cons_of_mem _ ?_)); exact rfl))); refine Ret.mk hM.since ?_; dsimp only [resV])
    unfold P56.plan
    rw [if_neg hchk]
    exact ⟨_, rfl, Has.pure fun w => isPl_none w⟩
end Go.Proofs.Ytabfhoipclbeeaa


/- The planner: sizes, a range over slices.Chunk. -/
namespace Go.Proofs.Ytabfhoipclbeeaa
open Go.RowKit Go.Shelf
theorem reads_part {α : Type} {enc : α → Value} {w : World} {ad : Addr} {xs : List α} (h : Reads enc w (some ad) xs) (q p : Nat) : Reads enc w (some ⟨ad.block, ad.off + q, none⟩) ((xs.drop q).take p) := by
  intro i x hx
  have hx' : xs[q + i]? = some x := by
    rw [List.getElem?_take] at hx
    split at hx
    · rw [List.getElem?_drop] at hx; exact hx
    · cases hx
  obtain ⟨b, off, e, hb, hc⟩ := h _ x hx'
  injection e with e
  subst e
  exact ⟨b, off + q, rfl, hb, by rw [← hc]; congr 2; omega⟩
theorem chunk_call (a0 : Option Addr) (len c p : Nat) (hp0 : 1 ≤ p) (w : World) : Calls Try.prog 128 ⟨[.slice a0 len c, .int .i64 p]⟩ w (Ret w fun v w' => v = .func (.func 132) #[] #[.pointer (some ⟨w.heap.size, 0, none⟩), .pointer (some ⟨w.heap.size + 1, 0, none⟩)] ∧ w' = (w.alloc (.cells ⟨[.slice a0 len c]⟩ 22)).alloc (.cells ⟨[.int .i64 p]⟩ 3)) :=
  ((callsIn_wide (n := 9)).1 (chunk_in Fence.wide 9 trivial rfl a0 len c p hp0 w)).mono fun e w' ⟨h1, h2⟩ => ⟨_, h1, h2 ▸ ((Since.refl w).alloc _).alloc _, rfl, h2⟩
theorem below_of {W A B : World} (h : Since W A) (k : Since W B) (hs : A.heap.size ≤ B.heap.size) : Below W.heap.size A B :=
  ⟨k.os.trans h.os.symm, k.tape.trans h.tape.symm, k.output.trans h.output.symm, hs, fun b hb => (k.block b hb).trans (h.block b hb).symm⟩
set_option maxHeartbeats 4000000 in
theorem sizes_c : SizesSpec := by
  intro t a0 c y z u own W hl hr ok hwc
  obtain ⟨p, hp⟩ : ∃ p : Nat, t.P = p := ⟨t.P.toNat, by have := ok.p0; omega⟩
  have hp0 : 1 ≤ p := by have := ok.p0; omega
  have hp1 : p ≤ 4096 := by have := ok.p; omega
  have hwl := ok.wlen
  have hcy := P56.cycles_le ok
  have hcyc : (t.W.length + p - 1) / p = P56.cycles t := by unfold P56.cycles; rw [hp]; rfl
  have hM := (Mm.start hl).known hr
  rw [hp]
  refine f_startM Try.func111 rfl Try.ntmps111 rfl rfl ?_; intro a hF
  (repeat (first | (with_reducible refine w_seq ?_) | (with_reducible refine c_region ?_) | (with_reducible refine s_nil ?_) | (with_reducible refine q_then_n ?_) | ((with_reducible apply s_pure hF); exact rfl; exact rfl; exact rfl; (first | exact trivial | omega | exact ⟨Int.natCast_nonneg _, Int.ofNat_lt.2 (by assumption)⟩ | decide); clear hF a; intro a hF) | ((with_reducible apply s_load hF hM); exact rfl; exact rfl; (repeat (first | exact List.mem_cons_self | refine List.mem_cons_of_mem _ ?_)); exact rfl; exact rfl; clear hF a; intro a hF) | ((with_reducible apply s_alloc hF hM); exact rfl; exact rfl; exact rfl; clear hF hM a; intro b w a hM hF) | ((with_reducible apply s_box hF hM); exact rfl; exact rfl; exact rfl; exact rfl; clear hF hM a; intro b w a hM hF)))
  rename_i b1 wx
  (with_reducible apply s_op hF)
  exact rfl
  intro K hK
  refine e_call (f := 128) hF rfl rfl rfl (chunk_call a0 t.W.length c p hp0 w) ?_
  rintro v w' hs ⟨rfl, rfl⟩
  replace hM := (hM.box ⟨[.slice a0 t.W.length c]⟩ 22).box ⟨[.int .i64 p]⟩ 3
  refine hK _ _ ?_
  clear hK
  have hF := hF.put (d := 12) rfl (.func (.func 132) #[] #[.pointer (some ⟨w.heap.size, 0, none⟩), .pointer (some ⟨w.heap.size + 1, 0, none⟩)])
  simp only [World.size_alloc] at hM
  generalize ((w.alloc (.cells ⟨[.slice a0 t.W.length c]⟩ 22)).alloc (.cells ⟨[.int .i64 p]⟩ 3)) = w2 at *
  generalize w.heap.size = Bs at *
  generalize a.put (some 12) _ = a at *
  (repeat (first | (with_reducible refine s_nil ?_) | (with_reducible refine q_then_n ?_) | (with_reducible refine w_block ?_)))
  have hrow := hM.nilRow 3 1
  have hBs := hM.bx (b := Bs) (by (repeat (first | exact List.mem_cons_self | refine List.mem_cons_of_mem _ ?_)))
  have hBp := hM.bx (b := Bs + 1) (by (repeat (first | exact List.mem_cons_self | refine List.mem_cons_of_mem _ ?_)))
  have hWr := hM.fact (f := RdF (Value.int .i64) a0 t.W) (by (repeat (first | exact List.mem_cons_self | refine List.mem_cons_of_mem _ ?_)))
  have hlt2 : W.heap.size ≤ w2.heap.size := hM.since.size
  have hTB : t.W.length ≤ 4096 := hwl
  refine c_range1 hF rfl rfl rfl (va := fun x => apart a0 t.W.length p x) (la := fun x => [(4, apart a0 t.W.length p x), (3, .pointer (some ⟨b, 0, none⟩))])
    (chunk_reads Fence.wide 8 trivial rfl (by omega) Bs (Bs + 1) W.heap.size c p a0 t.W hwl hp0 hp1 hwc w2 w2 hBs.lt hBp.lt hWr (by rw [hBs.rules.1]; rfl) (by rw [hBp.rules.1]; rfl)) (by omega)
    (fun _ => Chunk.Kept.refl _ _ _ _) (fun h k => h.trans k) ?kb (Below.refl _ _)
    (fun pre W' => ∃ v, Mm own W [⟨Bs + 1, ⟨[.int .i64 p]⟩, 3⟩, ⟨Bs, ⟨[.slice a0 t.W.length c]⟩, 22⟩, ⟨b, ⟨[v]⟩, 22⟩, ⟨b1, ⟨[.slice a0 t.W.length c, .slice y z u, .int .i64 p, .int .i64 t.L, .int .i64 t.A]⟩, 42⟩]
      [⟨3, 1, v, pre.length, (pre.map (P56.size t)).map (Value.int .i64)⟩] [] W') ?hI ?h0 ?assign ?body ?done
  case kb =>
    intro W' lb o o' h1 h2 h3 h4
    have e1 := hBs.lt
    have e2 := hBp.lt
    exact ⟨belowK_b hlt2 W' lb o o' h1 h2 h3 h4, Chunk.cell_putObj o' (by omega), Chunk.cell_putObj o' (by omega)⟩
  case hI =>
    rintro pre W1 W2 row ⟨v, hm⟩ hg hr
    exact ⟨v, hm.turn hg (fun r e => ⟨by have := (hr r e).1; omega, (hr r e).2⟩)⟩
  case h0 => exact ⟨.slice none 0 0, hrow.sub (.refl _) (.refl _) (by simp)⟩
  case assign =>
    intro l0 k x a W' hF
    (repeat (first | ((with_reducible refine c_regionR ?_ ?_); rotate_left; exact rfl) | (with_reducible refine s_nil ?_) | ((with_reducible apply s_pure hF); exact rfl; exact rfl; exact rfl; (first | exact trivial | omega | exact ⟨Int.natCast_nonneg _, Int.ofNat_lt.2 (by assumption)⟩ | decide); clear hF a; intro a hF)))
    exact q_cut ⟨rfl, hF.sub (by repeat (first | exact Sub.nil | refine Sub.cons rfl (by first | with_reducible rfl | (refine congrArg (Value.int _) ?_; omega) | exact rfl) ?_))⟩
  case done =>
    rintro D xs a W' hD rfl ⟨v, hM⟩ hK hF
    rw [hcyc] at hM
    simp only [List.length_range] at hM
    obtain ⟨av, cv, rfl, -, -⟩ := hM.row List.mem_cons_self
    replace hM := hM.addDef hK (by omega)
    (repeat (first | (with_reducible refine w_seq ?_) | (with_reducible refine c_region ?_) | (with_reducible refine s_nil ?_) | (with_reducible refine q_then_n ?_) | ((with_reducible apply s_pure hF); exact rfl; exact rfl; exact rfl; (first | exact trivial | omega | exact ⟨Int.natCast_nonneg _, Int.ofNat_lt.2 (by assumption)⟩ | decide); clear hF a; intro a hF) | ((with_reducible apply s_load hF hM); exact rfl; exact rfl; (repeat (first | exact List.mem_cons_self | refine List.mem_cons_of_mem _ ?_)); exact rfl; exact rfl; clear hF a; intro a hF) | (with_reducible refine w_ret ?_) | (with_reducible refine q_blk_n ?_)))
    apply f_retM Try.results111 hF hM List.mem_cons_self (by omega)
    · (repeat (first | exact RL.nil | (apply RL.tmp; exact rfl) | (apply RL.cell; exact rfl; (repeat (first | exact List.mem_cons_self | refine List.mem_cons_of_mem _ ?_)); exact rfl)))
    intro w' hM'
    exact Ret.mk hM'.since ⟨_, _, rfl, hM'.rowFact List.mem_cons_self⟩
  case body =>
    rintro l0 k pre x a W' ⟨v, hM⟩ hF hlt
    have hne : t.W.length ≠ 0 := by
      intro h0
      rw [h0, Nat.div_eq_of_lt (by omega)] at hlt
      omega
    obtain ⟨x0, hx0⟩ := get_of_lt (l := t.W) (i := 0) (by omega)
    obtain ⟨bb, off, rfl, -, -⟩ := hWr 0 x0 hx0
    have hsz : P56.size t x = ((t.W.drop (x * p)).take p).sum := by unfold P56.size; rw [hp]; rfl
    have hDl : ((t.W.drop (x * p)).take p).length = min p (t.W.length - x * p) := by simp
    have hDb : ∀ y ∈ (t.W.drop (x * p)).take p, 0 ≤ y ∧ y ≤ 4096 := fun y hy => ok.w y (List.mem_of_mem_drop (List.mem_of_mem_take hy))
    have hDF := (hM.old hr).imp fun w h => reads_part (enc := Value.int .i64) h (x * p) p
    have e : apart (some ⟨bb, off, none⟩) t.W.length p x = .slice (some ⟨bb, off + x * p, none⟩) ((t.W.drop (x * p)).take p).length ((t.W.drop (x * p)).take p).length := by rw [hDl]; rfl
    rw [e] at hF
    generalize (t.W.drop (x * p)).take p = D at *
    have hM0 := hM
    replace hM : Mm own W _ _ [KeepsFrom w2.heap.size W', RdF (Value.int .i64) (some ⟨bb, off + x * p, none⟩) D] W' := (hM.addFact hDF).addFact (hM.ko hlt2)
    (repeat (first | (with_reducible refine w_seq ?_) | ((with_reducible refine c_regionR ?_ ?_); rotate_left; exact rfl) | (with_reducible refine s_nil ?_) | (with_reducible refine q_then_n ?_) | ((with_reducible apply s_pure hF); exact rfl; exact rfl; exact rfl; (first | exact trivial | omega | exact ⟨Int.natCast_nonneg _, Int.ofNat_lt.2 (by assumption)⟩ | decide); clear hF a; intro a hF) | (with_reducible refine w_block ?_)))
    refine c_loop (m := D.length) (fun m a w' => ∃ j : Nat, m + j = D.length ∧ Fr _ [] [(5, .int .i64 (D.take j).sum), (14, .slice (some ⟨bb, off + x * p, none⟩) D.length D.length), (15, .int .i64 D.length), (16, .int .i64 j), (3, .pointer (some ⟨b, 0, none⟩))] a ∧ Mm own W _ _ _ w') ⟨0, by omega, hF.sub (by repeat (first | exact Sub.nil | refine Sub.cons rfl (by first | with_reducible rfl | (refine congrArg (Value.int _) ?_; omega) | exact rfl) ?_)), hM⟩ ?_
    clear hF hM a
    rintro m a w' ⟨j, hj, hF, hM⟩
    have hsb := P56.sum_take_bd hDb j (by omega)
    by_cases hjl : j < D.length
    · obtain ⟨y, hy⟩ := get_of_lt hjl
      have hy0 := hDb y (List.mem_of_getElem? hy)
      have hst := P56.sum_take_step hy
      (repeat' (first | (with_reducible refine w_seq ?_) | ((with_reducible refine c_regionR ?_ ?_); rotate_left; exact rfl) | (with_reducible refine s_nil ?_) | (with_reducible refine q_then_n ?_) | ((with_reducible apply s_pure hF); exact rfl; exact rfl; exact rfl; (first | exact trivial | omega | exact ⟨Int.natCast_nonneg _, Int.ofNat_lt.2 (by assumption)⟩ | decide); clear hF a; intro a hF) | ((with_reducible apply s_loadF hF hM); exact rfl; exact rfl; (repeat (first | exact List.mem_cons_self | refine List.mem_cons_of_mem _ ?_)); exact rfl; exact rfl; (first | with_reducible assumption | (simp only [Int.toNat_natCast]; with_reducible assumption)); clear hF a; intro a hF) | (with_reducible refine w_skip ?_) | (with_reducible refine w_block ?_) | (with_reducible refine q_blk_n ?_) | ((with_reducible apply c_dec hF); exact rfl; all_goals intro hc; all_goals (try (exfalso; omega)))))
      exact ⟨m - 1, by omega, j + 1, by omega, hF.sub (by repeat (first | exact Sub.nil | refine Sub.cons rfl (by first | with_reducible rfl | (refine congrArg (Value.int _) ?_; omega) | (rw [hst]) | exact rfl) ?_)), hM⟩
    · have hpl : pre.length ≤ 4096 := by omega
      rw [List.take_of_length_le (by omega)] at hF hsb
      (repeat' (first | (with_reducible refine w_seq ?_) | ((with_reducible refine c_regionR ?_ ?_); rotate_left; exact rfl) | (with_reducible refine s_nil ?_) | (with_reducible refine q_then_n ?_) | ((with_reducible apply s_pure hF); exact rfl; exact rfl; exact rfl; (first | exact trivial | omega | exact ⟨Int.natCast_nonneg _, Int.ofNat_lt.2 (by assumption)⟩ | decide); clear hF a; intro a hF) | ((with_reducible apply s_load hF hM); exact rfl; exact rfl; (repeat (first | exact List.mem_cons_self | refine List.mem_cons_of_mem _ ?_)); exact rfl; exact rfl; clear hF a; intro a hF) | ((with_reducible apply s_store hF hM); exact rfl; exact rfl; exact rfl; exact rfl; (repeat (first | exact Upd.z | apply Upd.s)); exact rfl; exact rfl; exact rfl; clear hM; intro w hM) | ((with_reducible apply s_lit hF hM); exact rfl; exact rfl; exact rfl; exact rfl; clear hF hM a; intro bl w a hM hF) | ((with_reducible apply s_app hF hM); exact rfl; exact rfl; exact rfl; exact rfl; (repeat (first | exact Kth.z | apply Kth.s)); exact rfl; exact rfl; exact rfl; exact rfl; omega; clear hF hM a; intro g cap w a hM hF; dsimp only [List.set] at hM) | (with_reducible refine w_exit ?_) | (with_reducible refine q_then_x ?_) | (with_reducible refine q_blk_n ?_) | (with_reducible refine q_blk_x ?_) | ((with_reducible apply c_dec hF); exact rfl; all_goals intro hc; all_goals (try (exfalso; omega)))))
      have hko := hM.fact (f := KeepsFrom w2.heap.size W') (by (repeat (first | exact List.mem_cons_self | refine List.mem_cons_of_mem _ ?_)))
      refine ⟨hko, ⟨below_of hM0.since hM.since hko.size, ?_, ?_⟩, ?_⟩
      · rw [(hM.bx (b := Bs) (by (repeat (first | exact List.mem_cons_self | refine List.mem_cons_of_mem _ ?_)))).rules.1, (hM0.bx (b := Bs) (by (repeat (first | exact List.mem_cons_self | refine List.mem_cons_of_mem _ ?_)))).rules.1]
      · rw [(hM.bx (b := Bs + 1) (by (repeat (first | exact List.mem_cons_self | refine List.mem_cons_of_mem _ ?_)))).rules.1, (hM0.bx (b := Bs + 1) (by (repeat (first | exact List.mem_cons_self | refine List.mem_cons_of_mem _ ?_)))).rules.1]
      · refine ⟨.slice (some ⟨g, 0, none⟩) (pre.length + 1) cap, ?_⟩
        rw [List.map_append, List.map_append, List.length_append]
        simp only [List.map_cons, List.map_nil]
        rw [hsz]
        exact hM.sub (.refl _) (.refl _) (by simp)
end Go.Proofs.Ytabfhoipclbeeaa


/- certificate's law: small functions. -/
namespace Go.Proofs.Ytabfhoipclbeeaa
open Go.RowKit Go.Shelf C55 K57
section
variable {n : Nat} {ds : List Deferred} {l : List (Nat × Value)} {a : Act} {w : World}
variable {os rest : List Oper} {Q : Exit → Act → World → Prop}
variable {d : Nat} {ty : TypeId} {pos : String} {af : Array Edge} {g : Option (Nat × Bool)}
theorem e_eqBo {t t' : TypeId} {X Y : Operand} {x y : Bool} (hF : Fr n ds l a) (hX : ev l X = some (.bool x)) (hY : ev l Y = some (.bool y)) (hu : Try.prog.underlying t = some .bool) (hg : Try.prog.eqGuardType Try.prog.depth t = false) (w : World) {dst : Option Tmp} :
    (execOp a.eval ⟨dst, .binOp .eql t X Y t', ty, pos, af, g⟩).run Try.prog w = .ok (.value (.bool (decide (x = y)))) w := by
  have h : ∀ d : Nat, (Op.equalIn (d + 1) t (.bool x) (.bool y)).run Try.prog w = .ok (decide (x = y)) w := fun d => by
    cases x <;> cases y <;> simp [Op.equalIn, run_underlying hu]
  have he : (Op.equal t (.bool x) (.bool y)).run Try.prog w = .ok (decide (x = y)) w := h 9999
  simp [execOp, hF.eval hX, hF.eval hY, eqGuard, Sem.run_bind, Result.andThen, hg, binOp, he]
theorem s_eqBo {t t' : TypeId} {X Y : Operand} {x y : Bool} (hF : Fr n ds l a) (hg : wantO os l g = some true) (hX : ev l X = some (.bool x)) (hY : ev l Y = some (.bool y)) (hu : Try.prog.underlying t = some .bool) (hq : Try.prog.eqGuardType Try.prog.depth t = false) (hd : Nat.blt d n = true)
    (kk : ∀ a, Fr n ds ((d, .bool (decide (x = y))) :: l) a → wl ⟨os⟩ Q rest a w) : wl ⟨os⟩ Q (⟨some d, .binOp .eql t X Y t', ty, pos, af, g⟩ :: rest) a w :=
  s_op hF hg fun _ hK => upon_value (e_eqBo hF hX hY hu hq w) (hK _ _ (kk _ (hF.put hd _)))
end
theorem equal_c (l : List Int) (a0 a1 : Option Addr) (n m : Nat) (hn : l.length = n) (hm : l.length = m) (c0 c1 : Nat) (own : Nat → Prop) (W : World) (hl : ∀ b, own b → b < W.heap.size) (hlen : n ≤ 9000000000000000000) (hv : Has own W (RdF (Value.int .i64) a0 l)) (hu : Has own W (RdF (Value.int .i64) a1 l)) :
    Calls Try.prog 44 ⟨[.slice a0 n c0, .slice a1 m c1]⟩ W (Ret W fun r _ => r = .bool true) := by
  subst hn
  subst hm
  have hM := (((Mm.start hl).known hv).known hu)
  refine f_start Try.func44 rfl Try.ntmps44 rfl rfl ?_; intro a hF
  (repeat' (first | (with_reducible refine w_seq ?_) | (with_reducible refine c_region ?_) | (with_reducible refine s_nil ?_) | (with_reducible refine q_then_n ?_) | ((with_reducible apply s_pure hF); exact rfl; exact rfl; exact rfl; (first | exact trivial | omega | exact ⟨Int.natCast_nonneg _, Int.ofNat_lt.2 (by assumption)⟩ | decide); clear hF a; intro a hF) | (with_reducible refine w_skip ?_) | (with_reducible refine w_block ?_) | ((with_reducible apply c_false2 hF); exact rfl; (first | with_reducible rfl | (refine congrArg Value.bool ?_; focus (simp; done))))))
  refine c_loop (m := l.length) (fun m a w' => ∃ (k : Nat), m + k = l.length ∧
    Fr _ [] [(13, .int .i64 k), (12, .int .i64 l.length), (0, .slice a0 l.length c0), (1, .slice a1 l.length c1)] a ∧
    Mm own W [] [] [RdF (Value.int .i64) a1 l, RdF (Value.int .i64) a0 l] w') ⟨0, by omega, hF.sub (by repeat (first | exact Sub.nil | refine Sub.cons rfl (by first | with_reducible rfl | (refine congrArg (Value.int _) ?_; omega) | exact rfl) ?_)), hM⟩ ?_
  clear hF hM a
  rintro m a w' ⟨k, hk, hF, hM⟩
  by_cases hlt : k < l.length
  · obtain ⟨z, hz⟩ := get_of_lt hlt
    obtain ⟨ad, rfl⟩ := rd_some hM (a := a0) (by (repeat (first | exact List.mem_cons_self | refine List.mem_cons_of_mem _ ?_))) hz
    obtain ⟨ae, rfl⟩ := rd_some hM (a := a1) (by (repeat (first | exact List.mem_cons_self | refine List.mem_cons_of_mem _ ?_))) hz
    (repeat' (first | (with_reducible refine w_seq ?_) | (with_reducible refine c_region ?_) | (with_reducible refine s_nil ?_) | (with_reducible refine q_then_n ?_) | ((with_reducible apply s_pure hF); exact rfl; exact rfl; exact rfl; (first | exact trivial | omega | exact ⟨Int.natCast_nonneg _, Int.ofNat_lt.2 (by assumption)⟩ | decide); clear hF a; intro a hF) | (with_reducible refine w_skip ?_) | (with_reducible refine w_block ?_) | ((with_reducible apply c_dec hF); exact rfl; all_goals intro hc; all_goals (try (exfalso; omega)))))
    refine c_draw (fun i => Nat.ble 9 i) hM ?_; clear hM; intro w hM
    (first | (refine t_pure (i := 0) hF rfl rfl rfl rfl (by kernel_rfl) hM.sm (fun _ _ _ h => h) ?_ ?_; (first | exact trivial | omega | decide); clear hF a; intro a hF))
    (first | (refine t_pure (i := 1) hF rfl rfl rfl rfl (by kernel_rfl) hM.sm (fun _ _ _ h => h) ?_ ?_; (first | exact trivial | omega | decide); clear hF a; intro a hF))
    (first | (refine t_pure (i := 2) hF rfl rfl rfl rfl (by kernel_rfl) hM.sm (fun _ _ _ h => h) ?_ ?_; (first | exact trivial | omega | decide); clear hF a; intro a hF))
    (first | (apply t_loadF (i := 3) hF rfl rfl rfl; (repeat (first | exact List.mem_cons_self | refine List.mem_cons_of_mem _ ?_)); (first | with_reducible assumption | (simp only [Int.toNat_natCast]; with_reducible assumption)); exact rfl; exact rfl; kernel_rfl; exact hM.sm; exact (fun _ _ _ h => h); clear hF a; intro a hF))
    (first | (refine t_pure (i := 4) hF rfl rfl rfl rfl (by kernel_rfl) hM.sm (fun _ _ _ h => h) ?_ ?_; (first | exact trivial | omega | decide); clear hF a; intro a hF))
    (first | (refine t_pure (i := 5) hF rfl rfl rfl rfl (by kernel_rfl) hM.sm (fun _ _ _ h => h) ?_ ?_; (first | exact trivial | omega | decide); clear hF a; intro a hF))
    (first | (refine t_pure (i := 6) hF rfl rfl rfl rfl (by kernel_rfl) hM.sm (fun _ _ _ h => h) ?_ ?_; (first | exact trivial | omega | decide); clear hF a; intro a hF))
    (first | (apply t_loadF (i := 7) hF rfl rfl rfl; (repeat (first | exact List.mem_cons_self | refine List.mem_cons_of_mem _ ?_)); (first | with_reducible assumption | (simp only [Int.toNat_natCast]; with_reducible assumption)); exact rfl; exact rfl; kernel_rfl; exact hM.sm; exact (fun _ _ _ h => h); clear hF a; intro a hF))
    (first | (refine t_pure (i := 8) hF rfl rfl rfl rfl (by kernel_rfl) hM.sm (fun _ _ _ h => h) ?_ ?_; (first | exact trivial | omega | decide); clear hF a; intro a hF))
    refine t_done (by kernel_rfl) ?_
    (repeat' (first | (with_reducible refine c_region ?_) | (with_reducible refine s_nil ?_) | (with_reducible refine q_then_n ?_) | ((with_reducible apply s_pure hF); exact rfl; exact rfl; exact rfl; (first | exact trivial | omega | exact ⟨Int.natCast_nonneg _, Int.ofNat_lt.2 (by assumption)⟩ | decide); clear hF a; intro a hF) | (with_reducible refine w_skip ?_) | (with_reducible refine q_blk_n ?_) | ((with_reducible apply c_false2 hF); exact rfl; (first | with_reducible rfl | (refine congrArg Value.bool ?_; focus (simp; done))))))
    exact ⟨m - 1, by omega, k + 1, by omega, hF.sub (by repeat (first | exact Sub.nil | refine Sub.cons rfl (by first | with_reducible rfl | (refine congrArg (Value.int _) ?_; omega) | exact rfl) ?_)), hM⟩
  · obtain rfl : k = l.length := by omega
    (repeat' (first | (with_reducible refine w_seq ?_) | (with_reducible refine c_region ?_) | (with_reducible refine s_nil ?_) | (with_reducible refine q_then_n ?_) | ((with_reducible apply s_pure hF); exact rfl; exact rfl; exact rfl; (first | exact trivial | omega | exact ⟨Int.natCast_nonneg _, Int.ofNat_lt.2 (by assumption)⟩ | decide); clear hF a; intro a hF) | (with_reducible refine w_exit ?_) | (with_reducible refine w_ret ?_) | (with_reducible refine q_then_x ?_) | (with_reducible refine q_blk_x ?_) | ((with_reducible apply c_false2 hF); exact rfl; (first | with_reducible rfl | (refine congrArg Value.bool ?_; focus (simp; done))))))
    (apply f_ret Try.results44 hF hM; (repeat (first | exact RL.nil | (apply RL.tmp; exact rfl) | (apply RL.cell; exact rfl; (repeat (first | exact List.mem_cons_self | refine List.mem_cons_of_mem _ ?_)); exact rfl))); refine Ret.mk hM.since ?_; dsimp only [resV])
theorem refFewTrace_c (t : P56.Tr) (aw ac : Option Addr) (cw cc : Nat) (l1 : t.W.length ≤ 9223372036854775807) (l2 : t.C.length ≤ 9223372036854775807) (own : Nat → Prop) (W : World) (hl : ∀ b, own b → b < W.heap.size) :
    Calls Try.prog 33 ⟨[.agg ⟨trL t aw cw ac cc⟩]⟩ W (Ret W fun v _ => v = .bool (decide (t.W.length ≤ 40 ∧ t.C.length ≤ 60))) := by
  have hM := Mm.start hl
  refine f_start Try.func33 rfl Try.ntmps33 rfl rfl ?_; intro a hF
  (repeat' (first | (with_reducible refine w_seq ?_) | (with_reducible refine c_region ?_) | (with_reducible refine s_nil ?_) | (with_reducible refine q_then_n ?_) | ((with_reducible apply s_pure hF); exact rfl; exact rfl; exact rfl; (first | exact trivial | omega | exact ⟨Int.natCast_nonneg _, Int.ofNat_lt.2 (by assumption)⟩ | decide); clear hF a; intro a hF) | ((with_reducible apply s_load hF hM); exact rfl; exact rfl; (repeat (first | exact List.mem_cons_self | refine List.mem_cons_of_mem _ ?_)); exact rfl; exact rfl; clear hF a; intro a hF) | ((with_reducible apply s_box hF hM); exact rfl; exact rfl; exact rfl; exact rfl; clear hF hM a; intro b w a hM hF) | (with_reducible refine w_ret ?_) | ((with_reducible apply s_skip hF); exact rfl; exact rfl; clear hF a; intro a hF) | ((fail_if_success ((with_reducible refine g_known true hF ?_ ?_); focus exact rfl)); (fail_if_success ((with_reducible refine g_known false hF ?_ ?_); focus exact rfl)); (with_reducible apply g_dec hF); exact rfl; exact rfl; all_goals (clear hF; intro hc hF); all_goals (try (exfalso; omega)))))
  all_goals (apply f_ret Try.results33 hF hM; (repeat (first | exact RL.nil | (apply RL.tmp; exact rfl) | (apply RL.cell; exact rfl; (repeat (first | exact List.mem_cons_self | refine List.mem_cons_of_mem _ ?_)); exact rfl))); refine Ret.mk hM.since ?_; dsimp only [resV])
  all_goals first | (rw [decide_eq_false (by omega)]; done) | (congr 1; rw [decide_eq_decide]; omega)
end Go.Proofs.Ytabfhoipclbeeaa


/- Plain law: certificates are decoded from their encodings, and encodings are canonical. -/
namespace Go.Proofs.Ytabfhoipclbeeaa
open C55 K57
/-- Numbers that are put are read. -/
theorem rdN_puts (n : Nat) : ∀ (i f : Nat) (acc : Int) (xs ys : List Int), xs.drop i = puts n ++ ys → (puts n).length ≤ f → 0 ≤ acc → acc + n * 128 ^ i ≤ 9007199254740991 → (n = 0 → i = 0) → rdN xs f i acc = (acc + n * 128 ^ i, 0, i + (puts n).length) := by
  induction n using Nat.strongRecOn with
  | _ n ih =>
    intro i f acc xs ys hd hf ha hb h0
    have get0 : ∀ (b : Int) (r : List Int), puts n = b :: r → xs[i]? = some b := by
      intro b r e
      have : (xs.drop i)[0]? = some b := by rw [hd, e]; rfl
      rw [List.getElem?_drop] at this
      exact this
    by_cases h : n < 128
    · have e := puts_lt h
      rw [e] at hf ⊢
      simp only [List.length_cons, List.length_nil] at hf ⊢
      obtain ⟨f, rfl⟩ : ∃ k, f = k + 1 := ⟨f - 1, by omega⟩
      rw [rdN_some (get0 _ _ e), if_neg (by omega), if_neg]
      · rw [show ((n : Int)) % 128 = n by omega]
      · rw [show ((n : Int)) % 128 = n by omega]
        rintro (⟨h1, h2⟩ | h1)
        · have := h0 (by omega); omega
        · omega
    · have e := puts_ge h
      rw [e] at hf ⊢
      simp only [List.length_cons] at hf ⊢
      obtain ⟨f, rfl⟩ : ∃ k, f = k + 1 := ⟨f - 1, by omega⟩
      rw [rdN_some (get0 _ _ e), if_pos (by omega)]
      have hm : ((n % 128 + 128 : Nat) : Int) % 128 = ((n % 128 : Nat) : Int) := by omega
      rw [hm]
      have hp : (0 : Int) ≤ 128 ^ i := Int.pow_nonneg (by decide)
      have hq : ((n % 128 : Nat) : Int) * 128 ^ i + ((n / 128 : Nat) : Int) * 128 ^ (i + 1) = (n : Int) * 128 ^ i := by
        rw [Int.pow_succ, Int.mul_comm (128 ^ i) 128, ← Int.mul_assoc, ← Int.add_mul]
        congr 1
        omega
      have := ih (n / 128) (by omega) (i + 1) f (acc + ((n % 128 : Nat) : Int) * 128 ^ i) xs ys (by
        have h2 : xs.drop (i + 1) = (xs.drop i).drop 1 := by rw [List.drop_drop]
        rw [h2, hd, e]
        rfl) (by omega) (Int.add_nonneg ha (Int.mul_nonneg (by omega) hp)) (by rw [Int.add_assoc, hq]; exact hb) (fun h => by omega)
      rw [this, Int.add_assoc, hq]
      congr 2
      omega
theorem rdNum_puts {n : Nat} (hn : n ≤ 9007199254740991) (ys : List Int) : rdNum (puts n ++ ys) = ((n : Int), 0, (puts n).length) := by
  have := rdN_puts n 0 8 0 (puts n ++ ys) ys (by simp) (puts_len 7 n (by omega)) (by omega) (by omega) (fun _ => rfl)
  unfold rdNum
  rw [this]
  simp
theorem rdI_puts {n : Int} (h0 : 0 ≤ n) (h1 : n ≤ 9007199254740991) (ys : List Int) : rdI (puts n.toNat ++ ys) = .ok (n, ys) := by
  unfold rdI
  rw [rdNum_puts (by omega)]
  simp only [ne_eq, not_true_eq_false, if_false]
  rw [List.drop_left, Int.toNat_of_nonneg h0]
theorem rdNum_I {xs ys : List Int} {n : Int} (h : rdI xs = .ok (n, ys)) : (rdNum xs).2.1 = 0 ∧ (rdNum xs).1 = n ∧ xs.drop (rdNum xs).2.2 = ys := by
  unfold rdI at h
  split at h
  · cases h
  · rename_i he
    injection h with h
    injection h with h1 h2
    exact ⟨by omega, h1, h2⟩
theorem rdList_puts : ∀ (l : List Int) (ys : List Int), (∀ x ∈ l, 0 ≤ x ∧ x ≤ 9007199254740991) → rdList l.length ((l.map fun x => puts x.toNat).flatten ++ ys) = .ok (l, ys)
  | [], ys, _ => rfl
  | x :: l, ys, h => by
    have hx := h x (by simp)
    have h2 := rdNum_I (rdI_puts hx.1 hx.2 ((l.map fun x => puts x.toNat).flatten ++ ys))
    rw [List.length_cons, rdList, List.map_cons, List.flatten_cons, List.append_assoc, if_neg (by omega), h2.2.2, rdList_puts l ys (fun y hy => h y (List.mem_cons_of_mem _ hy)), h2.2.1]
theorem rdInts_puts {l : List Int} (hl : l.length ≤ 65536) (h : ∀ x ∈ l, 0 ≤ x ∧ x ≤ 9007199254740991) (ys : List Int) : rdInts (putsL l ++ ys) = .ok (l, ys) := by
  have h2 := rdNum_I (rdI_puts (n := (l.length : Int)) (by omega) (by omega) ((l.map fun x => puts x.toNat).flatten ++ ys))
  rw [Int.toNat_natCast] at h2
  unfold rdInts putsL
  rw [List.append_assoc, if_neg (by omega), h2.2.1, if_neg (by omega), h2.2.2, Int.toNat_natCast]
  exact rdList_puts l ys h
theorem dec8_puts {c : Ce} (hc : chkE c = 0) (hA : c.A.V.length ≤ 65536) (hS : c.S.V.length ≤ 65536) : dec8 (encB c) = .ok (c, []) := by
  obtain ⟨r1, r2, r3, -, -⟩ := enc_rg hc
  have hb := (chk_bok hc).1
  have hn := hb.num
  have sA := hb.A.s
  have sS := hb.S.s
  unfold dec8 encB encCu
  simp only [List.append_assoc]
  rw [rdInts_puts hA r1]
  simp only
  rw [rdI_puts (by omega) (by omega)]
  simp only
  rw [rdInts_puts hS r2]
  simp only
  rw [rdI_puts (by omega) (by omega)]
  simp only
  rw [rdI_puts (by omega) (by omega)]
  simp only
  rw [rdI_puts (by omega) (by omega)]
  simp only
  rw [rdI_puts (by omega) (by omega)]
  simp only
  have := rdI_puts r3.1 r3.2 []
  rw [List.append_nil] at this
  rw [this]
theorem decC_encB {c : Ce} (h : encE c = 0) : decC (encB c) = .ok c := by
  unfold encE at h
  split at h
  · omega
  · rename_i hc
    split at h
    · omega
    · rename_i hl
      have hb := (chk_bok (show chkE c = 0 by omega)).1
      have k1 := hb.A.l1
      have k2 := hb.S.l1
      unfold decC
      rw [if_neg hl, dec8_puts (by omega) (by omega) (by omega)]
      simp only [List.length_nil, ne_eq, not_true_eq_false, if_false, hc]
end Go.Proofs.Ytabfhoipclbeeaa


/- certificate's law: the examples. -/
namespace Go.Proofs.Ytabfhoipclbeeaa
open Go.RowKit Go.Shelf C55 K57
theorem isTr_mk {own : Nat → Prop} {w : World} {t : P56.Tr} {a a' : Option Addr} {c c' : Nat} (h1 : Has own w (RdF (Value.int .i64) a t.W)) (h2 : Has own w (RdF (Value.int .i64) a' t.C)) (l1 : t.W.length ≤ 9223372036854775807) (l2 : t.C.length ≤ 9223372036854775807) (l3 : t.W.length ≤ c) (l4 : t.C.length ≤ c') :
    Has own w (IsTr · (.agg #[.slice a t.W.length c, .slice a' t.C.length c', .int .i64 t.P, .int .i64 t.L, .int .i64 t.A]) t) :=
  (h1.and h2).imp fun w k => ⟨a, a', c, c', rfl, k.1, k.2, l1, l2, l3, l4⟩
def exA : Cu := ⟨[0, 4, 6], 1⟩
def exS : Cu := ⟨[0], 2⟩
def exC3 : Ce := ⟨exA, exS, 3, 1, 0, 0⟩
def exC4 : Ce := ⟨exA, exS, 4, 1, 0, 8⟩
theorem ex3_b : bndE exC3 = 21 := by decide
theorem ex4_b : bndE exC4 = 0 := by decide
theorem ex4_v : bndV exC4 = 8 := by decide
def exT : P56.Tr := ⟨[4, 2, 1, 1], [4096, 4096, 4096, 4096, 2], 4, 1, 0⟩
theorem ex4_w : wrsE exC4 4 = 0 := by decide
theorem ex4_t : wrsT exC4 4 = exT := rfl
def exPlan : P56.Pl := (P56.plan exT).1
theorem ex4_p : P56.plan exT = (exPlan, 0) := by decide
theorem ex4_pb : exPlan.bound = 8 := by decide
theorem putsL_len {l : List Int} (h : ∀ x ∈ l, 0 ≤ x ∧ x ≤ 9007199254740991) (hl : l.length ≤ 65536) : (putsL l).length ≤ 8 * (l.length + 1) := by
  have h1 := flat_len8 h
  have h2 := puts_len8 (n := l.length) (by omega)
  unfold putsL
  rw [List.length_append]
  omega
theorem encE_few {c : Ce} (h : chkE c = 0) (h1 : c.A.V.length ≤ 2000) (h2 : c.S.V.length ≤ 2000) : encE c = 0 := by
  obtain ⟨r1, r2, r3, -, -⟩ := enc_rg h
  have hb := (chk_bok h).1
  have hn := hb.num
  have sA := hb.A.s
  have sS := hb.S.s
  have q1 := putsL_len r1 (by omega)
  have q2 := putsL_len r2 (by omega)
  have q3 := puts_len8 (n := c.A.S.toNat) (by omega)
  have q4 := puts_len8 (n := c.S.S.toNat) (by omega)
  have q5 := puts_len8 (n := c.P.toNat) (by omega)
  have q6 := puts_len8 (n := c.L.toNat) (by omega)
  have q7 := puts_len8 (n := c.D.toNat) (by omega)
  have q8 := puts_len8 (n := c.B.toNat) (by omega)
  unfold encE
  rw [if_neg (by omega), if_neg]
  unfold encB encCu
  simp only [List.length_append]
  omega
theorem puts_by (n : Nat) : ∀ x ∈ puts n, (0 : Int) ≤ x ∧ x < 256 := by
  induction n using Nat.strongRecOn with
  | _ n ih =>
    by_cases h : n < 128
    · rw [puts_lt h]
      intro x hx
      simp at hx
      omega
    · rw [puts_ge h]
      intro x hx
      rcases List.mem_cons.1 hx with rfl | hx
      · omega
      · exact ih (n / 128) (by omega) x hx
theorem encB_by {c : Ce} : ∀ x ∈ encB c, 0 ≤ x ∧ x < 256 := by
  unfold encB encCu putsL
  intro x hx
  have hp : ∀ n, ∀ y ∈ puts n, 0 ≤ y ∧ y < 256 := puts_by
  simp only [List.mem_append, List.mem_flatten, List.mem_map] at hx
  rcases hx with ((((((hx | ⟨_, ⟨_, _, rfl⟩, hx⟩) | hx) | ((hx | ⟨_, ⟨_, _, rfl⟩, hx⟩) | hx)) | hx) | hx) | hx) | hx <;> exact hp _ _ hx
theorem exMk3_c (v u : Value) (own : Nat → Prop) (W : World) (hl : ∀ b, own b → b < W.heap.size) (hv : Has own W (IsCu · v exA)) (hu : Has own W (IsCu · u exS)) :
    Calls Try.prog 16 ⟨[v, u, .int .i64 3, .int .i64 1, .int .i64 0]⟩ W (Ret W fun v _ => v = .tuple #[.agg ⟨ceZ⟩, .int .i64 21]) := by
  have := mkErr (c := exC3) (by decide) (make_c exC3 (by decide) (by decide) v u own W hl hv hu)
  rw [ex3_b] at this
  exact this
theorem exMk4_c (v u : Value) (own : Nat → Prop) (W : World) (hl : ∀ b, own b → b < W.heap.size) (hv : Has own W (IsCu · v exA)) (hu : Has own W (IsCu · u exS)) :
    Calls Try.prog 16 ⟨[v, u, .int .i64 4, .int .i64 1, .int .i64 0]⟩ W (Ret W fun v w' => ∃ a1 c1 a2 c2, v = .tuple #[.agg ⟨ceL exC4 a1 c1 a2 c2⟩, .int .i64 0] ∧ Has own w' (RdF (Value.int .i64) a1 exA.V) ∧ Has own w' (RdF (Value.int .i64) a2 exS.V) ∧ exA.V.length ≤ c1 ∧ exS.V.length ≤ c2) := by
  have := mkOk (c := exC4) ex4_b (make_c exC4 (by decide) (by decide) v u own W hl hv hu)
  rw [ex4_v] at this
  exact this
theorem exWr_c (a1 a2 : Option Addr) (c1 c2 : Nat) (m1 : exA.V.length ≤ c1) (m2 : exS.V.length ≤ c2) (own : Nat → Prop) (W : World) (hl : ∀ b, own b → b < W.heap.size) (hA : Has own W (RdF (Value.int .i64) a1 exA.V)) (hS : Has own W (RdF (Value.int .i64) a2 exS.V)) :
    Calls Try.prog 21 ⟨[.agg ⟨ceL exC4 a1 c1 a2 c2⟩, .int .i64 4]⟩ W (Ret W fun v w' => ∃ aw cw ac cc, v = .tuple #[.agg ⟨trL exT aw cw ac cc⟩, .int .i64 0] ∧ Has own w' (RdF (Value.int .i64) aw exT.W) ∧ Has own w' (RdF (Value.int .i64) ac exT.C) ∧ exT.W.length ≤ cw ∧ exT.C.length ≤ cc) := by
  refine (worst_c exC4 a1 a2 c1 c2 (by decide) m1 (by decide) m2 4 own W hl hA hS).mono ?_
  rintro e w' ⟨v, rfl, hs, h | h⟩
  · exact absurd ex4_w h.1
  · obtain ⟨-, h⟩ := h
    rw [show (4 : Int).toNat = 4 from rfl, ex4_t] at h
    exact ⟨v, rfl, hs, h⟩
theorem exPlan_c (v : Value) (own : Nat → Prop) (W : World) (hl : ∀ b, own b → b < W.heap.size) (hv : Has own W (IsTr · v exT)) :
    Calls Try.prog 36 ⟨[v]⟩ W (Ret W (PlanR own (exPlan, 0))) := ex4_p ▸ Plan_c sizes_c _ _ _ _ hl hv
/-- What Encode answers for a certificate that has an encoding. -/
theorem encode_ok {c : Ce} (he : encE c = 0) (a1 a2 : Option Addr) (c1 c2 : Nat) (l1 : c.A.V.length ≤ 9223372036854775807) (m1 : c.A.V.length ≤ c1) (l2 : c.S.V.length ≤ 9223372036854775807) (m2 : c.S.V.length ≤ c2) (own : Nat → Prop) (W : World) (hl : ∀ b, own b → b < W.heap.size) (hA : Has own W (RdF (Value.int .i64) a1 c.A.V)) (hS : Has own W (RdF (Value.int .i64) a2 c.S.V)) :
    Calls Try.prog 28 ⟨[.agg ⟨ceL c a1 c1 a2 c2⟩]⟩ W (Ret W fun v w' => ∃ a' c', v = .tuple #[.slice a' (encB c).length c', .int .i64 0] ∧ Has own w' (RdF (Value.int .u8) a' (encB c)) ∧ (encB c).length ≤ c') := by
  refine (ceEncode_c c a1 a2 c1 c2 l1 m1 l2 m2 own W hl hA hS).mono ?_
  rintro e w' ⟨v, rfl, hs, h | h⟩
  · exact absurd he h.1
  · exact ⟨v, rfl, hs, h.2⟩
theorem decode_ok {c : Ce} {xs : List Int} (h : decC xs = .ok c) (hxb : ∀ x ∈ xs, 0 ≤ x ∧ x < 256) (hlen : xs.length ≤ 1000000) (a0 : Option Addr) (c0 : Nat) (hc0 : xs.length ≤ c0) (own : Nat → Prop) (W : World) (hl : ∀ b, own b → b < W.heap.size) (hv : Has own W (RdF (Value.int .u8) a0 xs)) :
    Calls Try.prog 30 ⟨[.slice a0 xs.length c0]⟩ W (Ret W fun v w' => ∃ a1 c1 a2 c2, v = .tuple #[.agg ⟨ceL c a1 c1 a2 c2⟩, .int .i64 0] ∧ Has own w' (RdF (Value.int .i64) a1 c.A.V) ∧ Has own w' (RdF (Value.int .i64) a2 c.S.V) ∧ c.A.V.length ≤ c1 ∧ c.S.V.length ≤ c2) := by
  have := ceDecode_c xs hxb hlen a0 c0 hc0 own W hl hv
  rw [h] at this
  exact this
theorem encB_len {c : Ce} (he : encE c = 0) : (encB c).length ≤ 65536 := by
  unfold encE at he
  split at he
  · omega
  · split at he <;> omega
end Go.Proofs.Ytabfhoipclbeeaa


/- certificate's law: awake. -/
namespace Go.Proofs.Ytabfhoipclbeeaa
open Go.RowKit Go.Shelf C55 K57
set_option maxRecDepth 20000 in
set_option maxHeartbeats 4000000 in
theorem awake57_c (own : Nat → Prop) (W : World) (hl : ∀ b, own b → b < W.heap.size) :
    Calls Try.prog 15 ⟨[]⟩ W (Ret W fun v _ => v = .bool true) := by
  have hM := Mm.start hl
  refine f_start Try.func15 rfl Try.ntmps15 rfl rfl ?_; intro a hF
  (repeat (first | (with_reducible refine w_seq ?_) | (with_reducible refine c_region ?_) | (with_reducible refine s_nil ?_) | ((with_reducible apply s_lit hF hM); exact rfl; exact rfl; exact rfl; exact rfl; clear hF hM a; intro bl w a hM hF; replace hM := Mm.freeze hM) | (with_reducible refine q_then_n ?_) | ((with_reducible apply s_pure hF); exact rfl; exact rfl; exact rfl; (first | exact trivial | omega | exact ⟨Int.natCast_nonneg _, Int.ofNat_lt.2 (by assumption)⟩ | decide); clear hF a; intro a hF) | ((with_reducible apply s_load hF hM); exact rfl; exact rfl; (repeat (first | exact List.mem_cons_self | refine List.mem_cons_of_mem _ ?_)); exact rfl; exact rfl; clear hF a; intro a hF) | ((with_reducible apply s_store hF hM); exact rfl; exact rfl; exact rfl; exact rfl; (repeat (first | exact Upd.z | apply Upd.s)); exact rfl; exact rfl; exact rfl; clear hM; intro w hM) | ((with_reducible apply s_alloc hF hM); exact rfl; exact rfl; exact rfl; clear hF hM a; intro b w a hM hF)))
  rename_i blA _ _ ba _ _ _
  have hA := Has.ints (hM.facts (BxF blA _ _) (List.mem_cons_of_mem _ List.mem_cons_self)) exA.V rfl
  have hS := Has.ints (hM.facts (BxF bl _ _) List.mem_cons_self) exS.V rfl
  replace hM := (hM.addFact hA).addFact hS
  clear hA hS
  generalize bl = blS at *
  generalize b = bs at *
  (((with_reducible apply s_call (f := 16) hF hM); exact rfl; exact rfl; exact rfl; exact rfl; exact rfl; exact (exMk3_c _ _ _ _ hM.lt (isCu_mk (c := exA) (hM.facts (RdF (Value.int .i64) (some ⟨blA, 0, none⟩) exA.V) (by (repeat (first | with_reducible exact List.mem_cons_self | refine List.mem_cons_of_mem _ ?_)))) (by decide) (by decide)) (isCu_mk (c := exS) (hM.facts (RdF (Value.int .i64) (some ⟨blS, 0, none⟩) exS.V) (by (repeat (first | with_reducible exact List.mem_cons_self | refine List.mem_cons_of_mem _ ?_)))) (by decide) (by decide))); clear hF hM a; rintro v w a rfl - hM hF))
  (repeat (first | (with_reducible refine w_seq ?_) | (with_reducible refine c_region ?_) | (with_reducible refine s_nil ?_) | (with_reducible refine q_then_n ?_) | ((with_reducible apply s_pure hF); exact rfl; exact rfl; exact rfl; (first | exact trivial | omega | exact ⟨Int.natCast_nonneg _, Int.ofNat_lt.2 (by assumption)⟩ | decide); clear hF a; intro a hF) | ((with_reducible apply s_load hF hM); exact rfl; exact rfl; (repeat (first | exact List.mem_cons_self | refine List.mem_cons_of_mem _ ?_)); exact rfl; exact rfl; clear hF a; intro a hF) | ((with_reducible apply s_store hF hM); exact rfl; exact rfl; exact rfl; exact rfl; (repeat (first | exact Upd.z | apply Upd.s)); exact rfl; exact rfl; exact rfl; clear hM; intro w hM) | ((with_reducible apply s_alloc hF hM); exact rfl; exact rfl; exact rfl; clear hF hM a; intro b w a hM hF)))
  generalize b = b3 at *
  (((with_reducible apply s_call (f := 16) hF hM); exact rfl; exact rfl; exact rfl; exact rfl; exact rfl; exact (exMk4_c _ _ _ _ hM.lt (isCu_mk (c := exA) (hM.facts (RdF (Value.int .i64) (some ⟨blA, 0, none⟩) exA.V) (by (repeat (first | with_reducible exact List.mem_cons_self | refine List.mem_cons_of_mem _ ?_)))) (by decide) (by decide)) (isCu_mk (c := exS) (hM.facts (RdF (Value.int .i64) (some ⟨blS, 0, none⟩) exS.V) (by (repeat (first | with_reducible exact List.mem_cons_self | refine List.mem_cons_of_mem _ ?_)))) (by decide) (by decide))); clear hF hM a; rintro v w a ⟨p1, c1, p2, c2, rfl, f1, f2, k1, k2⟩ - hM hF; replace hM := (hM.addFact f1).addFact f2))
  (repeat (first | (with_reducible refine w_seq ?_) | (with_reducible refine c_region ?_) | (with_reducible refine s_nil ?_) | (with_reducible refine q_then_n ?_) | ((with_reducible apply s_pure hF); exact rfl; exact rfl; exact rfl; (first | exact trivial | omega | exact ⟨Int.natCast_nonneg _, Int.ofNat_lt.2 (by assumption)⟩ | decide); clear hF a; intro a hF) | ((with_reducible apply s_load hF hM); exact rfl; exact rfl; (repeat (first | exact List.mem_cons_self | refine List.mem_cons_of_mem _ ?_)); exact rfl; exact rfl; clear hF a; intro a hF) | ((with_reducible apply s_store hF hM); exact rfl; exact rfl; exact rfl; exact rfl; (repeat (first | exact Upd.z | apply Upd.s)); exact rfl; exact rfl; exact rfl; clear hM; intro w hM) | ((with_reducible apply s_alloc hF hM); exact rfl; exact rfl; exact rfl; clear hF hM a; intro b w a hM hF)))
  generalize b = b4 at *
  (((with_reducible apply s_call (f := 21) hF hM); exact rfl; exact rfl; exact rfl; exact rfl; exact rfl; exact (exWr_c p1 p2 c1 c2 k1 k2 _ _ hM.lt (hM.facts (RdF (Value.int .i64) p1 exA.V) (by (repeat (first | with_reducible exact List.mem_cons_self | refine List.mem_cons_of_mem _ ?_)))) (hM.facts (RdF (Value.int .i64) p2 exS.V) (by (repeat (first | with_reducible exact List.mem_cons_self | refine List.mem_cons_of_mem _ ?_))))); clear hF hM a; rintro v w a ⟨pw, cw, pc, cc, rfl, f3, f4, k3, k4⟩ - hM hF; replace hM := (hM.addFact f3).addFact f4))
  (repeat (first | (with_reducible refine w_seq ?_) | (with_reducible refine c_region ?_) | (with_reducible refine s_nil ?_) | (with_reducible refine q_then_n ?_) | ((with_reducible apply s_pure hF); exact rfl; exact rfl; exact rfl; (first | exact trivial | omega | exact ⟨Int.natCast_nonneg _, Int.ofNat_lt.2 (by assumption)⟩ | decide); clear hF a; intro a hF) | ((with_reducible apply s_load hF hM); exact rfl; exact rfl; (repeat (first | exact List.mem_cons_self | refine List.mem_cons_of_mem _ ?_)); exact rfl; exact rfl; clear hF a; intro a hF) | ((with_reducible apply s_store hF hM); exact rfl; exact rfl; exact rfl; exact rfl; (repeat (first | exact Upd.z | apply Upd.s)); exact rfl; exact rfl; exact rfl; clear hM; intro w hM) | ((with_reducible apply s_alloc hF hM); exact rfl; exact rfl; exact rfl; clear hF hM a; intro b w a hM hF)))
  generalize b = bt at *
  (((with_reducible apply s_call (f := 36) hF hM); exact rfl; exact rfl; exact rfl; exact rfl; exact rfl; exact (exPlan_c _ _ _ hM.lt (isTr_mk (t := exT) (hM.facts (RdF (Value.int .i64) pw exT.W) (by (repeat (first | with_reducible exact List.mem_cons_self | refine List.mem_cons_of_mem _ ?_)))) (hM.facts (RdF (Value.int .i64) pc exT.C) (by (repeat (first | with_reducible exact List.mem_cons_self | refine List.mem_cons_of_mem _ ?_)))) (by decide) (by decide) k3 k4)); clear hF hM a; rintro v w a ⟨pv, rfl, hpv⟩ - hM hF; (obtain ⟨x1, x2, x3, x4, y1, y2, y3, y4, rfl, -⟩ := isPl_open hpv; clear hpv); dsimp only at hF))
  (repeat (first | (with_reducible refine w_seq ?_) | (with_reducible refine c_region ?_) | (with_reducible refine s_nil ?_) | (with_reducible refine q_then_n ?_) | ((with_reducible apply s_pure hF); exact rfl; exact rfl; exact rfl; (first | exact trivial | omega | exact ⟨Int.natCast_nonneg _, Int.ofNat_lt.2 (by assumption)⟩ | decide); clear hF a; intro a hF) | ((with_reducible apply s_load hF hM); exact rfl; exact rfl; (repeat (first | exact List.mem_cons_self | refine List.mem_cons_of_mem _ ?_)); exact rfl; exact rfl; clear hF a; intro a hF) | ((with_reducible apply s_store hF hM); exact rfl; exact rfl; exact rfl; exact rfl; (repeat (first | exact Upd.z | apply Upd.s)); exact rfl; exact rfl; exact rfl; clear hM; intro w hM) | ((with_reducible apply s_alloc hF hM); exact rfl; exact rfl; exact rfl; clear hF hM a; intro b w a hM hF)))
  generalize b = bp at *
  have e1 : encE exC4 = 0 := encE_few (by decide) (by decide) (by decide)
  have e2 := encB_len e1
  (((with_reducible apply s_call (f := 28) hF hM); exact rfl; exact rfl; exact rfl; exact rfl; exact rfl; exact (encode_ok e1 p1 p2 c1 c2 (by decide) k1 (by decide) k2 _ _ hM.lt (hM.facts (RdF (Value.int .i64) p1 exA.V) (by (repeat (first | with_reducible exact List.mem_cons_self | refine List.mem_cons_of_mem _ ?_)))) (hM.facts (RdF (Value.int .i64) p2 exS.V) (by (repeat (first | with_reducible exact List.mem_cons_self | refine List.mem_cons_of_mem _ ?_))))); clear hF hM a; rintro v w a ⟨pe, ce, rfl, f5, k5⟩ - hM hF; replace hM := hM.addFact f5))
  (repeat (first | (with_reducible refine w_seq ?_) | (with_reducible refine c_region ?_) | (with_reducible refine s_nil ?_) | (with_reducible refine q_then_n ?_) | ((with_reducible apply s_pure hF); exact rfl; exact rfl; exact rfl; (first | exact trivial | omega | exact ⟨Int.natCast_nonneg _, Int.ofNat_lt.2 (by assumption)⟩ | decide); clear hF a; intro a hF)))
  (((with_reducible apply s_call (f := 30) hF hM); exact rfl; exact rfl; exact rfl; exact rfl; exact rfl; exact (decode_ok (decC_encB e1) encB_by (by omega) pe ce k5 _ _ hM.lt (hM.facts (RdF (Value.int .u8) pe (encB exC4)) (by (repeat (first | with_reducible exact List.mem_cons_self | refine List.mem_cons_of_mem _ ?_))))); clear hF hM a; rintro v w a ⟨q1, d1, q2, d2, rfl, f6, f7, k6, k7⟩ - hM hF; replace hM := (hM.addFact f6).addFact f7))
  (repeat (first | (with_reducible refine w_seq ?_) | (with_reducible refine c_region ?_) | (with_reducible refine s_nil ?_) | (with_reducible refine q_then_n ?_) | ((with_reducible apply s_pure hF); exact rfl; exact rfl; exact rfl; (first | exact trivial | omega | exact ⟨Int.natCast_nonneg _, Int.ofNat_lt.2 (by assumption)⟩ | decide); clear hF a; intro a hF) | ((with_reducible apply s_load hF hM); exact rfl; exact rfl; (repeat (first | exact List.mem_cons_self | refine List.mem_cons_of_mem _ ?_)); exact rfl; exact rfl; clear hF a; intro a hF) | ((with_reducible apply s_store hF hM); exact rfl; exact rfl; exact rfl; exact rfl; (repeat (first | exact Upd.z | apply Upd.s)); exact rfl; exact rfl; exact rfl; clear hM; intro w hM) | ((with_reducible apply s_alloc hF hM); exact rfl; exact rfl; exact rfl; clear hF hM a; intro b w a hM hF) | ((with_reducible apply s_lit hF hM); exact rfl; exact rfl; exact rfl; exact rfl; clear hF hM a; intro bl w a hM hF)))
  generalize b = bd at *
  have hB : exC4.B = 8 := rfl
  have hB2 : exPlan.bound = 8 := ex4_pb
  generalize exPlan = EP at *
  (repeat' (first | fail))
  replace hM := hM.freeze
  have hq := Has.ints (hM.facts (BxF bl _ _) List.mem_cons_self) exT.W rfl
  (((with_reducible apply s_call (f := 44) hF hM); exact rfl; exact rfl; exact rfl; exact rfl; exact rfl; exact (equal_c exT.W pw (some ⟨bl, 0, none⟩) _ _ rfl rfl _ _ _ _ hM.lt (by decide) (hM.facts (RdF (Value.int .i64) pw exT.W) (by (repeat (first | with_reducible exact List.mem_cons_self | refine List.mem_cons_of_mem _ ?_)))) hq); clear hF hM a; rintro v w a rfl - hM hF))
  clear hq
  (repeat' (first | ((with_reducible apply s_lit hF hM); exact rfl; exact rfl; exact rfl; exact rfl; clear hF hM a; intro bl w a hM hF; replace hM := Mm.freeze hM) | ((with_reducible apply s_pure hF); exact rfl; exact rfl; exact rfl; (first | exact trivial | omega | exact ⟨Int.natCast_nonneg _, Int.ofNat_lt.2 (by assumption)⟩ | decide); clear hF a; intro a hF) | ((with_reducible apply s_load hF hM); exact rfl; exact rfl; (repeat (first | exact List.mem_cons_self | refine List.mem_cons_of_mem _ ?_)); exact rfl; exact rfl; clear hF a; intro a hF)))
  have hq := Has.ints (hM.facts (BxF bl _ _) List.mem_cons_self) exT.C rfl
  (((with_reducible apply s_call (f := 44) hF hM); exact rfl; exact rfl; exact rfl; exact rfl; exact rfl; exact (equal_c exT.C pc (some ⟨bl, 0, none⟩) _ _ rfl rfl _ _ _ _ hM.lt (by decide) (hM.facts (RdF (Value.int .i64) pc exT.C) (by (repeat (first | with_reducible exact List.mem_cons_self | refine List.mem_cons_of_mem _ ?_)))) hq); clear hF hM a; rintro v w a rfl - hM hF))
  clear hq
  (repeat' (first | ((with_reducible apply s_pure hF); exact rfl; exact rfl; exact rfl; (first | exact trivial | omega | exact ⟨Int.natCast_nonneg _, Int.ofNat_lt.2 (by assumption)⟩ | decide); clear hF a; intro a hF) | ((with_reducible apply s_load hF hM); exact rfl; exact rfl; (repeat (first | exact List.mem_cons_self | refine List.mem_cons_of_mem _ ?_)); exact rfl; exact rfl; clear hF a; intro a hF) | ((fail_if_success ((with_reducible refine g_known true hF ?_ ?_); focus exact rfl)); (fail_if_success ((with_reducible refine g_known false hF ?_ ?_); focus exact rfl)); (with_reducible apply g_dec hF); exact rfl; exact rfl; all_goals (clear hF; intro hc hF); all_goals (try (exfalso; omega)))))
  (((with_reducible apply s_call (f := 18) hF hM); exact rfl; exact rfl; exact rfl; exact rfl; exact rfl; exact (refSame57_c exC4 p1 p2 q1 q2 c1 c2 d1 d2 (by decide) k1 (by decide) k2 k6 k7 _ _ hM.lt (hM.facts (RdF (Value.int .i64) p1 exA.V) (by (repeat (first | with_reducible exact List.mem_cons_self | refine List.mem_cons_of_mem _ ?_)))) (hM.facts (RdF (Value.int .i64) p2 exS.V) (by (repeat (first | with_reducible exact List.mem_cons_self | refine List.mem_cons_of_mem _ ?_)))) (hM.facts (RdF (Value.int .i64) q1 exC4.A.V) (by (repeat (first | with_reducible exact List.mem_cons_self | refine List.mem_cons_of_mem _ ?_)))) (hM.facts (RdF (Value.int .i64) q2 exC4.S.V) (by (repeat (first | with_reducible exact List.mem_cons_self | refine List.mem_cons_of_mem _ ?_))))); clear hF hM a; rintro v w a rfl - hM hF))
  (repeat' (first | (with_reducible refine s_nil ?_) | (with_reducible refine q_then_n ?_) | ((with_reducible apply s_pure hF); exact rfl; exact rfl; exact rfl; (first | exact trivial | omega | exact ⟨Int.natCast_nonneg _, Int.ofNat_lt.2 (by assumption)⟩ | decide); clear hF a; intro a hF) | (with_reducible refine w_ret ?_)))
  all_goals (apply f_ret Try.results15 hF hM; (repeat (first | exact RL.nil | (apply RL.tmp; exact rfl) | (apply RL.cell; exact rfl; (repeat (first | exact List.mem_cons_self | refine List.mem_cons_of_mem _ ?_)); exact rfl))); refine Ret.mk hM.since ?_; dsimp only [resV])
  all_goals (exfalso; omega)
end Go.Proofs.Ytabfhoipclbeeaa


/- certificate's laws: CertificateWorst, CertificateCodes, CertificateCovers. -/
namespace Go.Proofs.Ytabfhoipclbeeaa
open Go.RowKit Go.Shelf C55 K57
namespace K57
end K57
section
variable (c : Ce) (a1 a2 : Option Addr) (c1 c2 : Nat) (l1 : c.A.V.length ≤ 9223372036854775807) (m1 : c.A.V.length ≤ c1) (l2 : c.S.V.length ≤ 9223372036854775807) (m2 : c.S.V.length ≤ c2) (W : World)
    (h1 : Has (fun _ => False) W (RdF (Value.int .i64) a1 c.A.V)) (h2 : Has (fun _ => False) W (RdF (Value.int .i64) a2 c.S.V))
include l1 m1 l2 m2 h1 h2
set_option maxRecDepth 20000 in
set_option maxHeartbeats 4000000 in
theorem covers57_law (t : P56.Tr) (aw ac : Option Addr) (cw cc : Nat) (lw : t.W.length ≤ 9223372036854775807) (mw : t.W.length ≤ cw) (lc : t.C.length ≤ 9223372036854775807) (mc : t.C.length ≤ cc) (h3 : Has (fun _ => False) W (RdF (Value.int .i64) aw t.W)) (h4 : Has (fun _ => False) W (RdF (Value.int .i64) ac t.C)) :
    Calls Try.prog 8 ⟨[.agg ⟨ceL c a1 c1 a2 c2⟩, .agg ⟨trL t aw cw ac cc⟩]⟩ W (Ret W fun x _ => x = .bool true) := by
  have hM := ((((Mm.start (fun _ h => h.elim)).known h1).known h2).known h3).known h4
  refine f_start Try.func8 rfl Try.ntmps8 rfl rfl ?_; intro a hF
  by_cases hbig : ¬ (c.A.V.length ≤ 40 ∧ c.S.V.length ≤ 40) ∨ ¬ (t.W.length ≤ 40 ∧ t.C.length ≤ 60)
  · (repeat' (first | (with_reducible refine w_seq ?_) | (with_reducible refine c_region ?_) | (with_reducible refine s_nil ?_) | ((with_reducible apply s_call (f := 14) hF hM); exact rfl; exact rfl; exact rfl; exact rfl; exact rfl; exact (refFew57_c c a1 a2 c1 c2 l1 m1 l2 m2 _ _ hM.lt (hM.facts (RdF (Value.int .i64) a1 c.A.V) (by (repeat (first | with_reducible exact List.mem_cons_self | refine List.mem_cons_of_mem _ ?_)))) (hM.facts (RdF (Value.int .i64) a2 c.S.V) (by (repeat (first | with_reducible exact List.mem_cons_self | refine List.mem_cons_of_mem _ ?_))))); clear hF hM a; rintro v w a rfl - hM hF) | ((with_reducible apply s_call (f := 33) hF hM); exact rfl; exact rfl; exact rfl; exact rfl; exact rfl; exact (refFewTrace_c t aw ac cw cc lw lc _ _ hM.lt); clear hF hM a; rintro v w a rfl - hM hF) | ((with_reducible apply s_call (f := 15) hF hM); exact rfl; exact rfl; exact rfl; exact rfl; exact rfl; exact (awake57_c _ _ hM.lt); clear hF hM a; rintro v w a rfl - hM hF) | (with_reducible refine q_then_n ?_) | ((with_reducible apply s_pure hF); exact rfl; exact rfl; exact rfl; (first | exact trivial | omega | exact ⟨Int.natCast_nonneg _, Int.ofNat_lt.2 (by assumption)⟩ | decide); clear hF a; intro a hF) | ((with_reducible apply s_load hF hM); exact rfl; exact rfl; (repeat (first | exact List.mem_cons_self | refine List.mem_cons_of_mem _ ?_)); exact rfl; exact rfl; clear hF a; intro a hF) | ((with_reducible apply s_box hF hM); exact rfl; exact rfl; exact rfl; exact rfl; clear hF hM a; intro b w a hM hF) | (with_reducible refine w_ret ?_) | (with_reducible refine q_then_r ?_) | ((with_reducible apply c_true2 hF); exact rfl; (first | with_reducible rfl | (refine congrArg Value.bool ?_; focus (simp; done)))) | ((with_reducible apply s_skip hF); exact rfl; exact rfl; clear hF a; intro a hF) | ((fail_if_success ((with_reducible refine g_known true hF ?_ ?_); focus exact rfl)); (fail_if_success ((with_reducible refine g_known false hF ?_ ?_); focus exact rfl)); (with_reducible apply g_ndec hF); exact rfl; exact rfl; all_goals (clear hF; intro hc hF); all_goals (try (exfalso; omega))) | ((with_reducible apply c_ndec hF); exact rfl; all_goals intro hc; all_goals (try (exfalso; omega)))))
    all_goals (apply f_ret Try.results8 hF hM; (repeat (first | exact RL.nil | (apply RL.tmp; exact rfl) | (apply RL.cell; exact rfl; (repeat (first | exact List.mem_cons_self | refine List.mem_cons_of_mem _ ?_)); exact rfl))); refine Ret.mk hM.since ?_; dsimp only [resV])
  (repeat' (first | (with_reducible refine w_seq ?_) | (with_reducible refine c_region ?_) | (with_reducible refine s_nil ?_) | ((with_reducible apply s_call (f := 14) hF hM); exact rfl; exact rfl; exact rfl; exact rfl; exact rfl; exact (refFew57_c c a1 a2 c1 c2 l1 m1 l2 m2 _ _ hM.lt (hM.facts (RdF (Value.int .i64) a1 c.A.V) (by (repeat (first | with_reducible exact List.mem_cons_self | refine List.mem_cons_of_mem _ ?_)))) (hM.facts (RdF (Value.int .i64) a2 c.S.V) (by (repeat (first | with_reducible exact List.mem_cons_self | refine List.mem_cons_of_mem _ ?_))))); clear hF hM a; rintro v w a rfl - hM hF) | ((with_reducible apply s_call (f := 33) hF hM); exact rfl; exact rfl; exact rfl; exact rfl; exact rfl; exact (refFewTrace_c t aw ac cw cc lw lc _ _ hM.lt); clear hF hM a; rintro v w a rfl - hM hF) | (with_reducible refine q_then_n ?_) | ((with_reducible apply s_pure hF); exact rfl; exact rfl; exact rfl; (first | exact trivial | omega | exact ⟨Int.natCast_nonneg _, Int.ofNat_lt.2 (by assumption)⟩ | decide); clear hF a; intro a hF) | ((with_reducible apply s_load hF hM); exact rfl; exact rfl; (repeat (first | exact List.mem_cons_self | refine List.mem_cons_of_mem _ ?_)); exact rfl; exact rfl; clear hF a; intro a hF) | ((with_reducible apply s_box hF hM); exact rfl; exact rfl; exact rfl; exact rfl; clear hF hM a; intro b w a hM hF) | (with_reducible refine w_skip ?_) | ((fail_if_success ((with_reducible refine g_known true hF ?_ ?_); focus exact rfl)); (fail_if_success ((with_reducible refine g_known false hF ?_ ?_); focus exact rfl)); (with_reducible apply g_ndec hF); exact rfl; exact rfl; all_goals (clear hF; intro hc hF); all_goals (try (exfalso; omega))) | ((with_reducible apply c_ndec hF); exact rfl; all_goals intro hc; all_goals (try (exfalso; omega)))))
  have e1 := fun {own W} => covers_c c a1 a2 c1 c2 l1 m1 l2 m2 t aw ac cw cc lw mw lc mc own W
  have e2 := fun {own W} => refCovers_c c a1 a2 c1 c2 l1 m1 l2 m2 t aw ac cw cc (by omega) mw (by omega) mc own W
  generalize covV c t = q at e1 e2
  generalize covE c t = e at e1 e2
  (((with_reducible apply s_call (f := 34) hF hM); exact rfl; exact rfl; exact rfl; exact rfl; exact rfl; exact (e1 hM.lt (hM.facts (RdF (Value.int .i64) a1 c.A.V) (by (repeat (first | with_reducible exact List.mem_cons_self | refine List.mem_cons_of_mem _ ?_)))) (hM.facts (RdF (Value.int .i64) a2 c.S.V) (by (repeat (first | with_reducible exact List.mem_cons_self | refine List.mem_cons_of_mem _ ?_)))) (hM.facts (RdF (Value.int .i64) aw t.W) (by (repeat (first | with_reducible exact List.mem_cons_self | refine List.mem_cons_of_mem _ ?_)))) (hM.facts (RdF (Value.int .i64) ac t.C) (by (repeat (first | with_reducible exact List.mem_cons_self | refine List.mem_cons_of_mem _ ?_))))); clear hF hM a; rintro v w a rfl - hM hF))
  (repeat (first | (with_reducible refine w_seq ?_) | (with_reducible refine c_region ?_) | (with_reducible refine s_nil ?_) | (with_reducible refine q_then_n ?_) | ((with_reducible apply s_pure hF); exact rfl; exact rfl; exact rfl; (first | exact trivial | omega | exact ⟨Int.natCast_nonneg _, Int.ofNat_lt.2 (by assumption)⟩ | decide); clear hF a; intro a hF) | ((with_reducible apply s_load hF hM); exact rfl; exact rfl; (repeat (first | exact List.mem_cons_self | refine List.mem_cons_of_mem _ ?_)); exact rfl; exact rfl; clear hF a; intro a hF)))
  (((with_reducible apply s_call (f := 35) hF hM); exact rfl; exact rfl; exact rfl; exact rfl; exact rfl; exact (e2 hM.lt (hM.facts (RdF (Value.int .i64) a1 c.A.V) (by (repeat (first | with_reducible exact List.mem_cons_self | refine List.mem_cons_of_mem _ ?_)))) (hM.facts (RdF (Value.int .i64) a2 c.S.V) (by (repeat (first | with_reducible exact List.mem_cons_self | refine List.mem_cons_of_mem _ ?_)))) (hM.facts (RdF (Value.int .i64) aw t.W) (by (repeat (first | with_reducible exact List.mem_cons_self | refine List.mem_cons_of_mem _ ?_)))) (hM.facts (RdF (Value.int .i64) ac t.C) (by (repeat (first | with_reducible exact List.mem_cons_self | refine List.mem_cons_of_mem _ ?_))))); clear hF hM a; rintro v w a rfl - hM hF))
  (repeat (first | (with_reducible refine w_seq ?_) | (with_reducible refine c_region ?_) | (with_reducible refine s_nil ?_) | ((with_reducible apply s_eqBo hF); exact rfl; exact rfl; exact rfl; kernel_rfl; kernel_rfl; exact rfl; clear hF a; intro a hF) | (with_reducible refine q_then_n ?_) | ((with_reducible apply s_pure hF); exact rfl; exact rfl; exact rfl; (first | exact trivial | omega | exact ⟨Int.natCast_nonneg _, Int.ofNat_lt.2 (by assumption)⟩ | decide); clear hF a; intro a hF)))
  rw [show decide (q = q) = true from decide_eq_true rfl] at hF
  (repeat' (first | (with_reducible refine s_nil ?_) | ((with_reducible apply s_call (f := 15) hF hM); exact rfl; exact rfl; exact rfl; exact rfl; exact rfl; exact (awake57_c _ _ hM.lt); clear hF hM a; rintro v w a rfl - hM hF) | (with_reducible refine q_then_n ?_) | ((with_reducible apply s_pure hF); exact rfl; exact rfl; exact rfl; (first | exact trivial | omega | exact ⟨Int.natCast_nonneg _, Int.ofNat_lt.2 (by assumption)⟩ | decide); clear hF a; intro a hF) | (with_reducible refine w_ret ?_) | ((fail_if_success ((with_reducible refine g_known true hF ?_ ?_); focus exact rfl)); (fail_if_success ((with_reducible refine g_known false hF ?_ ?_); focus exact rfl)); (with_reducible apply g_dec hF); exact rfl; exact rfl; all_goals (clear hF; intro hc hF); all_goals (try (exfalso; omega)))))
  all_goals (apply f_ret Try.results8 hF hM; (repeat (first | exact RL.nil | (apply RL.tmp; exact rfl) | (apply RL.cell; exact rfl; (repeat (first | exact List.mem_cons_self | refine List.mem_cons_of_mem _ ?_)); exact rfl))); refine Ret.mk hM.since ?_; dsimp only [resV])
end
end Go.Proofs.Ytabfhoipclbeeaa


/- Arguments of the rows of layer 57. -/
namespace Go.Proofs.Ytabfhoipclbeeaa
open Go.RowKit Go.Shelf Go.ChangeShapes Go.WideShapes Go.ChangeAt C55 K57
section
variable {H : Type} {enc : TypeId × Value → H} {w : World} {r : Reach} {b0 base : Nat} {spare : Nat → Bool} {held : Bool}
theorem cu_cells {cells : List Value} {n : Nat} {y : DataW H × List MemPlace} (h : DataW.trod enc Try.prog w 0 (fun _ => true) held n 24 cells = some y) :
    ∃ (A : Cu) (a : Option Addr) (cap : Nat), cells = [.slice a A.V.length cap, .int .i64 A.S] ∧ Has (fun _ => False) w (RdF (Value.int .i64) a A.V) ∧ A.V.length ≤ 9223372036854775807 ∧ A.V.length ≤ cap := by
  obtain ⟨xs, m, _, _, hl, hlen, hx⟩ := DataW.trod_struct Try.underlying24 h
  have hl2 : cells.length = 2 := hl.trans (by kernel_rfl)
  have q0 := hx 0 _ rfl
  have q1 := hx 1 _ rfl
  match cells, hl2, xs, hlen with
  | [u, v], _, [y0, y1], _ =>
    rw [show Try.prog.cellsOf _ = 1 from (by kernel_rfl)] at q0
    rw [show Try.prog.cellsOf _ = 1 from (by kernel_rfl)] at q1
    obtain ⟨a, V, cap, rfl, hr, l1, l2, hb⟩ := of_slice Try.underlying22 Try.underlying3 (by kernel_rfl) (c := u) q0
    obtain ⟨x1, rfl, _⟩ := of_int Try.underlying3 (c := v) q1
    exact ⟨⟨V, x1⟩, a, cap, rfl, Has.reads hr, l1, l2⟩
theorem isCe_arg {v : Value} {d : DataW H} {p : List MemPlace} (hv : Value.okWide Try.prog w r b0 29 v) (h : DataW.Trod enc Try.prog w 0 (fun _ => true) held 29 v d p) :
    ∃ (c : Ce) (a1 a2 : Option Addr) (c1 c2 : Nat), v = .agg ⟨ceL c a1 c1 a2 c2⟩ ∧ Has (fun _ => False) w (RdF (Value.int .i64) a1 c.A.V) ∧ Has (fun _ => False) w (RdF (Value.int .i64) a2 c.S.V) ∧ c.A.V.length ≤ 9223372036854775807 ∧ c.A.V.length ≤ c1 ∧ c.S.V.length ≤ 9223372036854775807 ∧ c.S.V.length ≤ c2 := by
  obtain ⟨cs, rfl, hsz⟩ := okWide_struct Try.underlying29 hv
  obtain ⟨fuel, hf⟩ := h
  obtain ⟨xs, n, _, _, hl, hlen, hx⟩ := DataW.trod_struct Try.underlying29 hf
  obtain ⟨l⟩ := cs
  have hl2 : l.length = 8 := hl.trans (by kernel_rfl)
  have q0 := hx 0 _ rfl
  have q1 := hx 1 _ rfl
  have q2 := hx 2 _ rfl
  have q3 := hx 3 _ rfl
  have q4 := hx 4 _ rfl
  have q5 := hx 5 _ rfl
  match l, hl2, xs, hlen with
  | [u0, u1, u2, u3, u4, u5, u6, u7], _, [y0, y1, y2, y3, y4, y5], _ =>
    rw [show Try.prog.cellsOf _ = 2 from (by kernel_rfl)] at q0
    rw [show Try.prog.cellsOf _ = 2 from (by kernel_rfl)] at q1
    rw [show Try.prog.cellsOf _ = 1 from (by kernel_rfl)] at q2
    rw [show Try.prog.cellsOf _ = 1 from (by kernel_rfl)] at q3
    rw [show Try.prog.cellsOf _ = 1 from (by kernel_rfl)] at q4
    rw [show Try.prog.cellsOf _ = 1 from (by kernel_rfl)] at q5
    obtain ⟨A, a1, c1, e1, h1, l1, m1⟩ := cu_cells (cells := [u0, u1]) q0
    obtain ⟨S, a2, c2, e2, h2, l2, m2⟩ := cu_cells (cells := [u2, u3]) q1
    obtain ⟨x4, rfl, _⟩ := of_int Try.underlying3 (c := u4) q2
    obtain ⟨x5, rfl, _⟩ := of_int Try.underlying3 (c := u5) q3
    obtain ⟨x6, rfl, _⟩ := of_int Try.underlying3 (c := u6) q4
    obtain ⟨x7, rfl, _⟩ := of_int Try.underlying3 (c := u7) q5
    simp only [List.cons.injEq, and_true] at e1 e2
    obtain ⟨rfl, rfl⟩ := e1
    obtain ⟨rfl, rfl⟩ := e2
    exact ⟨⟨A, S, x4, x5, x6, x7⟩, a1, a2, c1, c2, rfl, h1, h2, l1, m1, l2, m2⟩
theorem tr_arg {v : Value} {d : DataW H} {p : List MemPlace} (hv : Value.okWide Try.prog w r b0 42 v) (h : DataW.Trod enc Try.prog w 0 (fun _ => true) held 42 v d p) :
    ∃ (t : P56.Tr) (aw ac : Option Addr) (cw cc : Nat), v = .agg ⟨trL t aw cw ac cc⟩ ∧ Has (fun _ => False) w (RdF (Value.int .i64) aw t.W) ∧ Has (fun _ => False) w (RdF (Value.int .i64) ac t.C) ∧ t.W.length ≤ 9223372036854775807 ∧ t.W.length ≤ cw ∧ t.C.length ≤ 9223372036854775807 ∧ t.C.length ≤ cc := by
  obtain ⟨cs, rfl, hs, hf⟩ := open_aggN Try.underlying42 (by kernel_rfl) (by kernel_rfl) hv h
  obtain ⟨c0, y0, n0, e0, k0⟩ := hf 0 _ rfl
  obtain ⟨c1, y1, n1, e1, k1⟩ := hf 1 _ rfl
  obtain ⟨c2, y2, n2, e2, k2⟩ := hf 2 _ rfl
  obtain ⟨c3, y3, n3, e3, k3⟩ := hf 3 _ rfl
  obtain ⟨c4, y4, n4, e4, k4⟩ := hf 4 _ rfl
  obtain ⟨a, W, cap, rfl, hr, l1, l2, hb⟩ := of_slice Try.underlying22 Try.underlying3 (by kernel_rfl) k0
  obtain ⟨a', C, cap', rfl, hr', l1', l2', hb'⟩ := of_slice Try.underlying22 Try.underlying3 (by kernel_rfl) k1
  obtain ⟨x2, rfl, _⟩ := of_int Try.underlying3 k2
  obtain ⟨x3, rfl, _⟩ := of_int Try.underlying3 k3
  obtain ⟨x4, rfl, _⟩ := of_int Try.underlying3 k4
  obtain ⟨l⟩ := cs
  have hl : l = [.slice a W.length cap, .slice a' C.length cap', .int .i64 x2, .int .i64 x3, .int .i64 x4] := by
    match l, hs with
    | [d0, d1, d2, d3, d4], _ => simp at e0 e1 e2 e3 e4; simp [e0, e1, e2, e3, e4]
  subst hl
  exact ⟨⟨W, C, x2, x3, x4⟩, a, a', cap, cap', rfl, Has.reads hr, Has.reads hr', l1, l2, l1', l2'⟩
end
end Go.Proofs.Ytabfhoipclbeeaa

