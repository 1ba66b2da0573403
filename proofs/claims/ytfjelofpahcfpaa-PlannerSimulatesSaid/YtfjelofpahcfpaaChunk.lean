/- slices.Chunk at slices of int: the function that it returns calls yield with one part after another. -/
import Derived.RangeFuncBox
import Derived.RangeFuncLeaves
import Derived.RangeFuncNested
import Derived.RangeFuncBound
import Derived.RangeFuncCalls
import Derived.Shelf.Abstract
import Derived.Shelf.RegionOpen
import Derived.WalkKit
import Derived.OwnWalkIn
import Derived.TacticsInMore
import Derived.LoopNIn
import Derived.LoopIn
import Derived.BigRegionIn
import Derived.Test.YtfjelofpahcfpaaBase
set_option linter.unusedSimpArgs false
set_option linter.unusedVariables false
namespace Go.Proofs.Ytfjelofpahcfpaa
open Go.RowKit Go.Shelf
attribute [local go_sem] Oper.semAt_some
namespace Chunk
/-- Part k of a slice of len elements at b, off; p elements each. -/
def cpart (b off len p k : Nat) : Value := .slice (some ⟨b, off + k * p, none⟩) (min p (len - k * p)) (min p (len - k * p))
/-- What a round keeps: what lay below n₀, and the two boxes. -/
def Kept (n₀ Bs Bp : Nat) (W W' : World) : Prop := Below n₀ W W' ∧ W'.cell? ⟨Bs, 0, none⟩ = W.cell? ⟨Bs, 0, none⟩ ∧ W'.cell? ⟨Bp, 0, none⟩ = W.cell? ⟨Bp, 0, none⟩
theorem Kept.refl (n₀ Bs Bp : Nat) (W : World) : Kept n₀ Bs Bp W W := ⟨Below.refl _ _, rfl, rfl⟩
theorem Kept.trans {n₀ Bs Bp : Nat} {A B C : World} (h : Kept n₀ Bs Bp A B) (k : Kept n₀ Bs Bp B C) : Kept n₀ Bs Bp A C := ⟨h.1.trans k.1, k.2.1.trans h.2.1, k.2.2.trans h.2.2⟩
theorem Kept.drew {n₀ Bs Bp : Nat} {A B : World} (h : Kept n₀ Bs Bp A B) : Kept n₀ Bs Bp A B.drew := ⟨h.1.drew, h.2.1, h.2.2⟩
theorem cell_putObj {W : World} {l b : Nat} (o : Obj) (h : b ≠ l) : (W.putObj l o).cell? ⟨b, 0, none⟩ = W.cell? ⟨b, 0, none⟩ :=
  World.cell?_of_block (World.putObj_heap_other (fun e => h e))
end Chunk
open Chunk
set_option maxRecDepth 100000 in
set_option maxHeartbeats 2000000 in
theorem chunk1_in (F : Fence) (n : Nat) (h7 : F.fn 52) (hro : F.round = none) (hn : 1 ≤ n) (l Bs Bp n₀ b off len cap p N : Nat) (hlen : len ≤ 4096) (hp0 : 1 ≤ p) (hp : p ≤ 4096) (hN : N = (len + p - 1) / p) (hcap : len ≤ cap) (J Jx : List Nat → World → Prop)
    (hY : ∀ pre x W, J pre W → pre.length < N → YieldAt F (n - 1) Try.prog l #[cpart b off len p x] W fun e W' =>
      (e = .returned (.bool true) ∧ J (pre ++ [x]) W' ∧ Chunk.Kept n₀ Bs Bp W W') ∨ (e = .returned (.bool false) ∧ Jx (pre ++ [x]) W'))
    (hJd : ∀ pre W, J pre W → J pre W.drew)
    (W : World) (hBs : W.cell? ⟨Bs, 0, none⟩ = some (.slice (some ⟨b, off, none⟩) len cap)) (hBp : W.cell? ⟨Bp, 0, none⟩ = some (.int .i64 p)) (h0 : J [] W) :
    CallsIn F n Try.prog 52 #[.func (.yield l) #[] #[], .pointer (some ⟨Bs, 0, none⟩), .pointer (some ⟨Bp, 0, none⟩)] W fun e W' => (∃ v, e = .returned v) ∧
      ((∃ ys, ys = List.range N ∧ J ys W') ∨ (∃ pre, (∃ k, k ≤ N ∧ pre = List.range k) ∧ Jx pre W')) := by
  refine callsIn_of_wp Try.func52 rfl h7 ?_ hro
  simp only [Try.ntmps52, List.size_toArray, List.length_cons, List.length_nil, Nat.reduceAdd, Nat.reduceSub, Array.replicate_succ, Array.replicate_zero, List.push_toArray, List.append_toArray, List.nil_append, List.cons_append]
  gi_wp2
  gi_loopw [4] (fun i wr => ∃ k : Nat, k ≤ N ∧ i = .int .i64 ((k * p : Nat) : Int) ∧ J (List.range k) wr ∧ Chunk.Kept n₀ Bs Bp W wr)
    (fun i _ => len - (intOf i).toNat)
  case atStart => exact ⟨0, Nat.zero_le _, by simp, h0, Chunk.Kept.refl _ _ _ _⟩
  case round =>
    obtain ⟨k, hk, rfl, hJs, hnx⟩ := hrel
    have hc1 : wr.cell? ⟨Bs, 0, none⟩ = some (.slice (some ⟨b, off, none⟩) len cap) := hnx.2.1.trans hBs
    have hc2 : wr.cell? ⟨Bp, 0, none⟩ = some (.int .i64 p) := hnx.2.2.trans hBp
    by_cases hlt : k < N
    · have hql : k * p < len := by
        have h1 : k + 1 ≤ (len + p - 1) / p := by omega
        have h2 := (Nat.le_div_iff_mul_le (by omega)).1 h1
        rw [Nat.succ_mul] at h2
        omega
      have hsucc : (k + 1) * p = k * p + p := Nat.succ_mul _ _
      have hpart : cpart b off len p k = .slice (some ⟨b, off + k * p, none⟩) (min p (len - k * p)) (min p (len - k * p)) := rfl
      have hps : List.range (k + 1) = List.range k ++ [k] := List.range_succ
      have HJS := Lib.hid hJs
      have hYk := hY _ k wr.drew (hJd _ _ HJS.out) (by rw [List.length_range]; exact hlt)
      rw [hpart] at hYk
      clear hY hJs hpart
      generalize k * p = q at *
      obtain ⟨e, he⟩ : ∃ e, min p (len - q) = e := ⟨_, rfl⟩
      rw [he] at hYk
      have HPS := Lib.hid hps
      clear hps
      have hqz : (q : Int) < (len : Int) := by omega
      have hmin : (if (p : Int) < (len : Int) - (q : Int) then (p : Int) else (len : Int) - (q : Int)) = (e : Int) := by split <;> omega
      have hmin2 : (if (len : Int) - (q : Int) < (p : Int) then (len : Int) - (q : Int) else (p : Int)) = (e : Int) := by split <;> omega
      have hmin3 : (if len - q < p then ((len - q : Nat) : Int) else (p : Int)) = (e : Int) := by split <;> omega
      have heq : q + e ≤ len := by omega
      obtain ⟨fn, tmps, assign, body, hy, hR⟩ := hYk
      clear he hmin hmin2
      gi_wp2
      gi_region
      all_goals gi_wp2
      all_goals
        refine hR.mono ?_
        rintro e2 W3 (⟨rfl, hJ3, hk3⟩ | ⟨rfl, hJx3⟩)
        · have hc3 : W3.cell? ⟨Bp, 0, none⟩ = some (.int .i64 p) := hk3.2.2.trans hc2
          have HJ3 := Lib.hid hJ3
          have HK3 := Lib.hid (hnx.drew.trans hk3)
          clear hJ3 hk3
          gi_wp2
          go_roundw
          case rel => exact ⟨k + 1, by omega, by rw [hsucc]; go_num, by rw [HPS.out]; exact HJ3.out, HK3.out⟩
          case measure => simp [intOf]; omega
        · gi_wp2
          refine bodyPost_ret (results_none rfl _ _ _) rfl ?_
          exact ⟨⟨_, rfl⟩, .inr ⟨_, ⟨k + 1, by omega, HPS.out.symm⟩, hJx3⟩⟩
    · have hkN : k = N := by omega
      have hql : ¬ k * p < len := by
        rw [hkN, hN]
        have h2 : (len + p - 1) / p + 1 > (len + p - 1) / p := by omega
        have h3 := (Nat.div_lt_iff_lt_mul (show 0 < p by omega)).1 h2
        rw [Nat.succ_mul] at h3
        omega
      rw [hkN] at hJs
      have HJ := Lib.hid hJs
      clear hJs hN
      generalize k * p = q at *
      have hqz : ¬ (q : Int) < (len : Int) := by omega
      gi_wp2
      go_end0
      exact ⟨⟨_, rfl⟩, .inl HJ.out⟩
set_option maxHeartbeats 1000000 in
/-- No round at an empty slice. -/
theorem chunk1_nil_in (F : Fence) (n : Nat) (h7 : F.fn 52) (hro : F.round = none) (l Bs Bp cap : Nat) (a : Option Addr) (J : List Nat → World → Prop) (W : World) (hBs : W.cell? ⟨Bs, 0, none⟩ = some (.slice a 0 cap)) (h0 : J [] W) :
    CallsIn F n Try.prog 52 #[.func (.yield l) #[] #[], .pointer (some ⟨Bs, 0, none⟩), .pointer (some ⟨Bp, 0, none⟩)] W fun e W' => (∃ v, e = .returned v) ∧ J [] W' := by
  refine callsIn_of_wp Try.func52 rfl h7 ?_ hro
  simp only [Try.ntmps52, List.size_toArray, List.length_cons, List.length_nil, Nat.reduceAdd, Nat.reduceSub, Array.replicate_succ, Array.replicate_zero, List.push_toArray, List.append_toArray, List.nil_append, List.cons_append]
  gi_wp2
  gi_loopw [4] (fun i wr => i = .int .i64 0 ∧ J [] wr ∧ wr = W) (fun _ _ => 0)
  case atStart => exact ⟨rfl, h0, rfl⟩
  case round =>
    obtain ⟨rfl, hJs, rfl⟩ := hrel
    gi_wp2
    go_end0
    exact ⟨⟨_, rfl⟩, hJs⟩
set_option maxHeartbeats 1000000 in
/-- slices.Chunk: both arguments are boxed; the function value captures the boxes. -/
theorem chunk_in (F : Fence) (n : Nat) (h5 : F.fn 51) (hro : F.round = none) (a : Option Addr) (len cap p : Nat) (hp0 : 1 ≤ p) (w : World) :
    CallsIn F n Try.prog 51 #[.slice a len cap, .int .i64 p] w fun e w' => e = .returned (.func (.func 52) #[] #[.pointer (some ⟨w.heap.size, 0, none⟩), .pointer (some ⟨w.heap.size + 1, 0, none⟩)]) ∧ w' = (w.alloc (.cells #[.slice a len cap] 22)).alloc (.cells #[.int .i64 p] 3) := by
  have hpz : ¬ (p : Int) < 1 := by omega
  refine callsIn_of_wp Try.func51 rfl h5 ?_ hro
  simp only [Try.ntmps51, List.size_toArray, List.length_cons, List.length_nil, Nat.reduceAdd, Nat.reduceSub, Array.replicate_succ, Array.replicate_zero, List.push_toArray, List.append_toArray, List.nil_append, List.cons_append]
  gi_wp2
  go_ret
  exact ⟨rfl, rfl⟩
/-- What slices.Chunk returns calls yield with all parts, or with the first ones. -/
theorem chunk_stops (F : Fence) (n : Nat) (h7 : F.fn 52) (hro : F.round = none) (hn : 1 ≤ n) (Bs Bp n₀ b off len cap p N : Nat) (hlen : len ≤ 4096) (hp0 : 1 ≤ p) (hp : p ≤ 4096) (hN : N = (len + p - 1) / p) (hcap : len ≤ cap)
    (w : World) (hbs : Bs < w.heap.size) (hbp : Bp < w.heap.size) (hBs : w.cell? ⟨Bs, 0, none⟩ = some (.slice (some ⟨b, off, none⟩) len cap)) (hBp : w.cell? ⟨Bp, 0, none⟩ = some (.int .i64 p)) :
    SeqStopsK F n Try.prog 52 #[.pointer (some ⟨Bs, 0, none⟩), .pointer (some ⟨Bp, 0, none⟩)] (fun k : Nat => #[cpart b off len p k]) (Chunk.Kept n₀ Bs Bp) (fun ys => ys = List.range N) (fun pre => ∃ k, k ≤ N ∧ pre = List.range k) N w := fun l J Jx W hW hJ _ hY h0 =>
  chunk1_in F n h7 hro hn l Bs Bp n₀ b off len cap p N hlen hp0 hp hN hcap J Jx hY
    (fun pre W hj => hJ pre W W.drew none hj ⟨rfl, rfl, rfl, Nat.le_refl _, fun _ _ _ => rfl⟩ (fun r e => by cases e)) W
    ((hW.cell (p := ⟨Bs, 0, none⟩) hbs).trans hBs) ((hW.cell (p := ⟨Bp, 0, none⟩) hbp).trans hBp) h0
/-- Part k, wherever the slice lies. -/
def apart (a : Option Addr) (len p k : Nat) : Value := match a with | some d => Chunk.cpart d.block d.off len p k | none => .slice none 0 0
/-- The contract of slices.Chunk's function at a slice that can be read. -/
theorem chunk_reads (F : Fence) (n : Nat) (h7 : F.fn 52) (hro : F.round = none) (hn : 1 ≤ n) (Bs Bp n₀ cap p : Nat) (a : Option Addr) (l : List Int) (hlen : l.length ≤ 4096) (hp0 : 1 ≤ p) (hp : p ≤ 4096) (hcap : l.length ≤ cap)
    (w0 w : World) (hbs : Bs < w.heap.size) (hbp : Bp < w.heap.size) (hr : Reads (Value.int .i64) w0 a l) (hBs : w.cell? ⟨Bs, 0, none⟩ = some (.slice a l.length cap)) (hBp : w.cell? ⟨Bp, 0, none⟩ = some (.int .i64 p)) :
    SeqStopsK F n Try.prog 52 #[.pointer (some ⟨Bs, 0, none⟩), .pointer (some ⟨Bp, 0, none⟩)] (fun k : Nat => #[apart a l.length p k]) (Chunk.Kept n₀ Bs Bp) (fun ys => ys = List.range ((l.length + p - 1) / p)) (fun pre => ∃ k, k ≤ ((l.length + p - 1) / p) ∧ pre = List.range k) ((l.length + p - 1) / p) w := by
  by_cases h0 : l.length = 0
  · intro lp J Jx W hW hJ _ hY hj
    rw [h0] at hBs
    refine (chunk1_nil_in F n h7 hro lp Bs Bp cap a J W ((hW.cell (p := ⟨Bs, 0, none⟩) hbs).trans hBs) hj).mono ?_
    rintro e W' ⟨he, hJ'⟩
    refine ⟨he, .inl ⟨_, rfl, ?_⟩⟩
    rw [h0, show (0 + p - 1) / p = 0 from Nat.div_eq_of_lt (by omega)]
    exact hJ'
  · obtain ⟨x, hx⟩ := get_of_lt (l := l) (i := 0) (by omega)
    obtain ⟨b, off, rfl, hb, hc⟩ := hr 0 x hx
    exact chunk_stops F n h7 hro hn Bs Bp n₀ b off l.length cap p _ hlen hp0 hp rfl hcap w hbs hbp hBs hBp
end Go.Proofs.Ytfjelofpahcfpaa
