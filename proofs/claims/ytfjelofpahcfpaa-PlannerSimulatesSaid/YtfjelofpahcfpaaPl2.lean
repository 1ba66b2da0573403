/- The reference's Check, SameInts, Same, Few: what each call returns. -/
import Derived.Test.YtfjelofpahcfpaaPl1
import Derived.Deep.QuietTactic
import Derived.BigQuiet
set_option linter.unusedSimpArgs false
set_option linter.unusedVariables false
namespace Go.Proofs.Ytfjelofpahcfpaa
open Go.RowKit Go.Shelf

set_option maxHeartbeats 1000000 in
theorem refCheck_any (t : P56.Tr) (v : Value) (w : World) (ht : IsTr w v t) :
    Calls Try.prog 15 #[v] w fun e w' => e = .returned (.int .i64 (P56.check t)) ∧ Since w w' := by
  obtain ⟨a, a', c, c', rfl, hr, hr', hW, hC, -⟩ := ht
  go_enter Try.func15, Try.ntmps15
  go_wp2
  · go_ret; exact ⟨ret_int (P56.check_6 (by omega)), by (repeat (first | with_reducible exact Since.refl _ | with_reducible assumption | with_reducible refine Since.alloc ?_ _ | with_reducible refine Since.drew ?_ | with_reducible refine Since.drewN ?_ _ | (with_reducible refine Since.setCell ?_ ?_ _; rotate_left; (first | (dsimp only; omega) | (simp; done) | (simp; omega))) | with_reducible refine Since.trans ?_ (by with_reducible assumption)))⟩
  · go_ret; exact ⟨ret_int (P56.check_6 (by omega)), by (repeat (first | with_reducible exact Since.refl _ | with_reducible assumption | with_reducible refine Since.alloc ?_ _ | with_reducible refine Since.drew ?_ | with_reducible refine Since.drewN ?_ _ | (with_reducible refine Since.setCell ?_ ?_ _; rotate_left; (first | (dsimp only; omega) | (simp; done) | (simp; omega))) | with_reducible refine Since.trans ?_ (by with_reducible assumption)))⟩
  · go_ret; exact ⟨ret_int (P56.check_6 (by omega)), by (repeat (first | with_reducible exact Since.refl _ | with_reducible assumption | with_reducible refine Since.alloc ?_ _ | with_reducible refine Since.drew ?_ | with_reducible refine Since.drewN ?_ _ | (with_reducible refine Since.setCell ?_ ?_ _; rotate_left; (first | (dsimp only; omega) | (simp; done) | (simp; omega))) | with_reducible refine Since.trans ?_ (by with_reducible assumption)))⟩
  go_loop [3] (fun i => ∃ k : Nat, k ≤ t.W.length ∧ i = .int .i64 k ∧ Aside (∀ (j : Nat) y, j < k → t.W[j]? = some y → P56.bad y = false)) (fun i => t.W.length - (intOf i).toNat)
  case atStart => exact ⟨0, Nat.zero_le _, rfl, fun j y h => absurd h (Nat.not_lt_zero _)⟩
  case round =>
    obtain ⟨k, hk, rfl, A⟩ := hrel
    by_cases hlt : k < t.W.length
    · obtain ⟨x, hx⟩ := get_of_lt hlt
      obtain ⟨b, off, rfl, hb, hc⟩ := hr k x hx
      have HX := Lib.hid hx
      clear hx
      go_wp2
      · go_ret; exact ⟨ret_int (P56.check_2 (by omega) (.inl (P56.any_bad_of HX.out (by simp [P56.bad]; omega)))), by (repeat (first | with_reducible exact Since.refl _ | with_reducible assumption | with_reducible refine Since.alloc ?_ _ | with_reducible refine Since.drew ?_ | with_reducible refine Since.drewN ?_ _ | (with_reducible refine Since.setCell ?_ ?_ _; rotate_left; (first | (dsimp only; omega) | (simp; done) | (simp; omega))) | with_reducible refine Since.trans ?_ (by with_reducible assumption)))⟩
      · go_ret; exact ⟨ret_int (P56.check_2 (by omega) (.inl (P56.any_bad_of HX.out (by simp [P56.bad]; omega)))), by (repeat (first | with_reducible exact Since.refl _ | with_reducible assumption | with_reducible refine Since.alloc ?_ _ | with_reducible refine Since.drew ?_ | with_reducible refine Since.drewN ?_ _ | (with_reducible refine Since.setCell ?_ ?_ _; rotate_left; (first | (dsimp only; omega) | (simp; done) | (simp; omega))) | with_reducible refine Since.trans ?_ (by with_reducible assumption)))⟩
      · go_round
        case rel => exact ⟨k + 1, by omega, by go_num, (show Aside _ from P56.bad_upto A.out HX.out (by simp [P56.bad]; omega))⟩
        case measure => simp [intOf]; omega
    · have hkl : k = t.W.length := by omega
      have HW : Hid (t.W.any P56.bad = false) := P56.any_of_upto (by omega) A.out
      clear hr A
      go_wp2
      go_loop [4] (fun i => ∃ k : Nat, k ≤ t.C.length ∧ i = .int .i64 k ∧ Aside (∀ (j : Nat) y, j < k → t.C[j]? = some y → P56.bad y = false)) (fun i => t.C.length - (intOf i).toNat)
      case atStart => exact ⟨0, Nat.zero_le _, rfl, fun j y h => absurd h (Nat.not_lt_zero _)⟩
      case round =>
        obtain ⟨n, hn, rfl, A⟩ := hrel
        by_cases hlt : n < t.C.length
        · obtain ⟨x, hx⟩ := get_of_lt hlt
          obtain ⟨b, off, rfl, hb, hc⟩ := hr' n x hx
          have HX := Lib.hid hx
          clear hx
          go_wp2
          · go_ret; exact ⟨ret_int (P56.check_2 (by omega) (.inr (.inl (P56.any_bad_of HX.out (by simp [P56.bad]; omega))))), by (repeat (first | with_reducible exact Since.refl _ | with_reducible assumption | with_reducible refine Since.alloc ?_ _ | with_reducible refine Since.drew ?_ | with_reducible refine Since.drewN ?_ _ | (with_reducible refine Since.setCell ?_ ?_ _; rotate_left; (first | (dsimp only; omega) | (simp; done) | (simp; omega))) | with_reducible refine Since.trans ?_ (by with_reducible assumption)))⟩
          · go_ret; exact ⟨ret_int (P56.check_2 (by omega) (.inr (.inl (P56.any_bad_of HX.out (by simp [P56.bad]; omega))))), by (repeat (first | with_reducible exact Since.refl _ | with_reducible assumption | with_reducible refine Since.alloc ?_ _ | with_reducible refine Since.drew ?_ | with_reducible refine Since.drewN ?_ _ | (with_reducible refine Since.setCell ?_ ?_ _; rotate_left; (first | (dsimp only; omega) | (simp; done) | (simp; omega))) | with_reducible refine Since.trans ?_ (by with_reducible assumption)))⟩
          · go_round
            case rel => exact ⟨n + 1, by omega, by go_num, (show Aside _ from P56.bad_upto A.out HX.out (by simp [P56.bad]; omega))⟩
            case measure => simp [intOf]; omega
        · have hkl : n = t.C.length := by omega
          have HC : Hid (t.C.any P56.bad = false) := P56.any_of_upto (by omega) A.out
          clear hr' A
          go_wp2
          all_goals
            go_ret
            refine ⟨ret_int ?_, by (repeat (first | with_reducible exact Since.refl _ | with_reducible assumption | with_reducible refine Since.alloc ?_ _ | with_reducible refine Since.drew ?_ | with_reducible refine Since.drewN ?_ _ | (with_reducible refine Since.setCell ?_ ?_ _; rotate_left; (first | (dsimp only; omega) | (simp; done) | (simp; omega))) | with_reducible refine Since.trans ?_ (by with_reducible assumption)))⟩
            first
              | exact P56.check_2 (by omega) (by omega)
              | exact P56.check_0 (by omega) HW.out HC.out (by omega)

/-- Whether two lists are equal; a name that the walk does not look into. -/
def eqI (l m : List Int) : Bool := decide (l = m)
set_option maxHeartbeats 1000000 in
theorem sameInts_any (a a' : Option Addr) (c c' : Nat) (l m : List Int) (w : World) (hl : l.length ≤ 9223372036854775807) (hm : m.length ≤ 9223372036854775807) (hr : Reads (Value.int .i64) w a l) (hr' : Reads (Value.int .i64) w a' m) :
    Calls Try.prog 38 #[.slice a l.length c, .slice a' m.length c'] w fun e w' => e = .returned (.bool (eqI l m)) ∧ Since w w' := by
  by_cases hlen : l.length = m.length
  · have h1 : ((l.length : Int) != (m.length : Int)) = false := by simp [hlen]
    have HL := Lib.hid hlen
    clear hlen
    go_enter Try.func38, Try.ntmps38
    go_wp2
    go_loopg [5] l.length (fun gg s5 wr => ∃ k : Nat, k ≤ l.length ∧ l.length - k ≤ gg ∧ s5 = .int .i64 k ∧ Since w wr ∧ Aside (∀ (j : Nat), j < k → l[j]? = m[j]?))
    case atStart => exact ⟨0, Nat.zero_le _, by omega, rfl, Since.refl _, fun j h => absurd h (Nat.not_lt_zero _)⟩
    case round =>
      obtain ⟨k, hk, hg, rfl, hs, A⟩ := hrel
      by_cases hlt : k < l.length
      · obtain ⟨x, hx⟩ := get_of_lt hlt
        obtain ⟨y, hy⟩ := get_of_lt (show k < m.length from by have := HL.out; omega)
        obtain ⟨b, off, rfl, hb, hc⟩ := (hr.since hs) k x hx
        obtain ⟨b', off', rfl, hb', hc'⟩ := (hr'.since hs) k y hy
        have HX := Lib.hid hx
        have HY := Lib.hid hy
        have hltm : (k : Int) < (m.length : Int) := by have := HL.out; omega
        have h0 : (0 : Int) ≤ (k : Int) := by omega
        clear hx hy hr hr'
        by_cases hxy : x = y
        · have g1 : (x != y) = false := by simp [hxy]
          have HXY := Lib.hid hxy
          clear hxy
          go_wp2
          go_quiet (fail)
          go_wp2
          go_roundg (l.length - (k + 1))
          case measure => omega
          case rel =>
            refine ⟨k + 1, by omega, by omega, by go_num, by (repeat (first | with_reducible exact Since.refl _ | with_reducible assumption | with_reducible refine Since.alloc ?_ _ | with_reducible refine Since.drew ?_ | with_reducible refine Since.drewN ?_ _ | (with_reducible refine Since.setCell ?_ ?_ _; rotate_left; (first | (dsimp only; omega) | (simp; done) | (simp; omega))) | with_reducible refine Since.trans ?_ (by with_reducible assumption))), (show Aside _ from fun j hj => ?_)⟩
            by_cases e : j = k
            · subst e; rw [HX.out, HY.out, HXY.out]
            · exact A.out j (by omega)
        · have g1 : (x != y) = true := by simp [hxy]
          have HXY := Lib.hid hxy
          clear hxy
          go_wp2
          go_quiet (fail)
          go_wp2
          go_ret
          refine ⟨ret_bool ?_, by (repeat (first | with_reducible exact Since.refl _ | with_reducible assumption | with_reducible refine Since.alloc ?_ _ | with_reducible refine Since.drew ?_ | with_reducible refine Since.drewN ?_ _ | (with_reducible refine Since.setCell ?_ ?_ _; rotate_left; (first | (dsimp only; omega) | (simp; done) | (simp; omega))) | with_reducible refine Since.trans ?_ (by with_reducible assumption)))⟩
          have hne : l ≠ m := fun e => HXY.out (by have h1 := HX.out; rw [e, HY.out] at h1; injection h1 with h1; exact h1.symm)
          simp [eqI, hne]
      · have hkl : l.length ≤ k := by omega
        clear hr hr'
        go_wp2
        go_ret
        refine ⟨ret_bool ?_, by (repeat (first | with_reducible exact Since.refl _ | with_reducible assumption | with_reducible refine Since.alloc ?_ _ | with_reducible refine Since.drew ?_ | with_reducible refine Since.drewN ?_ _ | (with_reducible refine Since.setCell ?_ ?_ _; rotate_left; (first | (dsimp only; omega) | (simp; done) | (simp; omega))) | with_reducible refine Since.trans ?_ (by with_reducible assumption)))⟩
        have : l = m := by
          apply List.ext_getElem?
          intro j
          rcases Nat.lt_or_ge j k with h | h
          · exact A.out j h
          · rw [List.getElem?_eq_none (by omega), List.getElem?_eq_none (by have := HL.out; omega)]
        simp [eqI, this]
  · have h1 : ((l.length : Int) != (m.length : Int)) = true := by simp; omega
    go_enter Try.func38, Try.ntmps38
    go_wp2
    go_ret
    exact ⟨ret_bool (by simp [eqI]; intro h; exact hlen (by rw [h])), Since.refl _⟩
end Go.Proofs.Ytfjelofpahcfpaa
