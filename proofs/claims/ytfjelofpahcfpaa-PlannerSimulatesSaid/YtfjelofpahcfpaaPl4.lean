/- The reference's finish: the end of a transfer. -/
import Derived.Test.YtfjelofpahcfpaaPl3
set_option linter.unusedSimpArgs false
set_option linter.unusedVariables false
namespace Go.Proofs.Ytfjelofpahcfpaa
open Go.RowKit Go.Shelf
theorem ret_ib {a b : Int} {x y : Bool} (h : a = b) (k : x = y) : Ending.returned (.tuple #[.int .i64 a, .bool x]) = Ending.returned (.tuple #[.int .i64 b, .bool y]) := by rw [h, k]
set_option maxHeartbeats 1000000 in
theorem finish_any (t : P56.Tr) (v : Value) (s : Nat) (n : Int) (w : World) (ht : IsTr w v t) (ok : P56.Ok t) (hs : s ≤ 1000000000000) (hn0 : 0 ≤ n) (hn : n ≤ 16777216) :
    Calls Try.prog 34 #[v, .int .i64 s, .int .i64 n] w fun e w' => e = .returned (.tuple #[.int .i64 ((P56.finish t.C s n).getD 0 : Nat), .bool (P56.finish t.C s n).isSome]) ∧ Since w w' := by
  obtain ⟨a, a', c, c', rfl, hr, hr', hW, hC, -⟩ := ht
  have hcl := ok.clen
  have hcl0 := ok.clen0
  have hcw := ok.c
  have hlast := P56.last_nonneg hcw
  obtain ⟨q, hq⟩ : ∃ q, t.C[t.C.length - 1]? = some q := get_of_lt (by omega)
  have hql : P56.last t.C = q := by unfold P56.last; rw [List.getLastD_eq_getLast?, List.getLast?_eq_getElem?, hq]; rfl
  obtain ⟨bq, offq, ha', hbq, hcq⟩ := hr' _ q hq
  rw [hql] at hlast
  have HQ := Lib.hid hql
  have HCW := Lib.hid hcw
  clear hr ok hql hcw hq
  generalize hC' : t.C = C at *
  clear hC'
  subst ha'
  have hz : (C.length : Int) - 1 = ((C.length - 1 : Nat) : Int) := by omega
  go_enter Try.func34, Try.ntmps34
  go_wp2
  go_loop [2, 8] (fun sz at_ => ∃ (k : Nat) (m : Int), s ≤ k ∧ k ≤ max s C.length ∧ m ≤ 16777216 ∧ -4096 ≤ m ∧ Aside (P56.run (C.drop s) n = ((P56.run (C.drop k) m).1 + (k - s), (P56.run (C.drop k) m).2)) ∧ sz = .int .i64 m ∧ at_ = .int .i64 k) (fun _ at_ => C.length - (intOf at_).toNat)
  case atStart => exact ⟨s, n, Nat.le_refl _, by omega, hn, by omega, (show _ = _ from by simp), rfl, rfl⟩
  case round =>
    obtain ⟨k, m, hk1, hk2, hm1, hm2, R, rfl, rfl⟩ := hrel
    by_cases hlt : k < C.length ∧ 0 < m
    · obtain ⟨hlt, hm⟩ := hlt
      obtain ⟨x, hx⟩ := get_of_lt hlt
      obtain ⟨b, off, hbo, hb, hc⟩ := hr' k x hx
      injection hbo with hbo
      injection hbo with h1 h2
      subst h1 h2
      have hx0 := HCW.out x (List.mem_of_getElem? hx)
      have HX := Lib.hid hx
      clear hx hr'
      go_wp2
      go_round
      case rel =>
        refine ⟨k + 1, m - x, by omega, by omega, by omega, by omega, (show _ = _ from ?_), rfl, by go_num⟩
        rw [R.out]
        have hcx : C[k] = x := by have := HX.out; rw [List.getElem?_eq_getElem hlt] at this; injection this
        rw [List.drop_eq_getElem_cons hlt, hcx]
        simp only [P56.run, if_pos hm, Prod.mk.injEq, and_true]
        omega
      case measure => simp [intOf]; omega
    · have hR : P56.run (C.drop s) n = (k - s, m) := by
        rw [R.out]
        by_cases hkl : k < C.length
        · rw [List.drop_eq_getElem_cons hkl]
          simp only [P56.run]
          rw [if_neg (by omega)]
          simp
        · rw [List.drop_eq_nil_of_le (by omega)]
          simp [P56.run]
      have HR := Lib.hid hR
      clear hR R hr'
      by_cases hm : m ≤ 0
      · have hf : P56.finish C s n = some k := by
          unfold P56.finish
          rw [HR.out]
          simp only [if_pos hm]
          congr 1; omega
        have HF := Lib.hid hf
        clear hf
        by_cases hkl : k < C.length
        · go_wp2
          go_ret2
          exact ⟨by rw [HF.out]; exact ret_ib rfl rfl, by (repeat (first | with_reducible exact Since.refl _ | with_reducible assumption | with_reducible refine Since.alloc ?_ _ | with_reducible refine Since.drew ?_ | with_reducible refine Since.drewN ?_ _ | (with_reducible refine Since.setCell ?_ ?_ _; rotate_left; (first | (dsimp only; omega) | (simp; done) | (simp; omega))) | with_reducible refine Since.trans ?_ (by with_reducible assumption)))⟩
        · go_wp2
          go_ret2
          exact ⟨by rw [HF.out]; exact ret_ib rfl rfl, by (repeat (first | with_reducible exact Since.refl _ | with_reducible assumption | with_reducible refine Since.alloc ?_ _ | with_reducible refine Since.drew ?_ | with_reducible refine Since.drewN ?_ _ | (with_reducible refine Since.setCell ?_ ?_ _; rotate_left; (first | (dsimp only; omega) | (simp; done) | (simp; omega))) | with_reducible refine Since.trans ?_ (by with_reducible assumption)))⟩
      · by_cases hq0 : q = 0
        · have hf : P56.finish C s n = Option.none := by
            unfold P56.finish
            rw [HR.out, HQ.out]
            simp only [if_neg hm, if_pos hq0]
          have HF := Lib.hid hf
          subst hq0
          clear hf
          go_wp2
          go_ret2
          exact ⟨by rw [HF.out]; exact ret_ib rfl rfl, by (repeat (first | with_reducible exact Since.refl _ | with_reducible assumption | with_reducible refine Since.alloc ?_ _ | with_reducible refine Since.drew ?_ | with_reducible refine Since.drewN ?_ _ | (with_reducible refine Since.setCell ?_ ?_ _; rotate_left; (first | (dsimp only; omega) | (simp; done) | (simp; omega))) | with_reducible refine Since.trans ?_ (by with_reducible assumption)))⟩
        · have hf : P56.finish C s n = some (k + ((m + q - 1) / q).toNat) := by
            unfold P56.finish
            rw [HR.out, HQ.out]
            simp only [if_neg hm, if_neg hq0]
            congr 2; omega
          have HF := Lib.hid hf
          clear hf
          have hd0 : 0 ≤ (m + q - 1) / q := Int.ediv_nonneg (by omega) (by omega)
          have hd1 : (m + q - 1) / q ≤ m + q - 1 := Int.ediv_le_self _ (by omega)
          go_wp2
          go_ret2
          exact ⟨by rw [HF.out]; exact ret_ib (by simp only [Option.getD_some]; omega) rfl, by (repeat (first | with_reducible exact Since.refl _ | with_reducible assumption | with_reducible refine Since.alloc ?_ _ | with_reducible refine Since.drew ?_ | with_reducible refine Since.drewN ?_ _ | (with_reducible refine Since.setCell ?_ ?_ _; rotate_left; (first | (dsimp only; omega) | (simp; done) | (simp; omega))) | with_reducible refine Since.trans ?_ (by with_reducible assumption)))⟩
end Go.Proofs.Ytfjelofpahcfpaa
