/- slices.IndexFunc and ContainsFunc at slices of int, with a function that only reads. -/
import Derived.Test.YtobflnjbdghnhaaBase
import Derived.Shelf.Abstract
set_option linter.unusedSimpArgs false
set_option linter.unusedVariables false
set_option linter.unusedSectionVars false
namespace Go.Proofs.Ytobflnjbdghnhaa
open Go.RowKit Go.Shelf
set_option maxHeartbeats 400000 in
theorem indexFunc_any (g : Nat) (lb : Array Value) (p : Int → Bool) (a : Option Addr) (c : Nat) (l : List Int) (w : World) (hl : l.length ≤ 9223372036854775807) (hr : Reads (Value.int .i64) w a l) (hp : PredOf Try.prog g lb p w)
    (eg : ∀ args w, (callFunc g args).run Try.prog w = .ok (.enter g args) w) :
    Calls Try.prog 14 #[.slice a l.length c, .func (.func g) #[] lb] w fun e w' => e = .returned (.int .i64 (idxOf p l)) ∧ Since w w' := by
  go_enter Try.func14, Try.ntmps14
  go_wp2
  go_loopg [8] l.length (fun gg s8 wr => ∃ k : Nat, k ≤ l.length ∧ l.length - k ≤ gg ∧ s8 = .int .i64 k ∧ Since w wr ∧ Aside (∀ j y, j < k → l[j]? = some y → p y = false))
  case atStart => exact ⟨0, Nat.zero_le _, by omega, rfl, Since.refl _, fun j y hj => absurd hj (Nat.not_lt_zero _)⟩
  case round =>
    obtain ⟨k, hk, hg, rfl, hs, A⟩ := hrel
    by_cases hlt : k < l.length
    · obtain ⟨x, hx⟩ := get_of_lt hlt
      obtain ⟨b, off, rfl, hb, hc⟩ := (hr.since hs) k x hx
      have hltz : (k : Int) < (l.length : Int) := by omega
      have HX := Lib.hid hx
      have hcall := hp x _ hs
      clear hr hx hp
      have HS := Lib.hid hs
      clear hs
      cases hq : p x
      all_goals
        have HQ := Lib.hid hq
        rw [hq] at hcall
        clear hq
        go_wp2_with (go_at_fn g; refine hcall.mono ?_; rintro e w1 ⟨rfl, hs1⟩)
      · go_roundg (l.length - (k + 1))
        case measure => omega
        case rel =>
          refine ⟨k + 1, by omega, by omega, by go_num, HS.out.trans hs1, (show Aside _ from fun j y hj hy => ?_)⟩
          by_cases e : j = k
          · subst e; rw [HX.out] at hy; injection hy with hy; rw [← hy]; exact HQ.out
          · exact A.out j y (by omega) hy
      · go_ret
        exact ⟨by rw [idxOf_hit HX.out HQ.out A.out]; rfl, HS.out.trans hs1⟩
    · have hltz : ¬ (k : Int) < (l.length : Int) := by omega
      have hkl : l.length ≤ k := by omega
      have HS := Lib.hid hs
      clear hr hp hs
      go_wp2
      go_ret
      refine ⟨?_, HS.out⟩
      rw [idxOf_miss (fun j y hy => A.out j y (by rcases Nat.lt_or_ge j l.length with h | h; (omega); (rw [List.getElem?_eq_none h] at hy; cases hy)) hy)]
      rfl
set_option maxHeartbeats 400000 in
theorem containsFunc_any (g : Nat) (lb : Array Value) (p : Int → Bool) (a : Option Addr) (c : Nat) (l : List Int) (w : World) (hl : l.length ≤ 9223372036854775807) (hr : Reads (Value.int .i64) w a l) (hp : PredOf Try.prog g lb p w)
    (eg : ∀ args w, (callFunc g args).run Try.prog w = .ok (.enter g args) w) :
    Calls Try.prog 7 #[.slice a l.length c, .func (.func g) #[] lb] w fun e w' => e = .returned (.bool (l.any p)) ∧ Since w w' := by
  have key : (l.any p) = decide (0 ≤ idxOf p l) := by rw [Bool.eq_iff_iff, ← idxOf_nonneg]; simp
  rw [key]
  clear key
  have hcall := indexFunc_any g lb p a c l w hl hr hp eg
  generalize idxOf p l = r at hcall ⊢
  clear hr hp
  go_enter Try.func7, Try.ntmps7
  go_wp2_with (go_at_call 14; refine hcall.mono ?_; rintro e w1 ⟨rfl, hs1⟩)
  go_ret
  exact ⟨rfl, hs1⟩
end Go.Proofs.Ytobflnjbdghnhaa
