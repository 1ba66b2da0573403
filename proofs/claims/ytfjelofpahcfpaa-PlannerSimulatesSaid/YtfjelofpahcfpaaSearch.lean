/- sort.Search with a function that only makes new memory. -/
import Derived.Test.YtfjelofpahcfpaaIdx
set_option linter.unusedSimpArgs false
set_option linter.unusedVariables false
namespace Go.Proofs.Ytfjelofpahcfpaa
open Go.RowKit Go.Shelf
/-- r is the first place below n at which p holds; n if there is none; from there on p holds. -/
structure IsFirst (p : Nat → Bool) (n r : Nat) : Prop where
  le : r ≤ n
  below : ∀ t, t < r → p t = false
  above : ∀ t, r ≤ t → t < n → p t = true
/-- What a function of a number below n answers, in every world that has grown from w. -/
def PredAt (P : Program) (g : Nat) (lb : Array Value) (n : Nat) (p : Nat → Bool) (w : World) : Prop :=
  ∀ (i : Nat) w', i < n → Since w w' → Calls P g (#[.int .i64 i] ++ lb) w' fun e w'' => e = .returned (.bool (p i)) ∧ Since w' w''
theorem PredAt.since {P : Program} {g : Nat} {lb : Array Value} {n : Nat} {p : Nat → Bool} {w w' : World} (h : PredAt P g lb n p w) (hs : Since w w') : PredAt P g lb n p w' :=
  fun i w2 hi h2 => h i w2 hi (hs.trans h2)
set_option maxHeartbeats 1000000 in
theorem search_any (g : Nat) (lb : Array Value) (p : Nat → Bool) (n r : Nat) (w : World) (hn : n ≤ 4000000000000000000) (hf : PredAt Try.prog g lb n p w) (hr : IsFirst p n r)
    (eg : ∀ args w, (callFunc g args).run Try.prog w = .ok (.enter g args) w) :
    Calls Try.prog 39 #[.int .i64 n, .func (.func g) #[] lb] w fun e w' => e = .returned (.int .i64 r) ∧ Since w w' := by
  have HF := Lib.hid hf
  have HR := Lib.hid hr
  clear hf hr
  go_enter Try.func39, Try.ntmps39
  go_wp2
  go_loopg [5, 6] n (fun kx s5 s6 wr => ∃ (lo hi : Nat), s5 = .int .i64 lo ∧ s6 = .int .i64 hi ∧ hi ≤ n ∧ hi - lo ≤ kx ∧ Since w wr ∧ Aside (lo ≤ r ∧ r ≤ hi))
  case atStart => exact ⟨0, n, rfl, rfl, Nat.le_refl _, by omega, Since.refl _, (show _ ∧ _ from ⟨Nat.zero_le _, HR.out.le⟩)⟩
  case round =>
    obtain ⟨lo, hi, rfl, rfl, hin, hg, hs, I⟩ := hrel
    by_cases hlt : lo < hi
    · have hltz : (lo : Int) < (hi : Int) := by omega
      have hc := HF.out ((lo + hi) / 2) wr (by omega) hs
      rw [show (((lo + hi) / 2 : Nat) : Int) = ((lo : Int) + (hi : Int)) / 2 by omega] at hc
      have HS := Lib.hid hs
      clear hs
      cases hp : p ((lo + hi) / 2) <;> rw [hp] at hc
      · have HP := Lib.hid hp
        clear hp
        go_wp2_with (go_at_fn g; refine hc.mono ?_; rintro e w' ⟨rfl, hs1⟩)
        go_roundg (hi - ((lo + hi) / 2 + 1))
        case measure => omega
        case rel =>
          refine ⟨(lo + hi) / 2 + 1, hi, by go_num, rfl, by omega, by omega, HS.out.trans hs1, (show _ ∧ _ from ⟨?_, I.out.2⟩)⟩
          by_cases hrr : r ≤ (lo + hi) / 2
          · have := HR.out.above _ hrr (by omega); rw [HP.out] at this; cases this
          · omega
      · have HP := Lib.hid hp
        clear hp
        go_wp2_with (go_at_fn g; refine hc.mono ?_; rintro e w' ⟨rfl, hs1⟩)
        go_roundg ((lo + hi) / 2 - lo)
        case measure => omega
        case rel =>
          refine ⟨lo, (lo + hi) / 2, rfl, by go_num, by omega, by omega, HS.out.trans hs1, (show _ ∧ _ from ⟨I.out.1, ?_⟩)⟩
          by_cases hrr : (lo + hi) / 2 < r
          · have := HR.out.below _ hrr; rw [HP.out] at this; cases this
          · omega
    · have hltz : ¬ (lo : Int) < (hi : Int) := by omega
      have HS := Lib.hid hs
      clear hs
      go_wp2
      go_ret
      exact ⟨by rw [show r = lo from by have := I.out; omega]; rfl, HS.out⟩
end Go.Proofs.Ytfjelofpahcfpaa
