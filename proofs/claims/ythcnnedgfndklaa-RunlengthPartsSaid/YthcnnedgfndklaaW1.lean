/- wire: numbers. -/
import Derived.Test.YthcnnedgfndklaaGn
set_option linter.unusedSimpArgs false
set_option linter.unusedVariables false
set_option linter.unusedSectionVars false
namespace Go.Proofs.Ythcnnedgfndklaa
open Go.RowKit Go.Shelf
/-- The bytes of a number. -/
def puts (n : Nat) : List Int := if n < 128 then [(n : Int)] else ((n % 128 + 128 : Nat) : Int) :: puts (n / 128)
termination_by n
decreasing_by omega
theorem puts_lt {n : Nat} (h : n < 128) : puts n = [(n : Int)] := by rw [puts, if_pos h]
theorem puts_ge {n : Nat} (h : ¬ n < 128) : puts n = ((n % 128 + 128 : Nat) : Int) :: puts (n / 128) := by rw [puts, if_neg h]
theorem puts_len : ∀ (k n : Nat), n < 128 ^ (k + 1) → (puts n).length ≤ k + 1
  | 0, n, h => by rw [puts_lt (by omega)]; simp
  | k + 1, n, h => by
    by_cases g : n < 128
    · rw [puts_lt g]; simp
    · rw [puts_ge g]
      have := puts_len k (n / 128) (by rw [Nat.pow_succ] at h; omega)
      simp
      omega
set_option maxRecDepth 20000 in
/-- putInt: appends in place. -/
theorem putInt_m (n : Nat) (hn : n ≤ 9007199254740991) {own : Nat → Prop} {w0 W : World} {bs : List BoxE} {L : List Ent} {Fs : List (World → Prop)} (hM : Mm own w0 bs L Fs W) {k m : Nat} {v : Value} {xs : List Value} (hL : Kth L k ⟨5, 1, v, m, xs⟩) (hm : m ≤ 100000000000) :
    Calls Try.prog 36 ⟨[v, .int .i64 n]⟩ W (Rtn fun u w' => ∃ a' cap, u = .slice a' (m + (puts n).length) cap ∧ Mm own w0 bs (L.set k ⟨5, 1, .slice a' (m + (puts n).length) cap, m + (puts n).length, xs ++ (puts n).map (Value.int .u8)⟩) Fs w') := by
  refine f_start Try.func36 rfl Try.ntmps36 rfl rfl ?_; intro a hF
  (repeat' (first | (with_reducible refine w_seq ?_) | (with_reducible refine c_region ?_) | (with_reducible refine s_nil ?_) | (with_reducible refine q_then_n ?_) | ((with_reducible apply s_pure hF); exact rfl; exact rfl; exact rfl; (first | exact trivial | omega | decide); clear hF a; intro a hF) | (with_reducible refine w_skip ?_) | (with_reducible refine w_block ?_) | ((with_reducible apply c_dec hF); exact rfl; all_goals intro hc; all_goals (try (exfalso; omega)))))
  refine c_loop (m := n) (fun mm a w' => ∃ (x q : Nat) (done : List Int) (v' : Value) (xs' : List Value), x = mm ∧ x ≤ n ∧ done.length = q ∧ q ≤ n ∧ puts n = done ++ puts x ∧ xs' = xs ++ done.map (Value.int .u8) ∧
    Fr 27 [] [(0, v'), (1, .int .i64 x)] a ∧ Mm own w0 bs (L.set k ⟨5, 1, v', m + q, xs'⟩) Fs w') ⟨n, 0, [], v, xs, rfl, Nat.le_refl _, rfl, by omega, rfl, by simp, hF.sub (by repeat (first | exact Sub.nil | refine Sub.cons rfl (by first | with_reducible rfl | (refine congrArg (Value.int _) ?_; omega) | exact rfl) ?_)), by
      have : L.set k ⟨5, 1, v, m + 0, xs⟩ = L := by
        apply List.ext_getElem?
        intro j
        rw [List.getElem?_set]
        split
        · rename_i e
          subst e
          rw [if_pos hL.lt]
          exact hL.get.symm
        · rfl
      rw [this]
      exact hM⟩ ?_
  clear hF hM a
  rintro mm a w' ⟨x, q, done, v', xs', rfl, hxn, hdl, hqn, hpu, hxs, hF, hM⟩
  have hL' := hL.set (y := ⟨5, 1, v', m + q, xs'⟩)
  have hq2 : (puts n).length ≤ 8 := puts_len 7 n (by omega)
  have hq3 : q ≤ 8 := by rw [hpu, List.length_append] at hq2; omega
  by_cases hx : x < 128
  · rw [puts_lt hx] at hpu
    (repeat' (first | (with_reducible refine w_seq ?_) | (with_reducible refine c_region ?_) | (with_reducible refine s_nil ?_) | ((with_reducible apply s_app hF hM); exact rfl; exact rfl; exact rfl; exact rfl; (with_reducible assumption); exact rfl; exact rfl; exact rfl; exact rfl; omega; clear hF hM a; intro g cap w a hM hF) | (with_reducible refine q_then_n ?_) | ((with_reducible apply s_pure hF); exact rfl; exact rfl; exact rfl; (first | exact trivial | omega | decide); clear hF a; intro a hF) | ((with_reducible apply s_lit hF hM); exact rfl; exact rfl; exact rfl; exact rfl; clear hF hM a; intro bl w a hM hF) | (with_reducible refine w_exit ?_) | (with_reducible refine w_ret ?_) | (with_reducible refine q_then_x ?_) | (with_reducible refine q_blk_x ?_) | ((with_reducible apply c_dec hF); exact rfl; all_goals intro hc; all_goals (try (exfalso; omega)))))
    rw [show (x : Int) % 256 = x by omega] at hM
    (apply f_ret Try.results36 hF hM; (repeat (first | exact RL.nil | (apply RL.tmp; exact rfl) | (apply RL.cell; exact rfl; (repeat (first | exact List.mem_cons_self | refine List.mem_cons_of_mem _ ?_)); exact rfl))); refine Both.mk ?_; dsimp only [resV])
    rw [List.set_set] at hM
    have e1 : (puts n).length = q + 1 := by rw [hpu]; simp [hdl]
    have e2 : xs ++ (puts n).map (Value.int .u8) = xs' ++ [.int .u8 x] := by rw [hpu, hxs]; simp
    refine ⟨some ⟨g, 0, none⟩, cap, by rw [e1]; rfl, ?_⟩
    rw [e1, e2]
    exact hM
  · rw [puts_ge hx] at hpu
    (repeat' (first | (with_reducible refine w_seq ?_) | (with_reducible refine c_region ?_) | (with_reducible refine s_nil ?_) | ((with_reducible apply s_or128 hF); exact rfl; exact rfl; exact rfl; exact rfl; omega; clear hF a; intro a hF) | ((with_reducible apply s_app hF hM); exact rfl; exact rfl; exact rfl; exact rfl; (with_reducible assumption); exact rfl; exact rfl; exact rfl; exact rfl; omega; clear hF hM a; intro g cap w a hM hF) | (with_reducible refine q_then_n ?_) | ((with_reducible apply s_pure hF); exact rfl; exact rfl; exact rfl; (first | exact trivial | omega | decide); clear hF a; intro a hF) | ((with_reducible apply s_lit hF hM); exact rfl; exact rfl; exact rfl; exact rfl; clear hF hM a; intro bl w a hM hF) | (with_reducible refine w_skip ?_) | (with_reducible refine w_block ?_) | (with_reducible refine q_blk_n ?_) | ((with_reducible apply c_dec hF); exact rfl; all_goals intro hc; all_goals (try (exfalso; omega)))))
    rw [show (x : Int) % 128 % 256 + 128 = ((x % 128 + 128 : Nat) : Int) by omega, List.set_set] at hM
    exact ⟨x / 128, by omega, x / 128, q + 1, done ++ [((x % 128 + 128 : Nat) : Int)], .slice (some ⟨g, 0, none⟩) (m + q + 1) cap, xs' ++ [.int .u8 ((x % 128 + 128 : Nat) : Int)], rfl, by omega, by simp [hdl], by omega, by rw [hpu]; simp, by rw [hxs]; simp, hF.sub (by repeat (first | exact Sub.nil | refine Sub.cons rfl (by first | with_reducible rfl | (refine congrArg (Value.int _) ?_; omega) | exact rfl) ?_)), hM⟩
end Go.Proofs.Ythcnnedgfndklaa
