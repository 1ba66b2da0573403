/- runlength: Size, Runs. -/
import Derived.Test.YthcnnedgfndklaaU3
set_option linter.unusedSimpArgs false
set_option linter.unusedVariables false
set_option linter.unusedSectionVars false
namespace Go.Proofs.Ythcnnedgfndklaa
open Go.RowKit Go.Shelf
theorem Size_c (l : List (List Int)) (hw : W8 l) (hlen : l.length ≤ 30000) (a0 : Option Addr) (c0 : Nat) (hc0 : l.length ≤ c0) (own : Nat → Prop) (W : World) (hl : ∀ b, own b → b < W.heap.size) (hv : Has own W (RdF (Value.int .u8) a0 l.flatten)) :
    Calls Try.prog 14 ⟨[.slice a0 l.length c0]⟩ W (Ret W fun v _ => v = .int .i64 (enc l).length) := by
  have hM := (Mm.start hl).known hv
  refine f_start Try.func14 rfl Try.ntmps14 rfl rfl ?_; intro a hF
  (repeat (first | (with_reducible refine w_seq ?_) | (with_reducible refine c_region ?_) | (with_reducible refine s_nil ?_) | ((with_reducible apply s_callO (f := 11) hF); exact rfl; exact rfl; exact rfl; exact rfl; exact rfl; exact (Encode_c l hw hlen a0 c0 hc0 _ _ hM.lt (hM.facts _ (by (repeat (first | exact List.mem_cons_self | refine List.mem_cons_of_mem _ ?_))))); clear hF a; rintro v wn a ⟨a1, c1, rfl, hO⟩ hS hF; replace hM := hM.addRows hS hO; clear hS hO; dsimp only [List.cons_append, List.nil_append] at hM) | (with_reducible refine q_then_n ?_) | ((with_reducible apply s_pure hF); exact rfl; exact rfl; exact rfl; (first | exact trivial | omega | decide); clear hF a; intro a hF) | (with_reducible refine w_ret ?_)))
  (apply f_ret Try.results14 hF hM; (repeat (first | exact RL.nil | (apply RL.tmp; exact rfl) | (apply RL.cell; exact rfl; (repeat (first | exact List.mem_cons_self | refine List.mem_cons_of_mem _ ?_)); exact rfl))); refine Ret.mk hM.since ?_; dsimp only [resV])
/-- The ranges of equal sectors, from a place on. -/
def runsF (l : List (List Int)) : Nat → Nat → List (Nat × Nat)
  | 0, _ => []
  | f + 1, i => if i < l.length then (if 2 ≤ rl l i then (i, rl l i) :: runsF l f (i + rl l i) else runsF l f (i + rl l i)) else []
def runs (l : List (List Int)) : List (Nat × Nat) := runsF l l.length 0
def extC (p : List (Nat × Nat)) : List Value := p.flatMap fun e => [.int .i64 e.1, .int .i64 e.2]
theorem extC_app (p : List (Nat × Nat)) (e : Nat × Nat) : extC (p ++ [e]) = extC p ++ [.int .i64 e.1, .int .i64 e.2] := by simp [extC]
theorem extC_len : ∀ (p : List (Nat × Nat)), (extC p).length = p.length * 2
  | [] => rfl
  | e :: p => by
    have := extC_len p
    unfold extC at this ⊢
    rw [List.flatMap_cons, List.length_append, this]
    simp only [List.length_cons, List.length_nil]
    omega
set_option maxRecDepth 20000 in
theorem Runs_c (l : List (List Int)) (hw : W8 l) (hlen : l.length ≤ 30000) (a0 : Option Addr) (c0 : Nat) (own : Nat → Prop) (W : World) (hl : ∀ b, own b → b < W.heap.size) (hv : Has own W (RdF (Value.int .u8) a0 l.flatten)) :
    Calls Try.prog 19 ⟨[.slice a0 l.length c0]⟩ W (Ret W fun v w' => ∃ a' c', v = .slice a' (runs l).length c' ∧ Owns w' W.heap.size [⟨46, 2, .slice a' (runs l).length c', (runs l).length, extC (runs l)⟩]) := by
  have hM := (Mm.start hl).known hv
  refine f_start Try.func19 rfl Try.ntmps19 rfl rfl ?_; intro a hF
  (repeat (first | (with_reducible refine w_seq ?_) | (with_reducible refine c_region ?_) | (with_reducible refine s_nil ?_) | (with_reducible refine q_then_n ?_) | ((with_reducible apply s_pure hF); exact rfl; exact rfl; exact rfl; (first | exact trivial | omega | decide); clear hF a; intro a hF) | (with_reducible refine w_block ?_)))
  replace hM := hM.nilRow 46 2
  refine c_loop (m := l.length) (fun m a w' => ∃ (i f : Nat) (p : List (Nat × Nat)) (v : Value) (n : Nat), m + i = l.length ∧ l.length ≤ i + f ∧ runs l = p ++ runsF l f i ∧ p.length = n ∧ n ≤ i ∧
    Fr 25 [] [(4, .int .i64 i), (3, v), (0, .slice a0 l.length c0)] a ∧ Mm own W [] [⟨46, 2, v, n, extC p⟩] [RdF (Value.int .u8) a0 l.flatten] w') ⟨0, l.length, [], _, 0, by omega, by omega, rfl, rfl, Nat.le_refl _, hF.sub (by repeat (first | exact Sub.nil | refine Sub.cons rfl (by first | with_reducible rfl | (refine congrArg (Value.int _) ?_; omega) | exact rfl) ?_)), hM⟩ ?_
  clear hF hM a
  rintro m a w' ⟨i, f, p, v, n, hm, hf, hp, hn, hni, hF, hM⟩
  by_cases hlt : i < l.length
  · have h1 := rl_pos (l := l) (i := i)
    have h2 := rl_le hlt
    obtain ⟨f, rfl⟩ : ∃ f', f = f' + 1 := ⟨f - 1, by omega⟩
    rw [runsF, if_pos hlt] at hp
    (repeat' (first | (with_reducible refine w_seq ?_) | (with_reducible refine c_region ?_) | (with_reducible refine s_nil ?_) | ((with_reducible apply s_call (f := 31) hF hM); exact rfl; exact rfl; exact rfl; exact rfl; exact rfl; exact (run_c l hw i _ rfl hlt (by omega) _ c0 _ _ hM.lt (hM.facts _ (by (repeat (first | exact List.mem_cons_self | refine List.mem_cons_of_mem _ ?_))))); clear hF hM a; rintro v w a rfl - hM hF) | (with_reducible refine q_then_n ?_) | ((with_reducible apply s_pure hF); exact rfl; exact rfl; exact rfl; (first | exact trivial | omega | decide); clear hF a; intro a hF) | ((with_reducible apply s_lit hF hM); exact rfl; exact rfl; exact rfl; exact rfl; clear hF hM a; intro bl w a hM hF) | ((with_reducible apply s_app hF hM); exact rfl; exact rfl; exact rfl; exact rfl; (repeat (first | exact Kth.z | apply Kth.s)); exact rfl; exact rfl; exact rfl; exact rfl; omega; clear hF hM a; intro g cap w a hM hF; dsimp only [List.set] at hM) | (with_reducible refine w_skip ?_) | (with_reducible refine w_block ?_) | (with_reducible refine q_blk_n ?_) | ((with_reducible apply c_dec hF); exact rfl; all_goals intro hc; all_goals (try (exfalso; omega)))))
    · rw [if_pos (by omega)] at hp
      refine ⟨m - rl l i, by omega, i + rl l i, f, p ++ [(i, rl l i)], .slice (some ⟨g, 0, none⟩) (n + 1) cap, n + 1, by omega, by omega, by rw [hp]; simp, by simp [hn], by omega, hF.sub (by repeat (first | exact Sub.nil | refine Sub.cons rfl (by first | with_reducible rfl | (refine congrArg (Value.int _) ?_; omega) | exact rfl) ?_)), ?_⟩
      rw [extC_app]
      exact hM
    · rw [if_neg (by omega)] at hp
      exact ⟨m - rl l i, by omega, i + rl l i, f, p, v, n, by omega, by omega, hp, hn, by omega, hF.sub (by repeat (first | exact Sub.nil | refine Sub.cons rfl (by first | with_reducible rfl | (refine congrArg (Value.int _) ?_; omega) | exact rfl) ?_)), hM⟩
  · have he : runs l = p := by
      rw [hp]
      cases f with
      | zero => rw [runsF, List.append_nil]
      | succ f => rw [runsF, if_neg hlt, List.append_nil]
    obtain ⟨a', c', rfl⟩ : ∃ a' c', v = .slice a' n c' := by
      have := hM.mem.own.own _ List.mem_cons_self
      rcases this.2 with ⟨h1, h2⟩ | ⟨g, cap, cur, e1, _⟩
      · exact ⟨none, 0, by rw [show n = 0 from h2]; exact h1⟩
      · exact ⟨_, _, e1⟩
    (repeat' (first | (with_reducible refine w_seq ?_) | (with_reducible refine c_region ?_) | (with_reducible refine s_nil ?_) | (with_reducible refine q_then_n ?_) | ((with_reducible apply s_pure hF); exact rfl; exact rfl; exact rfl; (first | exact trivial | omega | decide); clear hF a; intro a hF) | (with_reducible refine w_exit ?_) | (with_reducible refine w_ret ?_) | (with_reducible refine q_then_x ?_) | (with_reducible refine q_blk_x ?_) | ((with_reducible apply c_dec hF); exact rfl; all_goals intro hc; all_goals (try (exfalso; omega)))))
    (apply f_ret Try.results19 hF hM; (repeat (first | exact RL.nil | (apply RL.tmp; exact rfl) | (apply RL.cell; exact rfl; (repeat (first | exact List.mem_cons_self | refine List.mem_cons_of_mem _ ?_)); exact rfl))); refine Ret.mk hM.since ?_; dsimp only [resV])
    rw [he, hn]
    exact ⟨a', c', rfl, hM.mem.own⟩
end Go.Proofs.Ythcnnedgfndklaa
