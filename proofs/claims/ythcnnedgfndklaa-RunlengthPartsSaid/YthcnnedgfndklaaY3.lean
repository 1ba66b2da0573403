/- The reference of runlength: Groups, Encode, Same. -/
import Derived.Test.YthcnnedgfndklaaY2
import Derived.Test.YthcnnedgfndklaaGw
set_option linter.unusedSimpArgs false
set_option linter.unusedVariables false
set_option linter.unusedSectionVars false
namespace Go.Proofs.Ythcnnedgfndklaa
open Go.RowKit Go.Shelf
/-- The groups, as numbers. -/
def gl (l : List (List Int)) (p : List (Fin l.length)) : List (List Int) := p.map fun (i : Fin l.length) => [((nx l i).1 : Int), ((i : Nat) : Int), ((nx l i).2 : Int)]
theorem gl_app (l : List (List Int)) (p : List (Fin l.length)) (i : Fin l.length) : (gl l (p ++ [i])).flatten = (gl l p).flatten ++ [((nx l i).1 : Int), ((i : Nat) : Int), ((nx l i).2 : Int)] := by simp [gl]
theorem gl_3 (l : List (List Int)) (p : List (Fin l.length)) : ∀ y ∈ gl l p, y.length = 3 := by
  intro y hy
  obtain ⟨i, _, rfl⟩ := List.mem_map.1 hy
  rfl
set_option maxRecDepth 20000 in
theorem GroupsR_c (l : List (List Int)) (hw : W8 l) (hlen : l.length ≤ 30000) (a0 : Option Addr) (c0 : Nat) (own : Nat → Prop) (W : World) (hl : ∀ b, own b → b < W.heap.size) (hv : Has own W (RdF (Value.int .u8) a0 l.flatten)) :
    Calls Try.prog 25 ⟨[.slice a0 l.length c0]⟩ W (Ret W fun v w' => ∃ a' c', v = .slice a' (grp l).length c' ∧ Owns w' W.heap.size [⟨58, 3, .slice a' (grp l).length c', (grp l).length, (gl l (grp l)).flatten.map (Value.int .i64)⟩]) := by
  have hM := (Mm.start hl).known hv
  have hw' : ∀ y ∈ l, y.length = 8 := hw
  refine f_start Try.func25 rfl Try.ntmps25 rfl rfl ?_; intro a hF
  (repeat (first | (with_reducible refine w_seq ?_) | (with_reducible refine c_region ?_) | (with_reducible refine s_nil ?_) | (with_reducible refine q_then_n ?_) | ((with_reducible apply s_pure hF); exact rfl; exact rfl; exact rfl; (first | exact trivial | omega | decide); clear hF a; intro a hF) | (with_reducible refine w_block ?_)))
  replace hM := hM.nilRow 58 3
  refine c_loop (m := l.length) (fun m a w' => ∃ (i f : Nat) (p : List (Fin l.length)) (v : Value) (n : Nat), m + i = l.length ∧ l.length ≤ i + f ∧ grp l = p ++ grpF l f i ∧ p.length = n ∧ n ≤ i ∧
    Fr 61 [] [(4, .int .i64 i), (3, v), (0, .slice a0 l.length c0)] a ∧ Mm own W [] [⟨58, 3, v, n, (gl l p).flatten.map (Value.int .i64)⟩] [RdF (Value.int .u8) a0 l.flatten] w') ⟨0, l.length, [], _, 0, by omega, by omega, rfl, rfl, Nat.le_refl _, hF.sub (by repeat (first | exact Sub.nil | refine Sub.cons rfl (by first | with_reducible rfl | (refine congrArg (Value.int _) ?_; omega) | exact rfl) ?_)), hM⟩ ?_
  clear hF hM a
  rintro m a w' ⟨i, f, p, v, n, hm, hf, hp, hn, hni, hF, hM⟩
  by_cases hlt : i < l.length
  · have h1 := rl_pos (l := l) (i := i)
    have h2 := rl_le hlt
    have hnp := nx_pos (l := l) (i := i)
    have hnl := nx_le hlt
    obtain ⟨f, rfl⟩ : ∃ f', f = f' + 1 := ⟨f - 1, by omega⟩
    rw [grpF, dif_pos hlt] at hp
    have hga := gl_app l p ⟨i, hlt⟩
    obtain ⟨s, hs⟩ := get_of_lt hlt
    have hs8 := hw s (List.mem_of_getElem? hs)
    have hs' : l[((i : Int)).toNat]? = some s := by rw [Int.toNat_natCast]; exact hs
    obtain ⟨ad, rfl⟩ : ∃ ad, a0 = some ad := rd_some hM (by (repeat (first | exact List.mem_cons_self | refine List.mem_cons_of_mem _ ?_))) (flat_get (q := 0) hw hs (List.getElem?_eq_getElem (by omega)))
    (repeat (first | (with_reducible refine w_seq ?_) | (with_reducible refine c_region ?_) | (with_reducible refine s_nil ?_) | (with_reducible refine q_then_n ?_) | ((with_reducible apply s_pure hF); exact rfl; exact rfl; exact rfl; (first | exact trivial | omega | decide); clear hF a; intro a hF)))
    rw [decide_eq_true (show (i : Int) < (l.length : Int) by omega)] at hF
    (repeat (first | (with_reducible refine w_seq ?_) | (with_reducible refine c_region ?_) | (with_reducible refine s_nil ?_) | ((with_reducible apply s_call (f := 32) hF hM); exact rfl; exact rfl; exact rfl; exact rfl; exact rfl; exact (equalR_c l hw i _ rfl hlt (by omega) _ c0 _ _ hM.lt (hM.facts _ (by (repeat (first | exact List.mem_cons_self | refine List.mem_cons_of_mem _ ?_))))); clear hF hM a; rintro v w a rfl - hM hF) | ((with_reducible apply s_eqA (ys := zr) hF); exact rfl; exact rfl; exact rfl; exact rfl; kernel_rfl; exact rfl; exact rfl; (first | with_reducible assumption | rfl); rfl; clear hF a; intro a hF) | ((with_reducible apply s_loadS hF hM); exact rfl; exact rfl; (repeat (first | exact List.mem_cons_self | refine List.mem_cons_of_mem _ ?_)); exact rfl; exact rfl; (first | with_reducible assumption | (simp only [Int.toNat_natCast]; with_reducible assumption)); (with_reducible assumption); clear hF a; intro a hF) | (with_reducible refine q_then_n ?_) | ((with_reducible apply s_pure hF); exact rfl; exact rfl; exact rfl; (first | exact trivial | omega | decide); clear hF a; intro a hF) | (with_reducible refine w_skip ?_) | (with_reducible refine w_block ?_) | ((with_reducible apply c_true hF); exact rfl)))
    by_cases hz : s = zr
    · have hnx : nx l i = (2, rl l i) := by unfold nx; rw [if_pos (by rw [hs, hz])]
      rw [decide_eq_true hz] at hF
      rw [hnx] at hp hga hnp hnl
      (repeat' (first | (with_reducible refine w_seq ?_) | (with_reducible refine c_region ?_) | (with_reducible refine s_nil ?_) | (with_reducible refine q_then_n ?_) | ((with_reducible apply s_pure hF); exact rfl; exact rfl; exact rfl; (first | exact trivial | omega | decide); clear hF a; intro a hF) | ((with_reducible apply s_lit hF hM); exact rfl; exact rfl; exact rfl; exact rfl; clear hF hM a; intro bl w a hM hF) | ((with_reducible apply s_app hF hM); exact rfl; exact rfl; exact rfl; exact rfl; (repeat (first | exact Kth.z | apply Kth.s)); exact rfl; exact rfl; exact rfl; exact rfl; omega; clear hF hM a; intro g cap w a hM hF; dsimp only [List.set] at hM) | (with_reducible refine q_blk_n ?_) | ((with_reducible apply c_true hF); exact rfl)))
      refine ⟨m - rl l i, by omega, i + rl l i, f, p ++ [⟨i, hlt⟩], .slice (some ⟨g, 0, none⟩) (n + 1) cap, n + 1, by omega, by omega, by rw [hp]; simp, by simp [hn], by omega, hF.sub (by repeat (first | exact Sub.nil | refine Sub.cons rfl (by first | with_reducible rfl | (refine congrArg (Value.int _) ?_; omega) | exact rfl) ?_)), ?_⟩
      rw [hga, List.map_append]
      exact hM
    rw [decide_eq_false hz] at hF
    by_cases h2 : 2 ≤ rl l i
    · have hnx : nx l i = (1, rl l i) := by unfold nx; rw [if_neg (by rw [hs]; intro h; injection h with h; exact hz h), if_pos h2]
      rw [hnx] at hp hga hnp hnl
      (repeat' (first | (with_reducible refine w_seq ?_) | (with_reducible refine c_region ?_) | (with_reducible refine s_nil ?_) | (with_reducible refine q_then_n ?_) | ((with_reducible apply s_pure hF); exact rfl; exact rfl; exact rfl; (first | exact trivial | omega | decide); clear hF a; intro a hF) | ((with_reducible apply s_lit hF hM); exact rfl; exact rfl; exact rfl; exact rfl; clear hF hM a; intro bl w a hM hF) | ((with_reducible apply s_app hF hM); exact rfl; exact rfl; exact rfl; exact rfl; (repeat (first | exact Kth.z | apply Kth.s)); exact rfl; exact rfl; exact rfl; exact rfl; omega; clear hF hM a; intro g cap w a hM hF; dsimp only [List.set] at hM) | (with_reducible refine q_blk_n ?_) | ((with_reducible apply c_false hF); exact rfl) | ((with_reducible apply c_dec hF); exact rfl; all_goals intro hc; all_goals (try (exfalso; omega)))))
      refine ⟨m - rl l i, by omega, i + rl l i, f, p ++ [⟨i, hlt⟩], .slice (some ⟨g, 0, none⟩) (n + 1) cap, n + 1, by omega, by omega, by rw [hp]; simp, by simp [hn], by omega, hF.sub (by repeat (first | exact Sub.nil | refine Sub.cons rfl (by first | with_reducible rfl | (refine congrArg (Value.int _) ?_; omega) | exact rfl) ?_)), ?_⟩
      rw [hga, List.map_append]
      exact hM
    have hnx : nx l i = (0, lit l i) := by unfold nx; rw [if_neg (by rw [hs]; intro h; injection h with h; exact hz h), if_neg h2]
    have hr1 : rl l i = 1 := by omega
    rw [hnx] at hp hga hnp hnl
    rw [hr1] at hF
    (repeat' (first | (with_reducible refine w_seq ?_) | (with_reducible refine c_region ?_) | (with_reducible refine s_nil ?_) | (with_reducible refine q_then_n ?_) | ((with_reducible apply s_pure hF); exact rfl; exact rfl; exact rfl; (first | exact trivial | omega | decide); clear hF a; intro a hF) | (with_reducible refine w_block ?_) | ((with_reducible apply c_false hF); exact rfl)))
    refine c_loop (m := l.length) (fun k a w' => ∃ q : Nat, k + q = l.length + 1 ∧ 1 ≤ q ∧ i + q ≤ l.length ∧ lit l i = q + litF l (l.length - (i + q)) (i + q) ∧
      Fr 61 [] [(5, .int .i64 q), (6, .int .i64 0), (4, .int .i64 i), (3, v), (0, .slice (some ad) l.length c0)] a ∧ Mm own W [] [⟨58, 3, v, n, (gl l p).flatten.map (Value.int .i64)⟩] [RdF (Value.int .u8) (some ad) l.flatten] w') ⟨1, by omega, by omega, by omega, rfl, hF.sub (by repeat (first | exact Sub.nil | refine Sub.cons rfl (by first | with_reducible rfl | (refine congrArg (Value.int _) ?_; omega) | exact rfl) ?_)), hM⟩ ?_
    clear hF hM a
    rintro k a w' ⟨q, hk, hq, hiq, hlit, hF, hM⟩
    by_cases hlt2 : i + q < l.length
    · obtain ⟨s2, hs2⟩ := get_of_lt hlt2
      have hs28 := hw s2 (List.mem_of_getElem? hs2)
      have hs2' : l[((i : Int) + (q : Int)).toNat]? = some s2 := by rw [show ((i : Int) + (q : Int)).toNat = i + q by omega]; exact hs2
      rw [show l.length - (i + q) = (l.length - (i + (q + 1))) + 1 by omega, litF, show i + q + 1 = i + (q + 1) by omega] at hlit
      (repeat' (first | (with_reducible refine w_seq ?_) | (with_reducible refine c_region ?_) | (with_reducible refine s_nil ?_) | ((with_reducible apply s_call (f := 32) hF hM); exact rfl; exact rfl; exact rfl; exact rfl; exact rfl; exact (equalR_c l hw (i + q) _ (by omega) hlt2 (by omega) _ c0 _ _ hM.lt (hM.facts _ (by (repeat (first | exact List.mem_cons_self | refine List.mem_cons_of_mem _ ?_))))); clear hF hM a; rintro v w a rfl - hM hF) | ((with_reducible apply s_eqA (ys := zr) hF); exact rfl; exact rfl; exact rfl; exact rfl; kernel_rfl; exact rfl; exact rfl; (first | with_reducible assumption | rfl); rfl; clear hF a; intro a hF) | ((with_reducible apply s_loadS hF hM); exact rfl; exact rfl; (repeat (first | exact List.mem_cons_self | refine List.mem_cons_of_mem _ ?_)); exact rfl; exact rfl; (first | with_reducible assumption | (simp only [Int.toNat_natCast]; with_reducible assumption)); (with_reducible assumption); clear hF a; intro a hF) | (with_reducible refine q_then_n ?_) | ((with_reducible apply s_pure hF); exact rfl; exact rfl; exact rfl; (first | exact trivial | omega | decide); clear hF a; intro a hF) | ((with_reducible apply s_lit hF hM); exact rfl; exact rfl; exact rfl; exact rfl; clear hF hM a; intro bl w a hM hF) | ((with_reducible apply s_app hF hM); exact rfl; exact rfl; exact rfl; exact rfl; (repeat (first | exact Kth.z | apply Kth.s)); exact rfl; exact rfl; exact rfl; exact rfl; omega; clear hF hM a; intro g cap w a hM hF; dsimp only [List.set] at hM) | (with_reducible refine w_skip ?_) | (with_reducible refine w_block ?_) | (with_reducible refine w_exit ?_) | (with_reducible refine q_then_x ?_) | (with_reducible refine q_blk_n ?_) | (with_reducible refine q_blk_x ?_) | ((with_reducible apply c_false hF); exact rfl) | ((with_reducible apply s_skip hF); exact rfl; exact rfl; clear hF a; intro a hF) | ((with_reducible apply g_dec hF); exact rfl; exact rfl; all_goals (clear hF; intro hc hF); all_goals (try (exfalso; omega))) | ((with_reducible apply g_ndec hF); exact rfl; exact rfl; all_goals (clear hF; intro hc hF); all_goals (try (exfalso; omega))) | ((with_reducible apply c_dec hF); exact rfl; all_goals intro hc; all_goals (try (exfalso; omega)))))
      · have hz2 : ¬ s2 = zr := by assumption
        rw [if_pos ⟨by rw [hs2]; intro h; injection h with h; exact hz2 h, by omega⟩] at hlit
        exact ⟨k - 1, by omega, q + 1, by omega, by omega, by omega, by omega, hF.sub (by repeat (first | exact Sub.nil | refine Sub.cons rfl (by first | with_reducible rfl | (refine congrArg (Value.int _) ?_; omega) | exact rfl) ?_)), hM⟩
      · rw [if_neg (fun h => by have := h.2; omega)] at hlit
        rw [Nat.add_zero] at hlit
        rw [hlit] at hp hga hnp hnl
        refine ⟨m - q, by omega, i + q, f, p ++ [⟨i, hlt⟩], .slice (some ⟨g, 0, none⟩) (n + 1) cap, n + 1, by omega, by omega, by rw [hp]; simp, by simp [hn], by omega, hF.sub (by repeat (first | exact Sub.nil | refine Sub.cons rfl (by first | with_reducible rfl | (refine congrArg (Value.int _) ?_; omega) | exact rfl) ?_)), ?_⟩
        rw [hga, List.map_append]
        exact hM
      · have hz2 : s2 = zr := by assumption
        rw [if_neg (fun h => h.1 (by rw [hs2, hz2])), Nat.add_zero] at hlit
        rw [hlit] at hp hga hnp hnl
        refine ⟨m - q, by omega, i + q, f, p ++ [⟨i, hlt⟩], .slice (some ⟨g, 0, none⟩) (n + 1) cap, n + 1, by omega, by omega, by rw [hp]; simp, by simp [hn], by omega, hF.sub (by repeat (first | exact Sub.nil | refine Sub.cons rfl (by first | with_reducible rfl | (refine congrArg (Value.int _) ?_; omega) | exact rfl) ?_)), ?_⟩
        rw [hga, List.map_append]
        exact hM
    · rw [show l.length - (i + q) = 0 by omega, litF, Nat.add_zero] at hlit
      rw [hlit] at hp hga hnp hnl
      (repeat' (first | (with_reducible refine w_seq ?_) | (with_reducible refine c_region ?_) | (with_reducible refine s_nil ?_) | (with_reducible refine q_then_n ?_) | ((with_reducible apply s_pure hF); exact rfl; exact rfl; exact rfl; (first | exact trivial | omega | decide); clear hF a; intro a hF) | ((with_reducible apply s_lit hF hM); exact rfl; exact rfl; exact rfl; exact rfl; clear hF hM a; intro bl w a hM hF) | ((with_reducible apply s_app hF hM); exact rfl; exact rfl; exact rfl; exact rfl; (repeat (first | exact Kth.z | apply Kth.s)); exact rfl; exact rfl; exact rfl; exact rfl; omega; clear hF hM a; intro g cap w a hM hF; dsimp only [List.set] at hM) | (with_reducible refine w_exit ?_) | (with_reducible refine q_then_x ?_) | (with_reducible refine q_blk_n ?_) | (with_reducible refine q_blk_x ?_) | ((with_reducible apply c_false hF); exact rfl) | ((with_reducible apply s_skip hF); exact rfl; exact rfl; clear hF a; intro a hF) | ((with_reducible apply g_dec hF); exact rfl; exact rfl; all_goals (clear hF; intro hc hF); all_goals (try (exfalso; omega)))))
      refine ⟨m - q, by omega, i + q, f, p ++ [⟨i, hlt⟩], .slice (some ⟨g, 0, none⟩) (n + 1) cap, n + 1, by omega, by omega, by rw [hp]; simp, by simp [hn], by omega, hF.sub (by repeat (first | exact Sub.nil | refine Sub.cons rfl (by first | with_reducible rfl | (refine congrArg (Value.int _) ?_; omega) | exact rfl) ?_)), ?_⟩
      rw [hga, List.map_append]
      exact hM
  · have he : grp l = p := by
      rw [hp]
      cases f with
      | zero => rw [grpF, List.append_nil]
      | succ f => rw [grpF, dif_neg hlt, List.append_nil]
    obtain ⟨a', c', rfl⟩ : ∃ a' c', v = .slice a' n c' := by
      have := hM.mem.own.own _ List.mem_cons_self
      rcases this.2 with ⟨h1, h2⟩ | ⟨g, cap, cur, e1, _⟩
      · exact ⟨none, 0, by rw [show n = 0 from h2]; exact h1⟩
      · exact ⟨_, _, e1⟩
    (repeat' (first | (with_reducible refine w_seq ?_) | (with_reducible refine c_region ?_) | (with_reducible refine s_nil ?_) | (with_reducible refine q_then_n ?_) | ((with_reducible apply s_pure hF); exact rfl; exact rfl; exact rfl; (first | exact trivial | omega | decide); clear hF a; intro a hF) | (with_reducible refine w_exit ?_) | (with_reducible refine w_ret ?_) | (with_reducible refine q_then_x ?_) | (with_reducible refine q_blk_x ?_) | ((with_reducible apply c_dec hF); exact rfl; all_goals intro hc; all_goals (try (exfalso; omega)))))
    (apply f_ret Try.results25 hF hM; (repeat (first | exact RL.nil | (apply RL.tmp; exact rfl) | (apply RL.cell; exact rfl; (repeat (first | exact List.mem_cons_self | refine List.mem_cons_of_mem _ ?_)); exact rfl))); refine Ret.mk hM.since ?_; dsimp only [resV])
    rw [he, hn]
    exact ⟨a', c', rfl, hM.mem.own⟩
def extL (p : List (Nat × Nat)) : List (List Int) := p.map fun e => [(e.1 : Int), (e.2 : Int)]
theorem extC_L (p : List (Nat × Nat)) : extC p = (extL p).flatten.map (Value.int .i64) := by
  induction p with
  | nil => rfl
  | cons e p ih =>
    rw [show extC (e :: p) = [Value.int .i64 e.1, Value.int .i64 e.2] ++ extC p from rfl, ih]
    simp [extL]
set_option maxRecDepth 20000 in
theorem SameE_c (l m : List (Nat × Nat)) (a1 a2 : Option Addr) (q1 q2 c1 c2 : Nat) (h1 : l.length = q1) (h2 : m.length = q2) (hq : q1 ≤ 1000000) (own : Nat → Prop) (W : World) (hl : ∀ b, own b → b < W.heap.size) (hv1 : Has own W (RdF (Value.int .i64) a1 (extL l).flatten)) (hv2 : Has own W (RdF (Value.int .i64) a2 (extL m).flatten)) :
    Calls Try.prog 18 ⟨[.slice a1 q1 c1, .slice a2 q2 c2]⟩ W (Ret W fun v _ => v = .bool (decide (l = m))) := by
  subst h1 h2
  have hM := ((Mm.start hl).known hv1).known hv2
  have hw1 : ∀ y ∈ extL l, y.length = 2 := by intro y hy; obtain ⟨e, _, rfl⟩ := List.mem_map.1 hy; rfl
  have hw2 : ∀ y ∈ extL m, y.length = 2 := by intro y hy; obtain ⟨e, _, rfl⟩ := List.mem_map.1 hy; rfl
  refine f_start Try.func18 rfl Try.ntmps18 rfl rfl ?_; intro a hF
  (repeat' (first | (with_reducible refine w_seq ?_) | (with_reducible refine c_region ?_) | (with_reducible refine s_nil ?_) | (with_reducible refine q_then_n ?_) | ((with_reducible apply s_pure hF); exact rfl; exact rfl; exact rfl; (first | exact trivial | omega | decide); clear hF a; intro a hF) | (with_reducible refine w_skip ?_) | (with_reducible refine w_block ?_) | (with_reducible refine w_ret ?_) | (with_reducible refine q_then_r ?_) | ((with_reducible apply c_dec hF); exact rfl; all_goals intro hc; all_goals (try (exfalso; omega)))))
  · rw [show decide (l = m) = false from decide_eq_false (fun e => by subst e; omega)]
    (apply f_ret Try.results18 hF hM; (repeat (first | exact RL.nil | (apply RL.tmp; exact rfl) | (apply RL.cell; exact rfl; (repeat (first | exact List.mem_cons_self | refine List.mem_cons_of_mem _ ?_)); exact rfl))); refine Ret.mk hM.since ?_; dsimp only [resV])
  have hlm : l.length = m.length := by omega
  refine c_loop (m := l.length) (fun mm a w' => ∃ i : Nat, mm + i = l.length ∧ l.take i = m.take i ∧ Fr 26 [] [(5, .int .i64 i), (0, .slice a1 l.length c1), (1, .slice a2 m.length c2)] a ∧ Mm own W [] [] [RdF (Value.int .i64) a2 (extL m).flatten, RdF (Value.int .i64) a1 (extL l).flatten] w') ⟨0, by omega, rfl, hF.sub (by repeat (first | exact Sub.nil | refine Sub.cons rfl (by first | with_reducible rfl | (refine congrArg (Value.int _) ?_; omega) | exact rfl) ?_)), hM⟩ ?_
  clear hF hM a
  rintro mm a w' ⟨i, hmi, hlt, hF, hM⟩
  by_cases hi : i < l.length
  · obtain ⟨⟨s0, s1⟩, hs⟩ := get_of_lt hi
    obtain ⟨⟨t0, t1⟩, ht⟩ := get_of_lt (l := m) (i := i) (by omega)
    have hs' : (extL l)[((i : Int)).toNat]? = some [(s0 : Int), (s1 : Int)] := by rw [Int.toNat_natCast]; simp [extL, hs]
    have ht' : (extL m)[((i : Int)).toNat]? = some [(t0 : Int), (t1 : Int)] := by rw [Int.toNat_natCast]; simp [extL, ht]
    obtain ⟨ad1, rfl⟩ : ∃ ad, a1 = some ad := rd_some hM (enc := Value.int .i64) (a := a1) (xs := (extL l).flatten) (by (repeat (first | exact List.mem_cons_self | refine List.mem_cons_of_mem _ ?_))) (flat_get (q := 0) hw1 hs' rfl)
    obtain ⟨ad2, rfl⟩ : ∃ ad, a2 = some ad := rd_some hM (enc := Value.int .i64) (a := a2) (xs := (extL m).flatten) (by (repeat (first | exact List.mem_cons_self | refine List.mem_cons_of_mem _ ?_))) (flat_get (q := 0) hw2 ht' rfl)
    have hst : (l.take (i + 1) = m.take (i + 1)) ↔ ((s0 : Int) = t0 ∧ (s1 : Int) = t1) := by
      rw [List.take_add_one, List.take_add_one, hs, ht, hlt]
      simp
      omega
    (repeat' (first | (with_reducible refine w_seq ?_) | (with_reducible refine c_region ?_) | (with_reducible refine s_nil ?_) | (with_reducible refine q_then_n ?_) | ((with_reducible apply s_pure hF); exact rfl; exact rfl; exact rfl; (first | exact trivial | omega | decide); clear hF a; intro a hF) | (with_reducible refine w_skip ?_) | (with_reducible refine w_block ?_) | ((with_reducible apply c_dec hF); exact rfl; all_goals intro hc; all_goals (try (exfalso; omega)))))
    refine c_draw (fun i => Nat.ble 9 i) hM ?_; clear hM; intro w hM
    (first | (refine t_pure (i := 0) hF rfl rfl rfl rfl (by kernel_rfl) hM.sm (fun _ _ _ h => h) ?_ ?_; (first | exact trivial | omega | decide); clear hF a; intro a hF))
    (first | (refine t_pure (i := 1) hF rfl rfl rfl rfl (by kernel_rfl) hM.sm (fun _ _ _ h => h) ?_ ?_; (first | exact trivial | omega | decide); clear hF a; intro a hF))
    (first | (refine t_pure (i := 2) hF rfl rfl rfl rfl (by kernel_rfl) hM.sm (fun _ _ _ h => h) ?_ ?_; (first | exact trivial | omega | decide); clear hF a; intro a hF))
    (first | (apply t_loadS (i := 3) hF rfl rfl rfl; (repeat (first | exact List.mem_cons_self | refine List.mem_cons_of_mem _ ?_)); (first | with_reducible assumption | (simp only [Int.toNat_natCast]; with_reducible assumption)); (with_reducible assumption); exact rfl; exact rfl; kernel_rfl; exact hM.sm; exact (fun _ _ _ h => h); clear hF a; intro a hF))
    (first | (refine t_pure (i := 4) hF rfl rfl rfl rfl (by kernel_rfl) hM.sm (fun _ _ _ h => h) ?_ ?_; (first | exact trivial | omega | decide); clear hF a; intro a hF))
    (first | (refine t_pure (i := 5) hF rfl rfl rfl rfl (by kernel_rfl) hM.sm (fun _ _ _ h => h) ?_ ?_; (first | exact trivial | omega | decide); clear hF a; intro a hF))
    (first | (refine t_pure (i := 6) hF rfl rfl rfl rfl (by kernel_rfl) hM.sm (fun _ _ _ h => h) ?_ ?_; (first | exact trivial | omega | decide); clear hF a; intro a hF))
    (first | (apply t_loadS (i := 7) hF rfl rfl rfl; (repeat (first | exact List.mem_cons_self | refine List.mem_cons_of_mem _ ?_)); (first | with_reducible assumption | (simp only [Int.toNat_natCast]; with_reducible assumption)); (with_reducible assumption); exact rfl; exact rfl; kernel_rfl; exact hM.sm; exact (fun _ _ _ h => h); clear hF a; intro a hF))
    (first | (apply t_eqE (i := 8) hF rfl rfl rfl rfl rfl; kernel_rfl; kernel_rfl; exact ⟨by decide, rfl, rfl, rfl⟩; exact ⟨by decide, rfl, rfl, rfl⟩; exact rfl; exact rfl; kernel_rfl; exact hM.sm; exact (fun _ _ _ h => h); clear hF a; intro a hF))
    refine t_done (by kernel_rfl) ?_
    (repeat' (first | (with_reducible refine w_seq ?_) | (with_reducible refine c_region ?_) | (with_reducible refine s_nil ?_) | (with_reducible refine q_then_n ?_) | ((with_reducible apply s_pure hF); exact rfl; exact rfl; exact rfl; (first | exact trivial | omega | decide); clear hF a; intro a hF) | (with_reducible refine w_skip ?_) | (with_reducible refine w_ret ?_) | (with_reducible refine q_then_r ?_) | (with_reducible refine q_blk_n ?_) | (with_reducible refine q_blk_r ?_) | ((with_reducible apply c_ndec hF); exact rfl; all_goals intro hc; all_goals (try (exfalso; omega)))))
    · rw [show decide (l = m) = false from decide_eq_false (fun e => by subst e; rw [hs] at ht; injection ht with ht; injection ht with h3 h4; subst h3 h4; simp at hc)]
      (apply f_ret Try.results18 hF hM; (repeat (first | exact RL.nil | (apply RL.tmp; exact rfl) | (apply RL.cell; exact rfl; (repeat (first | exact List.mem_cons_self | refine List.mem_cons_of_mem _ ?_)); exact rfl))); refine Ret.mk hM.since ?_; dsimp only [resV])
    · exact ⟨mm - 1, by omega, i + 1, by omega, hst.2 (by assumption), hF.sub (by repeat (first | exact Sub.nil | refine Sub.cons rfl (by first | with_reducible rfl | (refine congrArg (Value.int _) ?_; omega) | exact rfl) ?_)), hM⟩
  · rw [List.take_of_length_le (by omega), List.take_of_length_le (by omega)] at hlt
    rw [decide_eq_true hlt]
    (repeat' (first | (with_reducible refine w_seq ?_) | (with_reducible refine c_region ?_) | (with_reducible refine s_nil ?_) | (with_reducible refine q_then_n ?_) | ((with_reducible apply s_pure hF); exact rfl; exact rfl; exact rfl; (first | exact trivial | omega | decide); clear hF a; intro a hF) | (with_reducible refine w_exit ?_) | (with_reducible refine w_ret ?_) | (with_reducible refine q_then_x ?_) | (with_reducible refine q_blk_x ?_) | ((with_reducible apply c_dec hF); exact rfl; all_goals intro hc; all_goals (try (exfalso; omega)))))
    (apply f_ret Try.results18 hF hM; (repeat (first | exact RL.nil | (apply RL.tmp; exact rfl) | (apply RL.cell; exact rfl; (repeat (first | exact List.mem_cons_self | refine List.mem_cons_of_mem _ ?_)); exact rfl))); refine Ret.mk hM.since ?_; dsimp only [resV])
end Go.Proofs.Ythcnnedgfndklaa
