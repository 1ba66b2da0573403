/- The reference's numbers. -/
import Derived.Test.YthcnnedgfndklaaU8
set_option linter.unusedSimpArgs false
set_option linter.unusedVariables false
set_option linter.unusedSectionVars false
namespace Go.Proofs.Ythcnnedgfndklaa
open Go.RowKit Go.Shelf
set_option maxRecDepth 20000 in
theorem PutIntR_c (n : Nat) (q : Int) (hq : q = n) (hn : n ≤ 9007199254740991) (a0 : Option Addr) (c0 : Nat) (ys : List Int) (m : Nat) (hm : ys.length = m) (own : Nat → Prop) (W : World) (hl : ∀ b, own b → b < W.heap.size) (hv : Has own W (RdF (Value.int .u8) a0 ys)) (hb : m ≤ 10000000000) :
    Calls Try.prog 26 ⟨[.slice a0 m c0, .int .i64 q]⟩ W (Ret W fun v w' => ∃ a' c', v = .slice a' (m + (puts n).length) c' ∧ Owns w' W.heap.size [⟨5, 1, .slice a' (m + (puts n).length) c', m + (puts n).length, (ys ++ puts n).map (Value.int .u8)⟩]) := by
  subst hq hm
  have hM := ((Mm.start hl).known hv).nilRow 5 1
  refine f_start Try.func26 rfl Try.ntmps26 rfl rfl ?_; intro a hF
  (repeat' (first | (with_reducible refine w_seq ?_) | (with_reducible refine c_region ?_) | (with_reducible refine s_nil ?_) | ((with_reducible apply s_appF hF hM); exact rfl; exact rfl; (repeat (first | exact List.mem_cons_self | refine List.mem_cons_of_mem _ ?_)); exact rfl; exact rfl; (repeat (first | exact Kth.z | apply Kth.s)); (intro _; exact rfl); exact rfl; omega; clear hF hM a; intro g cap w a hM hF; dsimp only [List.set] at hM) | (with_reducible refine q_then_n ?_) | ((with_reducible apply s_pure hF); exact rfl; exact rfl; exact rfl; (first | exact trivial | omega | decide); clear hF a; intro a hF) | (with_reducible refine w_skip ?_) | (with_reducible refine w_block ?_) | ((with_reducible apply c_dec hF); exact rfl; all_goals intro hc; all_goals (try (exfalso; omega)))))
  refine c_loop (m := n) (fun mm a w' => ∃ (x q : Nat) (done : List Int) (v' : Value), x = mm ∧ x ≤ n ∧ done.length = q ∧ q ≤ n ∧ puts n = done ++ puts x ∧
    Fr 31 [] [(5, v'), (1, .int .i64 x)] a ∧ Mm own W [] [⟨5, 1, v', ys.length + q, (ys ++ done).map (Value.int .u8)⟩] [] w') ⟨n, 0, [], _, rfl, Nat.le_refl _, rfl, by omega, rfl, hF.sub (by repeat (first | exact Sub.nil | refine Sub.cons rfl (by first | with_reducible rfl | (refine congrArg (Value.int _) ?_; omega) | exact rfl) ?_)), by
      rw [Nat.zero_add, List.nil_append] at hM
      rw [List.append_nil, Nat.zero_add]
      exact hM.sub (.refl _) (.refl _) (by simp)⟩ ?_
  clear hF hM a
  rintro mm a w' ⟨x, q, done, v', rfl, hxn, hdl, hqn, hpu, hF, hM⟩
  have hq2 : (puts n).length ≤ 8 := puts_len 7 n (by omega)
  have hq3 : q ≤ 8 := by rw [hpu, List.length_append] at hq2; omega
  by_cases hx : x < 128
  · rw [puts_lt hx] at hpu
    (repeat' (first | (with_reducible refine w_seq ?_) | (with_reducible refine c_region ?_) | (with_reducible refine s_nil ?_) | (with_reducible refine q_then_n ?_) | ((with_reducible apply s_pure hF); exact rfl; exact rfl; exact rfl; (first | exact trivial | omega | decide); clear hF a; intro a hF) | ((with_reducible apply s_lit hF hM); exact rfl; exact rfl; exact rfl; exact rfl; clear hF hM a; intro bl w a hM hF) | ((with_reducible apply s_app hF hM); exact rfl; exact rfl; exact rfl; exact rfl; (repeat (first | exact Kth.z | apply Kth.s)); exact rfl; exact rfl; exact rfl; exact rfl; omega; clear hF hM a; intro g cap w a hM hF; dsimp only [List.set] at hM) | (with_reducible refine w_exit ?_) | (with_reducible refine w_ret ?_) | (with_reducible refine q_then_x ?_) | (with_reducible refine q_blk_x ?_) | ((with_reducible apply c_dec hF); exact rfl; all_goals intro hc; all_goals (try (exfalso; omega)))))
    rw [show (x : Int) % 256 = x by omega] at hM
    (apply f_ret Try.results26 hF hM; (repeat (first | exact RL.nil | (apply RL.tmp; exact rfl) | (apply RL.cell; exact rfl; (repeat (first | exact List.mem_cons_self | refine List.mem_cons_of_mem _ ?_)); exact rfl))); refine Ret.mk hM.since ?_; dsimp only [resV])
    have e1 : (puts n).length = q + 1 := by rw [hpu]; simp [hdl]
    refine ⟨some ⟨g, 0, none⟩, cap, by rw [e1]; rfl, ?_⟩
    rw [e1, hpu, ← List.append_assoc, List.map_append]
    exact hM.mem.own
  · rw [puts_ge hx] at hpu
    (repeat' (first | (with_reducible refine w_seq ?_) | (with_reducible refine c_region ?_) | (with_reducible refine s_nil ?_) | (with_reducible refine q_then_n ?_) | ((with_reducible apply s_pure hF); exact rfl; exact rfl; exact rfl; (first | exact trivial | omega | decide); clear hF a; intro a hF) | ((with_reducible apply s_lit hF hM); exact rfl; exact rfl; exact rfl; exact rfl; clear hF hM a; intro bl w a hM hF) | ((with_reducible apply s_app hF hM); exact rfl; exact rfl; exact rfl; exact rfl; (repeat (first | exact Kth.z | apply Kth.s)); exact rfl; exact rfl; exact rfl; exact rfl; omega; clear hF hM a; intro g cap w a hM hF; dsimp only [List.set] at hM) | (with_reducible refine w_skip ?_) | (with_reducible refine w_block ?_) | (with_reducible refine q_blk_n ?_) | ((with_reducible apply c_dec hF); exact rfl; all_goals intro hc; all_goals (try (exfalso; omega)))))
    rw [show ((x : Int) % 128 + 128) % 256 = ((x % 128 + 128 : Nat) : Int) by omega] at hM
    refine ⟨x / 128, by omega, x / 128, q + 1, done ++ [((x % 128 + 128 : Nat) : Int)], .slice (some ⟨g, 0, none⟩) (ys.length + q + 1) cap, rfl, by omega, by simp [hdl], by omega, by rw [hpu]; simp, hF.sub (by repeat (first | exact Sub.nil | refine Sub.cons rfl (by first | with_reducible rfl | (refine congrArg (Value.int _) ?_; omega) | exact rfl) ?_)), ?_⟩
    rw [← List.append_assoc, List.map_append]
    exact hM
set_option maxRecDepth 20000 in
theorem numR_c (xs : List Int) (hxb : ∀ x ∈ xs, 0 ≤ x ∧ x < 256) (hlen : xs.length ≤ 1000000) (a0 : Option Addr) (c0 : Nat) (own : Nat → Prop) (W : World) (hl : ∀ b, own b → b < W.heap.size) (hv : Has own W (RdF (Value.int .u8) a0 xs)) :
    Calls Try.prog 41 ⟨[.slice a0 xs.length c0]⟩ W (Ret W fun v _ => v = .tuple #[.int .i64 (rdNum xs).1, .int .i64 (rdNum xs).2.2, .int .i64 (rdNum xs).2.1]) := by
  have hM := (Mm.start hl).known hv
  refine f_start Try.func41 rfl Try.ntmps41 rfl rfl ?_; intro a hF
  (repeat' (first | (with_reducible refine w_seq ?_) | (with_reducible refine c_region ?_) | (with_reducible refine s_nil ?_) | (with_reducible refine q_then_n ?_) | ((with_reducible apply s_pure hF); exact rfl; exact rfl; exact rfl; (first | exact trivial | omega | decide); clear hF a; intro a hF) | (with_reducible refine w_block ?_)))
  refine c_loop (m := 8) (fun m a w' => ∃ (i : Nat) (n P : Int), m + i = 8 ∧ rdNum xs = rdN xs m i n ∧ 0 ≤ n ∧ P = 128 ^ i ∧ n < P ∧
    Fr 45 [] [(7, .int .i64 i), (5, .int .i64 n), (6, .int .i64 P), (0, .slice a0 xs.length c0)] a ∧
    Mm own W [] [] [RdF (Value.int .u8) a0 xs] w') ⟨0, 0, 1, by omega, rfl, by omega, by simp, by omega, hF.sub (by repeat (first | exact Sub.nil | refine Sub.cons rfl (by first | with_reducible rfl | (refine congrArg (Value.int _) ?_; omega) | exact rfl) ?_)), hM⟩ ?_
  clear hF hM a
  rintro m a w' ⟨i, n, P, hmi, hrd, hn0, hP, hn1, hF, hM⟩
  by_cases hi : i < 8
  case neg =>
    obtain rfl : m = 0 := by omega
    have hr : rdNum xs = (0, 3, 0) := hrd
    rw [hr]
    (repeat' (first | (with_reducible refine w_seq ?_) | (with_reducible refine c_region ?_) | (with_reducible refine s_nil ?_) | (with_reducible refine q_then_n ?_) | ((with_reducible apply s_pure hF); exact rfl; exact rfl; exact rfl; (first | exact trivial | omega | decide); clear hF a; intro a hF) | (with_reducible refine w_exit ?_) | (with_reducible refine w_ret ?_) | (with_reducible refine q_then_x ?_) | (with_reducible refine q_blk_x ?_) | ((with_reducible apply c_dec hF); exact rfl; all_goals intro hc; all_goals (try (exfalso; omega)))))
    (apply f_ret Try.results41 hF hM; (repeat (first | exact RL.nil | (apply RL.tmp; exact rfl) | (apply RL.cell; exact rfl; (repeat (first | exact List.mem_cons_self | refine List.mem_cons_of_mem _ ?_)); exact rfl))); refine Ret.mk hM.since ?_; dsimp only [resV])
    first | rfl | (rw [hZ]; rfl)
  obtain ⟨m, rfl⟩ : ∃ k, m = k + 1 := ⟨m - 1, by omega⟩
  obtain ⟨p1, p2, p3⟩ := pow7 ⟨i, hi⟩
  have p4 := pow7s ⟨i, hi⟩
  simp only at p1 p2 p3 p4
  by_cases hin : i < xs.length
  case neg =>
    have hr : rdNum xs = (0, 10, 0) := by rw [hrd]; exact rdN_none (List.getElem?_eq_none (by omega))
    rw [hr]
    (repeat' (first | (with_reducible refine w_seq ?_) | (with_reducible refine c_region ?_) | (with_reducible refine s_nil ?_) | (with_reducible refine q_then_n ?_) | ((with_reducible apply s_pure hF); exact rfl; exact rfl; exact rfl; (first | exact trivial | omega | decide); clear hF a; intro a hF) | (with_reducible refine w_skip ?_) | (with_reducible refine w_block ?_) | (with_reducible refine w_ret ?_) | (with_reducible refine q_then_r ?_) | (with_reducible refine q_blk_r ?_) | ((with_reducible apply c_dec hF); exact rfl; all_goals intro hc; all_goals (try (exfalso; omega)))))
    (apply f_ret Try.results41 hF hM; (repeat (first | exact RL.nil | (apply RL.tmp; exact rfl) | (apply RL.cell; exact rfl; (repeat (first | exact List.mem_cons_self | refine List.mem_cons_of_mem _ ?_)); exact rfl))); refine Ret.mk hM.since ?_; dsimp only [resV])
    first | rfl | (rw [hZ]; rfl)
  obtain ⟨y, hy⟩ := get_of_lt hin
  obtain ⟨ad, rfl⟩ := rd_some hM (by (repeat (first | exact List.mem_cons_self | refine List.mem_cons_of_mem _ ?_))) hy
  have hyb := hxb y (List.mem_of_getElem? hy)
  have hr := hrd.trans (rdN_some hy)
  rw [← hP] at p1 p2 p3 p4 hr
  have hmb := mul_bdP (show 0 ≤ y % 128 ∧ y % 128 ≤ 127 by omega) (show 0 ≤ P ∧ P ≤ 562949953421312 by omega)
  have hmc : y % 128 * P ≤ 127 * P := Int.mul_le_mul_of_nonneg_right (by omega) (by omega)
  obtain ⟨Z, hZ⟩ : ∃ Z, y % 128 * P = Z := ⟨_, rfl⟩
  rw [hZ] at hr hmb hmc
  by_cases hbig : 128 ≤ y
  · rw [if_pos hbig] at hr
    (repeat' (first | (with_reducible refine w_seq ?_) | (with_reducible refine c_region ?_) | (with_reducible refine s_nil ?_) | (with_reducible refine q_then_n ?_) | ((with_reducible apply s_pure hF); exact rfl; exact rfl; exact rfl; (first | exact trivial | omega | decide); clear hF a; intro a hF) | ((with_reducible apply s_loadF hF hM); exact rfl; exact rfl; (repeat (first | exact List.mem_cons_self | refine List.mem_cons_of_mem _ ?_)); exact rfl; exact rfl; (first | with_reducible assumption | (simp only [Int.toNat_natCast]; with_reducible assumption)); clear hF a; intro a hF) | (with_reducible refine w_skip ?_) | (with_reducible refine w_block ?_) | (with_reducible refine q_blk_n ?_) | ((with_reducible apply c_dec hF); exact rfl; all_goals intro hc; all_goals (try (exfalso; omega)))))
    exact ⟨m, by omega, i + 1, n + Z, P * 128, by omega, hr, by omega, p4.symm, by omega, hF.sub (by repeat (first | exact Sub.nil | refine Sub.cons rfl (by first | with_reducible rfl | (refine congrArg (Value.int _) ?_; omega) | exact rfl) ?_)), hM⟩
  rw [if_neg hbig] at hr
  by_cases hbad : (y = 0 ∧ 0 < i) ∨ 9007199254740991 < n + Z
  · rw [if_pos hbad] at hr
    rw [hr]
    (repeat' (first | (with_reducible refine w_seq ?_) | (with_reducible refine c_region ?_) | (with_reducible refine s_nil ?_) | (with_reducible refine q_then_n ?_) | ((with_reducible apply s_pure hF); exact rfl; exact rfl; exact rfl; (first | exact trivial | omega | decide); clear hF a; intro a hF) | ((with_reducible apply s_loadF hF hM); exact rfl; exact rfl; (repeat (first | exact List.mem_cons_self | refine List.mem_cons_of_mem _ ?_)); exact rfl; exact rfl; (first | with_reducible assumption | (simp only [Int.toNat_natCast]; with_reducible assumption)); clear hF a; intro a hF) | (with_reducible refine w_skip ?_) | (with_reducible refine w_block ?_) | (with_reducible refine w_ret ?_) | (with_reducible refine q_then_r ?_) | (with_reducible refine q_blk_r ?_) | ((with_reducible apply c_true hF); exact rfl) | ((with_reducible apply s_skip hF); exact rfl; exact rfl; clear hF a; intro a hF) | ((with_reducible apply g_dec hF); exact rfl; exact rfl; all_goals (clear hF; intro hc hF); all_goals (try (exfalso; omega))) | ((with_reducible apply c_dec hF); exact rfl; all_goals intro hc; all_goals (try (exfalso; omega)))))
    all_goals
      (apply f_ret Try.results41 hF hM; (repeat (first | exact RL.nil | (apply RL.tmp; exact rfl) | (apply RL.cell; exact rfl; (repeat (first | exact List.mem_cons_self | refine List.mem_cons_of_mem _ ?_)); exact rfl))); refine Ret.mk hM.since ?_; dsimp only [resV])
      first | rfl | (rw [hZ]; rfl)
  · rw [if_neg hbad] at hr
    rw [hr]
    (repeat' (first | (with_reducible refine w_seq ?_) | (with_reducible refine c_region ?_) | (with_reducible refine s_nil ?_) | (with_reducible refine q_then_n ?_) | ((with_reducible apply s_pure hF); exact rfl; exact rfl; exact rfl; (first | exact trivial | omega | decide); clear hF a; intro a hF) | ((with_reducible apply s_loadF hF hM); exact rfl; exact rfl; (repeat (first | exact List.mem_cons_self | refine List.mem_cons_of_mem _ ?_)); exact rfl; exact rfl; (first | with_reducible assumption | (simp only [Int.toNat_natCast]; with_reducible assumption)); clear hF a; intro a hF) | (with_reducible refine w_skip ?_) | (with_reducible refine w_block ?_) | (with_reducible refine w_ret ?_) | (with_reducible refine q_then_r ?_) | (with_reducible refine q_blk_r ?_) | ((with_reducible apply s_skip hF); exact rfl; exact rfl; clear hF a; intro a hF) | ((with_reducible apply g_dec hF); exact rfl; exact rfl; all_goals (clear hF; intro hc hF); all_goals (try (exfalso; omega))) | ((with_reducible apply c_dec hF); exact rfl; all_goals intro hc; all_goals (try (exfalso; omega)))))
    all_goals
      (apply f_ret Try.results41 hF hM; (repeat (first | exact RL.nil | (apply RL.tmp; exact rfl) | (apply RL.cell; exact rfl; (repeat (first | exact List.mem_cons_self | refine List.mem_cons_of_mem _ ?_)); exact rfl))); refine Ret.mk hM.since ?_; dsimp only [resV])
      first | rfl | (rw [hZ]; rfl)
theorem RdF.take {α : Type} {enc : α → Value} {own : Nat → Prop} {w : World} {a : Option Addr} {xs : List α} (h : Has own w (RdF enc a xs)) (k : Nat) : Has own w (RdF enc a (xs.take k)) := by
  refine h.imp fun w h j x hx => h j x ?_
  rw [List.getElem?_take] at hx
  split at hx
  · exact hx
  · cases hx
set_option maxRecDepth 20000 in
theorem restR_c (xs : List Int) (hlen : xs.length ≤ 1000000) (ad : Addr) (c0 : Nat) (hc0 : xs.length ≤ c0) (k : Nat) (hk : k ≤ xs.length) (q : Int) (hq : q = k) (m : Nat) (hm : xs.length = m) (own : Nat → Prop) (W : World) (hl : ∀ b, own b → b < W.heap.size) (hv : Has own W (RdF (Value.int .u8) (some ad) xs)) :
    Calls Try.prog 42 ⟨[.slice (some ad) m c0, .int .i64 q]⟩ W (Ret W fun v w' => ∃ a' c', v = .slice a' (xs.drop k).length c' ∧ Owns w' W.heap.size [⟨5, 1, .slice a' (xs.drop k).length c', (xs.drop k).length, (xs.drop k).map (Value.int .u8)⟩]) := by
  subst hq hm
  have hM := ((Mm.start hl).known hv).nilRow 5 1
  replace hM := hM.addFact (RdF.drop (hM.facts _ List.mem_cons_self) k c0 hc0)
  have hd := List.length_drop (i := k) (l := xs)
  refine f_start Try.func42 rfl Try.ntmps42 rfl rfl ?_; intro a hF
  (repeat' (first | (with_reducible refine w_seq ?_) | (with_reducible refine c_region ?_) | (with_reducible refine s_nil ?_) | (with_reducible refine q_then_n ?_) | ((with_reducible apply s_pure hF); exact rfl; exact rfl; exact rfl; (first | exact trivial | omega | decide); clear hF a; intro a hF)))
  rw [show ((xs.length : Nat) : Int).toNat - (k : Int).toNat = (xs.drop k).length by omega, Int.toNat_natCast] at hF
  (repeat' (first | (with_reducible refine s_nil ?_) | ((with_reducible apply s_appF hF hM); exact rfl; exact rfl; (repeat (first | exact List.mem_cons_self | refine List.mem_cons_of_mem _ ?_)); exact rfl; exact rfl; (repeat (first | exact Kth.z | apply Kth.s)); (intro _; exact rfl); exact rfl; omega; clear hF hM a; intro g cap w a hM hF; dsimp only [List.set] at hM) | (with_reducible refine q_then_n ?_) | ((with_reducible apply s_pure hF); exact rfl; exact rfl; exact rfl; (first | exact trivial | omega | decide); clear hF a; intro a hF) | (with_reducible refine w_ret ?_)))
  (apply f_ret Try.results42 hF hM; (repeat (first | exact RL.nil | (apply RL.tmp; exact rfl) | (apply RL.cell; exact rfl; (repeat (first | exact List.mem_cons_self | refine List.mem_cons_of_mem _ ?_)); exact rfl))); refine Ret.mk hM.since ?_; dsimp only [resV])
  rw [Nat.zero_add] at hM ⊢
  exact ⟨_, _, rfl, hM.mem.own⟩
section
variable (xs : List Int) (hxb : ∀ x ∈ xs, 0 ≤ x ∧ x < 256) (hlen : xs.length ≤ 1000000) (a0 : Option Addr) (c0 : Nat) (hc0 : xs.length ≤ c0) (own : Nat → Prop) (W : World) (hl : ∀ b, own b → b < W.heap.size) (hv : Has own W (RdF (Value.int .u8) a0 xs))
include hxb hlen hc0 hl hv
set_option maxRecDepth 20000 in
theorem IntR_ok (he : (rdNum xs).2.1 = 0) : Calls Try.prog 29 ⟨[.slice a0 xs.length c0]⟩ W (Ret W fun v w' => ∃ a' c', v = .tuple #[.int .i64 (rdNum xs).1, .slice a' (xs.drop (rdNum xs).2.2).length c', .int .i64 0] ∧ Owns w' W.heap.size [⟨5, 1, .slice a' (xs.drop (rdNum xs).2.2).length c', (xs.drop (rdNum xs).2.2).length, (xs.drop (rdNum xs).2.2).map (Value.int .u8)⟩]) := by
  have hM := (Mm.start hl).known hv
  have hu := rdN_used 8 0 0 xs he
  rw [show rdN xs 8 0 0 = rdNum xs from rfl] at hu
  obtain ⟨y, hy⟩ := get_of_lt (l := xs) (i := 0) (by omega)
  obtain ⟨ad, rfl⟩ := rd_some hM (by (repeat (first | exact List.mem_cons_self | refine List.mem_cons_of_mem _ ?_))) hy
  refine f_start Try.func29 rfl Try.ntmps29 rfl rfl ?_; intro a hF
  (repeat (first | (with_reducible refine w_seq ?_) | (with_reducible refine c_region ?_) | (with_reducible refine s_nil ?_) | ((with_reducible apply s_call (f := 41) hF hM); exact rfl; exact rfl; exact rfl; exact rfl; exact rfl; exact (numR_c xs hxb hlen (some ad) c0 _ _ hM.lt (hM.facts _ (by (repeat (first | exact List.mem_cons_self | refine List.mem_cons_of_mem _ ?_))))); clear hF hM a; rintro v w a rfl - hM hF) | (with_reducible refine q_then_n ?_) | ((with_reducible apply s_pure hF); exact rfl; exact rfl; exact rfl; (first | exact trivial | omega | decide); clear hF a; intro a hF)))
  rw [he] at hF
  (repeat' (first | (with_reducible refine w_seq ?_) | (with_reducible refine c_region ?_) | (with_reducible refine s_nil ?_) | ((with_reducible apply s_callO (f := 42) hF); exact rfl; exact rfl; exact rfl; exact rfl; exact rfl; exact (restR_c xs hlen ad c0 hc0 _ hu.2.1 _ rfl _ rfl _ _ hM.lt (hM.facts _ (by (repeat (first | exact List.mem_cons_self | refine List.mem_cons_of_mem _ ?_))))); clear hF a; rintro v wn a ⟨a1, c1, rfl, hO⟩ hS hF; replace hM := hM.addRows hS hO; clear hS hO; dsimp only [List.cons_append, List.nil_append] at hM) | (with_reducible refine q_then_n ?_) | ((with_reducible apply s_pure hF); exact rfl; exact rfl; exact rfl; (first | exact trivial | omega | decide); clear hF a; intro a hF) | (with_reducible refine w_skip ?_) | (with_reducible refine w_ret ?_) | ((with_reducible apply c_false hF); exact rfl)))
  (apply f_ret Try.results29 hF hM; (repeat (first | exact RL.nil | (apply RL.tmp; exact rfl) | (apply RL.cell; exact rfl; (repeat (first | exact List.mem_cons_self | refine List.mem_cons_of_mem _ ?_)); exact rfl))); refine Ret.mk hM.since ?_; dsimp only [resV])
  exact ⟨_, _, rfl, hM.mem.own⟩
set_option maxRecDepth 20000 in
theorem IntR_err (he : (rdNum xs).2.1 ≠ 0) : Calls Try.prog 29 ⟨[.slice a0 xs.length c0]⟩ W (Ret W fun v _ => v = .tuple #[.int .i64 0, .slice none 0 0, .int .i64 (rdNum xs).2.1]) := by
  have hM := (Mm.start hl).known hv
  refine f_start Try.func29 rfl Try.ntmps29 rfl rfl ?_; intro a hF
  (repeat' (first | (with_reducible refine w_seq ?_) | (with_reducible refine c_region ?_) | (with_reducible refine s_nil ?_) | ((with_reducible apply s_call (f := 41) hF hM); exact rfl; exact rfl; exact rfl; exact rfl; exact rfl; exact (numR_c xs hxb hlen a0 c0 _ _ hM.lt (hM.facts _ (by (repeat (first | exact List.mem_cons_self | refine List.mem_cons_of_mem _ ?_))))); clear hF hM a; rintro v w a rfl - hM hF) | (with_reducible refine q_then_n ?_) | ((with_reducible apply s_pure hF); exact rfl; exact rfl; exact rfl; (first | exact trivial | omega | decide); clear hF a; intro a hF) | (with_reducible refine w_ret ?_) | (with_reducible refine q_then_r ?_) | ((with_reducible apply c_dec hF); exact rfl; all_goals intro hc; all_goals (try (exfalso; omega)))))
  (apply f_ret Try.results29 hF hM; (repeat (first | exact RL.nil | (apply RL.tmp; exact rfl) | (apply RL.cell; exact rfl; (repeat (first | exact List.mem_cons_self | refine List.mem_cons_of_mem _ ?_)); exact rfl))); refine Ret.mk hM.since ?_; dsimp only [resV])
end
end Go.Proofs.Ythcnnedgfndklaa
