/- The reference of runlength: Decode. -/
import Derived.Test.YthcnnedgfndklaaY4
set_option linter.unusedSimpArgs false
set_option linter.unusedVariables false
set_option linter.unusedSectionVars false
namespace Go.Proofs.Ythcnnedgfndklaa
open Go.RowKit Go.Shelf
theorem sadr_zero (a : Option Addr) (c n : Nat) : sadr a 0 c n = a := by
  unfold sadr
  cases a with
  | none => split <;> rfl
  | some a =>
    split
    · rfl
    · simp only [Option.map_some, Nat.zero_mul]
      rfl
set_option maxRecDepth 20000 in
theorem DecodeR_c (xb : List Int) (hxb : ∀ x ∈ xb, 0 ≤ x ∧ x < 256) (hlen : xb.length ≤ 1000000) (most : Int) (a0 : Option Addr) (c0 : Nat) (hc0 : xb.length ≤ c0) (own : Nat → Prop) (W : World) (hl : ∀ b, own b → b < W.heap.size) (hv : Has own W (RdF (Value.int .u8) a0 xb)) :
    Calls Try.prog 16 ⟨[.slice a0 xb.length c0, .int .i64 most]⟩ W (Ret W (DecR W (dec (mst most) xb))) := by
  have hM := (Mm.start hl).known hv
  obtain ⟨mo, hmo⟩ : ∃ mo : Nat, mst most = mo := ⟨_, rfl⟩
  have hmo2 : max 0 (min most 4096) = (mo : Int) := by unfold mst at hmo; omega
  have hmo3 : mo ≤ 4096 := by omega
  rw [hmo]
  refine f_start Try.func16 rfl Try.ntmps16 rfl rfl ?_; intro a hF
  (repeat (first | (with_reducible refine w_seq ?_) | (with_reducible refine c_region ?_) | (with_reducible refine s_nil ?_) | (with_reducible refine q_then_n ?_) | ((with_reducible apply s_pure hF); exact rfl; exact rfl; exact rfl; (first | exact trivial | omega | decide); clear hF a; intro a hF) | (with_reducible refine w_block ?_)))
  rw [hmo2] at hF
  replace hM := dup0 (hM.nilRow 38 8)
  refine c_loop (m := xb.length) (fun m a w' => ∃ (xs : List Int) (ls : List (List Int)) (a1 : Option Addr) (c1 : Nat) (ov : Value) (n : Nat), xs.length ≤ m ∧ xs.length ≤ xb.length ∧ (∀ x ∈ xs, 0 ≤ x ∧ x < 256) ∧ xs.length ≤ c1 ∧ W8 ls ∧ B8 ls ∧ ls.length ≤ mo ∧ n = ls.length ∧ decF mo xb.length xb [] = decF mo m xs ls ∧
    Fr 95 [] [(6, ov), (7, .slice a1 xs.length c1), (0, .slice a0 xb.length c0), (1, .int .i64 mo)] a ∧
    Mm own W [] [⟨38, 8, ov, n, ls.flatten.map (Value.int .u8)⟩] [RdF (Value.int .u8) a1 xs, RdF (Value.int .u8) a0 xb] w')
    ⟨xb, [], a0, c0, _, 0, Nat.le_refl _, Nat.le_refl _, hxb, hc0, (by intro y hy; cases hy), (by intro y hy; cases hy), Nat.zero_le _, rfl, rfl, hF.sub (by repeat (first | exact Sub.nil | refine Sub.cons rfl (by first | with_reducible rfl | (refine congrArg (Value.int _) ?_; omega) | exact rfl) ?_)), hM⟩ ?_
  clear hF hM a
  rintro m a w' ⟨xs, ls, a1, c1, ov, n, hm, hxl, hxb1, hc1, hls, hlB, hlm, hn, hdec, hF, hM⟩
  obtain ⟨ao, co, rfl⟩ : ∃ ao co, ov = .slice ao n co := by
    rcases (hM.mem.own.own _ List.mem_cons_self).2 with ⟨h1, h2⟩ | ⟨g, cap, cur, h1, _⟩
    · exact ⟨none, 0, by rw [show n = 0 from h2]; exact h1⟩
    · exact ⟨_, _, h1⟩
  by_cases h0 : xs.length = 0
  · rw [decF_nil h0] at hdec
    have hD := dec_ok hdec
    subst hn
    have hcap := row_capB hM List.mem_cons_self
    have hencb := enc_bytes hlB
    (repeat' (first | (with_reducible refine w_seq ?_) | (with_reducible refine c_region ?_) | (with_reducible refine s_nil ?_) | ((with_reducible apply s_callO (f := 13) hF); exact rfl; exact rfl; exact rfl; exact rfl; exact rfl; exact (EncodeR_c ls hls (by omega) ao co hcap own _ (fun b h => hM.lt b (.inl h)) (hM.rowF List.mem_cons_self)); clear hF a; rintro v wn a ⟨a2, c2, rfl, hO⟩ hS hF; replace hM := hM.addRows hS hO; clear hS hO; dsimp only [List.cons_append, List.nil_append] at hM) | ((with_reducible apply s_call (f := 30) hF hM); exact rfl; exact rfl; exact rfl; exact rfl; exact rfl; exact (sameR_c (enc ls) xb hencb hxb a2 a0 _ _ c2 c0 rfl rfl own _ (fun b h => hM.lt b (.inl h)) (hM.rowF List.mem_cons_self) ((hM.facts (RdF (Value.int .u8) a0 xb) (by (repeat (first | exact List.mem_cons_self | refine List.mem_cons_of_mem _ ?_)))).own_eq (fun _ h => .inl h))); clear hF hM a; rintro v w a rfl - hM hF) | (with_reducible refine q_then_n ?_) | ((with_reducible apply s_pure hF); exact rfl; exact rfl; exact rfl; (first | exact trivial | omega | decide); clear hF a; intro a hF) | (with_reducible refine w_skip ?_) | (with_reducible refine w_exit ?_) | (with_reducible refine w_ret ?_) | (with_reducible refine q_then_x ?_) | (with_reducible refine q_then_r ?_) | (with_reducible refine q_blk_x ?_) | ((with_reducible apply c_dec hF); exact rfl; all_goals intro hc; all_goals (try (exfalso; omega))) | ((with_reducible apply c_ndec hF); exact rfl; all_goals intro hc; all_goals (try (exfalso; omega)))))
    · have hne : enc ls ≠ xb := by assumption
      rw [if_neg hne] at hD
      rw [hD]
      (apply f_ret Try.results16 hF hM; (repeat (first | exact RL.nil | (apply RL.tmp; exact rfl) | (apply RL.cell; exact rfl; (repeat (first | exact List.mem_cons_self | refine List.mem_cons_of_mem _ ?_)); exact rfl))); refine Ret.mk hM.since ?_; dsimp only [resV])
      exact rfl
    · have he : enc ls = xb := by assumption
      rw [if_pos he] at hD
      rw [hD]
      (apply f_ret Try.results16 hF hM; (repeat (first | exact RL.nil | (apply RL.tmp; exact rfl) | (apply RL.cell; exact rfl; (repeat (first | exact List.mem_cons_self | refine List.mem_cons_of_mem _ ?_)); exact rfl))); refine Ret.mk hM.since ?_; dsimp only [resV])
      exact ⟨ao, co, rfl, (hM.sub (.refl _) (.cons _ (.refl _)) (fun _ h => h)).mem.own⟩
  obtain ⟨m, rfl⟩ : ∃ m', m = m' + 1 := ⟨m - 1, by omega⟩
  (repeat (first | (with_reducible refine w_seq ?_) | (with_reducible refine c_region ?_) | (with_reducible refine s_nil ?_) | (with_reducible refine q_then_n ?_) | ((with_reducible apply s_pure hF); exact rfl; exact rfl; exact rfl; (first | exact trivial | omega | decide); clear hF a; intro a hF)))
  rw [decide_eq_true (show (0 : Int) < (xs.length : Int) by omega)] at hF
  by_cases he : (rdNum xs).2.1 = 0
  case neg =>
    have hg : grpD mo xs ls = .error (rdNum xs).2.1 := by unfold grpD; rw [if_pos he]
    rw [decF_err h0 hg] at hdec
    rw [dec_err hdec]
    (repeat' (first | (with_reducible refine w_seq ?_) | (with_reducible refine c_region ?_) | (with_reducible refine s_nil ?_) | ((with_reducible apply s_call (f := 29) hF hM); exact rfl; exact rfl; exact rfl; exact rfl; exact rfl; exact (IntR_err xs hxb1 (by omega) a1 c1 hc1 _ _ hM.lt (hM.facts _ (by (repeat (first | exact List.mem_cons_self | refine List.mem_cons_of_mem _ ?_)))) he); clear hF hM a; rintro v w a rfl - hM hF) | (with_reducible refine q_then_n ?_) | ((with_reducible apply s_pure hF); exact rfl; exact rfl; exact rfl; (first | exact trivial | omega | decide); clear hF a; intro a hF) | (with_reducible refine w_skip ?_) | (with_reducible refine w_block ?_) | (with_reducible refine w_ret ?_) | (with_reducible refine q_then_r ?_) | (with_reducible refine q_blk_r ?_) | ((with_reducible apply c_true hF); exact rfl) | ((with_reducible apply c_dec hF); exact rfl; all_goals intro hc; all_goals (try (exfalso; omega)))))
    (apply f_ret Try.results16 hF hM; (repeat (first | exact RL.nil | (apply RL.tmp; exact rfl) | (apply RL.cell; exact rfl; (repeat (first | exact List.mem_cons_self | refine List.mem_cons_of_mem _ ?_)); exact rfl))); refine Ret.mk hM.since ?_; dsimp only [resV])
    exact rfl
  obtain ⟨N, hN⟩ : ∃ N : Nat, (rdNum xs).1 = N := ⟨(rdNum xs).1.toNat, by have := (rdN_nn 8 0 0 xs (by omega) hxb1).1; unfold rdNum; omega⟩
  have hNb : N ≤ 9007199254740991 := by have := (rdN_nn 8 0 0 xs (by omega) hxb1).2; unfold rdNum at hN; omega
  have hD : grpD mo xs ls = (if 2 < N % 4 ∨ N / 4 = 0 then .error 3
      else if (mo : Int) - ls.length < (N / 4 : Nat) then .error 5
      else if N % 4 = 0 then (if (xs.drop (rdNum xs).2.2).length < 8 * (N / 4) then .error 10 else .ok ((xs.drop (rdNum xs).2.2).drop (8 * (N / 4)), ls ++ chunks (N / 4) (xs.drop (rdNum xs).2.2)))
      else if N % 4 = 1 then (if (xs.drop (rdNum xs).2.2).length < 8 then .error 10 else .ok ((xs.drop (rdNum xs).2.2).drop 8, ls ++ List.replicate (N / 4) ((xs.drop (rdNum xs).2.2).take 8)))
      else .ok (xs.drop (rdNum xs).2.2, ls ++ List.replicate (N / 4) zr)) := by
    unfold grpD
    rw [if_neg (by simp [he]), hN, Int.toNat_natCast]
  have hu := rdN_used 8 0 0 xs he
  rw [show rdN xs 8 0 0 = rdNum xs from rfl] at hu
  (repeat (first | (with_reducible refine w_seq ?_) | (with_reducible refine c_region ?_) | (with_reducible refine s_nil ?_) | ((with_reducible apply s_callO (f := 29) hF); exact rfl; exact rfl; exact rfl; exact rfl; exact rfl; exact (IntR_ok xs hxb1 (by omega) a1 c1 hc1 own _ (fun b h => hM.lt b (.inl h)) ((hM.facts (RdF (Value.int .u8) a1 xs) (by (repeat (first | exact List.mem_cons_self | refine List.mem_cons_of_mem _ ?_)))).own_eq (fun _ h => .inl h)) he); clear hF a; rintro v wn a ⟨a2, c2, rfl, hO⟩ hS hF; replace hM := hM.addRows hS hO; clear hS hO; dsimp only [List.cons_append, List.nil_append] at hM; rw [hN] at hF) | (with_reducible refine q_then_n ?_) | ((with_reducible apply s_pure hF); exact rfl; exact rfl; exact rfl; (first | exact trivial | omega | decide); clear hF a; intro a hF) | (with_reducible refine w_skip ?_) | (with_reducible refine w_block ?_) | ((with_reducible apply c_true hF); exact rfl) | ((with_reducible apply c_false hF); exact rfl)))
  have hc2 := row_capB hM List.mem_cons_self
  replace hM := hM.freezeN
  rw [show (N : Int) % 4 = ((N % 4 : Nat) : Int) by omega, show (N : Int) / 4 = ((N / 4 : Nat) : Int) by omega] at hF
  have hyl : (xs.drop (rdNum xs).2.2).length < xs.length := by rw [List.length_drop]; omega
  have hyb : ∀ y ∈ xs.drop (rdNum xs).2.2, 0 ≤ y ∧ y < 256 := fun y hy => hxb1 y (List.mem_of_mem_drop hy)
  have hM2 := hM.sub (Fs' := [RdF (Value.int .u8) a2 (xs.drop (rdNum xs).2.2), RdF (Value.int .u8) a0 xb]) (.refl _) (.refl _) (by intro f hf; simp only [List.mem_cons, List.not_mem_nil, or_false] at hf; (repeat (rcases hf with rfl | hf; · (repeat (first | exact List.mem_cons_self | refine List.mem_cons_of_mem _ ?_)))); try (subst hf; (repeat (first | exact List.mem_cons_self | refine List.mem_cons_of_mem _ ?_))))
  clear hM
  have hM := hM2
  clear hM2
  have hdecE : ∀ e, grpD mo xs ls = .error e → dec mo xb = .error e := fun e h => by rw [decF_err h0 h] at hdec; exact dec_err hdec
  have hdecO : ∀ zs ls', grpD mo xs ls = .ok (zs, ls') → decF mo xb.length xb [] = decF mo m zs ls' := fun zs ls' h => by rw [decF_ok h0 h] at hdec; exact hdec
  have hgo : ∀ zs ls', grpD mo xs ls = .ok (zs, ls') → zs.length < xs.length ∧ ls'.length ≤ mo ∧ W8 ls' ∧ B8 ls' ∧ ∀ x ∈ zs, 0 ≤ x ∧ x < 256 := fun zs ls' h => by
    obtain ⟨k, hk1, hk2, rfl, hk4, hk5, hk6, hk7⟩ := grpD_ok h
    exact ⟨by rw [List.length_drop]; omega, hk4, hk6 hls, hk7 hxb1 hlB, fun x hx => hxb1 x (List.mem_of_mem_drop hx)⟩
  clear hdec
  generalize xs.drop (rdNum xs).2.2 = ys at *
  have hNn : N / 4 ≤ N := Nat.div_le_self _ _
  have hk4 : N % 4 < 4 := Nat.mod_lt _ (by decide)
  generalize hkd : N % 4 = kd at *
  generalize hcn : N / 4 = cn at *
  (repeat' (first | (with_reducible refine w_seq ?_) | (with_reducible refine c_region ?_) | (with_reducible refine s_nil ?_) | (with_reducible refine q_then_n ?_) | ((with_reducible apply s_pure hF); exact rfl; exact rfl; exact rfl; (first | exact trivial | omega | decide); clear hF a; intro a hF) | (with_reducible refine w_skip ?_) | (with_reducible refine w_block ?_) | (with_reducible refine w_ret ?_) | (with_reducible refine q_then_r ?_) | (with_reducible refine q_blk_n ?_) | (with_reducible refine q_blk_r ?_) | ((with_reducible apply c_true hF); exact rfl) | ((with_reducible apply c_false hF); exact rfl) | ((with_reducible apply s_skip hF); exact rfl; exact rfl; clear hF a; intro a hF) | ((with_reducible apply g_dec hF); exact rfl; exact rfl; all_goals (clear hF; intro hc hF); all_goals (try (exfalso; omega))) | ((with_reducible apply c_dec hF); exact rfl; all_goals intro hc; all_goals (try (exfalso; omega)))))
  · rw [if_pos (.inl (by omega))] at hD
    rw [hdecE _ hD]
    (apply f_ret Try.results16 hF hM; (repeat (first | exact RL.nil | (apply RL.tmp; exact rfl) | (apply RL.cell; exact rfl; (repeat (first | exact List.mem_cons_self | refine List.mem_cons_of_mem _ ?_)); exact rfl))); refine Ret.mk hM.since ?_; dsimp only [resV])
    exact rfl
  · rw [if_pos (.inr (by omega))] at hD
    rw [hdecE _ hD]
    (apply f_ret Try.results16 hF hM; (repeat (first | exact RL.nil | (apply RL.tmp; exact rfl) | (apply RL.cell; exact rfl; (repeat (first | exact List.mem_cons_self | refine List.mem_cons_of_mem _ ?_)); exact rfl))); refine Ret.mk hM.since ?_; dsimp only [resV])
    exact rfl
  · rw [if_neg (by omega), if_pos (by omega)] at hD
    rw [hdecE _ hD]
    (apply f_ret Try.results16 hF hM; (repeat (first | exact RL.nil | (apply RL.tmp; exact rfl) | (apply RL.cell; exact rfl; (repeat (first | exact List.mem_cons_self | refine List.mem_cons_of_mem _ ?_)); exact rfl))); refine Ret.mk hM.since ?_; dsimp only [resV])
    exact rfl
  · rw [if_neg (by omega), if_neg (by omega), if_pos (by omega), if_pos (by omega)] at hD
    rw [hdecE _ hD]
    (apply f_ret Try.results16 hF hM; (repeat (first | exact RL.nil | (apply RL.tmp; exact rfl) | (apply RL.cell; exact rfl; (repeat (first | exact List.mem_cons_self | refine List.mem_cons_of_mem _ ?_)); exact rfl))); refine Ret.mk hM.since ?_; dsimp only [resV])
    exact rfl
  · rw [if_neg (by omega), if_neg (by omega), if_pos (by omega), if_neg (by omega)] at hD
    obtain ⟨g1, g2, g3, g4, g5⟩ := hgo _ _ hD
    have hdO := hdecO _ _ hD
    refine c_loop (m := cn) (fun mm a w' => ∃ (j : Nat) (ov : Value) (n2 : Nat), mm + j = cn ∧ n2 = ls.length + j ∧
      Fr 95 [] [(14, .int .i64 j), (13, .int .i64 cn), (12, .int .i64 kd), (11, .int .i64 cn), (9, .slice a2 ys.length c2), (6, ov), (0, .slice a0 xb.length c0), (1, .int .i64 mo)] a ∧
      Mm own W [] [⟨38, 8, ov, n2, (ls ++ chunks j ys).flatten.map (Value.int .u8)⟩] [RdF (Value.int .u8) a2 ys, RdF (Value.int .u8) a0 xb] w')
      ⟨0, _, n, by omega, by omega, hF.sub (by repeat (first | exact Sub.nil | refine Sub.cons rfl (by first | with_reducible rfl | (refine congrArg (Value.int _) ?_; omega) | exact rfl) ?_)), by simp only [chunks, List.replicate_zero, List.append_nil]; exact hM⟩ ?_
    clear hF hM a
    rintro mm a w' ⟨j, ov, n2, hmm, hn2, hF, hM⟩
    obtain ⟨ao, co, rfl⟩ : ∃ ao co, ov = .slice ao n2 co := by
      rcases (hM.mem.own.own _ List.mem_cons_self).2 with ⟨h1, h2⟩ | ⟨g, cap, cur, h1, _⟩
      · exact ⟨none, 0, by rw [show n2 = 0 from h2]; exact h1⟩
      · exact ⟨_, _, h1⟩
    by_cases hj : j < cn
    · obtain ⟨y0, hy0⟩ := get_of_lt (l := ys) (i := 0) (by omega)
      obtain ⟨ad, rfl⟩ := rd_some hM (enc := Value.int .u8) (a := a2) (xs := ys) (by (repeat (first | exact List.mem_cons_self | refine List.mem_cons_of_mem _ ?_))) hy0
      have hch := chunks_succ j ys
      replace hM := hM.addFact (RdF.take (RdF.drop (hM.facts (RdF (Value.int .u8) (some ad) ys) (by (repeat (first | exact List.mem_cons_self | refine List.mem_cons_of_mem _ ?_)))) (8 * j) c2 hc2) 8)
      have hs8 : ((ys.drop (8 * j)).take 8).length = 8 := by rw [List.length_take]; rw [List.length_drop]; omega
      generalize (ys.drop (8 * j)).take 8 = s at *
      obtain ⟨x0, x1, x2, x3, x4, x5, x6, x7, rfl⟩ := len8 hs8
      (repeat' (first | (with_reducible refine w_seq ?_) | (with_reducible refine c_region ?_) | (with_reducible refine s_nil ?_) | (with_reducible refine q_then_n ?_) | ((with_reducible apply s_pure hF); exact rfl; exact rfl; exact rfl; (first | exact trivial | omega | decide); clear hF a; intro a hF) | ((with_reducible apply s_alloc hF hM); exact rfl; exact rfl; exact rfl; clear hF hM a; intro b w a hM hF) | (with_reducible refine w_skip ?_) | (with_reducible refine w_block ?_) | ((with_reducible apply c_dec hF); exact rfl; all_goals intro hc; all_goals (try (exfalso; omega)))))
      refine c_drawS (fun i => Nat.ble 9 i) (fun x hx => List.mem_cons_of_mem _ (hx)) hM ?_; clear hM; intro w hM
      (first | (apply t_arrSl (i := 0) hF rfl rfl rfl rfl rfl; kernel_rfl; exact (hM.sm.sub (fun x hx => by repeat (first | exact hx | refine List.mem_cons_of_mem _ ?_)) (fun _ h => by repeat (first | exact h | refine List.mem_cons_of_mem _ ?_))); exact (fun _ _ _ h => h); clear hF a; intro a hF))
      (first | (refine t_pure (i := 1) hF rfl rfl rfl rfl (by kernel_rfl) (hM.sm.sub (fun x hx => by repeat (first | exact hx | refine List.mem_cons_of_mem _ ?_)) (fun _ h => by repeat (first | exact h | refine List.mem_cons_of_mem _ ?_))) (fun _ _ _ h => h) ?_ ?_; (first | exact trivial | omega | decide); clear hF a; intro a hF))
      (first | (refine t_pure (i := 2) hF rfl rfl rfl rfl (by kernel_rfl) (hM.sm.sub (fun x hx => by repeat (first | exact hx | refine List.mem_cons_of_mem _ ?_)) (fun _ h => by repeat (first | exact h | refine List.mem_cons_of_mem _ ?_))) (fun _ _ _ h => h) ?_ ?_; (first | exact trivial | omega | decide); clear hF a; intro a hF))
      (first | (refine t_pure (i := 3) hF rfl rfl rfl rfl (by kernel_rfl) (hM.sm.sub (fun x hx => by repeat (first | exact hx | refine List.mem_cons_of_mem _ ?_)) (fun _ h => by repeat (first | exact h | refine List.mem_cons_of_mem _ ?_))) (fun _ _ _ h => h) ?_ ?_; (first | exact trivial | omega | decide); clear hF a; intro a hF))
      (first | (refine t_pure (i := 4) hF rfl rfl rfl rfl (by kernel_rfl) (hM.sm.sub (fun x hx => by repeat (first | exact hx | refine List.mem_cons_of_mem _ ?_)) (fun _ h => by repeat (first | exact h | refine List.mem_cons_of_mem _ ?_))) (fun _ _ _ h => h) ?_ ?_; (first | exact trivial | omega | decide); clear hF a; intro a hF))
      (first | (refine t_pure (i := 5) hF rfl rfl rfl rfl (by kernel_rfl) (hM.sm.sub (fun x hx => by repeat (first | exact hx | refine List.mem_cons_of_mem _ ?_)) (fun _ h => by repeat (first | exact h | refine List.mem_cons_of_mem _ ?_))) (fun _ _ _ h => h) ?_ ?_; (first | exact trivial | omega | decide); clear hF a; intro a hF))
      (first | (refine t_pure (i := 6) hF rfl rfl rfl rfl (by kernel_rfl) (hM.sm.sub (fun x hx => by repeat (first | exact hx | refine List.mem_cons_of_mem _ ?_)) (fun _ h => by repeat (first | exact h | refine List.mem_cons_of_mem _ ?_))) (fun _ _ _ h => h) ?_ ?_; (first | exact trivial | omega | decide); clear hF a; intro a hF))
      (first | (refine t_pure (i := 7) hF rfl rfl rfl rfl (by kernel_rfl) (hM.sm.sub (fun x hx => by repeat (first | exact hx | refine List.mem_cons_of_mem _ ?_)) (fun _ h => by repeat (first | exact h | refine List.mem_cons_of_mem _ ?_))) (fun _ _ _ h => h) ?_ ?_; (first | exact trivial | omega | decide); clear hF a; intro a hF))
      replace hF := Fr.same (t := 73) (u := .slice (sadr (some ad) (8 * j) c2 1) 8 (c2 - 8 * j)) hF rfl (by rw [show ((j : Int) * 8).toNat = 8 * j by omega, show (((j : Int) + 1) * 8).toNat - 8 * j = 8 by omega])
      refine t_one (i := 8) hF rfl (by kernel_rfl) rfl ?_
      intro K hK
      (refine e_copyB hF hM (enc := Value.int .u8) (q := 8) (k := 8) (cs' := [.int .u8 x0, .int .u8 x1, .int .u8 x2, .int .u8 x3, .int .u8 x4, .int .u8 x5, .int .u8 x6, .int .u8 x7]) rfl rfl (by (repeat (first | exact List.mem_cons_self | refine List.mem_cons_of_mem _ ?_))) rfl (fun _ => rfl) .z rfl rfl rfl rfl ?_; clear hM; intro w hM; replace hF := hF.put (d := 74) rfl (.int .i64 ((8 : Nat) : Int)); generalize a.put (some 74) _ = a at *)
      refine hK _ _ (fun _ => (hM.sm.sub (fun x hx => by repeat (first | exact hx | refine List.mem_cons_of_mem _ ?_)) (fun _ h => by repeat (first | exact h | refine List.mem_cons_of_mem _ ?_)))) ?_; clear hK
      refine t_done (by kernel_rfl) ?_
      (repeat' (first | (with_reducible refine w_seq ?_) | (with_reducible refine c_region ?_) | (with_reducible refine s_nil ?_) | (with_reducible refine q_then_n ?_) | ((with_reducible apply s_pure hF); exact rfl; exact rfl; exact rfl; (first | exact trivial | omega | decide); clear hF a; intro a hF) | ((with_reducible apply s_load hF hM); exact rfl; exact rfl; (repeat (first | exact List.mem_cons_self | refine List.mem_cons_of_mem _ ?_)); exact rfl; exact rfl; clear hF a; intro a hF) | ((with_reducible apply s_lit hF hM); exact rfl; exact rfl; exact rfl; exact rfl; clear hF hM a; intro bl w a hM hF) | ((with_reducible apply s_app hF hM); exact rfl; exact rfl; exact rfl; exact rfl; (repeat (first | exact Kth.z | apply Kth.s)); exact rfl; exact rfl; exact rfl; exact rfl; omega; clear hF hM a; intro g cap w a hM hF; dsimp only [List.set] at hM) | (with_reducible refine w_skip ?_) | (with_reducible refine q_blk_n ?_) | ((with_reducible apply c_dec hF); exact rfl; all_goals intro hc; all_goals (try (exfalso; omega)))))
      refine ⟨mm - 1, by omega, j + 1, .slice (some ⟨g, 0, none⟩) (n2 + 1) cap, n2 + 1, by omega, by omega, hF.sub (by repeat (first | exact Sub.nil | refine Sub.cons rfl (by first | with_reducible rfl | (refine congrArg (Value.int _) ?_; omega) | exact rfl) ?_)), ?_⟩
      rw [hch, ← List.append_assoc, List.flatten_append, List.map_append]
      exact hM.sub (.cons _ (.refl _)) (.refl _) (by intro f hf; simp only [List.mem_cons, List.not_mem_nil, or_false] at hf; (repeat (rcases hf with rfl | hf; · (repeat (first | exact List.mem_cons_self | refine List.mem_cons_of_mem _ ?_)))); try (subst hf; (repeat (first | exact List.mem_cons_self | refine List.mem_cons_of_mem _ ?_))))
    · obtain rfl : j = cn := by omega
      (repeat' (first | (with_reducible refine w_seq ?_) | (with_reducible refine c_region ?_) | (with_reducible refine s_nil ?_) | (with_reducible refine q_then_n ?_) | ((with_reducible apply s_pure hF); exact rfl; exact rfl; exact rfl; (first | exact trivial | omega | decide); clear hF a; intro a hF) | (with_reducible refine w_exit ?_) | (with_reducible refine q_then_x ?_) | (with_reducible refine q_blk_n ?_) | (with_reducible refine q_blk_x ?_) | ((with_reducible apply c_dec hF); exact rfl; all_goals intro hc; all_goals (try (exfalso; omega)))))
      obtain ⟨y0, hy0⟩ := get_of_lt (l := ys) (i := 0) (by omega)
      obtain ⟨ad, rfl⟩ := rd_some hM (enc := Value.int .u8) (a := a2) (xs := ys) (by (repeat (first | exact List.mem_cons_self | refine List.mem_cons_of_mem _ ?_))) hy0
      replace hM := hM.addFact (RdF.drop (hM.facts (RdF (Value.int .u8) (some ad) ys) (by (repeat (first | exact List.mem_cons_self | refine List.mem_cons_of_mem _ ?_)))) (8 * j) c2 hc2)
      have hdl := List.length_drop (i := 8 * j) (l := ys)
      rw [show ((j : Int) * 8).toNat = 8 * j by omega, show ((ys.length : Nat) : Int).toNat - 8 * j = (ys.drop (8 * j)).length by omega] at hF
      exact ⟨m, by omega, ys.drop (8 * j), _, sadr (some ad) (8 * j) c2 1, c2 - (8 * j), _, n2, by omega, by omega, g5, by omega, g3, g4, g2, by rw [List.length_append, chunks_len]; omega, hdO, hF.sub (by repeat (first | exact Sub.nil | refine Sub.cons rfl (by first | with_reducible rfl | (refine congrArg (Value.int _) ?_; omega) | exact rfl) ?_)), hM.sub (.refl _) (.refl _) (by intro f hf; simp only [List.mem_cons, List.not_mem_nil, or_false] at hf; (repeat (rcases hf with rfl | hf; · (repeat (first | exact List.mem_cons_self | refine List.mem_cons_of_mem _ ?_)))); try (subst hf; (repeat (first | exact List.mem_cons_self | refine List.mem_cons_of_mem _ ?_))))⟩
  · rw [if_neg (by omega), if_neg (by omega), if_neg (by omega), if_pos (by omega), if_pos (by omega)] at hD
    rw [hdecE _ hD]
    (apply f_ret Try.results16 hF hM; (repeat (first | exact RL.nil | (apply RL.tmp; exact rfl) | (apply RL.cell; exact rfl; (repeat (first | exact List.mem_cons_self | refine List.mem_cons_of_mem _ ?_)); exact rfl))); refine Ret.mk hM.since ?_; dsimp only [resV])
    exact rfl
  · rw [if_neg (by omega), if_neg (by omega), if_neg (by omega), if_pos (by omega), if_neg (by omega)] at hD
    obtain ⟨g1, g2, g3, g4, g5⟩ := hgo _ _ hD
    have hdO := hdecO _ _ hD
    refine c_loop (m := cn) (fun mm a w' => ∃ (j : Nat) (ov : Value) (n2 : Nat), mm + j = cn ∧ n2 = ls.length + j ∧
      Fr 95 [] [(14, .int .i64 j), (13, .int .i64 1), (12, .int .i64 kd), (11, .int .i64 cn), (9, .slice a2 ys.length c2), (6, ov), (0, .slice a0 xb.length c0), (1, .int .i64 mo)] a ∧
      Mm own W [] [⟨38, 8, ov, n2, (ls ++ List.replicate j (ys.take 8)).flatten.map (Value.int .u8)⟩] [RdF (Value.int .u8) a2 ys, RdF (Value.int .u8) a0 xb] w')
      ⟨0, _, n, by omega, by omega, hF.sub (by repeat (first | exact Sub.nil | refine Sub.cons rfl (by first | with_reducible rfl | (refine congrArg (Value.int _) ?_; omega) | exact rfl) ?_)), by simp only [chunks, List.replicate_zero, List.append_nil]; exact hM⟩ ?_
    clear hF hM a
    rintro mm a w' ⟨j, ov, n2, hmm, hn2, hF, hM⟩
    obtain ⟨ao, co, rfl⟩ : ∃ ao co, ov = .slice ao n2 co := by
      rcases (hM.mem.own.own _ List.mem_cons_self).2 with ⟨h1, h2⟩ | ⟨g, cap, cur, h1, _⟩
      · exact ⟨none, 0, by rw [show n2 = 0 from h2]; exact h1⟩
      · exact ⟨_, _, h1⟩
    by_cases hj : j < cn
    · obtain ⟨y0, hy0⟩ := get_of_lt (l := ys) (i := 0) (by omega)
      obtain ⟨ad, rfl⟩ := rd_some hM (enc := Value.int .u8) (a := a2) (xs := ys) (by (repeat (first | exact List.mem_cons_self | refine List.mem_cons_of_mem _ ?_))) hy0
      have hch : List.replicate (j + 1) (ys.take 8) = List.replicate j (ys.take 8) ++ [ys.take 8] := List.replicate_succ'
      replace hM := hM.addFact (RdF.take (hM.facts (RdF (Value.int .u8) (some ad) ys) (by (repeat (first | exact List.mem_cons_self | refine List.mem_cons_of_mem _ ?_)))) 8)
      have hs8 : (ys.take 8).length = 8 := by rw [List.length_take]; omega
      generalize List.take 8 ys = s at *
      obtain ⟨x0, x1, x2, x3, x4, x5, x6, x7, rfl⟩ := len8 hs8
      (repeat' (first | (with_reducible refine w_seq ?_) | (with_reducible refine c_region ?_) | (with_reducible refine s_nil ?_) | (with_reducible refine q_then_n ?_) | ((with_reducible apply s_pure hF); exact rfl; exact rfl; exact rfl; (first | exact trivial | omega | decide); clear hF a; intro a hF) | ((with_reducible apply s_alloc hF hM); exact rfl; exact rfl; exact rfl; clear hF hM a; intro b w a hM hF) | (with_reducible refine w_skip ?_) | (with_reducible refine w_block ?_) | ((with_reducible apply c_dec hF); exact rfl; all_goals intro hc; all_goals (try (exfalso; omega)))))
      refine c_drawS (fun i => Nat.ble 4 i) (fun x hx => List.mem_cons_of_mem _ (hx)) hM ?_; clear hM; intro w hM
      (first | (apply t_arrSl (i := 0) hF rfl rfl rfl rfl rfl; kernel_rfl; exact (hM.sm.sub (fun x hx => by repeat (first | exact hx | refine List.mem_cons_of_mem _ ?_)) (fun _ h => by repeat (first | exact h | refine List.mem_cons_of_mem _ ?_))); exact (fun _ _ _ h => h); clear hF a; intro a hF))
      (first | (refine t_pure (i := 1) hF rfl rfl rfl rfl (by kernel_rfl) (hM.sm.sub (fun x hx => by repeat (first | exact hx | refine List.mem_cons_of_mem _ ?_)) (fun _ h => by repeat (first | exact h | refine List.mem_cons_of_mem _ ?_))) (fun _ _ _ h => h) ?_ ?_; (first | exact trivial | omega | decide); clear hF a; intro a hF))
      (first | (refine t_pure (i := 2) hF rfl rfl rfl rfl (by kernel_rfl) (hM.sm.sub (fun x hx => by repeat (first | exact hx | refine List.mem_cons_of_mem _ ?_)) (fun _ h => by repeat (first | exact h | refine List.mem_cons_of_mem _ ?_))) (fun _ _ _ h => h) ?_ ?_; (first | exact trivial | omega | decide); clear hF a; intro a hF))
      replace hF := Fr.same (t := 79) (u := .slice (some ad) 8 (c2 - 0)) hF rfl (by rw [show (0 : Int).toNat = 0 from rfl, sadr_zero]; rfl)
      refine t_one (i := 3) hF rfl (by kernel_rfl) rfl ?_
      intro K hK
      (refine e_copyB hF hM (enc := Value.int .u8) (q := 8) (k := 8) (cs' := [.int .u8 x0, .int .u8 x1, .int .u8 x2, .int .u8 x3, .int .u8 x4, .int .u8 x5, .int .u8 x6, .int .u8 x7]) rfl rfl (by (repeat (first | exact List.mem_cons_self | refine List.mem_cons_of_mem _ ?_))) rfl (fun _ => rfl) .z rfl rfl rfl rfl ?_; clear hM; intro w hM; replace hF := hF.put (d := 80) rfl (.int .i64 ((8 : Nat) : Int)); generalize a.put (some 80) _ = a at *)
      refine hK _ _ (fun _ => (hM.sm.sub (fun x hx => by repeat (first | exact hx | refine List.mem_cons_of_mem _ ?_)) (fun _ h => by repeat (first | exact h | refine List.mem_cons_of_mem _ ?_)))) ?_; clear hK
      refine t_done (by kernel_rfl) ?_
      (repeat' (first | (with_reducible refine c_region ?_) | (with_reducible refine s_nil ?_) | (with_reducible refine q_then_n ?_) | ((with_reducible apply s_pure hF); exact rfl; exact rfl; exact rfl; (first | exact trivial | omega | decide); clear hF a; intro a hF) | ((with_reducible apply s_load hF hM); exact rfl; exact rfl; (repeat (first | exact List.mem_cons_self | refine List.mem_cons_of_mem _ ?_)); exact rfl; exact rfl; clear hF a; intro a hF) | ((with_reducible apply s_lit hF hM); exact rfl; exact rfl; exact rfl; exact rfl; clear hF hM a; intro bl w a hM hF) | ((with_reducible apply s_app hF hM); exact rfl; exact rfl; exact rfl; exact rfl; (repeat (first | exact Kth.z | apply Kth.s)); exact rfl; exact rfl; exact rfl; exact rfl; omega; clear hF hM a; intro g cap w a hM hF; dsimp only [List.set] at hM) | (with_reducible refine q_blk_n ?_)))
      refine ⟨mm - 1, by omega, j + 1, .slice (some ⟨g, 0, none⟩) (n2 + 1) cap, n2 + 1, by omega, by omega, hF.sub (by repeat (first | exact Sub.nil | refine Sub.cons rfl (by first | with_reducible rfl | (refine congrArg (Value.int _) ?_; omega) | exact rfl) ?_)), ?_⟩
      rw [hch, ← List.append_assoc, List.flatten_append, List.map_append]
      exact hM.sub (.cons _ (.refl _)) (.refl _) (by intro f hf; simp only [List.mem_cons, List.not_mem_nil, or_false] at hf; (repeat (rcases hf with rfl | hf; · (repeat (first | exact List.mem_cons_self | refine List.mem_cons_of_mem _ ?_)))); try (subst hf; (repeat (first | exact List.mem_cons_self | refine List.mem_cons_of_mem _ ?_))))
    · obtain rfl : j = cn := by omega
      (repeat' (first | (with_reducible refine w_seq ?_) | (with_reducible refine c_region ?_) | (with_reducible refine s_nil ?_) | (with_reducible refine q_then_n ?_) | ((with_reducible apply s_pure hF); exact rfl; exact rfl; exact rfl; (first | exact trivial | omega | decide); clear hF a; intro a hF) | (with_reducible refine w_exit ?_) | (with_reducible refine q_then_x ?_) | (with_reducible refine q_blk_n ?_) | (with_reducible refine q_blk_x ?_) | ((with_reducible apply c_dec hF); exact rfl; all_goals intro hc; all_goals (try (exfalso; omega)))))
      obtain ⟨y0, hy0⟩ := get_of_lt (l := ys) (i := 0) (by omega)
      obtain ⟨ad, rfl⟩ := rd_some hM (enc := Value.int .u8) (a := a2) (xs := ys) (by (repeat (first | exact List.mem_cons_self | refine List.mem_cons_of_mem _ ?_))) hy0
      replace hM := hM.addFact (RdF.drop (hM.facts (RdF (Value.int .u8) (some ad) ys) (by (repeat (first | exact List.mem_cons_self | refine List.mem_cons_of_mem _ ?_)))) (8) c2 hc2)
      have hdl := List.length_drop (i := 8) (l := ys)
      rw [show ((1 : Int) * 8).toNat = 8 from rfl, show ((ys.length : Nat) : Int).toNat - 8 = (ys.drop (8)).length by omega] at hF
      exact ⟨m, by omega, ys.drop (8), _, sadr (some ad) (8) c2 1, c2 - 8, _, n2, by omega, by omega, g5, by omega, g3, g4, g2, by rw [List.length_append, List.length_replicate]; omega, hdO, hF.sub (by repeat (first | exact Sub.nil | refine Sub.cons rfl (by first | with_reducible rfl | (refine congrArg (Value.int _) ?_; omega) | exact rfl) ?_)), hM.sub (.refl _) (.refl _) (by intro f hf; simp only [List.mem_cons, List.not_mem_nil, or_false] at hf; (repeat (rcases hf with rfl | hf; · (repeat (first | exact List.mem_cons_self | refine List.mem_cons_of_mem _ ?_)))); try (subst hf; (repeat (first | exact List.mem_cons_self | refine List.mem_cons_of_mem _ ?_))))⟩
  · rw [if_neg (by omega), if_neg (by omega), if_neg (by omega), if_neg (by omega)] at hD
    obtain ⟨g1, g2, g3, g4, g5⟩ := hgo _ _ hD
    have hdO := hdecO _ _ hD
    refine c_loop (m := cn) (fun mm a w' => ∃ (j : Nat) (ov : Value) (n2 : Nat), mm + j = cn ∧ n2 = ls.length + j ∧
      Fr 95 [] [(14, .int .i64 j), (13, .int .i64 0), (12, .int .i64 kd), (11, .int .i64 cn), (9, .slice a2 ys.length c2), (6, ov), (0, .slice a0 xb.length c0), (1, .int .i64 mo)] a ∧
      Mm own W [] [⟨38, 8, ov, n2, (ls ++ List.replicate j zr).flatten.map (Value.int .u8)⟩] [RdF (Value.int .u8) a2 ys, RdF (Value.int .u8) a0 xb] w')
      ⟨0, _, n, by omega, by omega, hF.sub (by repeat (first | exact Sub.nil | refine Sub.cons rfl (by first | with_reducible rfl | (refine congrArg (Value.int _) ?_; omega) | exact rfl) ?_)), by simp only [chunks, List.replicate_zero, List.append_nil]; exact hM⟩ ?_
    clear hF hM a
    rintro mm a w' ⟨j, ov, n2, hmm, hn2, hF, hM⟩
    obtain ⟨ao, co, rfl⟩ : ∃ ao co, ov = .slice ao n2 co := by
      rcases (hM.mem.own.own _ List.mem_cons_self).2 with ⟨h1, h2⟩ | ⟨g, cap, cur, h1, _⟩
      · exact ⟨none, 0, by rw [show n2 = 0 from h2]; exact h1⟩
      · exact ⟨_, _, h1⟩
    by_cases hj : j < cn
    · have hch : List.replicate (j + 1) zr = List.replicate j zr ++ [zr] := List.replicate_succ'
      (repeat' (first | (with_reducible refine w_seq ?_) | (with_reducible refine c_region ?_) | (with_reducible refine s_nil ?_) | (with_reducible refine q_then_n ?_) | ((with_reducible apply s_pure hF); exact rfl; exact rfl; exact rfl; (first | exact trivial | omega | decide); clear hF a; intro a hF) | ((with_reducible apply s_load hF hM); exact rfl; exact rfl; (repeat (first | exact List.mem_cons_self | refine List.mem_cons_of_mem _ ?_)); exact rfl; exact rfl; clear hF a; intro a hF) | ((with_reducible apply s_alloc hF hM); exact rfl; exact rfl; exact rfl; clear hF hM a; intro b w a hM hF) | ((with_reducible apply s_lit hF hM); exact rfl; exact rfl; exact rfl; exact rfl; clear hF hM a; intro bl w a hM hF) | ((with_reducible apply s_app hF hM); exact rfl; exact rfl; exact rfl; exact rfl; (repeat (first | exact Kth.z | apply Kth.s)); exact rfl; exact rfl; exact rfl; exact rfl; omega; clear hF hM a; intro g cap w a hM hF; dsimp only [List.set] at hM) | (with_reducible refine w_skip ?_) | (with_reducible refine w_block ?_) | (with_reducible refine q_blk_n ?_) | ((with_reducible apply c_dec hF); exact rfl; all_goals intro hc; all_goals (try (exfalso; omega)))))
      refine ⟨mm - 1, by omega, j + 1, .slice (some ⟨g, 0, none⟩) (n2 + 1) cap, n2 + 1, by omega, by omega, hF.sub (by repeat (first | exact Sub.nil | refine Sub.cons rfl (by first | with_reducible rfl | (refine congrArg (Value.int _) ?_; omega) | exact rfl) ?_)), ?_⟩
      rw [hch, ← List.append_assoc, List.flatten_append, List.map_append]
      exact hM.sub (.cons _ (.refl _)) (.refl _) (fun _ h => h)
    · obtain rfl : j = cn := by omega
      (repeat' (first | (with_reducible refine w_seq ?_) | (with_reducible refine c_region ?_) | (with_reducible refine s_nil ?_) | (with_reducible refine q_then_n ?_) | ((with_reducible apply s_pure hF); exact rfl; exact rfl; exact rfl; (first | exact trivial | omega | decide); clear hF a; intro a hF) | (with_reducible refine w_exit ?_) | (with_reducible refine q_then_x ?_) | (with_reducible refine q_blk_n ?_) | (with_reducible refine q_blk_x ?_) | ((with_reducible apply c_dec hF); exact rfl; all_goals intro hc; all_goals (try (exfalso; omega)))))
      rw [show ((0 : Int) * 8).toNat = 0 from rfl, Nat.sub_zero, sadr_zero, Int.toNat_natCast, Nat.sub_zero] at hF
      exact ⟨m, by omega, ys, _, a2, c2, _, n2, by omega, by omega, g5, hc2, g3, g4, g2, by rw [List.length_append, List.length_replicate]; omega, hdO, hF.sub (by repeat (first | exact Sub.nil | refine Sub.cons rfl (by first | with_reducible rfl | (refine congrArg (Value.int _) ?_; omega) | exact rfl) ?_)), hM⟩
end Go.Proofs.Ythcnnedgfndklaa
