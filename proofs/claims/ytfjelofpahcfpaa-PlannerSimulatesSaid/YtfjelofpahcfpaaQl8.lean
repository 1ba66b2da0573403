/- The planner: Best, of the program and of the reference. -/
import Derived.Test.YtfjelofpahcfpaaQs
set_option linter.unusedSimpArgs false
set_option linter.unusedVariables false
namespace Go.Proofs.Ytfjelofpahcfpaa
open Go.RowKit Go.Shelf
theorem refPlan_c (t : P56.Tr) (v : Value) (own : Nat → Prop) (W : World) (hl : ∀ b, own b → b < W.heap.size) (hv : Has own W (IsTr · v t)) :
    Calls Try.prog 13 ⟨[v]⟩ W (Ret W (PlanR own (P56.plan t))) :=
  (refPlan_any t v W hv.get).mono fun _ _ ⟨pv, h1, h2, h3⟩ => ⟨_, h1, h3, pv, rfl, h2 own hl⟩
theorem isTr_mk {own : Nat → Prop} {w : World} {t : P56.Tr} {a a' : Option Addr} {c c' : Nat} (h1 : Has own w (RdF (Value.int .i64) a t.W)) (h2 : Has own w (RdF (Value.int .i64) a' t.C)) (l1 : t.W.length ≤ 9223372036854775807) (l2 : t.C.length ≤ 9223372036854775807) (l3 : t.W.length ≤ c) (l4 : t.C.length ≤ c') :
    Has own w (IsTr · (.agg #[.slice a t.W.length c, .slice a' t.C.length c', .int .i64 t.P, .int .i64 t.L, .int .i64 t.A]) t) :=
  (h1.and h2).imp fun w k => ⟨a, a', c, c', rfl, k.1, k.2, l1, l2, l3, l4⟩
/-- A trace with another period. -/
def TP (t : P56.Tr) (n : Int) : P56.Tr := { t with P := n }
/-- The best of the first periods, and its plan. -/
def bestOf (t : P56.Tr) : Nat → Nat × P56.Pl
  | 0 => (0, P56.none)
  | n + 1 => if (P56.plan (TP t ((n : Int) + 1))).2 = 0 ∧ ((bestOf t n).1 = 0 ∨ (P56.plan (TP t ((n : Int) + 1))).1.bound < (bestOf t n).2.bound) then (n + 1, (P56.plan (TP t ((n : Int) + 1))).1) else bestOf t n
/-- The best period, its plan, the number of the error. -/
def best (t : P56.Tr) (most : Int) : Int × P56.Pl × Int :=
  if most < 1 ∨ 4096 < most then (0, P56.none, 2)
  else if P56.check (TP t 1) ≠ 0 then (0, P56.none, P56.check (TP t 1))
  else if (bestOf t most.toNat).1 = 0 then (0, P56.none, 21)
  else ((bestOf t most.toNat).1, (bestOf t most.toNat).2, 0)
theorem bestOf_le (t : P56.Tr) : ∀ n, (bestOf t n).1 ≤ n
  | 0 => Nat.le_refl _
  | n + 1 => by
    unfold bestOf
    split
    · exact Nat.le_refl _
    · exact Nat.le_trans (bestOf_le t n) (Nat.le_succ n)
theorem ok_TP {t : P56.Tr} (h : P56.Ok (TP t 1)) {n : Int} (h1 : 1 ≤ n) (h2 : n ≤ 4096) : P56.Ok (TP t n) := ⟨h.wlen, h.clen0, h.clen, h.w, h.c, h1, h2, h.l0, h.l, h.a0, h.a⟩
def BestR (own : Nat → Prop) (r : Int × P56.Pl × Int) (v : Value) (w' : World) : Prop := ∃ pv, v = .tuple #[.int .i64 r.1, pv, .int .i64 r.2.2] ∧ Has own w' (IsPl · pv r.2.1)
set_option maxHeartbeats 4000000 in
theorem Best_c (t : P56.Tr) (v : Value) (most : Int) (own : Nat → Prop) (W : World) (hl : ∀ b, own b → b < W.heap.size) (hv : Has own W (IsTr · v t)) (hm : -9223372036854775808 ≤ most ∧ most ≤ 9223372036854775807) :
    Calls Try.prog 26 ⟨[v, .int .i64 most]⟩ W (Ret W (BestR own (best t most))) := by
  obtain ⟨a0, a1, c0, c1, rfl, hW, hC, l1, l2, l3, l4⟩ := isTr_open hv
  have hM := ((Mm.start hl).known hW).known hC
  have hbetw : ∀ n lo hi w, Calls Try.prog 36 ⟨[.int .i64 n, .int .i64 lo, .int .i64 hi]⟩ w (Ret w fun v _ => v = .bool (decide (lo ≤ n ∧ n ≤ hi))) := fun n lo hi w => Ret.of ((between_any n lo hi w).mono fun _ _ h => ⟨h.1, h.2 ▸ Since.refl _⟩)
  have hT1 := isTr_mk (t := TP t 1) hW hC l1 l2 l3 l4
  refine f_start Try.func26 rfl Try.ntmps26 rfl rfl ?_; intro a hF
  by_cases hb : most < 1 ∨ 4096 < most
  · (repeat' (first | (with_reducible refine w_seq ?_) | (with_reducible refine c_region ?_) | (with_reducible refine s_nil ?_) | ((with_reducible apply s_call (f := 36) hF hM); exact rfl; exact rfl; exact rfl; exact rfl; exact rfl; exact (hbetw _ _ _ _); clear hF hM a; rintro v w a rfl - hM hF) | (with_reducible refine q_then_n ?_) | ((with_reducible apply s_pure hF); exact rfl; exact rfl; exact rfl; (first | exact trivial | omega | decide); clear hF a; intro a hF) | ((with_reducible apply s_store hF hM); exact rfl; exact rfl; exact rfl; exact rfl; (repeat (first | exact Upd.z | apply Upd.s)); exact rfl; exact rfl; exact rfl; clear hM; intro w hM) | ((with_reducible apply s_alloc hF hM); exact rfl; exact rfl; exact rfl; clear hF hM a; intro b w a hM hF) | ((with_reducible apply s_box hF hM); exact rfl; exact rfl; exact rfl; exact rfl; clear hF hM a; intro b w a hM hF) | (with_reducible refine w_ret ?_) | (with_reducible refine q_then_r ?_) | ((with_reducible apply c_ndec hF); exact rfl; all_goals intro hc; all_goals (try (exfalso; omega)))))
    (apply f_ret Try.results26 hF hM; (repeat (first | exact RL.nil | (apply RL.tmp; exact rfl) | (apply RL.cell; exact rfl; (repeat (first | exact List.mem_cons_self | refine List.mem_cons_of_mem _ ?_)); exact rfl))); refine Ret.mk hM.since ?_; dsimp only [resV])
    unfold best
    rw [if_pos hb]
    exact ⟨_, rfl, Has.pure fun w => isPl_none w⟩
  · (repeat' (first | (with_reducible refine w_seq ?_) | (with_reducible refine c_region ?_) | (with_reducible refine s_nil ?_) | ((with_reducible apply s_call (f := 36) hF hM); exact rfl; exact rfl; exact rfl; exact rfl; exact rfl; exact (hbetw _ _ _ _); clear hF hM a; rintro v w a rfl - hM hF) | ((with_reducible apply s_call (f := 14) hF hM); exact rfl; exact rfl; exact rfl; exact rfl; exact rfl; exact (Ret.of (check_any (TP t 1) _ _ (hT1.get.since hM.since))); clear hF hM a; rintro v w a rfl - hM hF) | (with_reducible refine q_then_n ?_) | ((with_reducible apply s_pure hF); exact rfl; exact rfl; exact rfl; (first | exact trivial | omega | decide); clear hF a; intro a hF) | ((with_reducible apply s_load hF hM); exact rfl; exact rfl; (repeat (first | exact List.mem_cons_self | refine List.mem_cons_of_mem _ ?_)); exact rfl; exact rfl; clear hF a; intro a hF) | ((with_reducible apply s_store hF hM); exact rfl; exact rfl; exact rfl; exact rfl; (repeat (first | exact Upd.z | apply Upd.s)); exact rfl; exact rfl; exact rfl; clear hM; intro w hM) | ((with_reducible apply s_alloc hF hM); exact rfl; exact rfl; exact rfl; clear hF hM a; intro b w a hM hF) | ((with_reducible apply s_box hF hM); exact rfl; exact rfl; exact rfl; exact rfl; clear hF hM a; intro b w a hM hF) | (with_reducible refine w_skip ?_) | (with_reducible refine w_ret ?_) | (with_reducible refine q_then_r ?_) | ((with_reducible apply c_dec hF); exact rfl; all_goals intro hc; all_goals (try (exfalso; omega))) | ((with_reducible apply c_ndec hF); exact rfl; all_goals intro hc; all_goals (try (exfalso; omega)))))
    · (apply f_ret Try.results26 hF hM; (repeat (first | exact RL.nil | (apply RL.tmp; exact rfl) | (apply RL.cell; exact rfl; (repeat (first | exact List.mem_cons_self | refine List.mem_cons_of_mem _ ?_)); exact rfl))); refine Ret.mk hM.since ?_; dsimp only [resV])
      unfold best
      rw [if_neg hb, if_pos (by assumption)]
      exact ⟨_, rfl, Has.pure fun w => isPl_none w⟩
    · have hck : P56.check (TP t 1) = 0 := by omega
      have ok : P56.Ok (TP t 1) := P56.check_ok.1 hck
      rename_i b2 _ _ _ _ _
      obtain ⟨b5, hb5⟩ : ∃ x, x = b := ⟨b, rfl⟩
      subst hb5
      (repeat (first | (with_reducible refine w_seq ?_) | (with_reducible refine c_region ?_) | (with_reducible refine s_nil ?_) | ((with_reducible apply s_call (f := 32) hF hM); exact rfl; exact rfl; exact rfl; exact rfl; exact rfl; exact (newCarrier_c t.C a1 c1 _ _ hM.lt (hM.facts _ (by (repeat (first | exact List.mem_cons_self | refine List.mem_cons_of_mem _ ?_)))) ok.clen ok.c); clear hF hM a; rintro v w a hcar - hM hF; (replace hM := hM.addFact hcar; obtain ⟨cv, hcv⟩ : ∃ cv, cv = v := ⟨_, rfl⟩; subst hcv; clear hcar)) | (with_reducible refine q_then_n ?_) | ((with_reducible apply s_pure hF); exact rfl; exact rfl; exact rfl; (first | exact trivial | omega | decide); clear hF a; intro a hF) | ((with_reducible apply s_alloc hF hM); exact rfl; exact rfl; exact rfl; clear hF hM a; intro b w a hM hF) | (with_reducible refine w_block ?_)))
      refine c_loop (m := most.toNat) (fun m a w' => ∃ (k : Nat) (pr : Int) (e1 e2 e3 e4 : Option Addr) (f1 f2 f3 f4 : Nat), m + k = most.toNat ∧ Fr _ [] [(30, .int .i64 k), (29, .int .i64 most), (9, .int .i64 (bestOf t k).1), (8, .func (.func 33) #[cv] #[]), (2, .pointer (some ⟨b2, 0, none⟩)), (5, .pointer (some ⟨b5, 0, none⟩)), (10, .pointer (some ⟨b, 0, none⟩))] a ∧
        Mm own W [⟨b, ⟨[.slice e1 (bestOf t k).2.close.length f1, .slice e2 (bestOf t k).2.start.length f2, .slice e3 (bestOf t k).2.fin.length f3, .slice e4 (bestOf t k).2.applied.length f4, .int .i64 (bestOf t k).2.bound]⟩, 28⟩, ⟨b5, ⟨[.slice none 0 0, .slice none 0 0, .slice none 0 0, .slice none 0 0, .int .i64 0]⟩, 28⟩, ⟨b2, ⟨[.slice a0 t.W.length c0, .slice a1 t.C.length c1, .int .i64 pr, .int .i64 t.L, .int .i64 t.A]⟩, 24⟩] []
          [(IsPl · (.agg #[.slice e1 (bestOf t k).2.close.length f1, .slice e2 (bestOf t k).2.start.length f2, .slice e3 (bestOf t k).2.fin.length f3, .slice e4 (bestOf t k).2.applied.length f4, .int .i64 (bestOf t k).2.bound]) (bestOf t k).2), (IsCar · cv t.C), RdF (Value.int .i64) a1 t.C, RdF (Value.int .i64) a0 t.W] w') ⟨0, 1, none, none, none, none, 0, 0, 0, 0, by omega, hF.sub (by repeat (first | exact Sub.nil | refine Sub.cons rfl (by first | with_reducible rfl | (refine congrArg (Value.int _) ?_; omega) | exact rfl) ?_)), hM.addFact (Has.pure fun w => isPl_none w)⟩ ?_
      clear hF hM a
      rintro m a w' ⟨k, pr, e1, e2, e3, e4, f1, f2, f3, f4, hk, hF, hM⟩
      have hbl := bestOf_le t k
      by_cases hlt : k < most.toNat
      · have okk := ok_TP ok (n := (k : Int) + 1) (by omega) (by omega)
        have hstep : bestOf t (k + 1) = if (P56.plan (TP t ((k : Int) + 1))).2 = 0 ∧ ((bestOf t k).1 = 0 ∨ (P56.plan (TP t ((k : Int) + 1))).1.bound < (bestOf t k).2.bound) then (k + 1, (P56.plan (TP t ((k : Int) + 1))).1) else bestOf t k := rfl
        have hplan : P56.planOk (TP t ((k : Int) + 1)) = P56.plan (TP t ((k : Int) + 1)) := by unfold P56.plan; rw [if_pos (P56.check_ok.2 okk)]
        have hpc := plan_c sizes_c (TP t ((k : Int) + 1)) a0 c0 a1 t.C.length c1 cv
        rw [hplan] at hpc
        (repeat' (first | (with_reducible refine w_seq ?_) | (with_reducible refine c_region ?_) | (with_reducible refine s_nil ?_) | (with_reducible refine q_then_n ?_) | ((with_reducible apply s_pure hF); exact rfl; exact rfl; exact rfl; (first | exact trivial | omega | decide); clear hF a; intro a hF) | ((with_reducible apply s_load hF hM); exact rfl; exact rfl; (repeat (first | exact List.mem_cons_self | refine List.mem_cons_of_mem _ ?_)); exact rfl; exact rfl; clear hF a; intro a hF) | ((with_reducible apply s_store hF hM); exact rfl; exact rfl; exact rfl; exact rfl; (repeat (first | exact Upd.z | apply Upd.s)); exact rfl; exact rfl; exact rfl; clear hM; intro w hM) | (with_reducible refine w_skip ?_) | (with_reducible refine w_block ?_) | ((with_reducible apply c_dec hF); exact rfl; all_goals intro hc; all_goals (try (exfalso; omega)))))
        (repeat (first | (with_reducible refine w_seq ?_) | (with_reducible refine c_region ?_) | (with_reducible refine s_nil ?_) | ((with_reducible apply s_call (f := 31) hF hM); exact rfl; exact rfl; exact rfl; exact rfl; exact rfl; exact (hpc _ _ hM.lt (hM.facts _ (by (repeat (first | exact List.mem_cons_self | refine List.mem_cons_of_mem _ ?_)))) (hM.facts (IsCar · cv t.C) (by (repeat (first | exact List.mem_cons_self | refine List.mem_cons_of_mem _ ?_)))) okk l3); clear hF hM a; rintro v w a ⟨pv, rfl, hpv⟩ - hM hF; (obtain ⟨x1, x2, x3, x4, y1, y2, y3, y4, rfl, -⟩ := isPl_open hpv; replace hM := hM.addFact hpv)) | (with_reducible refine q_then_n ?_) | ((with_reducible apply s_pure hF); exact rfl; exact rfl; exact rfl; (first | exact trivial | omega | decide); clear hF a; intro a hF) | ((with_reducible apply s_store hF hM); exact rfl; exact rfl; exact rfl; exact rfl; (repeat (first | exact Upd.z | apply Upd.s)); exact rfl; exact rfl; exact rfl; clear hM; intro w hM) | ((with_reducible apply s_alloc hF hM); exact rfl; exact rfl; exact rfl; clear hF hM a; intro b w a hM hF)))
        generalize P56.plan (TP t ((k : Int) + 1)) = r at *
        by_cases hcond : r.2 = 0 ∧ ((bestOf t k).1 = 0 ∨ r.1.bound < (bestOf t k).2.bound)
        · rw [if_pos hcond] at hstep
          (repeat' (first | (with_reducible refine s_nil ?_) | (with_reducible refine q_then_n ?_) | ((with_reducible apply s_pure hF); exact rfl; exact rfl; exact rfl; (first | exact trivial | omega | decide); clear hF a; intro a hF) | ((with_reducible apply s_load hF hM); exact rfl; exact rfl; (repeat (first | exact List.mem_cons_self | refine List.mem_cons_of_mem _ ?_)); exact rfl; exact rfl; clear hF a; intro a hF) | ((with_reducible apply c_true hF); exact rfl) | ((with_reducible apply s_skip hF); exact rfl; exact rfl; clear hF a; intro a hF) | ((with_reducible apply g_dec hF); exact rfl; exact rfl; all_goals (clear hF; intro hc hF); all_goals (try (exfalso; omega))) | ((with_reducible apply c_dec hF); exact rfl; all_goals intro hc; all_goals (try (exfalso; omega)))))
          all_goals
            refine c_draw (fun i => Nat.ble 4 i) hM ?_; clear hM; intro w hM
            (first | (refine t_pure (i := 0) hF rfl rfl rfl rfl (by kernel_rfl) hM.sm (fun _ _ _ h => h) ?_ ?_; (first | exact trivial | omega | decide); clear hF a; intro a hF))
            (first | (refine t_pure (i := 1) hF rfl rfl rfl rfl (by kernel_rfl) hM.sm (fun _ _ _ h => h) ?_ ?_; (first | exact trivial | omega | decide); clear hF a; intro a hF))
            (first | (apply t_load (i := 2) hF rfl rfl rfl; (repeat (first | exact List.mem_cons_self | refine List.mem_cons_of_mem _ ?_)); exact rfl; exact rfl; kernel_rfl; exact hM.sm; exact (fun _ _ _ h => h); clear hF a; intro a hF))
            (first | (refine t_pure (i := 3) hF rfl rfl rfl rfl (by kernel_rfl) hM.sm (fun _ _ _ h => h) ?_ ?_; (first | exact trivial | omega | decide); clear hF a; intro a hF))
            refine t_one (i := 4) hF rfl (by kernel_rfl) rfl ?_
            intro K hK
            (apply x_store hF hM rfl rfl rfl; (repeat (first | exact Upd.z | apply Upd.s)); exact rfl; exact rfl; exact rfl; clear hF hM a; intro w a hM hF)
            refine hK _ _ (fun h => by cases h) ?_; clear hK
            refine t_done (by kernel_rfl) ?_
            (repeat (first | (with_reducible refine c_region ?_) | (with_reducible refine s_nil ?_) | (with_reducible refine q_then_n ?_) | ((with_reducible apply s_pure hF); exact rfl; exact rfl; exact rfl; (first | exact trivial | omega | decide); clear hF a; intro a hF) | (with_reducible refine q_blk_n ?_)))
            refine ⟨m - 1, by omega, k + 1, (k : Int) + 1, x1, x2, x3, x4, y1, y2, y3, y4, by omega, ?_, ?_⟩
            · rw [hstep]; exact hF.sub (by repeat (first | exact Sub.nil | refine Sub.cons rfl (by first | with_reducible rfl | (refine congrArg (Value.int _) ?_; omega) | exact rfl) ?_))
            · rw [hstep]; exact hM.sub (.cons _ (.refl _)) (.refl _) (by intro f hf; simp only [List.mem_cons, List.not_mem_nil, or_false] at hf ⊢; grind)
        · rw [if_neg hcond] at hstep
          (repeat' (first | (with_reducible refine c_region ?_) | (with_reducible refine s_nil ?_) | (with_reducible refine q_then_n ?_) | ((with_reducible apply s_pure hF); exact rfl; exact rfl; exact rfl; (first | exact trivial | omega | decide); clear hF a; intro a hF) | ((with_reducible apply s_load hF hM); exact rfl; exact rfl; (repeat (first | exact List.mem_cons_self | refine List.mem_cons_of_mem _ ?_)); exact rfl; exact rfl; clear hF a; intro a hF) | (with_reducible refine w_skip ?_) | (with_reducible refine q_blk_n ?_) | ((with_reducible apply c_false hF); exact rfl) | ((with_reducible apply s_skip hF); exact rfl; exact rfl; clear hF a; intro a hF) | ((with_reducible apply g_dec hF); exact rfl; exact rfl; all_goals (clear hF; intro hc hF); all_goals (try (exfalso; omega))) | ((with_reducible apply c_dec hF); exact rfl; all_goals intro hc; all_goals (try (exfalso; omega)))))
          all_goals
            refine ⟨m - 1, by omega, k + 1, (k : Int) + 1, e1, e2, e3, e4, f1, f2, f3, f4, by omega, ?_, ?_⟩
            · rw [hstep]; exact hF.sub (by repeat (first | exact Sub.nil | refine Sub.cons rfl (by first | with_reducible rfl | (refine congrArg (Value.int _) ?_; omega) | exact rfl) ?_))
            · rw [hstep]; exact hM.sub (.cons _ (.refl _)) (.refl _) (by intro f hf; simp only [List.mem_cons, List.not_mem_nil, or_false] at hf ⊢; grind)
      · obtain rfl : k = most.toNat := by omega
        unfold best
        rw [if_neg hb, if_neg (by simpa using hck)]
        by_cases h0 : (bestOf t most.toNat).1 = 0
        · rw [if_pos h0]
          (repeat' (first | (with_reducible refine w_seq ?_) | (with_reducible refine c_region ?_) | (with_reducible refine s_nil ?_) | (with_reducible refine q_then_n ?_) | ((with_reducible apply s_pure hF); exact rfl; exact rfl; exact rfl; (first | exact trivial | omega | decide); clear hF a; intro a hF) | ((with_reducible apply s_store hF hM); exact rfl; exact rfl; exact rfl; exact rfl; (repeat (first | exact Upd.z | apply Upd.s)); exact rfl; exact rfl; exact rfl; clear hM; intro w hM) | (with_reducible refine w_exit ?_) | (with_reducible refine w_ret ?_) | (with_reducible refine q_then_x ?_) | (with_reducible refine q_then_r ?_) | (with_reducible refine q_blk_x ?_) | ((with_reducible apply c_dec hF); exact rfl; all_goals intro hc; all_goals (try (exfalso; omega)))))
          (apply f_ret Try.results26 hF hM; (repeat (first | exact RL.nil | (apply RL.tmp; exact rfl) | (apply RL.cell; exact rfl; (repeat (first | exact List.mem_cons_self | refine List.mem_cons_of_mem _ ?_)); exact rfl))); refine Ret.mk hM.since ?_; dsimp only [resV])
          exact ⟨_, rfl, Has.pure fun w => isPl_none w⟩
        · rw [if_neg h0]
          (repeat' (first | (with_reducible refine w_seq ?_) | (with_reducible refine c_region ?_) | (with_reducible refine s_nil ?_) | (with_reducible refine q_then_n ?_) | ((with_reducible apply s_pure hF); exact rfl; exact rfl; exact rfl; (first | exact trivial | omega | decide); clear hF a; intro a hF) | (with_reducible refine w_skip ?_) | (with_reducible refine w_exit ?_) | (with_reducible refine q_then_x ?_) | (with_reducible refine q_blk_x ?_) | ((with_reducible apply c_dec hF); exact rfl; all_goals intro hc; all_goals (try (exfalso; omega)))))
          refine c_draw (fun i => Nat.ble 3 i) hM ?_; clear hM; intro w hM
          (first | (refine t_pure (i := 0) hF rfl rfl rfl rfl (by kernel_rfl) hM.sm (fun _ _ _ h => h) ?_ ?_; (first | exact trivial | omega | decide); clear hF a; intro a hF))
          (first | (apply t_load (i := 1) hF rfl rfl rfl; (repeat (first | exact List.mem_cons_self | refine List.mem_cons_of_mem _ ?_)); exact rfl; exact rfl; kernel_rfl; exact hM.sm; exact (fun _ _ _ h => h); clear hF a; intro a hF))
          (first | (refine t_pure (i := 2) hF rfl rfl rfl rfl (by kernel_rfl) hM.sm (fun _ _ _ h => h) ?_ ?_; (first | exact trivial | omega | decide); clear hF a; intro a hF))
          refine t_one (i := 3) hF rfl (by kernel_rfl) rfl ?_
          intro K hK
          (apply x_store hF hM rfl rfl rfl; (repeat (first | exact Upd.z | apply Upd.s)); exact rfl; exact rfl; exact rfl; clear hF hM a; intro w a hM hF)
          refine hK _ _ (fun h => by cases h) ?_; clear hK
          refine t_one (i := 4) hF rfl (by kernel_rfl) rfl ?_
          intro K hK
          (first | (refine x_pure hF hM rfl rfl ?_ ?_; (first | exact trivial | omega | decide); clear hF a; intro a hF) | (apply x_load hF hM rfl; (repeat (first | exact List.mem_cons_self | refine List.mem_cons_of_mem _ ?_)); exact rfl; exact rfl; clear hF a; intro a hF))
          refine hK _ _ (fun h => by cases h) ?_; clear hK
          refine t_done (by kernel_rfl) ?_
          (repeat (first | (with_reducible refine q_then_n ?_) | (with_reducible refine w_ret ?_)))
          (apply f_ret Try.results26 hF hM; (repeat (first | exact RL.nil | (apply RL.tmp; exact rfl) | (apply RL.cell; exact rfl; (repeat (first | exact List.mem_cons_self | refine List.mem_cons_of_mem _ ?_)); exact rfl))); refine Ret.mk hM.since ?_; dsimp only [resV])
          exact ⟨_, rfl, hM.factOut (List.mem_cons_self)⟩
set_option maxHeartbeats 4000000 in
theorem refBest_c (t : P56.Tr) (v : Value) (most : Int) (own : Nat → Prop) (W : World) (hl : ∀ b, own b → b < W.heap.size) (hv : Has own W (IsTr · v t)) (hm : -9223372036854775808 ≤ most ∧ most ≤ 9223372036854775807) :
    Calls Try.prog 27 ⟨[v, .int .i64 most]⟩ W (Ret W (BestR own (best t most))) := by
  obtain ⟨a0, a1, c0, c1, rfl, hW, hC, l1, l2, l3, l4⟩ := isTr_open hv
  have hM := ((Mm.start hl).known hW).known hC
  have hT1 := isTr_mk (t := TP t 1) hW hC l1 l2 l3 l4
  refine f_start Try.func27 rfl Try.ntmps27 rfl rfl ?_; intro a hF
  by_cases hb : most < 1 ∨ 4096 < most
  · (repeat' (first | (with_reducible refine w_seq ?_) | (with_reducible refine c_region ?_) | (with_reducible refine s_nil ?_) | (with_reducible refine q_then_n ?_) | ((with_reducible apply s_pure hF); exact rfl; exact rfl; exact rfl; (first | exact trivial | omega | decide); clear hF a; intro a hF) | ((with_reducible apply s_store hF hM); exact rfl; exact rfl; exact rfl; exact rfl; (repeat (first | exact Upd.z | apply Upd.s)); exact rfl; exact rfl; exact rfl; clear hM; intro w hM) | ((with_reducible apply s_alloc hF hM); exact rfl; exact rfl; exact rfl; clear hF hM a; intro b w a hM hF) | ((with_reducible apply s_box hF hM); exact rfl; exact rfl; exact rfl; exact rfl; clear hF hM a; intro b w a hM hF) | (with_reducible refine w_ret ?_) | (with_reducible refine q_then_r ?_) | ((with_reducible apply c_true hF); exact rfl) | ((with_reducible apply s_skip hF); exact rfl; exact rfl; clear hF a; intro a hF) | ((with_reducible apply g_dec hF); exact rfl; exact rfl; all_goals (clear hF; intro hc hF); all_goals (try (exfalso; omega))) | ((with_reducible apply c_dec hF); exact rfl; all_goals intro hc; all_goals (try (exfalso; omega)))))
    all_goals (apply f_ret Try.results27 hF hM; (repeat (first | exact RL.nil | (apply RL.tmp; exact rfl) | (apply RL.cell; exact rfl; (repeat (first | exact List.mem_cons_self | refine List.mem_cons_of_mem _ ?_)); exact rfl))); refine Ret.mk hM.since ?_; dsimp only [resV])
    all_goals unfold best
    all_goals rw [if_pos hb]
    all_goals exact ⟨_, rfl, Has.pure fun w => isPl_none w⟩
  · (repeat' (first | (with_reducible refine w_seq ?_) | (with_reducible refine c_region ?_) | (with_reducible refine s_nil ?_) | ((with_reducible apply s_call (f := 15) hF hM); exact rfl; exact rfl; exact rfl; exact rfl; exact rfl; exact (Ret.of (refCheck_any (TP t 1) _ _ (hT1.get.since hM.since))); clear hF hM a; rintro v w a rfl - hM hF) | (with_reducible refine q_then_n ?_) | ((with_reducible apply s_pure hF); exact rfl; exact rfl; exact rfl; (first | exact trivial | omega | decide); clear hF a; intro a hF) | ((with_reducible apply s_load hF hM); exact rfl; exact rfl; (repeat (first | exact List.mem_cons_self | refine List.mem_cons_of_mem _ ?_)); exact rfl; exact rfl; clear hF a; intro a hF) | ((with_reducible apply s_store hF hM); exact rfl; exact rfl; exact rfl; exact rfl; (repeat (first | exact Upd.z | apply Upd.s)); exact rfl; exact rfl; exact rfl; clear hM; intro w hM) | ((with_reducible apply s_alloc hF hM); exact rfl; exact rfl; exact rfl; clear hF hM a; intro b w a hM hF) | ((with_reducible apply s_box hF hM); exact rfl; exact rfl; exact rfl; exact rfl; clear hF hM a; intro b w a hM hF) | (with_reducible refine w_skip ?_) | (with_reducible refine w_block ?_) | (with_reducible refine w_ret ?_) | (with_reducible refine q_then_r ?_) | ((with_reducible apply g_dec hF); exact rfl; exact rfl; all_goals (clear hF; intro hc hF); all_goals (try (exfalso; omega))) | ((with_reducible apply c_dec hF); exact rfl; all_goals intro hc; all_goals (try (exfalso; omega)))))
    · (apply f_ret Try.results27 hF hM; (repeat (first | exact RL.nil | (apply RL.tmp; exact rfl) | (apply RL.cell; exact rfl; (repeat (first | exact List.mem_cons_self | refine List.mem_cons_of_mem _ ?_)); exact rfl))); refine Ret.mk hM.since ?_; dsimp only [resV])
      unfold best
      rw [if_neg hb, if_pos (by assumption)]
      exact ⟨_, rfl, Has.pure fun w => isPl_none w⟩
    · have hck : P56.check (TP t 1) = 0 := by omega
      have ok : P56.Ok (TP t 1) := P56.check_ok.1 hck
      rename_i b2 _ b5 _ _ _ _ _
      refine c_loop (m := most.toNat) (fun m a w' => ∃ (k : Nat) (pr : Int) (e1 e2 e3 e4 : Option Addr) (f1 f2 f3 f4 : Nat), m + k = most.toNat ∧ Fr _ [] [(10, .int .i64 ((k : Int) + 1)), (1, .int .i64 most), (8, .int .i64 (bestOf t k).1), (2, .pointer (some ⟨b2, 0, none⟩)), (5, .pointer (some ⟨b5, 0, none⟩)), (9, .pointer (some ⟨b, 0, none⟩))] a ∧
        Mm own W [⟨b, ⟨[.slice e1 (bestOf t k).2.close.length f1, .slice e2 (bestOf t k).2.start.length f2, .slice e3 (bestOf t k).2.fin.length f3, .slice e4 (bestOf t k).2.applied.length f4, .int .i64 (bestOf t k).2.bound]⟩, 28⟩, ⟨b5, ⟨[.slice none 0 0, .slice none 0 0, .slice none 0 0, .slice none 0 0, .int .i64 0]⟩, 28⟩, ⟨b2, ⟨[.slice a0 t.W.length c0, .slice a1 t.C.length c1, .int .i64 pr, .int .i64 t.L, .int .i64 t.A]⟩, 24⟩] []
          [(IsPl · (.agg #[.slice e1 (bestOf t k).2.close.length f1, .slice e2 (bestOf t k).2.start.length f2, .slice e3 (bestOf t k).2.fin.length f3, .slice e4 (bestOf t k).2.applied.length f4, .int .i64 (bestOf t k).2.bound]) (bestOf t k).2), RdF (Value.int .i64) a1 t.C, RdF (Value.int .i64) a0 t.W] w') ⟨0, 1, none, none, none, none, 0, 0, 0, 0, by omega, hF.sub (by repeat (first | exact Sub.nil | refine Sub.cons rfl (by first | with_reducible rfl | (refine congrArg (Value.int _) ?_; omega) | exact rfl) ?_)), hM.addFact (Has.pure fun w => isPl_none w)⟩ ?_
      clear hF hM a
      rintro m a w' ⟨k, pr, e1, e2, e3, e4, f1, f2, f3, f4, hk, hF, hM⟩
      have hbl := bestOf_le t k
      by_cases hlt : k < most.toNat
      · have hstep : bestOf t (k + 1) = if (P56.plan (TP t ((k : Int) + 1))).2 = 0 ∧ ((bestOf t k).1 = 0 ∨ (P56.plan (TP t ((k : Int) + 1))).1.bound < (bestOf t k).2.bound) then (k + 1, (P56.plan (TP t ((k : Int) + 1))).1) else bestOf t k := rfl
        (repeat' (first | (with_reducible refine w_seq ?_) | (with_reducible refine c_region ?_) | (with_reducible refine s_nil ?_) | (with_reducible refine q_then_n ?_) | ((with_reducible apply s_pure hF); exact rfl; exact rfl; exact rfl; (first | exact trivial | omega | decide); clear hF a; intro a hF) | ((with_reducible apply s_load hF hM); exact rfl; exact rfl; (repeat (first | exact List.mem_cons_self | refine List.mem_cons_of_mem _ ?_)); exact rfl; exact rfl; clear hF a; intro a hF) | ((with_reducible apply s_store hF hM); exact rfl; exact rfl; exact rfl; exact rfl; (repeat (first | exact Upd.z | apply Upd.s)); exact rfl; exact rfl; exact rfl; clear hM; intro w hM) | (with_reducible refine w_skip ?_) | (with_reducible refine w_block ?_) | ((with_reducible apply c_dec hF); exact rfl; all_goals intro hc; all_goals (try (exfalso; omega)))))
        (repeat (first | (with_reducible refine w_seq ?_) | (with_reducible refine c_region ?_) | (with_reducible refine s_nil ?_) | ((with_reducible apply s_call (f := 13) hF hM); exact rfl; exact rfl; exact rfl; exact rfl; exact rfl; exact (refPlan_c (TP t ((k : Int) + 1)) _ _ _ hM.lt (isTr_mk (t := TP t ((k : Int) + 1)) (hM.facts (RdF (Value.int .i64) a0 t.W) (by (repeat (first | exact List.mem_cons_self | refine List.mem_cons_of_mem _ ?_)))) (hM.facts (RdF (Value.int .i64) a1 t.C) (by (repeat (first | exact List.mem_cons_self | refine List.mem_cons_of_mem _ ?_)))) l1 l2 l3 l4)); clear hF hM a; rintro v w a ⟨pv, rfl, hpv⟩ - hM hF; (obtain ⟨x1, x2, x3, x4, y1, y2, y3, y4, rfl, -⟩ := isPl_open hpv; replace hM := hM.addFact hpv)) | (with_reducible refine q_then_n ?_) | ((with_reducible apply s_pure hF); exact rfl; exact rfl; exact rfl; (first | exact trivial | omega | decide); clear hF a; intro a hF) | ((with_reducible apply s_store hF hM); exact rfl; exact rfl; exact rfl; exact rfl; (repeat (first | exact Upd.z | apply Upd.s)); exact rfl; exact rfl; exact rfl; clear hM; intro w hM) | ((with_reducible apply s_alloc hF hM); exact rfl; exact rfl; exact rfl; clear hF hM a; intro b w a hM hF)))
        generalize P56.plan (TP t ((k : Int) + 1)) = r at *
        by_cases hcond : r.2 = 0 ∧ ((bestOf t k).1 = 0 ∨ r.1.bound < (bestOf t k).2.bound)
        · rw [if_pos hcond] at hstep
          (repeat' (first | (with_reducible refine s_nil ?_) | (with_reducible refine q_then_n ?_) | ((with_reducible apply s_pure hF); exact rfl; exact rfl; exact rfl; (first | exact trivial | omega | decide); clear hF a; intro a hF) | ((with_reducible apply s_load hF hM); exact rfl; exact rfl; (repeat (first | exact List.mem_cons_self | refine List.mem_cons_of_mem _ ?_)); exact rfl; exact rfl; clear hF a; intro a hF) | ((with_reducible apply c_true hF); exact rfl) | ((with_reducible apply s_skip hF); exact rfl; exact rfl; clear hF a; intro a hF) | ((with_reducible apply g_dec hF); exact rfl; exact rfl; all_goals (clear hF; intro hc hF); all_goals (try (exfalso; omega))) | ((with_reducible apply c_dec hF); exact rfl; all_goals intro hc; all_goals (try (exfalso; omega)))))
          all_goals
            refine c_draw (fun i => Nat.ble 3 i) hM ?_; clear hM; intro w hM
            (first | (refine t_pure (i := 0) hF rfl rfl rfl rfl (by kernel_rfl) hM.sm (fun _ _ _ h => h) ?_ ?_; (first | exact trivial | omega | decide); clear hF a; intro a hF))
            (first | (apply t_load (i := 1) hF rfl rfl rfl; (repeat (first | exact List.mem_cons_self | refine List.mem_cons_of_mem _ ?_)); exact rfl; exact rfl; kernel_rfl; exact hM.sm; exact (fun _ _ _ h => h); clear hF a; intro a hF))
            (first | (refine t_pure (i := 2) hF rfl rfl rfl rfl (by kernel_rfl) hM.sm (fun _ _ _ h => h) ?_ ?_; (first | exact trivial | omega | decide); clear hF a; intro a hF))
            refine t_one (i := 3) hF rfl (by kernel_rfl) rfl ?_
            intro K hK
            (apply x_store hF hM rfl rfl rfl; (repeat (first | exact Upd.z | apply Upd.s)); exact rfl; exact rfl; exact rfl; clear hF hM a; intro w a hM hF)
            refine hK _ _ (fun h => by cases h) ?_; clear hK
            refine t_done (by kernel_rfl) ?_
            (repeat (first | (with_reducible refine c_region ?_) | (with_reducible refine s_nil ?_) | (with_reducible refine q_then_n ?_) | ((with_reducible apply s_pure hF); exact rfl; exact rfl; exact rfl; (first | exact trivial | omega | decide); clear hF a; intro a hF) | (with_reducible refine q_blk_n ?_)))
            refine ⟨m - 1, by omega, k + 1, (k : Int) + 1, x1, x2, x3, x4, y1, y2, y3, y4, by omega, ?_, ?_⟩
            · rw [hstep]; exact hF.sub (by repeat (first | exact Sub.nil | refine Sub.cons rfl (by first | with_reducible rfl | (refine congrArg (Value.int _) ?_; omega) | exact rfl) ?_))
            · rw [hstep]; exact hM.sub (.cons _ (.refl _)) (.refl _) (by intro f hf; simp only [List.mem_cons, List.not_mem_nil, or_false] at hf ⊢; grind)
        · rw [if_neg hcond] at hstep
          (repeat' (first | (with_reducible refine c_region ?_) | (with_reducible refine s_nil ?_) | (with_reducible refine q_then_n ?_) | ((with_reducible apply s_pure hF); exact rfl; exact rfl; exact rfl; (first | exact trivial | omega | decide); clear hF a; intro a hF) | ((with_reducible apply s_load hF hM); exact rfl; exact rfl; (repeat (first | exact List.mem_cons_self | refine List.mem_cons_of_mem _ ?_)); exact rfl; exact rfl; clear hF a; intro a hF) | (with_reducible refine w_skip ?_) | (with_reducible refine q_blk_n ?_) | ((with_reducible apply c_false hF); exact rfl) | ((with_reducible apply s_skip hF); exact rfl; exact rfl; clear hF a; intro a hF) | ((with_reducible apply g_dec hF); exact rfl; exact rfl; all_goals (clear hF; intro hc hF); all_goals (try (exfalso; omega))) | ((with_reducible apply c_dec hF); exact rfl; all_goals intro hc; all_goals (try (exfalso; omega)))))
          all_goals
            refine ⟨m - 1, by omega, k + 1, (k : Int) + 1, e1, e2, e3, e4, f1, f2, f3, f4, by omega, ?_, ?_⟩
            · rw [hstep]; exact hF.sub (by repeat (first | exact Sub.nil | refine Sub.cons rfl (by first | with_reducible rfl | (refine congrArg (Value.int _) ?_; omega) | exact rfl) ?_))
            · rw [hstep]; exact hM.sub (.cons _ (.refl _)) (.refl _) (by intro f hf; simp only [List.mem_cons, List.not_mem_nil, or_false] at hf ⊢; grind)
      · obtain rfl : k = most.toNat := by omega
        unfold best
        rw [if_neg hb, if_neg (by simpa using hck)]
        by_cases h0 : (bestOf t most.toNat).1 = 0
        · rw [if_pos h0]
          (repeat' (first | (with_reducible refine w_seq ?_) | (with_reducible refine c_region ?_) | (with_reducible refine s_nil ?_) | (with_reducible refine q_then_n ?_) | ((with_reducible apply s_pure hF); exact rfl; exact rfl; exact rfl; (first | exact trivial | omega | decide); clear hF a; intro a hF) | ((with_reducible apply s_store hF hM); exact rfl; exact rfl; exact rfl; exact rfl; (repeat (first | exact Upd.z | apply Upd.s)); exact rfl; exact rfl; exact rfl; clear hM; intro w hM) | (with_reducible refine w_exit ?_) | (with_reducible refine w_ret ?_) | (with_reducible refine q_then_x ?_) | (with_reducible refine q_then_r ?_) | (with_reducible refine q_blk_x ?_) | ((with_reducible apply c_dec hF); exact rfl; all_goals intro hc; all_goals (try (exfalso; omega)))))
          (apply f_ret Try.results27 hF hM; (repeat (first | exact RL.nil | (apply RL.tmp; exact rfl) | (apply RL.cell; exact rfl; (repeat (first | exact List.mem_cons_self | refine List.mem_cons_of_mem _ ?_)); exact rfl))); refine Ret.mk hM.since ?_; dsimp only [resV])
          exact ⟨_, rfl, Has.pure fun w => isPl_none w⟩
        · rw [if_neg h0]
          (repeat' (first | (with_reducible refine w_seq ?_) | (with_reducible refine c_region ?_) | (with_reducible refine s_nil ?_) | (with_reducible refine q_then_n ?_) | ((with_reducible apply s_pure hF); exact rfl; exact rfl; exact rfl; (first | exact trivial | omega | decide); clear hF a; intro a hF) | (with_reducible refine w_skip ?_) | (with_reducible refine w_exit ?_) | (with_reducible refine q_then_x ?_) | (with_reducible refine q_blk_x ?_) | ((with_reducible apply c_dec hF); exact rfl; all_goals intro hc; all_goals (try (exfalso; omega)))))
          refine c_draw (fun i => Nat.ble 3 i) hM ?_; clear hM; intro w hM
          (first | (refine t_pure (i := 0) hF rfl rfl rfl rfl (by kernel_rfl) hM.sm (fun _ _ _ h => h) ?_ ?_; (first | exact trivial | omega | decide); clear hF a; intro a hF))
          (first | (apply t_load (i := 1) hF rfl rfl rfl; (repeat (first | exact List.mem_cons_self | refine List.mem_cons_of_mem _ ?_)); exact rfl; exact rfl; kernel_rfl; exact hM.sm; exact (fun _ _ _ h => h); clear hF a; intro a hF))
          (first | (refine t_pure (i := 2) hF rfl rfl rfl rfl (by kernel_rfl) hM.sm (fun _ _ _ h => h) ?_ ?_; (first | exact trivial | omega | decide); clear hF a; intro a hF))
          refine t_one (i := 3) hF rfl (by kernel_rfl) rfl ?_
          intro K hK
          (apply x_store hF hM rfl rfl rfl; (repeat (first | exact Upd.z | apply Upd.s)); exact rfl; exact rfl; exact rfl; clear hF hM a; intro w a hM hF)
          refine hK _ _ (fun h => by cases h) ?_; clear hK
          refine t_one (i := 4) hF rfl (by kernel_rfl) rfl ?_
          intro K hK
          (first | (refine x_pure hF hM rfl rfl ?_ ?_; (first | exact trivial | omega | decide); clear hF a; intro a hF) | (apply x_load hF hM rfl; (repeat (first | exact List.mem_cons_self | refine List.mem_cons_of_mem _ ?_)); exact rfl; exact rfl; clear hF a; intro a hF))
          refine hK _ _ (fun h => by cases h) ?_; clear hK
          refine t_done (by kernel_rfl) ?_
          (repeat (first | (with_reducible refine q_then_n ?_) | (with_reducible refine w_ret ?_)))
          (apply f_ret Try.results27 hF hM; (repeat (first | exact RL.nil | (apply RL.tmp; exact rfl) | (apply RL.cell; exact rfl; (repeat (first | exact List.mem_cons_self | refine List.mem_cons_of_mem _ ?_)); exact rfl))); refine Ret.mk hM.since ?_; dsimp only [resV])
          exact ⟨_, rfl, hM.factOut (List.mem_cons_self)⟩
end Go.Proofs.Ytfjelofpahcfpaa
