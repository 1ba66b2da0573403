/- curve: the reference's Convolve. -/
import Derived.Test.YtpkledpnicocmaaVa
set_option linter.unusedSimpArgs false
set_option linter.unusedVariables false
namespace Go.Proofs.Ytpkledpnicocmaa
open Go.RowKit Go.Shelf C55
theorem lst_succ (F G : Nat → Int) (r s : Nat) : lst F G r (s + 1) = min (lst F G r s) (F (s + 1) + G (r - (s + 1))) := rfl
set_option maxHeartbeats 1000000 in
theorem refConvolve_c (A B : Cu) (v u : Value) (own : Nat → Prop) (W : World) (hl : ∀ b, own b → b < W.heap.size) (hv : Has own W (IsCu · v A)) (hu : Has own W (IsCu · u B)) :
    Calls Try.prog 22 ⟨[v, u]⟩ W (Ret W (CvR own (convR A B))) := by
  obtain ⟨a0, c0, rfl, hV, l1, l2⟩ := isCu_open hv
  obtain ⟨a1, c1, rfl, hU, m1, m2⟩ := isCu_open hu
  have hM := (((Mm.start hl).known hv).known hu)
  refine f_start Try.func22 rfl Try.ntmps22 rfl rfl ?_; intro a hF
  unfold convR
  by_cases hp : pairE A B = 0
  case neg =>
    rw [if_pos hp]
    (repeat' (first | (with_reducible refine w_seq ?_) | (with_reducible refine c_region ?_) | (with_reducible refine s_nil ?_) | ((with_reducible apply s_call (f := 51) hF hM); exact rfl; exact rfl; exact rfl; exact rfl; exact rfl; exact (refPair_c A B _ _ _ _ hM.lt (hM.facts (IsCu · _ A) (by (repeat (first | exact List.mem_cons_self | refine List.mem_cons_of_mem _ ?_)))) (hM.facts (IsCu · _ B) (by (repeat (first | exact List.mem_cons_self | refine List.mem_cons_of_mem _ ?_))))); clear hF hM a; rintro v w a rfl - hM hF) | (with_reducible refine q_then_n ?_) | ((with_reducible apply s_pure hF); exact rfl; exact rfl; exact rfl; (first | exact trivial | omega | decide); clear hF a; intro a hF) | ((with_reducible apply s_load hF hM); exact rfl; exact rfl; (repeat (first | exact List.mem_cons_self | refine List.mem_cons_of_mem _ ?_)); exact rfl; exact rfl; clear hF a; intro a hF) | ((with_reducible apply s_store hF hM); exact rfl; exact rfl; exact rfl; exact rfl; (repeat (first | exact Upd.z | apply Upd.s)); exact rfl; exact rfl; exact rfl; clear hM; intro w hM) | ((with_reducible apply s_alloc hF hM); exact rfl; exact rfl; exact rfl; clear hF hM a; intro b w a hM hF) | ((with_reducible apply s_box hF hM); exact rfl; exact rfl; exact rfl; exact rfl; clear hF hM a; intro b w a hM hF) | (with_reducible refine w_ret ?_) | (with_reducible refine q_then_r ?_) | ((with_reducible apply c_dec hF); exact rfl; all_goals intro hc; all_goals (try (exfalso; omega)))))
    (apply f_ret Try.results22 hF hM; (repeat (first | exact RL.nil | (apply RL.tmp; exact rfl) | (apply RL.cell; exact rfl; (repeat (first | exact List.mem_cons_self | refine List.mem_cons_of_mem _ ?_)); exact rfl))); refine Ret.mk hM.since ?_; dsimp only [resV])
    exact cvR_z rfl
  rw [if_neg (by omega)]
  obtain ⟨ha, hb⟩ := pairE_ok hp
  have k0 := ha.l0
  have k1 := ha.l1
  have k2 := hb.l0
  have k3 := hb.l1
  (repeat' (first | (with_reducible refine w_seq ?_) | (with_reducible refine c_region ?_) | (with_reducible refine s_nil ?_) | ((with_reducible apply s_call (f := 51) hF hM); exact rfl; exact rfl; exact rfl; exact rfl; exact rfl; exact (refPair_c A B _ _ _ _ hM.lt (hM.facts (IsCu · _ A) (by (repeat (first | exact List.mem_cons_self | refine List.mem_cons_of_mem _ ?_)))) (hM.facts (IsCu · _ B) (by (repeat (first | exact List.mem_cons_self | refine List.mem_cons_of_mem _ ?_))))); clear hF hM a; rintro v w a rfl - hM hF) | (with_reducible refine q_then_n ?_) | ((with_reducible apply s_pure hF); exact rfl; exact rfl; exact rfl; (first | exact trivial | omega | decide); clear hF a; intro a hF) | ((with_reducible apply s_load hF hM); exact rfl; exact rfl; (repeat (first | exact List.mem_cons_self | refine List.mem_cons_of_mem _ ?_)); exact rfl; exact rfl; clear hF a; intro a hF) | ((with_reducible apply s_alloc hF hM); exact rfl; exact rfl; exact rfl; clear hF hM a; intro b w a hM hF) | ((with_reducible apply s_box hF hM); exact rfl; exact rfl; exact rfl; exact rfl; clear hF hM a; intro b w a hM hF) | (with_reducible refine w_skip ?_) | ((with_reducible apply c_dec hF); exact rfl; all_goals intro hc; all_goals (try (exfalso; omega)))))
  rename_i b2 _ b3 _ _
  refine c_draw (fun i => Nat.ble 8 i) hM ?_; clear hM; intro w hM
  (first | (refine t_pure (i := 0) hF rfl rfl rfl rfl (by kernel_rfl) hM.sm (fun _ _ _ h => h) ?_ ?_; (first | exact trivial | omega | decide); clear hF a; intro a hF))
  (first | (apply t_load (i := 1) hF rfl rfl rfl; (repeat (first | exact List.mem_cons_self | refine List.mem_cons_of_mem _ ?_)); exact rfl; exact rfl; kernel_rfl; exact hM.sm; exact (fun _ _ _ h => h); clear hF a; intro a hF))
  (first | (refine t_pure (i := 2) hF rfl rfl rfl rfl (by kernel_rfl) hM.sm (fun _ _ _ h => h) ?_ ?_; (first | exact trivial | omega | decide); clear hF a; intro a hF))
  (first | (refine t_pure (i := 3) hF rfl rfl rfl rfl (by kernel_rfl) hM.sm (fun _ _ _ h => h) ?_ ?_; (first | exact trivial | omega | decide); clear hF a; intro a hF))
  (first | (apply t_load (i := 4) hF rfl rfl rfl; (repeat (first | exact List.mem_cons_self | refine List.mem_cons_of_mem _ ?_)); exact rfl; exact rfl; kernel_rfl; exact hM.sm; exact (fun _ _ _ h => h); clear hF a; intro a hF))
  (first | (refine t_pure (i := 5) hF rfl rfl rfl rfl (by kernel_rfl) hM.sm (fun _ _ _ h => h) ?_ ?_; (first | exact trivial | omega | decide); clear hF a; intro a hF))
  (first | (refine t_pure (i := 6) hF rfl rfl rfl rfl (by kernel_rfl) hM.sm (fun _ _ _ h => h) ?_ ?_; (first | exact trivial | omega | decide); clear hF a; intro a hF))
  (first | (refine t_pure (i := 7) hF rfl rfl rfl rfl (by kernel_rfl) hM.sm (fun _ _ _ h => h) ?_ ?_; (first | exact trivial | omega | decide); clear hF a; intro a hF))
  refine t_done (by kernel_rfl) ?_
  (repeat' (first | (with_reducible refine w_seq ?_) | (with_reducible refine c_region ?_) | (with_reducible refine s_nil ?_) | (with_reducible refine q_then_n ?_) | ((with_reducible apply s_pure hF); exact rfl; exact rfl; exact rfl; (first | exact trivial | omega | decide); clear hF a; intro a hF)))
  obtain ⟨r, hr⟩ : ∃ r : Nat, A.V.length + B.V.length - 2 = r := ⟨_, rfl⟩
  have hrz : (A.V.length : Int) + B.V.length - 2 = (r : Int) := by omega
  rw [hrz] at hF
  have e1 := vl_bd ha (k := 0) (by omega)
  have e2 := vl_bd hb (k := 0) (by omega)
  have e3 := vl_bd ha (k := r) (by omega)
  have e4 := vl_bd hb (k := r) (by omega)
  refine c_draw (fun i => Nat.ble 7 i) hM ?_; clear hM; intro w hM
  (first | (apply t_load (i := 0) hF rfl rfl rfl; (repeat (first | exact List.mem_cons_self | refine List.mem_cons_of_mem _ ?_)); exact rfl; exact rfl; kernel_rfl; exact hM.sm; exact (fun _ _ _ h => h); clear hF a; intro a hF))
  (first | (apply t_load (i := 2) hF rfl rfl rfl; (repeat (first | exact List.mem_cons_self | refine List.mem_cons_of_mem _ ?_)); exact rfl; exact rfl; kernel_rfl; exact hM.sm; exact (fun _ _ _ h => h); clear hF a; intro a hF))
  (first | (refine t_pure (i := 3) hF rfl rfl rfl rfl (by kernel_rfl) hM.sm (fun _ _ _ h => h) ?_ ?_; (first | exact trivial | omega | decide); clear hF a; intro a hF))
  refine t_one (i := 1) hF rfl (by kernel_rfl) rfl ?_
  intro K hK
  (apply x_call hF hM; exact rfl; exact rfl; exact rfl; exact rfl; exact (value_z A ha 0 _ rfl (by omega) _ _ _ hM.lt (hM.facts (IsCu · _ A) (by (repeat (first | exact List.mem_cons_self | refine List.mem_cons_of_mem _ ?_))))); clear hF hM a; rintro v w a rfl - hM hF)
  refine hK _ _ (fun _ => hM.sm) ?_; clear hK
  refine t_one (i := 4) hF rfl (by kernel_rfl) rfl ?_
  intro K hK
  (apply x_call hF hM; exact rfl; exact rfl; exact rfl; exact rfl; exact (value_z B hb r _ rfl (by omega) _ _ _ hM.lt (hM.facts (IsCu · _ B) (by (repeat (first | exact List.mem_cons_self | refine List.mem_cons_of_mem _ ?_))))); clear hF hM a; rintro v w a rfl - hM hF)
  refine hK _ _ (fun _ => hM.sm) ?_; clear hK
  (first | (refine t_pure (i := 5) hF rfl rfl rfl rfl (by kernel_rfl) hM.sm (fun _ _ _ h => h) ?_ ?_; (first | exact trivial | omega | decide); clear hF a; intro a hF))
  (first | (refine t_pure (i := 6) hF rfl rfl rfl rfl (by kernel_rfl) hM.sm (fun _ _ _ h => h) ?_ ?_; (first | exact trivial | omega | decide); clear hF a; intro a hF))
  refine t_done (by kernel_rfl) ?_
  (repeat' (first | (with_reducible refine w_seq ?_) | (with_reducible refine c_region ?_) | (with_reducible refine s_nil ?_) | (with_reducible refine q_then_n ?_) | ((with_reducible apply s_pure hF); exact rfl; exact rfl; exact rfl; (first | exact trivial | omega | decide); clear hF a; intro a hF) | (with_reducible refine w_block ?_)))
  refine c_loop (m := A.V.length) (fun m a w' => ∃ (s : Nat), m + s = A.V.length ∧ s + 1 ≤ A.V.length ∧ Fr _ [] [(11, .int .i64 ((s : Int) + 1)), (10, .int .i64 (lst (vl A) (vl B) r s)), (7, .int .i64 A.V.length), (8, .int .i64 B.V.length), (9, .int .i64 r), (2, .pointer (some ⟨b2, 0, none⟩)), (3, .pointer (some ⟨b3, 0, none⟩)), (4, .pointer (some ⟨b, 0, none⟩)), (5, .int .i64 0)] a ∧
    Mm own W [⟨b, ⟨[.slice none 0 0, .int .i64 0]⟩, 24⟩, ⟨b3, ⟨[.slice a1 B.V.length c1, .int .i64 B.S]⟩, 24⟩, ⟨b2, ⟨[.slice a0 A.V.length c0, .int .i64 A.S]⟩, 24⟩] []
        [(IsCu · (.agg #[.slice a1 B.V.length c1, .int .i64 B.S]) B), (IsCu · (.agg #[.slice a0 A.V.length c0, .int .i64 A.S]) A)] w') ⟨0, by omega, by omega, hF.sub (by repeat (first | exact Sub.nil | refine Sub.cons rfl (by first | with_reducible rfl | (refine congrArg (Value.int _) ?_; omega) | exact rfl) ?_)), hM⟩ ?_
  clear hF hM a
  rintro m a w' ⟨s, hs, hsl, hF, hM⟩
  by_cases hlt : s + 1 < A.V.length
  · have d1 := lst_bd' ha hb (r := r) (s := s) (by omega) (by omega)
    have d2 := vl_bd ha (k := s + 1) (by omega)
    have d3 := vl_bd hb (k := r - (s + 1)) (by omega)
    (repeat' (first | (with_reducible refine w_seq ?_) | (with_reducible refine c_region ?_) | (with_reducible refine s_nil ?_) | (with_reducible refine q_then_n ?_) | ((with_reducible apply s_pure hF); exact rfl; exact rfl; exact rfl; (first | exact trivial | omega | decide); clear hF a; intro a hF) | (with_reducible refine w_skip ?_) | (with_reducible refine w_block ?_) | ((with_reducible apply c_dec hF); exact rfl; all_goals intro hc; all_goals (try (exfalso; omega)))))
    refine c_draw (fun i => Nat.ble 12 i) hM ?_; clear hM; intro w hM
    (first | (refine t_pure (i := 0) hF rfl rfl rfl rfl (by kernel_rfl) hM.sm (fun _ _ _ h => h) ?_ ?_; (first | exact trivial | omega | decide); clear hF a; intro a hF))
    (first | (apply t_load (i := 1) hF rfl rfl rfl; (repeat (first | exact List.mem_cons_self | refine List.mem_cons_of_mem _ ?_)); exact rfl; exact rfl; kernel_rfl; exact hM.sm; exact (fun _ _ _ h => h); clear hF a; intro a hF))
    (first | (refine t_pure (i := 2) hF rfl rfl rfl rfl (by kernel_rfl) hM.sm (fun _ _ _ h => h) ?_ ?_; (first | exact trivial | omega | decide); clear hF a; intro a hF))
    (first | (apply t_load (i := 4) hF rfl rfl rfl; (repeat (first | exact List.mem_cons_self | refine List.mem_cons_of_mem _ ?_)); exact rfl; exact rfl; kernel_rfl; exact hM.sm; exact (fun _ _ _ h => h); clear hF a; intro a hF))
    (first | (refine t_pure (i := 5) hF rfl rfl rfl rfl (by kernel_rfl) hM.sm (fun _ _ _ h => h) ?_ ?_; (first | exact trivial | omega | decide); clear hF a; intro a hF))
    (first | (refine t_pure (i := 6) hF rfl rfl rfl rfl (by kernel_rfl) hM.sm (fun _ _ _ h => h) ?_ ?_; (first | exact trivial | omega | decide); clear hF a; intro a hF))
    (first | (refine t_pure (i := 7) hF rfl rfl rfl rfl (by kernel_rfl) hM.sm (fun _ _ _ h => h) ?_ ?_; (first | exact trivial | omega | decide); clear hF a; intro a hF))
    refine t_one (i := 3) hF rfl (by kernel_rfl) rfl ?_
    intro K hK
    (apply x_call hF hM; exact rfl; exact rfl; exact rfl; exact rfl; exact (value_z A ha (s + 1) _ rfl (by omega) _ _ _ hM.lt (hM.facts (IsCu · _ A) (by (repeat (first | exact List.mem_cons_self | refine List.mem_cons_of_mem _ ?_))))); clear hF hM a; rintro v w a rfl - hM hF)
    refine hK _ _ (fun _ => hM.sm) ?_; clear hK
    refine t_one (i := 8) hF rfl (by kernel_rfl) rfl ?_
    intro K hK
    (apply x_call hF hM; exact rfl; exact rfl; exact rfl; exact rfl; exact (value_z B hb (r - (s + 1)) _ (by omega) (by omega) _ _ _ hM.lt (hM.facts (IsCu · _ B) (by (repeat (first | exact List.mem_cons_self | refine List.mem_cons_of_mem _ ?_))))); clear hF hM a; rintro v w a rfl - hM hF)
    refine hK _ _ (fun _ => hM.sm) ?_; clear hK
    (first | (refine t_pure (i := 9) hF rfl rfl rfl rfl (by kernel_rfl) hM.sm (fun _ _ _ h => h) ?_ ?_; (first | exact trivial | omega | decide); clear hF a; intro a hF))
    (first | (refine t_pure (i := 10) hF rfl rfl rfl rfl (by kernel_rfl) hM.sm (fun _ _ _ h => h) ?_ ?_; (first | exact trivial | omega | decide); clear hF a; intro a hF))
    (first | (refine t_pure (i := 11) hF rfl rfl rfl rfl (by kernel_rfl) hM.sm (fun _ _ _ h => h) ?_ ?_; (first | exact trivial | omega | decide); clear hF a; intro a hF))
    refine t_done (by kernel_rfl) ?_
    (repeat' (first | (with_reducible refine c_region ?_) | (with_reducible refine s_nil ?_) | (with_reducible refine q_then_n ?_) | ((with_reducible apply s_pure hF); exact rfl; exact rfl; exact rfl; (first | exact trivial | omega | decide); clear hF a; intro a hF) | (with_reducible refine q_blk_n ?_)))
    exact ⟨m - 1, by omega, s + 1, by omega, by omega, hF.sub (by repeat (first | exact Sub.nil | refine Sub.cons rfl (by first | with_reducible rfl | (refine congrArg (Value.int _) ?_; omega) | exact rfl) ?_)), hM⟩
  obtain rfl : s = A.V.length - 1 := by omega
  clear hsl hs hlt
  (repeat' (first | (with_reducible refine w_seq ?_) | (with_reducible refine c_region ?_) | (with_reducible refine s_nil ?_) | (with_reducible refine q_then_n ?_) | ((with_reducible apply s_pure hF); exact rfl; exact rfl; exact rfl; (first | exact trivial | omega | decide); clear hF a; intro a hF) | (with_reducible refine w_exit ?_) | (with_reducible refine q_then_x ?_) | (with_reducible refine q_blk_x ?_) | ((with_reducible apply c_dec hF); exact rfl; all_goals intro hc; all_goals (try (exfalso; omega)))))
  refine c_draw (fun i => Nat.ble 7 i) hM ?_; clear hM; intro w hM
  (first | (apply t_load (i := 0) hF rfl rfl rfl; (repeat (first | exact List.mem_cons_self | refine List.mem_cons_of_mem _ ?_)); exact rfl; exact rfl; kernel_rfl; exact hM.sm; exact (fun _ _ _ h => h); clear hF a; intro a hF))
  (first | (refine t_pure (i := 1) hF rfl rfl rfl rfl (by kernel_rfl) hM.sm (fun _ _ _ h => h) ?_ ?_; (first | exact trivial | omega | decide); clear hF a; intro a hF))
  (first | (apply t_load (i := 3) hF rfl rfl rfl; (repeat (first | exact List.mem_cons_self | refine List.mem_cons_of_mem _ ?_)); exact rfl; exact rfl; kernel_rfl; exact hM.sm; exact (fun _ _ _ h => h); clear hF a; intro a hF))
  refine t_one (i := 2) hF rfl (by kernel_rfl) rfl ?_
  intro K hK
  (apply x_call hF hM; exact rfl; exact rfl; exact rfl; exact rfl; exact (value_z A ha r _ rfl (by omega) _ _ _ hM.lt (hM.facts (IsCu · _ A) (by (repeat (first | exact List.mem_cons_self | refine List.mem_cons_of_mem _ ?_))))); clear hF hM a; rintro v w a rfl - hM hF)
  refine hK _ _ (fun _ => hM.sm) ?_; clear hK
  refine t_one (i := 4) hF rfl (by kernel_rfl) rfl ?_
  intro K hK
  (apply x_call hF hM; exact rfl; exact rfl; exact rfl; exact rfl; exact (value_z B hb 0 _ rfl (by omega) _ _ _ hM.lt (hM.facts (IsCu · _ B) (by (repeat (first | exact List.mem_cons_self | refine List.mem_cons_of_mem _ ?_))))); clear hF hM a; rintro v w a rfl - hM hF)
  refine hK _ _ (fun _ => hM.sm) ?_; clear hK
  (first | (refine t_pure (i := 5) hF rfl rfl rfl rfl (by kernel_rfl) hM.sm (fun _ _ _ h => h) ?_ ?_; (first | exact trivial | omega | decide); clear hF a; intro a hF))
  (first | (refine t_pure (i := 6) hF rfl rfl rfl rfl (by kernel_rfl) hM.sm (fun _ _ _ h => h) ?_ ?_; (first | exact trivial | omega | decide); clear hF a; intro a hF))
  refine t_done (by kernel_rfl) ?_
  (repeat' (first | (with_reducible refine w_seq ?_) | (with_reducible refine c_region ?_) | (with_reducible refine s_nil ?_) | (with_reducible refine q_then_n ?_) | ((with_reducible apply s_pure hF); exact rfl; exact rfl; exact rfl; (first | exact trivial | omega | decide); clear hF a; intro a hF) | (with_reducible refine w_block ?_)))
  obtain ⟨p, hpe⟩ : ∃ p, lst (vl A) (vl B) r (A.V.length - 1) = p := ⟨_, rfl⟩
  have p1 := lst_bd' ha hb (r := r) (s := A.V.length - 1) (by omega) (by omega)
  rw [hpe] at p1 hF
  refine c_loop (m := B.V.length) (fun m a w' => ∃ (s : Nat), m + s = B.V.length ∧ s + 1 ≤ B.V.length ∧ Fr _ [] [(13, .int .i64 ((s : Int) + 1)), (12, .int .i64 (lst (vl B) (vl A) r s)), (10, .int .i64 p), (7, .int .i64 A.V.length), (8, .int .i64 B.V.length), (9, .int .i64 r), (2, .pointer (some ⟨b2, 0, none⟩)), (3, .pointer (some ⟨b3, 0, none⟩)), (4, .pointer (some ⟨b, 0, none⟩)), (5, .int .i64 0)] a ∧
    Mm own W [⟨b, ⟨[.slice none 0 0, .int .i64 0]⟩, 24⟩, ⟨b3, ⟨[.slice a1 B.V.length c1, .int .i64 B.S]⟩, 24⟩, ⟨b2, ⟨[.slice a0 A.V.length c0, .int .i64 A.S]⟩, 24⟩] []
        [(IsCu · (.agg #[.slice a1 B.V.length c1, .int .i64 B.S]) B), (IsCu · (.agg #[.slice a0 A.V.length c0, .int .i64 A.S]) A)] w') ⟨0, by omega, by omega, hF.sub (by repeat (first | exact Sub.nil | refine Sub.cons rfl (by first | with_reducible rfl | (refine congrArg (Value.int _) ?_; omega) | ((refine congrArg (Value.int _) ?_; exact Int.add_comm _ _)) | exact rfl) ?_)), hM⟩ ?_
  clear hF hM a
  rintro m2 a w' ⟨s, hs, hsl, hF, hM⟩
  by_cases hlt : s + 1 < B.V.length
  · have d1 := lst_bd' hb ha (r := r) (s := s) (by omega) (by omega)
    have d2 := vl_bd hb (k := s + 1) (by omega)
    have d3 := vl_bd ha (k := r - (s + 1)) (by omega)
    (repeat' (first | (with_reducible refine w_seq ?_) | (with_reducible refine c_region ?_) | (with_reducible refine s_nil ?_) | (with_reducible refine q_then_n ?_) | ((with_reducible apply s_pure hF); exact rfl; exact rfl; exact rfl; (first | exact trivial | omega | decide); clear hF a; intro a hF) | (with_reducible refine w_skip ?_) | (with_reducible refine w_block ?_) | ((with_reducible apply c_dec hF); exact rfl; all_goals intro hc; all_goals (try (exfalso; omega)))))
    refine c_draw (fun i => Nat.ble 12 i) hM ?_; clear hM; intro w hM
    (first | (refine t_pure (i := 0) hF rfl rfl rfl rfl (by kernel_rfl) hM.sm (fun _ _ _ h => h) ?_ ?_; (first | exact trivial | omega | decide); clear hF a; intro a hF))
    (first | (apply t_load (i := 1) hF rfl rfl rfl; (repeat (first | exact List.mem_cons_self | refine List.mem_cons_of_mem _ ?_)); exact rfl; exact rfl; kernel_rfl; exact hM.sm; exact (fun _ _ _ h => h); clear hF a; intro a hF))
    (first | (refine t_pure (i := 2) hF rfl rfl rfl rfl (by kernel_rfl) hM.sm (fun _ _ _ h => h) ?_ ?_; (first | exact trivial | omega | decide); clear hF a; intro a hF))
    (first | (refine t_pure (i := 3) hF rfl rfl rfl rfl (by kernel_rfl) hM.sm (fun _ _ _ h => h) ?_ ?_; (first | exact trivial | omega | decide); clear hF a; intro a hF))
    (first | (refine t_pure (i := 4) hF rfl rfl rfl rfl (by kernel_rfl) hM.sm (fun _ _ _ h => h) ?_ ?_; (first | exact trivial | omega | decide); clear hF a; intro a hF))
    (first | (apply t_load (i := 6) hF rfl rfl rfl; (repeat (first | exact List.mem_cons_self | refine List.mem_cons_of_mem _ ?_)); exact rfl; exact rfl; kernel_rfl; exact hM.sm; exact (fun _ _ _ h => h); clear hF a; intro a hF))
    (first | (refine t_pure (i := 7) hF rfl rfl rfl rfl (by kernel_rfl) hM.sm (fun _ _ _ h => h) ?_ ?_; (first | exact trivial | omega | decide); clear hF a; intro a hF))
    refine t_one (i := 5) hF rfl (by kernel_rfl) rfl ?_
    intro K hK
    (apply x_call hF hM; exact rfl; exact rfl; exact rfl; exact rfl; exact (value_z A ha (r - (s + 1)) _ (by omega) (by omega) _ _ _ hM.lt (hM.facts (IsCu · _ A) (by (repeat (first | exact List.mem_cons_self | refine List.mem_cons_of_mem _ ?_))))); clear hF hM a; rintro v w a rfl - hM hF)
    refine hK _ _ (fun _ => hM.sm) ?_; clear hK
    refine t_one (i := 8) hF rfl (by kernel_rfl) rfl ?_
    intro K hK
    (apply x_call hF hM; exact rfl; exact rfl; exact rfl; exact rfl; exact (value_z B hb (s + 1) _ rfl (by omega) _ _ _ hM.lt (hM.facts (IsCu · _ B) (by (repeat (first | exact List.mem_cons_self | refine List.mem_cons_of_mem _ ?_))))); clear hF hM a; rintro v w a rfl - hM hF)
    refine hK _ _ (fun _ => hM.sm) ?_; clear hK
    (first | (refine t_pure (i := 9) hF rfl rfl rfl rfl (by kernel_rfl) hM.sm (fun _ _ _ h => h) ?_ ?_; (first | exact trivial | omega | decide); clear hF a; intro a hF))
    (first | (refine t_pure (i := 10) hF rfl rfl rfl rfl (by kernel_rfl) hM.sm (fun _ _ _ h => h) ?_ ?_; (first | exact trivial | omega | decide); clear hF a; intro a hF))
    (first | (refine t_pure (i := 11) hF rfl rfl rfl rfl (by kernel_rfl) hM.sm (fun _ _ _ h => h) ?_ ?_; (first | exact trivial | omega | decide); clear hF a; intro a hF))
    refine t_done (by kernel_rfl) ?_
    (repeat' (first | (with_reducible refine c_region ?_) | (with_reducible refine s_nil ?_) | (with_reducible refine q_then_n ?_) | ((with_reducible apply s_pure hF); exact rfl; exact rfl; exact rfl; (first | exact trivial | omega | decide); clear hF a; intro a hF) | (with_reducible refine q_blk_n ?_)))
    exact ⟨m2 - 1, by omega, s + 1, by omega, by omega, hF.sub (by repeat (first | exact Sub.nil | refine Sub.cons rfl (by first | with_reducible rfl | (refine congrArg (Value.int _) ?_; omega) | ((refine congrArg (Value.int _) ?_; rw [lst_succ]; omega)) | exact rfl) ?_)), hM⟩
  obtain rfl : s = B.V.length - 1 := by omega
  clear hsl hs hlt
  obtain ⟨q, hqe⟩ : ∃ q, lst (vl B) (vl A) r (B.V.length - 1) = q := ⟨_, rfl⟩
  have q1 := lst_bd' hb ha (r := r) (s := B.V.length - 1) (by omega) (by omega)
  rw [hqe] at q1 hF
  have kb := cross_bd (p := p) (sp := B.S) (q := q) (sq := A.S) (by omega) (by omega) hb.s ha.s
  have hcv : convK A B = cross p B.S q A.S := by unfold convK; rw [hr, hpe, hqe]
  rw [hcv]
  obtain ⟨kk, hkk⟩ : ∃ kk, cross p B.S q A.S = kk := ⟨_, rfl⟩
  rw [hkk] at kb ⊢
  have hcr : ∀ w, Calls Try.prog 52 ⟨[.int .i64 p, .int .i64 B.S, .int .i64 q, .int .i64 A.S]⟩ w (Ret w fun v _ => v = .int .i64 kk) := fun w => hkk ▸ refCrossing_c p B.S q A.S w (by omega) (by omega) hb.s ha.s
  obtain ⟨N, hN⟩ : ∃ N, A.V.length + B.V.length - 1 + kk.toNat = N := ⟨_, rfl⟩
  rw [hN]
  by_cases hlong : 4096 < N
  · (repeat' (first | (with_reducible refine w_seq ?_) | (with_reducible refine c_region ?_) | (with_reducible refine s_nil ?_) | ((with_reducible apply s_call (f := 52) hF hM); exact rfl; exact rfl; exact rfl; exact rfl; exact rfl; exact (hcr _); clear hF hM a; rintro v w a rfl - hM hF) | (with_reducible refine q_then_n ?_) | ((with_reducible apply s_pure hF); exact rfl; exact rfl; exact rfl; (first | exact trivial | omega | decide); clear hF a; intro a hF) | ((with_reducible apply s_load hF hM); exact rfl; exact rfl; (repeat (first | exact List.mem_cons_self | refine List.mem_cons_of_mem _ ?_)); exact rfl; exact rfl; clear hF a; intro a hF) | ((with_reducible apply s_store hF hM); exact rfl; exact rfl; exact rfl; exact rfl; (repeat (first | exact Upd.z | apply Upd.s)); exact rfl; exact rfl; exact rfl; clear hM; intro w hM) | (with_reducible refine w_exit ?_) | (with_reducible refine w_ret ?_) | (with_reducible refine q_then_x ?_) | (with_reducible refine q_then_r ?_) | (with_reducible refine q_blk_x ?_) | ((with_reducible apply c_dec hF); exact rfl; all_goals intro hc; all_goals (try (exfalso; omega)))))
    (apply f_ret Try.results22 hF hM; (repeat (first | exact RL.nil | (apply RL.tmp; exact rfl) | (apply RL.cell; exact rfl; (repeat (first | exact List.mem_cons_self | refine List.mem_cons_of_mem _ ?_)); exact rfl))); refine Ret.mk hM.since ?_; dsimp only [resV])
    exact cvR_z (fin_long (by rw [tab_len]; exact hlong))
  (repeat' (first | (with_reducible refine w_seq ?_) | (with_reducible refine c_region ?_) | (with_reducible refine s_nil ?_) | ((with_reducible apply s_call (f := 52) hF hM); exact rfl; exact rfl; exact rfl; exact rfl; exact rfl; exact (hcr _); clear hF hM a; rintro v w a rfl - hM hF) | (with_reducible refine q_then_n ?_) | ((with_reducible apply s_pure hF); exact rfl; exact rfl; exact rfl; (first | exact trivial | omega | decide); clear hF a; intro a hF) | ((with_reducible apply s_load hF hM); exact rfl; exact rfl; (repeat (first | exact List.mem_cons_self | refine List.mem_cons_of_mem _ ?_)); exact rfl; exact rfl; clear hF a; intro a hF) | (with_reducible refine w_skip ?_) | (with_reducible refine w_block ?_) | (with_reducible refine w_exit ?_) | (with_reducible refine q_then_x ?_) | (with_reducible refine q_blk_x ?_) | ((with_reducible apply c_dec hF); exact rfl; all_goals intro hc; all_goals (try (exfalso; omega)))))
  replace hM := hM.nilRow 3 1
  have hs0 : (tab (fun t => lst (vl A) (vl B) t t) 0).map (Value.int .i64) = [] := by simp [tab]
  refine c_loop (m := N) (fun m a w' => ∃ (k : Nat) (ga : Option Addr) (gc : Nat), m + k = N ∧
    Fr _ [] [(16, .int .i64 k), (15, .slice ga k gc), (9, .int .i64 r), (14, .int .i64 kk), (2, .pointer (some ⟨b2, 0, none⟩)), (3, .pointer (some ⟨b3, 0, none⟩)), (4, .pointer (some ⟨b, 0, none⟩)), (5, .int .i64 0)] a ∧
    Mm own W [⟨b, ⟨[.slice none 0 0, .int .i64 0]⟩, 24⟩, ⟨b3, ⟨[.slice a1 B.V.length c1, .int .i64 B.S]⟩, 24⟩, ⟨b2, ⟨[.slice a0 A.V.length c0, .int .i64 A.S]⟩, 24⟩] [⟨3, 1, .slice ga k gc, k, (tab (fun t => lst (vl A) (vl B) t t) k).map (Value.int .i64)⟩]
      [(IsCu · (.agg #[.slice a1 B.V.length c1, .int .i64 B.S]) B), (IsCu · (.agg #[.slice a0 A.V.length c0, .int .i64 A.S]) A)] w') ⟨0, none, 0, by omega, hF.sub (by repeat (first | exact Sub.nil | refine Sub.cons rfl (by first | with_reducible rfl | (refine congrArg (Value.int _) ?_; omega) | exact rfl) ?_)), by rw [hs0]; exact hM⟩ ?_
  clear hF hM a
  rintro m a w' ⟨k, ga, gc, hk, hF, hM⟩
  by_cases hlt : k < N
  · (repeat' (first | (with_reducible refine w_seq ?_) | (with_reducible refine c_region ?_) | (with_reducible refine s_nil ?_) | ((with_reducible apply s_call (f := 53) hF hM); exact rfl; exact rfl; exact rfl; exact rfl; exact rfl; exact (at2_c A B ha hb _ _ k (by omega) _ _ hM.lt (hM.facts (IsCu · _ A) (by (repeat (first | exact List.mem_cons_self | refine List.mem_cons_of_mem _ ?_)))) (hM.facts (IsCu · _ B) (by (repeat (first | exact List.mem_cons_self | refine List.mem_cons_of_mem _ ?_))))); clear hF hM a; rintro v w a rfl - hM hF) | (with_reducible refine q_then_n ?_) | ((with_reducible apply s_pure hF); exact rfl; exact rfl; exact rfl; (first | exact trivial | omega | decide); clear hF a; intro a hF) | ((with_reducible apply s_load hF hM); exact rfl; exact rfl; (repeat (first | exact List.mem_cons_self | refine List.mem_cons_of_mem _ ?_)); exact rfl; exact rfl; clear hF a; intro a hF) | ((with_reducible apply s_lit hF hM); exact rfl; exact rfl; exact rfl; exact rfl; clear hF hM a; intro bl w a hM hF) | ((with_reducible apply s_app hF hM); exact rfl; exact rfl; exact rfl; exact rfl; (repeat (first | exact Kth.z | apply Kth.s)); exact rfl; exact rfl; exact rfl; exact rfl; omega; clear hF hM a; intro g cap w a hM hF; dsimp only [List.set] at hM) | (with_reducible refine w_skip ?_) | (with_reducible refine w_block ?_) | (with_reducible refine q_blk_n ?_) | ((with_reducible apply c_dec hF); exact rfl; all_goals intro hc; all_goals (try (exfalso; omega)))))
    refine ⟨m - 1, by omega, k + 1, some ⟨g, 0, none⟩, cap, by omega, hF.sub (by repeat (first | exact Sub.nil | refine Sub.cons rfl (by first | with_reducible rfl | (refine congrArg (Value.int _) ?_; omega) | exact rfl) ?_)), ?_⟩
    rw [tab_succ, List.map_append]
    exact hM
  · obtain rfl : k = N := by omega
    clear hlt
    obtain ⟨f1, f2, f3, f4, hfv⟩ := finV_agg ga gc (tab (fun t => lst (vl A) (vl B) t t) k) (min A.S B.S)
    (repeat' (first | (with_reducible refine w_seq ?_) | (with_reducible refine c_region ?_) | (with_reducible refine s_nil ?_) | ((with_reducible apply s_call (f := 54) hF hM); exact rfl; exact rfl; exact rfl; exact rfl; exact rfl; exact (hfv ▸ finish_c (tab (fun t => lst (vl A) (vl B) t t) k) (min A.S B.S) _ (tab_len _ _) ga gc own _ (fun b h => hM.lt b (.inl h)) (hM.rowFact (by (repeat (first | exact List.mem_cons_self | refine List.mem_cons_of_mem _ ?_)))) (by omega)); clear hF hM a; rintro v w a rfl - hM hF) | (with_reducible refine q_then_n ?_) | ((with_reducible apply s_pure hF); exact rfl; exact rfl; exact rfl; (first | exact trivial | omega | decide); clear hF a; intro a hF) | ((with_reducible apply s_load hF hM); exact rfl; exact rfl; (repeat (first | exact List.mem_cons_self | refine List.mem_cons_of_mem _ ?_)); exact rfl; exact rfl; clear hF a; intro a hF) | ((with_reducible apply s_store hF hM); exact rfl; exact rfl; exact rfl; exact rfl; (repeat (first | exact Upd.z | apply Upd.s)); exact rfl; exact rfl; exact rfl; clear hM; intro w hM) | (with_reducible refine w_exit ?_) | (with_reducible refine w_ret ?_) | (with_reducible refine q_then_x ?_) | (with_reducible refine q_blk_x ?_) | ((with_reducible apply c_dec hF); exact rfl; all_goals intro hc; all_goals (try (exfalso; omega)))))
    (apply f_ret Try.results22 hF hM; (repeat (first | exact RL.nil | (apply RL.tmp; exact rfl) | (apply RL.cell; exact rfl; (repeat (first | exact List.mem_cons_self | refine List.mem_cons_of_mem _ ?_)); exact rfl))); refine Ret.mk hM.since ?_; dsimp only [resV])
    rw [← hfv]
    exact fin_row hM (e := 3) (by (repeat (first | exact List.mem_cons_self | refine List.mem_cons_of_mem _ ?_))) (tab_len _ _) (by omega)
end Go.Proofs.Ytpkledpnicocmaa
