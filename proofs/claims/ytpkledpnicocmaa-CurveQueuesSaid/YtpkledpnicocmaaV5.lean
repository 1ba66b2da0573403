/- curve: curves that functions make; least sums; first times. -/
import Derived.Test.YtpkledpnicocmaaV3
import Derived.Test.YtpkledpnicocmaaGl
set_option linter.unusedSimpArgs false
set_option linter.unusedVariables false
namespace Go.Proofs.Ytpkledpnicocmaa
open Go.RowKit Go.Shelf C55
theorem fin_any {l : List Int} {S : Int} (h : l.length ≤ 4096) {x : Int} (hx : x ∈ l) (hb : 1073741824 < x) : fin l S = (zc, 2) := by
  unfold fin
  rw [if_neg (by omega), if_pos]
  rw [Bool.or_eq_true]
  exact .inl (List.any_eq_true.2 ⟨x, hx, by simpa using hb⟩)
theorem fin_slope {l : List Int} {S : Int} (h : l.length ≤ 4096) (hb : 1073741824 < S) : fin l S = (zc, 2) := by
  unfold fin
  rw [if_neg (by omega), if_pos (by simp [hb])]
theorem fin_ok {l : List Int} {S : Int} (h : l.length ≤ 4096) (hx : ∀ x ∈ l, x ≤ 1073741824) (hb : S ≤ 1073741824) : fin l S = (⟨l, S⟩, 0) := by
  unfold fin
  rw [if_neg (by omega), if_neg]
  rw [Bool.not_eq_true, Bool.or_eq_false_iff]
  refine ⟨List.any_eq_false.2 fun x h => ?_, by simp; omega⟩
  have := hx x h
  simp
  omega
theorem tab_mem {F : Nat → Int} {n k : Nat} (h : k < n) : F k ∈ tab F n := List.mem_map.2 ⟨k, List.mem_range.2 h, rfl⟩
theorem tab_all {F : Nat → Int} {n : Nat} {p : Int → Prop} (h : ∀ k, k < n → p (F k)) : ∀ x ∈ tab F n, p x := by
  intro x hx
  obtain ⟨k, hk, rfl⟩ := List.mem_map.1 hx
  exact h k (List.mem_range.1 hk)
theorem made_c (fb : Nat) (hent : memB entL fb = true) (ca : List Value) (F : Nat → Int) (n : Nat) (S : Int) (own : Nat → Prop) (W : World) (hl : ∀ b, own b → b < W.heap.size)
    (hcl : ∀ (k : Nat) (w' : World), k < n → n ≤ 4096 → Since W w' → Calls Try.prog fb ⟨.int .i64 k :: ca⟩ w' (Ret w' fun v _ => v = .int .i64 (F k))) :
    Calls Try.prog 49 ⟨[.int .i64 n, .int .i64 S, .func (.func fb) #[] ⟨ca⟩]⟩ W (Ret W (CvR own (fin (tab F n) S))) := by
  have hM := Mm.start hl
  refine f_start Try.func49 rfl Try.ntmps49 rfl rfl ?_; intro a hF
  by_cases hlong : 4096 < n
  · (repeat' (first | (with_reducible refine w_seq ?_) | (with_reducible refine c_region ?_) | (with_reducible refine s_nil ?_) | (with_reducible refine q_then_n ?_) | ((with_reducible apply s_pure hF); exact rfl; exact rfl; exact rfl; (first | exact trivial | omega | decide); clear hF a; intro a hF) | ((with_reducible apply s_store hF hM); exact rfl; exact rfl; exact rfl; exact rfl; (repeat (first | exact Upd.z | apply Upd.s)); exact rfl; exact rfl; exact rfl; clear hM; intro w hM) | ((with_reducible apply s_alloc hF hM); exact rfl; exact rfl; exact rfl; clear hF hM a; intro b w a hM hF) | (with_reducible refine w_ret ?_) | (with_reducible refine q_then_r ?_) | ((with_reducible apply c_dec hF); exact rfl; all_goals intro hc; all_goals (try (exfalso; omega)))))
    (apply f_ret Try.results49 hF hM; (repeat (first | exact RL.nil | (apply RL.tmp; exact rfl) | (apply RL.cell; exact rfl; (repeat (first | exact List.mem_cons_self | refine List.mem_cons_of_mem _ ?_)); exact rfl))); refine Ret.mk hM.since ?_; dsimp only [resV])
    refine cvR_z ?_
    unfold fin
    rw [tab_len, if_pos hlong]
  (repeat' (first | (with_reducible refine w_seq ?_) | (with_reducible refine c_region ?_) | (with_reducible refine s_nil ?_) | (with_reducible refine q_then_n ?_) | ((with_reducible apply s_pure hF); exact rfl; exact rfl; exact rfl; (first | exact trivial | omega | decide); clear hF a; intro a hF) | ((with_reducible apply s_store hF hM); exact rfl; exact rfl; exact rfl; exact rfl; (repeat (first | exact Upd.z | apply Upd.s)); exact rfl; exact rfl; exact rfl; clear hM; intro w hM) | ((with_reducible apply s_alloc hF hM); exact rfl; exact rfl; exact rfl; clear hF hM a; intro b w a hM hF) | (with_reducible refine w_skip ?_) | (with_reducible refine w_block ?_) | ((with_reducible apply c_dec hF); exact rfl; all_goals intro hc; all_goals (try (exfalso; omega)))))
  rename_i b6 _ _
  replace hM := hM.nilRow 3 1
  have hs0 : (tab F 0).map (Value.int .i64) = [] := by simp [tab]
  refine c_loop (m := n) (fun m a w' => ∃ (k : Nat) (ga : Option Addr) (gc : Nat), m + k = n ∧ (∀ (j : Nat), j < k → F j ≤ 1073741824) ∧
    Fr _ [] [(17, .int .i64 k), (16, .int .i64 n), (8, .pointer (some ⟨b, 0, none⟩)), (6, .pointer (some ⟨b6, 0, none⟩)), (7, .int .i64 0), (1, .int .i64 S), (2, .func (.func fb) #[] ⟨ca⟩)] a ∧
    Mm own W [⟨b, ⟨[.slice ga k gc, .int .i64 S]⟩, 24⟩, ⟨b6, ⟨[.slice none 0 0, .int .i64 0]⟩, 24⟩] [⟨3, 1, .slice ga k gc, k, (tab F k).map (Value.int .i64)⟩] [] w') ⟨0, none, 0, by omega, fun j h => by omega, hF.sub (by repeat (first | exact Sub.nil | refine Sub.cons rfl (by first | with_reducible rfl | (refine congrArg (Value.int _) ?_; omega) | exact rfl) ?_)), by rw [hs0]; exact hM⟩ ?_
  clear hF hM a
  rintro m a w' ⟨k, ga, gc, hk, hall, hF, hM⟩
  by_cases hlt : k < n
  · (repeat' (first | (with_reducible refine w_seq ?_) | (with_reducible refine c_region ?_) | (with_reducible refine s_nil ?_) | ((with_reducible apply s_callc (f := fb) hF hM); exact rfl; exact rfl; exact rfl; exact rfl; exact rfl; (with_reducible assumption); exact rfl; exact (hcl k _ hlt (by omega) hM.since); clear hF hM a; rintro v w a rfl - hM hF) | (with_reducible refine q_then_n ?_) | ((with_reducible apply s_pure hF); exact rfl; exact rfl; exact rfl; (first | exact trivial | omega | decide); clear hF a; intro a hF) | ((with_reducible apply s_load hF hM); exact rfl; exact rfl; (repeat (first | exact List.mem_cons_self | refine List.mem_cons_of_mem _ ?_)); exact rfl; exact rfl; clear hF a; intro a hF) | ((with_reducible apply s_store hF hM); exact rfl; exact rfl; exact rfl; exact rfl; (repeat (first | exact Upd.z | apply Upd.s)); exact rfl; exact rfl; exact rfl; clear hM; intro w hM) | ((with_reducible apply s_lit hF hM); exact rfl; exact rfl; exact rfl; exact rfl; clear hF hM a; intro bl w a hM hF) | ((with_reducible apply s_app hF hM); exact rfl; exact rfl; exact rfl; exact rfl; (repeat (first | exact Kth.z | apply Kth.s)); exact rfl; exact rfl; exact rfl; exact rfl; omega; clear hF hM a; intro g cap w a hM hF; dsimp only [List.set] at hM) | (with_reducible refine w_skip ?_) | (with_reducible refine w_block ?_) | (with_reducible refine w_ret ?_) | (with_reducible refine q_then_r ?_) | (with_reducible refine q_blk_n ?_) | (with_reducible refine q_blk_r ?_) | ((with_reducible apply c_dec hF); exact rfl; all_goals intro hc; all_goals (try (exfalso; omega)))))
    · (apply f_ret Try.results49 hF hM; (repeat (first | exact RL.nil | (apply RL.tmp; exact rfl) | (apply RL.cell; exact rfl; (repeat (first | exact List.mem_cons_self | refine List.mem_cons_of_mem _ ?_)); exact rfl))); refine Ret.mk hM.since ?_; dsimp only [resV])
      exact cvR_z (fin_any (by rw [tab_len]; omega) (tab_mem hlt) (by omega))
    · refine ⟨m - 1, by omega, k + 1, some ⟨g, 0, none⟩, cap, by omega, fun j hj => ?_, hF.sub (by repeat (first | exact Sub.nil | refine Sub.cons rfl (by first | with_reducible rfl | (refine congrArg (Value.int _) ?_; omega) | exact rfl) ?_)), ?_⟩
      · rcases Nat.lt_or_ge j k with e | e
        · exact hall j e
        · obtain rfl : j = k := by omega
          omega
      · rw [tab_succ, List.map_append]
        exact hM
  · obtain rfl : k = n := by omega
    (repeat' (first | (with_reducible refine w_seq ?_) | (with_reducible refine c_region ?_) | (with_reducible refine s_nil ?_) | (with_reducible refine q_then_n ?_) | ((with_reducible apply s_pure hF); exact rfl; exact rfl; exact rfl; (first | exact trivial | omega | decide); clear hF a; intro a hF) | ((with_reducible apply s_load hF hM); exact rfl; exact rfl; (repeat (first | exact List.mem_cons_self | refine List.mem_cons_of_mem _ ?_)); exact rfl; exact rfl; clear hF a; intro a hF) | ((with_reducible apply s_store hF hM); exact rfl; exact rfl; exact rfl; exact rfl; (repeat (first | exact Upd.z | apply Upd.s)); exact rfl; exact rfl; exact rfl; clear hM; intro w hM) | (with_reducible refine w_skip ?_) | (with_reducible refine w_exit ?_) | (with_reducible refine w_ret ?_) | (with_reducible refine q_then_x ?_) | (with_reducible refine q_then_r ?_) | (with_reducible refine q_blk_x ?_) | ((with_reducible apply c_dec hF); exact rfl; all_goals intro hc; all_goals (try (exfalso; omega)))))
    · (apply f_ret Try.results49 hF hM; (repeat (first | exact RL.nil | (apply RL.tmp; exact rfl) | (apply RL.cell; exact rfl; (repeat (first | exact List.mem_cons_self | refine List.mem_cons_of_mem _ ?_)); exact rfl))); refine Ret.mk hM.since ?_; dsimp only [resV])
      exact cvR_z (fin_slope (by rw [tab_len]; omega) (by omega))
    · (apply f_ret Try.results49 hF hM; (repeat (first | exact RL.nil | (apply RL.tmp; exact rfl) | (apply RL.cell; exact rfl; (repeat (first | exact List.mem_cons_self | refine List.mem_cons_of_mem _ ?_)); exact rfl))); refine Ret.mk hM.since ?_; dsimp only [resV])
      rw [fin_ok (by rw [tab_len]; omega) (tab_all hall) (by omega)]
      exact ⟨_, rfl, isCu_mkn (c := ⟨tab F k, S⟩) (hM.rowFact (by (repeat (first | exact List.mem_cons_self | refine List.mem_cons_of_mem _ ?_)))) (tab_len _ _) (by omega) (row_capA (enc := Value.int .i64) hM (by (repeat (first | exact List.mem_cons_self | refine List.mem_cons_of_mem _ ?_))))⟩
theorem least_c (A B : Cu) (ha : Ok A) (hb : Ok B) (va vb : Value) (n r : Nat) (h1 : 1 ≤ n) (h2 : n ≤ r + 1) (h3 : r ≤ 20000) (own : Nat → Prop) (W : World) (hl : ∀ b, own b → b < W.heap.size) (hA : Has own W (IsCu · va A)) (hB : Has own W (IsCu · vb B)) :
    Calls Try.prog 48 ⟨[.int .i64 n, .int .i64 r, .func (.func 44) #[va] #[], .func (.func 44) #[vb] #[]]⟩ W (Ret W fun v _ => v = .int .i64 (lst (vl A) (vl B) r (n - 1))) := by
  have hM := (((Mm.start hl).known hA).known hB)
  have bA := fun (k : Nat) (h : k ≤ 20000) => ha.val_bd (t := k) (by omega) (by omega)
  have bB := fun (k : Nat) (h : k ≤ 20000) => hb.val_bd (t := k) (by omega) (by omega)
  have lb := lst_bd (F := vl A) (G := vl B) (r := r) (B := 1152930301773611008) (fun k h => bA k (by omega)) (fun k h => bB k (by omega))
  have b1 := bA 0 (by omega)
  have b2 := bB r (by omega)
  refine f_start Try.func48 rfl Try.ntmps48 rfl rfl ?_; intro a hF
  (repeat' (first | (with_reducible refine w_seq ?_) | (with_reducible refine c_region ?_) | (with_reducible refine s_nil ?_) | (with_reducible refine q_then_n ?_) | ((with_reducible apply s_pure hF); exact rfl; exact rfl; exact rfl; (first | exact trivial | omega | decide); clear hF a; intro a hF)))
  (((with_reducible apply s_callc (f := 44) hF hM); exact rfl; exact rfl; exact rfl; exact rfl; exact rfl; exact rfl; exact rfl; exact (at_c A ha ((0 : Nat) : Int) (by omega) (by omega) _ _ _ hM.lt (hM.facts (IsCu · _ A) (by (repeat (first | exact List.mem_cons_self | refine List.mem_cons_of_mem _ ?_))))); clear hF hM a; rintro v w a rfl - hM hF))
  (repeat' (first | ((with_reducible apply s_pure hF); exact rfl; exact rfl; exact rfl; (first | exact trivial | omega | decide); clear hF a; intro a hF)))
  (((with_reducible apply s_callc (f := 44) hF hM); exact rfl; exact rfl; exact rfl; exact rfl; exact rfl; exact rfl; exact rfl; exact (at_c B hb (r : Int) (by omega) (by omega) _ _ _ hM.lt (hM.facts (IsCu · _ B) (by (repeat (first | exact List.mem_cons_self | refine List.mem_cons_of_mem _ ?_))))); clear hF hM a; rintro v w a rfl - hM hF))
  (repeat' (first | (with_reducible refine w_seq ?_) | (with_reducible refine c_region ?_) | (with_reducible refine s_nil ?_) | (with_reducible refine q_then_n ?_) | ((with_reducible apply s_pure hF); exact rfl; exact rfl; exact rfl; (first | exact trivial | omega | decide); clear hF a; intro a hF) | (with_reducible refine w_block ?_)))
  refine c_loop (m := n) (fun m a w' => ∃ (s : Nat), m + s = n ∧ s + 1 ≤ n ∧ Fr _ [] [(10, .int .i64 ((s : Int) + 1)), (9, .int .i64 (lst (vl A) (vl B) r s)), (0, .int .i64 n), (1, .int .i64 r), (2, .func (.func 44) #[va] #[]), (3, .func (.func 44) #[vb] #[])] a ∧ Mm own W [] [] [(IsCu · vb B), (IsCu · va A)] w') ⟨0, by omega, by omega, hF.sub (by repeat (first | exact Sub.nil | refine Sub.cons rfl (by first | with_reducible rfl | (refine congrArg (Value.int _) ?_; omega) | exact rfl) ?_)), hM⟩ ?_
  clear hF hM a
  rintro m a w' ⟨s, hs, hsn, hF, hM⟩
  by_cases hlt : s + 1 < n
  · have b3 := lb s (by omega)
    have b4 := bA (s + 1) (by omega)
    have b5 := bB (r - (s + 1)) (by omega)
    (repeat' (first | (with_reducible refine w_seq ?_) | (with_reducible refine c_region ?_) | (with_reducible refine s_nil ?_) | (with_reducible refine q_then_n ?_) | ((with_reducible apply s_pure hF); exact rfl; exact rfl; exact rfl; (first | exact trivial | omega | decide); clear hF a; intro a hF) | (with_reducible refine w_skip ?_) | (with_reducible refine w_block ?_) | ((with_reducible apply c_dec hF); exact rfl; all_goals intro hc; all_goals (try (exfalso; omega)))))
    (((with_reducible apply s_callc (f := 44) hF hM); exact rfl; exact rfl; exact rfl; exact rfl; exact rfl; exact rfl; exact rfl; exact (at_c A ha ((s : Int) + 1) (by omega) (by omega) _ _ _ hM.lt (hM.facts (IsCu · _ A) (by (repeat (first | exact List.mem_cons_self | refine List.mem_cons_of_mem _ ?_))))); clear hF hM a; rintro v w a rfl - hM hF))
    have e1 : ((s : Int) + 1) = ((s + 1 : Nat) : Int) := by omega
    have e2 : (r : Int) - ((s : Int) + 1) = ((r - (s + 1) : Nat) : Int) := by omega
    (repeat' (first | ((with_reducible apply s_pure hF); exact rfl; exact rfl; exact rfl; (first | exact trivial | omega | decide); clear hF a; intro a hF)))
    (((with_reducible apply s_callc (f := 44) hF hM); exact rfl; exact rfl; exact rfl; exact rfl; exact rfl; exact rfl; exact rfl; exact (at_c B hb ((r : Int) - ((s : Int) + 1)) (by omega) (by omega) _ _ _ hM.lt (hM.facts (IsCu · _ B) (by (repeat (first | exact List.mem_cons_self | refine List.mem_cons_of_mem _ ?_))))); clear hF hM a; rintro v w a rfl - hM hF))
    rw [← e1] at b4
    rw [← e2] at b5
    (repeat' (first | (with_reducible refine c_region ?_) | (with_reducible refine s_nil ?_) | (with_reducible refine q_then_n ?_) | ((with_reducible apply s_pure hF); exact rfl; exact rfl; exact rfl; (first | exact trivial | omega | decide); clear hF a; intro a hF) | (with_reducible refine q_blk_n ?_)))
    refine ⟨m - 1, by omega, s + 1, by omega, by omega, hF.sub (by repeat (first | exact Sub.nil | refine Sub.cons rfl (by first | with_reducible rfl | (refine congrArg (Value.int _) ?_; omega) | ((refine congrArg (Value.int _) ?_; rw [lst]; unfold vl; rw [← e1, ← e2])) | exact rfl) ?_)), hM⟩
  · obtain rfl : s = n - 1 := by omega
    (repeat' (first | (with_reducible refine w_seq ?_) | (with_reducible refine c_region ?_) | (with_reducible refine s_nil ?_) | (with_reducible refine q_then_n ?_) | ((with_reducible apply s_pure hF); exact rfl; exact rfl; exact rfl; (first | exact trivial | omega | decide); clear hF a; intro a hF) | (with_reducible refine w_exit ?_) | (with_reducible refine w_ret ?_) | (with_reducible refine q_then_x ?_) | (with_reducible refine q_blk_x ?_) | ((with_reducible apply c_dec hF); exact rfl; all_goals intro hc; all_goals (try (exfalso; omega)))))
    (apply f_ret Try.results48 hF hM; (repeat (first | exact RL.nil | (apply RL.tmp; exact rfl) | (apply RL.cell; exact rfl; (repeat (first | exact List.mem_cons_self | refine List.mem_cons_of_mem _ ?_)); exact rfl))); refine Ret.mk hM.since ?_; dsimp only [resV])
theorem greatest_c (A B : Cu) (va vb : Value) (fb : Nat) (hent : memB entL fb = true) (ca : List Value) (F : Nat → Int) (own : Nat → Prop) (W : World) (hl : ∀ b, own b → b < W.heap.size) (hA : Has own W (IsCu · va A)) (hB : Has own W (IsCu · vb B))
    (hcl : ∀ (k : Nat) (w' : World), k < max A.V.length B.V.length → Since W w' → Calls Try.prog fb ⟨.int .i64 k :: ca⟩ w' (Ret w' fun v _ => v = .int .i64 (F k))) :
    Calls Try.prog 55 ⟨[va, vb, .func (.func fb) #[] ⟨ca⟩]⟩ W (Ret W fun v _ => v = .int .i64 (grt F (max A.V.length B.V.length))) := by
  obtain ⟨a0, c0, rfl, hV, l1, l2⟩ := isCu_open hA
  obtain ⟨a1, c1, rfl, hU, m1, m2⟩ := isCu_open hB
  have hM := Mm.start hl
  refine f_start Try.func55 rfl Try.ntmps55 rfl rfl ?_; intro a hF
  (repeat' (first | (with_reducible refine w_seq ?_) | (with_reducible refine c_region ?_) | (with_reducible refine s_nil ?_) | (with_reducible refine q_then_n ?_) | ((with_reducible apply s_pure hF); exact rfl; exact rfl; exact rfl; (first | exact trivial | omega | decide); clear hF a; intro a hF) | ((with_reducible apply s_load hF hM); exact rfl; exact rfl; (repeat (first | exact List.mem_cons_self | refine List.mem_cons_of_mem _ ?_)); exact rfl; exact rfl; clear hF a; intro a hF) | ((with_reducible apply s_box hF hM); exact rfl; exact rfl; exact rfl; exact rfl; clear hF hM a; intro b w a hM hF) | (with_reducible refine w_block ?_)))
  refine c_loop (m := max A.V.length B.V.length) (fun m a w' => ∃ (k : Nat), m + k = max A.V.length B.V.length ∧ 
    Fr _ [] [(18, .int .i64 k), (17, .int .i64 (max A.V.length B.V.length : Nat)), (7, .int .i64 (grt F k)), (2, .func (.func fb) #[] ⟨ca⟩)] a ∧
    Mm own W [] [] [] w') ⟨0, by omega, hF.sub (by repeat (first | exact Sub.nil | refine Sub.cons rfl (by first | with_reducible rfl | (refine congrArg (Value.int _) ?_; omega) | exact rfl) ?_)), hM.sub (List.nil_sublist _) (.refl _) (fun _ h => h)⟩ ?_
  clear hF hM a
  rintro m a w' ⟨k, hk, hF, hM⟩
  by_cases hlt : k < max A.V.length B.V.length
  · (repeat' (first | (with_reducible refine w_seq ?_) | (with_reducible refine c_region ?_) | (with_reducible refine s_nil ?_) | ((with_reducible apply s_callc (f := fb) hF hM); exact rfl; exact rfl; exact rfl; exact rfl; exact rfl; (with_reducible assumption); exact rfl; exact (hcl k _ hlt hM.since); clear hF hM a; rintro v w a rfl - hM hF) | (with_reducible refine q_then_n ?_) | ((with_reducible apply s_pure hF); exact rfl; exact rfl; exact rfl; (first | exact trivial | omega | decide); clear hF a; intro a hF) | (with_reducible refine w_skip ?_) | (with_reducible refine w_block ?_) | (with_reducible refine q_blk_n ?_) | ((with_reducible apply c_dec hF); exact rfl; all_goals intro hc; all_goals (try (exfalso; omega)))))
    refine ⟨m - 1, by omega, k + 1, by omega, hF.sub (by repeat (first | exact Sub.nil | refine Sub.cons rfl (by first | with_reducible rfl | (refine congrArg (Value.int _) ?_; omega) | exact rfl) ?_)), hM⟩
  · obtain rfl : k = max A.V.length B.V.length := by omega
    (repeat' (first | (with_reducible refine w_seq ?_) | (with_reducible refine c_region ?_) | (with_reducible refine s_nil ?_) | (with_reducible refine q_then_n ?_) | ((with_reducible apply s_pure hF); exact rfl; exact rfl; exact rfl; (first | exact trivial | omega | decide); clear hF a; intro a hF) | (with_reducible refine w_exit ?_) | (with_reducible refine w_ret ?_) | (with_reducible refine q_then_x ?_) | (with_reducible refine q_blk_x ?_) | ((with_reducible apply c_dec hF); exact rfl; all_goals intro hc; all_goals (try (exfalso; omega)))))
    (apply f_ret Try.results55 hF hM; (repeat (first | exact RL.nil | (apply RL.tmp; exact rfl) | (apply RL.cell; exact rfl; (repeat (first | exact List.mem_cons_self | refine List.mem_cons_of_mem _ ?_)); exact rfl))); refine Ret.mk hM.since ?_; dsimp only [resV])
end Go.Proofs.Ytpkledpnicocmaa
