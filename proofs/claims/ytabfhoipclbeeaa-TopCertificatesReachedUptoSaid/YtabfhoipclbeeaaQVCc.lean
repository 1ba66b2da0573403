/- Texts of this seat, one behind the other: K3 K4 K5 Cln K6 K7 P56 Pl1 K8 K9 Ka Kb. -/
import Derived.BigGuardPart
import Derived.Test.YtabfhoipclbeeaaQVCb
set_option linter.unusedSimpArgs false
set_option linter.unusedVariables false
set_option linter.unusedSectionVars false
set_option maxRecDepth 3000
/- certificate: additive, gentle, ticks. -/
namespace Go.Proofs.Ytabfhoipclbeeaa
open Go.RowKit Go.Shelf C55 K57
theorem RetP.pan {w w' : World} {e x : Int} {R : Value → World → Prop} (h : e = x) (hx : x ≠ 0) (hs : Since w w') : RetP w e R (.panicked (failK x)) w' := by subst h; exact ⟨hx, rfl, hs⟩
theorem RetP.ret {w w' : World} {e : Int} {R : Value → World → Prop} {v : Value} (h : e = 0) (hs : Since w w') (hR : R v w') : RetP w e R (.returned v) w' := ⟨h, hs, hR⟩
theorem vl_rg {c : Cu} (ok : Ok c) {k : Nat} (h : k ≤ 1073750000) : 0 ≤ vl c k ∧ vl c k ≤ 1152930301773611008 := ok.val_bd (by omega) (by omega)
section
variable (sub : Bool) (fb : Nat) (hent : memB entL fb = true) (hf : ∀ (x y : Int) {own : Nat → Prop} (W : World), (∀ b, own b → b < W.heap.size) → Calls Try.prog fb ⟨[.int .i64 x, .int .i64 y]⟩ W (Ret W fun v _ => v = .bool (hold sub x y)))
include hent hf
set_option maxHeartbeats 4000000 in
theorem additive_c (c : Cu) (ok : Ok c) (v : Value) (own : Nat → Prop) (W : World) (hl : ∀ b, own b → b < W.heap.size) (hv : Has own W (IsCu · v c)) :
    Calls Try.prog 92 ⟨[v, .func (.func fb) #[] #[]]⟩ W (RetP W (if addB sub c then 0 else 3) fun _ _ => True) := by
  obtain ⟨a0, c0, rfl, hV, l1, l2⟩ := isCu_open hv
  have hM := (Mm.start hl).known hV
  have k0 := ok.l0
  have k1 := ok.l1
  have ks := ok.s
  have hx0 := vl_in (c := c) (k := 0) (by omega)
  have hg0 : c.V.getD 0 0 = vl c 0 := by rw [List.getD_eq_getElem?_getD, hx0]; rfl
  obtain ⟨ad, rfl⟩ := rd_some hM (by (repeat (first | exact List.mem_cons_self | refine List.mem_cons_of_mem _ ?_))) hx0
  have hx0' : c.V[(0 : Int).toNat]? = some (vl c 0) := hx0
  refine f_start Try.func92 rfl Try.ntmps92 rfl rfl ?_; intro a hF
  by_cases h0 : vl c 0 = 0
  case neg =>
    (repeat' (first | (with_reducible refine w_seq ?_) | (with_reducible refine c_region ?_) | (with_reducible refine s_nil ?_) | ((with_reducible apply s_callE (f := 58) hF hM); exact rfl; exact rfl; exact rfl; exact rfl; exact (demand_f _ _ _ hM.lt (decide_eq_false h0)); clear hF hM a; intro w a hM hF) | (with_reducible refine q_then_p ?_) | (with_reducible refine q_then_n ?_) | ((with_reducible apply s_pure hF); exact rfl; exact rfl; exact rfl; (first | exact trivial | omega | exact ⟨Int.natCast_nonneg _, Int.ofNat_lt.2 (by assumption)⟩ | decide); clear hF a; intro a hF) | ((with_reducible apply s_load hF hM); exact rfl; exact rfl; (repeat (first | exact List.mem_cons_self | refine List.mem_cons_of_mem _ ?_)); exact rfl; exact rfl; clear hF a; intro a hF) | ((with_reducible apply s_loadF hF hM); exact rfl; exact rfl; (repeat (first | exact List.mem_cons_self | refine List.mem_cons_of_mem _ ?_)); exact rfl; exact rfl; (first | with_reducible assumption | (simp only [Int.toNat_natCast]; with_reducible assumption)); clear hF a; intro a hF) | ((with_reducible apply s_box hF hM); exact rfl; exact rfl; exact rfl; exact rfl; clear hF hM a; intro b w a hM hF)))
    refine f_panic hF ?_
    exact RetP.pan (by rw [addB_of_v0 (by rw [hg0]; exact h0)]; rfl) (by decide) hM.since
  obtain ⟨n, hn⟩ : ∃ n, c.V.length = n := ⟨_, rfl⟩
  (repeat' (first | (with_reducible refine w_seq ?_) | (with_reducible refine c_region ?_) | (with_reducible refine s_nil ?_) | ((with_reducible apply s_call (f := 58) hF hM); exact rfl; exact rfl; exact rfl; exact rfl; exact rfl; exact (demand_t _ _ _ hM.lt (decide_eq_true h0)); clear hF hM a; rintro v w a - - hM hF) | (with_reducible refine q_then_n ?_) | ((with_reducible apply s_pure hF); exact rfl; exact rfl; exact rfl; (first | exact trivial | omega | exact ⟨Int.natCast_nonneg _, Int.ofNat_lt.2 (by assumption)⟩ | decide); clear hF a; intro a hF) | ((with_reducible apply s_load hF hM); exact rfl; exact rfl; (repeat (first | exact List.mem_cons_self | refine List.mem_cons_of_mem _ ?_)); exact rfl; exact rfl; clear hF a; intro a hF) | ((with_reducible apply s_loadF hF hM); exact rfl; exact rfl; (repeat (first | exact List.mem_cons_self | refine List.mem_cons_of_mem _ ?_)); exact rfl; exact rfl; (first | with_reducible assumption | (simp only [Int.toNat_natCast]; with_reducible assumption)); clear hF a; intro a hF) | ((with_reducible apply s_box hF hM); exact rfl; exact rfl; exact rfl; exact rfl; clear hF hM a; intro b w a hM hF)))
  apply s_make (2 * n + 1) hF hM
  · exact rfl
  · exact rfl
  · exact rfl
  · exact rfl
  · exact rfl
  · omega
  · omega
  · omega
  clear hF hM a
  generalize b = b2
  intro g w a hM hF
  rw [hn] at hM hF
  have hrep : List.replicate (2 * n + 1) (Value.int .i64 0) = (List.replicate (2 * n + 1) (0 : Int)).map (Value.int .i64) := by simp
  rw [hrep] at hM
  (repeat (first | (with_reducible refine w_seq ?_) | (with_reducible refine c_region ?_) | (with_reducible refine s_nil ?_) | (with_reducible refine q_then_n ?_) | ((with_reducible apply s_pure hF); exact rfl; exact rfl; exact rfl; (first | exact trivial | omega | exact ⟨Int.natCast_nonneg _, Int.ofNat_lt.2 (by assumption)⟩ | decide); clear hF a; intro a hF) | (with_reducible refine w_block ?_)))
  refine c_loop (m := 2 * n + 1) (fun m a w' => ∃ (k : Nat) (XS : List Int), m + k = 2 * n + 1 ∧ XS.length = 2 * n + 1 ∧ (∀ j, j < k → XS[j]? = some (vl c j)) ∧
    Fr 79 [] [(24, .int .i64 k), (23, .int .i64 ((2 * n + 1 : Nat) : Int)), (5, .slice (some ⟨g, 0, none⟩) (2 * n + 1) (2 * n + 1)), (4, .int .i64 n), (2, .pointer (some ⟨b2, 0, none⟩)), (1, .func (.func fb) #[] #[])] a ∧
    Mm own W [⟨b2, ⟨[.slice (some ad) n c0, .int .i64 c.S]⟩, 24⟩] [⟨3, 1, .slice (some ⟨g, 0, none⟩) (2 * n + 1) (2 * n + 1), 2 * n + 1, XS.map (Value.int .i64)⟩] [RdF (Value.int .i64) (some ad) c.V] w')
    ⟨0, List.replicate (2 * n + 1) 0, by omega, by simp, (fun j h => absurd h (by omega)), hF.sub (by repeat (first | exact Sub.nil | refine Sub.cons rfl (by first | with_reducible rfl | (refine congrArg (Value.int _) ?_; omega) | exact rfl) ?_)), hM⟩ ?_
  clear hF hM a hrep
  rintro m a w' ⟨k, XS, hm, hXl, hX, hF, hM⟩
  have step : ∀ {x : Int}, k < 2 * n + 1 → x = vl c k → ∀ j, j < k + 1 → (XS.set k x)[j]? = some (vl c j) := by
    intro x hk0 hx j hj
    rw [List.getElem?_set]
    by_cases e : k = j
    · rw [if_pos e, if_pos (by omega), hx, e]
    · rw [if_neg e]; exact hX j (by omega)
  by_cases hk : k < 2 * n + 1
  · by_cases hkn : k < n
    · have hxk := vl_in (c := c) (k := k) (by omega)
      (repeat' (first | (with_reducible refine w_seq ?_) | (with_reducible refine c_region ?_) | (with_reducible refine s_nil ?_) | ((with_reducible apply s_storeR hF hM); exact rfl; exact rfl; (repeat (first | exact Kth.z | apply Kth.s)); exact rfl; exact rfl; exact rfl; exact rfl; (first | assumption | omega | (simp only [List.length_set]; omega) | (simp only [Int.toNat_natCast, List.length_set]; omega)); clear hM; intro w hM; dsimp only [List.set] at hM) | (with_reducible refine q_then_n ?_) | ((with_reducible apply s_pure hF); exact rfl; exact rfl; exact rfl; (first | exact trivial | omega | exact ⟨Int.natCast_nonneg _, Int.ofNat_lt.2 (by assumption)⟩ | decide); clear hF a; intro a hF) | ((with_reducible apply s_load hF hM); exact rfl; exact rfl; (repeat (first | exact List.mem_cons_self | refine List.mem_cons_of_mem _ ?_)); exact rfl; exact rfl; clear hF a; intro a hF) | ((with_reducible apply s_loadF hF hM); exact rfl; exact rfl; (repeat (first | exact List.mem_cons_self | refine List.mem_cons_of_mem _ ?_)); exact rfl; exact rfl; (first | with_reducible assumption | (simp only [Int.toNat_natCast]; with_reducible assumption)); clear hF a; intro a hF) | (with_reducible refine w_skip ?_) | (with_reducible refine w_block ?_) | (with_reducible refine q_blk_n ?_) | ((with_reducible apply c_dec hF); exact rfl; all_goals intro hc; all_goals (try (exfalso; omega)))))
      rw [Int.toNat_natCast] at hM
      exact ⟨m - 1, by omega, k + 1, XS.set k (vl c k), by omega, by simpa using hXl, step hk rfl, hF.sub (by repeat (first | exact Sub.nil | refine Sub.cons rfl (by first | with_reducible rfl | (refine congrArg (Value.int _) ?_; omega) | exact rfl) ?_)), hM⟩
    · have hxk : XS[((k : Int) - 1).toNat]? = some (vl c (k - 1)) := by
        rw [show ((k : Int) - 1).toNat = k - 1 by omega]
        exact hX (k - 1) (by omega)
      have hrg := vl_rg ok (k := k - 1) (by omega)
      have hln := vl_line (c := c) (k := k - 1) (by omega) (by omega) 1
      rw [show k - 1 + 1 = k by omega] at hln
      have hle : vl c k = vl c (k - 1) + c.S := by omega
      (repeat' (first | (with_reducible refine w_seq ?_) | (with_reducible refine c_region ?_) | (with_reducible refine s_nil ?_) | (with_reducible refine q_then_n ?_) | ((with_reducible apply s_pure hF); exact rfl; exact rfl; exact rfl; (first | exact trivial | omega | exact ⟨Int.natCast_nonneg _, Int.ofNat_lt.2 (by assumption)⟩ | decide); clear hF a; intro a hF) | (with_reducible refine w_skip ?_) | (with_reducible refine w_block ?_) | ((with_reducible apply c_dec hF); exact rfl; all_goals intro hc; all_goals (try (exfalso; omega)))))
      refine c_draw (fun i => Nat.ble 11 i) hM ?_; clear hM; intro w hM
      (first | (refine t_pure (i := 0) hF rfl rfl rfl rfl (by kernel_rfl) hM.sm (fun _ _ _ h => h) ?_ ?_; (first | exact trivial | omega | decide); clear hF a; intro a hF))
      (first | (refine t_pure (i := 1) hF rfl rfl rfl rfl (by kernel_rfl) hM.sm (fun _ _ _ h => h) ?_ ?_; (first | exact trivial | omega | decide); clear hF a; intro a hF))
      (first | (refine t_pure (i := 2) hF rfl rfl rfl rfl (by kernel_rfl) hM.sm (fun _ _ _ h => h) ?_ ?_; (first | exact trivial | omega | decide); clear hF a; intro a hF))
      (first | (refine t_pure (i := 3) hF rfl rfl rfl rfl (by kernel_rfl) hM.sm (fun _ _ _ h => h) ?_ ?_; (first | exact trivial | omega | decide); clear hF a; intro a hF))
      (first | (refine t_pure (i := 4) hF rfl rfl rfl rfl (by kernel_rfl) hM.sm (fun _ _ _ h => h) ?_ ?_; (first | exact trivial | omega | decide); clear hF a; intro a hF))
      (first | (refine t_pure (i := 5) hF rfl rfl rfl rfl (by kernel_rfl) hM.sm (fun _ _ _ h => h) ?_ ?_; (first | exact trivial | omega | decide); clear hF a; intro a hF))
      (first | (refine t_pure (i := 7) hF rfl rfl rfl rfl (by kernel_rfl) hM.sm (fun _ _ _ h => h) ?_ ?_; (first | exact trivial | omega | decide); clear hF a; intro a hF))
      (first | (apply t_load (i := 8) hF rfl rfl rfl; (repeat (first | exact List.mem_cons_self | refine List.mem_cons_of_mem _ ?_)); exact rfl; exact rfl; kernel_rfl; exact hM.sm; exact (fun _ _ _ h => h); clear hF a; intro a hF))
      refine t_one (i := 6) hF rfl (by kernel_rfl) rfl ?_
      intro K hK
      ((apply x_loadR hF hM); exact rfl; (repeat (first | exact List.mem_cons_self | refine List.mem_cons_of_mem _ ?_)); exact rfl; exact rfl; (first | with_reducible assumption | (simp only [Int.toNat_natCast]; with_reducible assumption)); clear hF a; intro a hF)
      refine hK _ _ (fun _ => (hM.sm.sub (fun x hx => by repeat (first | exact hx | refine List.mem_cons_of_mem _ ?_)) (fun _ h => by repeat (first | exact h | refine List.mem_cons_of_mem _ ?_)))) ?_; clear hK
      (first | (refine t_pure (i := 9) hF rfl rfl rfl rfl (by kernel_rfl) (hM.sm.sub (fun x hx => by repeat (first | exact hx | refine List.mem_cons_of_mem _ ?_)) (fun _ h => by repeat (first | exact h | refine List.mem_cons_of_mem _ ?_))) (fun _ _ _ h => h) ?_ ?_; (first | exact trivial | omega | decide); clear hF a; intro a hF))
      (first | (refine t_pure (i := 10) hF rfl rfl rfl rfl (by kernel_rfl) (hM.sm.sub (fun x hx => by repeat (first | exact hx | refine List.mem_cons_of_mem _ ?_)) (fun _ h => by repeat (first | exact h | refine List.mem_cons_of_mem _ ?_))) (fun _ _ _ h => h) ?_ ?_; (first | exact trivial | omega | decide); clear hF a; intro a hF))
      refine t_one (i := 11) hF rfl (by kernel_rfl) rfl ?_
      intro K hK
      ((apply x_storeR hF hM); exact rfl; (repeat (first | exact Kth.z | apply Kth.s)); exact rfl; exact rfl; exact rfl; exact rfl; (first | assumption | omega | (simp only [List.length_set]; omega) | (simp only [Int.toNat_natCast, List.length_set]; omega)); clear hF hM a; intro w a hM hF; dsimp only [List.set] at hM)
      refine hK _ _ (fun h => by cases h) ?_; clear hK
      refine t_done (by kernel_rfl) ?_
      (repeat' (first | (with_reducible refine c_region ?_) | (with_reducible refine s_nil ?_) | (with_reducible refine q_then_n ?_) | ((with_reducible apply s_pure hF); exact rfl; exact rfl; exact rfl; (first | exact trivial | omega | exact ⟨Int.natCast_nonneg _, Int.ofNat_lt.2 (by assumption)⟩ | decide); clear hF a; intro a hF) | (with_reducible refine q_blk_n ?_)))
      rw [Int.toNat_natCast] at hM
      exact ⟨m - 1, by omega, k + 1, XS.set k (vl c (k - 1) + c.S), by omega, by simpa using hXl, step hk hle.symm, hF.sub (by repeat (first | exact Sub.nil | refine Sub.cons rfl (by first | with_reducible rfl | (refine congrArg (Value.int _) ?_; omega) | exact rfl) ?_)), hM⟩
  obtain rfl : k = 2 * n + 1 := by omega
  replace hM := hM.freezeRow
  clear step
  (repeat' (first | (with_reducible refine w_seq ?_) | (with_reducible refine c_region ?_) | (with_reducible refine s_nil ?_) | (with_reducible refine q_then_n ?_) | ((with_reducible apply s_pure hF); exact rfl; exact rfl; exact rfl; (first | exact trivial | omega | exact ⟨Int.natCast_nonneg _, Int.ofNat_lt.2 (by assumption)⟩ | decide); clear hF a; intro a hF) | (with_reducible refine w_block ?_) | (with_reducible refine w_exit ?_) | (with_reducible refine q_then_x ?_) | (with_reducible refine q_blk_x ?_) | ((with_reducible apply c_false2 hF); exact rfl; (first | with_reducible rfl | (refine congrArg Value.bool ?_; focus (simp; done))))))
  refine c_loop (m := n) (fun m a w' => ∃ (s : Nat), m + s = n + 1 ∧ 1 ≤ s ∧ (∀ i j : Nat, 1 ≤ i → i < s → i ≤ j → j ≤ n → addAt sub c i j = true) ∧
    Fr 79 [] [(7, .int .i64 s), (5, .slice (some ⟨g, 0, none⟩) (2 * n + 1) (2 * n + 1)), (4, .int .i64 n), (1, .func (.func fb) #[] #[])] a ∧
    Mm own W [] [] [RdF (Value.int .i64) (some ⟨g, 0, none⟩) XS] w')
    ⟨1, by omega, Nat.le_refl _, (fun i j h1 h2 => absurd h1 (by omega)), hF.sub (by repeat (first | exact Sub.nil | refine Sub.cons rfl (by first | with_reducible rfl | (refine congrArg (Value.int _) ?_; omega) | exact rfl) ?_)), hM.sub (List.nil_sublist _) (List.nil_sublist _) (by intro f hf; simp only [List.mem_cons, List.not_mem_nil, or_false] at hf; (repeat (rcases hf with rfl | hf; · (repeat (first | exact List.mem_cons_self | refine List.mem_cons_of_mem _ ?_)))); first | (subst hf; (repeat (first | exact List.mem_cons_self | refine List.mem_cons_of_mem _ ?_)); done) | (repeat (first | exact hf | refine List.mem_cons_of_mem _ ?_)))⟩ ?_
  clear hF hM a
  rintro m a w' ⟨s, hm, hs1, hall, hF, hM⟩
  by_cases hsn : s ≤ n
  · (repeat' (first | (with_reducible refine w_seq ?_) | (with_reducible refine c_region ?_) | (with_reducible refine s_nil ?_) | (with_reducible refine q_then_n ?_) | ((with_reducible apply s_pure hF); exact rfl; exact rfl; exact rfl; (first | exact trivial | omega | exact ⟨Int.natCast_nonneg _, Int.ofNat_lt.2 (by assumption)⟩ | decide); clear hF a; intro a hF) | (with_reducible refine w_skip ?_) | (with_reducible refine w_block ?_) | ((with_reducible apply c_dec hF); exact rfl; all_goals intro hc; all_goals (try (exfalso; omega)))))
    refine c_loop (m := n + 1 - s) (fun z a w' => ∃ (t : Nat), z + t = n + 1 ∧ s ≤ t ∧ (∀ j : Nat, s ≤ j → j < t → addAt sub c s j = true) ∧
      Fr 79 [] [(8, .int .i64 t), (7, .int .i64 s), (5, .slice (some ⟨g, 0, none⟩) (2 * n + 1) (2 * n + 1)), (4, .int .i64 n), (1, .func (.func fb) #[] #[])] a ∧
      Mm own W [] [] [RdF (Value.int .i64) (some ⟨g, 0, none⟩) XS] w')
      ⟨s, by omega, Nat.le_refl _, (fun j h1 h2 => absurd h1 (by omega)), hF.sub (by repeat (first | exact Sub.nil | refine Sub.cons rfl (by first | with_reducible rfl | (refine congrArg (Value.int _) ?_; omega) | exact rfl) ?_)), hM⟩ ?_
    clear hF hM a
    rintro z a w' ⟨t, hz, hst, hin, hF, hM⟩
    by_cases htn : t ≤ n
    · have hy1 : XS[((s : Int) + (t : Int)).toNat]? = some (vl c (s + t)) := by
        rw [show ((s : Int) + (t : Int)).toNat = s + t by omega]
        exact hX (s + t) (by omega)
      have hy2 := hX s (by omega)
      have hy3 := hX t (by omega)
      have hr2 := vl_rg ok (k := s) (by omega)
      have hr3 := vl_rg ok (k := t) (by omega)
      cases hb : addAt sub c s t with
      | true =>
        have hb' : hold sub (vl c (s + t)) (vl c s + vl c t) = true := hb
        (repeat' (first | (with_reducible refine w_seq ?_) | (with_reducible refine c_region ?_) | (with_reducible refine s_nil ?_) | (with_reducible refine q_then_n ?_) | ((with_reducible apply s_pure hF); exact rfl; exact rfl; exact rfl; (first | exact trivial | omega | exact ⟨Int.natCast_nonneg _, Int.ofNat_lt.2 (by assumption)⟩ | decide); clear hF a; intro a hF) | (with_reducible refine w_skip ?_) | (with_reducible refine w_block ?_) | ((with_reducible apply c_dec hF); exact rfl; all_goals intro hc; all_goals (try (exfalso; omega)))))
        refine c_draw (fun i => Nat.ble 18 i) hM ?_; clear hM; intro w hM
        (first | (refine t_pure (i := 0) hF rfl rfl rfl rfl (by kernel_rfl) hM.sm (fun _ _ _ h => h) ?_ ?_; (first | exact trivial | omega | decide); clear hF a; intro a hF))
        (first | (refine t_pure (i := 1) hF rfl rfl rfl rfl (by kernel_rfl) hM.sm (fun _ _ _ h => h) ?_ ?_; (first | exact trivial | omega | decide); clear hF a; intro a hF))
        (first | (refine t_pure (i := 2) hF rfl rfl rfl rfl (by kernel_rfl) hM.sm (fun _ _ _ h => h) ?_ ?_; (first | exact trivial | omega | decide); clear hF a; intro a hF))
        (first | (refine t_pure (i := 3) hF rfl rfl rfl rfl (by kernel_rfl) hM.sm (fun _ _ _ h => h) ?_ ?_; (first | exact trivial | omega | decide); clear hF a; intro a hF))
        (first | (refine t_pure (i := 4) hF rfl rfl rfl rfl (by kernel_rfl) hM.sm (fun _ _ _ h => h) ?_ ?_; (first | exact trivial | omega | decide); clear hF a; intro a hF))
        (first | (refine t_pure (i := 5) hF rfl rfl rfl rfl (by kernel_rfl) hM.sm (fun _ _ _ h => h) ?_ ?_; (first | exact trivial | omega | decide); clear hF a; intro a hF))
        (first | (apply t_loadF (i := 6) hF rfl rfl rfl; (repeat (first | exact List.mem_cons_self | refine List.mem_cons_of_mem _ ?_)); (first | with_reducible assumption | (simp only [Int.toNat_natCast]; with_reducible assumption)); exact rfl; exact rfl; kernel_rfl; exact hM.sm; exact (fun _ _ _ h => h); clear hF a; intro a hF))
        (first | (refine t_pure (i := 7) hF rfl rfl rfl rfl (by kernel_rfl) hM.sm (fun _ _ _ h => h) ?_ ?_; (first | exact trivial | omega | decide); clear hF a; intro a hF))
        (first | (refine t_pure (i := 8) hF rfl rfl rfl rfl (by kernel_rfl) hM.sm (fun _ _ _ h => h) ?_ ?_; (first | exact trivial | omega | decide); clear hF a; intro a hF))
        (first | (refine t_pure (i := 9) hF rfl rfl rfl rfl (by kernel_rfl) hM.sm (fun _ _ _ h => h) ?_ ?_; (first | exact trivial | omega | decide); clear hF a; intro a hF))
        (first | (apply t_loadF (i := 10) hF rfl rfl rfl; (repeat (first | exact List.mem_cons_self | refine List.mem_cons_of_mem _ ?_)); (first | with_reducible assumption | (simp only [Int.toNat_natCast]; with_reducible assumption)); exact rfl; exact rfl; kernel_rfl; exact hM.sm; exact (fun _ _ _ h => h); clear hF a; intro a hF))
        (first | (refine t_pure (i := 11) hF rfl rfl rfl rfl (by kernel_rfl) hM.sm (fun _ _ _ h => h) ?_ ?_; (first | exact trivial | omega | decide); clear hF a; intro a hF))
        (first | (refine t_pure (i := 12) hF rfl rfl rfl rfl (by kernel_rfl) hM.sm (fun _ _ _ h => h) ?_ ?_; (first | exact trivial | omega | decide); clear hF a; intro a hF))
        (first | (refine t_pure (i := 13) hF rfl rfl rfl rfl (by kernel_rfl) hM.sm (fun _ _ _ h => h) ?_ ?_; (first | exact trivial | omega | decide); clear hF a; intro a hF))
        (first | (apply t_loadF (i := 14) hF rfl rfl rfl; (repeat (first | exact List.mem_cons_self | refine List.mem_cons_of_mem _ ?_)); (first | with_reducible assumption | (simp only [Int.toNat_natCast]; with_reducible assumption)); exact rfl; exact rfl; kernel_rfl; exact hM.sm; exact (fun _ _ _ h => h); clear hF a; intro a hF))
        (first | (refine t_pure (i := 15) hF rfl rfl rfl rfl (by kernel_rfl) hM.sm (fun _ _ _ h => h) ?_ ?_; (first | exact trivial | omega | decide); clear hF a; intro a hF))
        refine t_one (i := 16) hF rfl (by kernel_rfl) rfl ?_
        intro K hK
        (apply x_callc hF hM; exact rfl; exact rfl; exact rfl; exact rfl; (with_reducible assumption); exact rfl; exact (hf _ _ _ hM.lt); clear hF hM a; rintro v w a rfl - hM hF)
        refine hK _ _ (fun _ => hM.sm) ?_; clear hK
        refine t_one (i := 17) hF rfl (by kernel_rfl) rfl ?_
        intro K hK
        (apply x_call hF hM; exact rfl; exact rfl; exact rfl; exact rfl; exact (demand_t _ _ _ hM.lt hb'); clear hF hM a; rintro v w a - - hM hF)
        refine hK _ _ (fun _ => hM.sm) ?_; clear hK
        refine t_done (by kernel_rfl) ?_
        (repeat' (first | (with_reducible refine c_region ?_) | (with_reducible refine s_nil ?_) | (with_reducible refine q_then_n ?_) | ((with_reducible apply s_pure hF); exact rfl; exact rfl; exact rfl; (first | exact trivial | omega | exact ⟨Int.natCast_nonneg _, Int.ofNat_lt.2 (by assumption)⟩ | decide); clear hF a; intro a hF) | (with_reducible refine q_blk_n ?_)))
        refine ⟨z - 1, by omega, t + 1, by omega, by omega, fun j h1 h2 => ?_, hF.sub (by repeat (first | exact Sub.nil | refine Sub.cons rfl (by first | with_reducible rfl | (refine congrArg (Value.int _) ?_; omega) | exact rfl) ?_)), hM⟩
        by_cases e : j = t
        · rw [e]; exact hb
        · exact hin j h1 (by omega)
      | false =>
        have hb' : hold sub (vl c (s + t)) (vl c s + vl c t) = false := hb
        (repeat' (first | (with_reducible refine w_seq ?_) | (with_reducible refine c_region ?_) | (with_reducible refine s_nil ?_) | (with_reducible refine q_then_n ?_) | ((with_reducible apply s_pure hF); exact rfl; exact rfl; exact rfl; (first | exact trivial | omega | exact ⟨Int.natCast_nonneg _, Int.ofNat_lt.2 (by assumption)⟩ | decide); clear hF a; intro a hF) | (with_reducible refine w_skip ?_) | (with_reducible refine w_block ?_) | ((with_reducible apply c_dec hF); exact rfl; all_goals intro hc; all_goals (try (exfalso; omega)))))
        refine c_draw (fun i => Nat.ble 18 i) hM ?_; clear hM; intro w hM
        (first | (refine t_pure (i := 0) hF rfl rfl rfl rfl (by kernel_rfl) hM.sm (fun _ _ _ h => h) ?_ ?_; (first | exact trivial | omega | decide); clear hF a; intro a hF))
        (first | (refine t_pure (i := 1) hF rfl rfl rfl rfl (by kernel_rfl) hM.sm (fun _ _ _ h => h) ?_ ?_; (first | exact trivial | omega | decide); clear hF a; intro a hF))
        (first | (refine t_pure (i := 2) hF rfl rfl rfl rfl (by kernel_rfl) hM.sm (fun _ _ _ h => h) ?_ ?_; (first | exact trivial | omega | decide); clear hF a; intro a hF))
        (first | (refine t_pure (i := 3) hF rfl rfl rfl rfl (by kernel_rfl) hM.sm (fun _ _ _ h => h) ?_ ?_; (first | exact trivial | omega | decide); clear hF a; intro a hF))
        (first | (refine t_pure (i := 4) hF rfl rfl rfl rfl (by kernel_rfl) hM.sm (fun _ _ _ h => h) ?_ ?_; (first | exact trivial | omega | decide); clear hF a; intro a hF))
        (first | (refine t_pure (i := 5) hF rfl rfl rfl rfl (by kernel_rfl) hM.sm (fun _ _ _ h => h) ?_ ?_; (first | exact trivial | omega | decide); clear hF a; intro a hF))
        (first | (apply t_loadF (i := 6) hF rfl rfl rfl; (repeat (first | exact List.mem_cons_self | refine List.mem_cons_of_mem _ ?_)); (first | with_reducible assumption | (simp only [Int.toNat_natCast]; with_reducible assumption)); exact rfl; exact rfl; kernel_rfl; exact hM.sm; exact (fun _ _ _ h => h); clear hF a; intro a hF))
        (first | (refine t_pure (i := 7) hF rfl rfl rfl rfl (by kernel_rfl) hM.sm (fun _ _ _ h => h) ?_ ?_; (first | exact trivial | omega | decide); clear hF a; intro a hF))
        (first | (refine t_pure (i := 8) hF rfl rfl rfl rfl (by kernel_rfl) hM.sm (fun _ _ _ h => h) ?_ ?_; (first | exact trivial | omega | decide); clear hF a; intro a hF))
        (first | (refine t_pure (i := 9) hF rfl rfl rfl rfl (by kernel_rfl) hM.sm (fun _ _ _ h => h) ?_ ?_; (first | exact trivial | omega | decide); clear hF a; intro a hF))
        (first | (apply t_loadF (i := 10) hF rfl rfl rfl; (repeat (first | exact List.mem_cons_self | refine List.mem_cons_of_mem _ ?_)); (first | with_reducible assumption | (simp only [Int.toNat_natCast]; with_reducible assumption)); exact rfl; exact rfl; kernel_rfl; exact hM.sm; exact (fun _ _ _ h => h); clear hF a; intro a hF))
        (first | (refine t_pure (i := 11) hF rfl rfl rfl rfl (by kernel_rfl) hM.sm (fun _ _ _ h => h) ?_ ?_; (first | exact trivial | omega | decide); clear hF a; intro a hF))
        (first | (refine t_pure (i := 12) hF rfl rfl rfl rfl (by kernel_rfl) hM.sm (fun _ _ _ h => h) ?_ ?_; (first | exact trivial | omega | decide); clear hF a; intro a hF))
        (first | (refine t_pure (i := 13) hF rfl rfl rfl rfl (by kernel_rfl) hM.sm (fun _ _ _ h => h) ?_ ?_; (first | exact trivial | omega | decide); clear hF a; intro a hF))
        (first | (apply t_loadF (i := 14) hF rfl rfl rfl; (repeat (first | exact List.mem_cons_self | refine List.mem_cons_of_mem _ ?_)); (first | with_reducible assumption | (simp only [Int.toNat_natCast]; with_reducible assumption)); exact rfl; exact rfl; kernel_rfl; exact hM.sm; exact (fun _ _ _ h => h); clear hF a; intro a hF))
        (first | (refine t_pure (i := 15) hF rfl rfl rfl rfl (by kernel_rfl) hM.sm (fun _ _ _ h => h) ?_ ?_; (first | exact trivial | omega | decide); clear hF a; intro a hF))
        refine t_one (i := 16) hF rfl (by kernel_rfl) rfl ?_
        intro K hK
        (apply x_callc hF hM; exact rfl; exact rfl; exact rfl; exact rfl; (with_reducible assumption); exact rfl; exact (hf _ _ _ hM.lt); clear hF hM a; rintro v w a rfl - hM hF)
        refine hK _ _ (fun _ => hM.sm) ?_; clear hK
        refine t_one (i := 17) hF rfl (by kernel_rfl) rfl ?_
        intro K hK
        (refine x_callE (f := 58) hF hM rfl rfl rfl (demand_f _ _ _ hM.lt hb') ?_; clear hF hM a; intro w a hM hF; (repeat' (first | (with_reducible refine q_then_p ?_) | (with_reducible refine q_blk_p ?_))); refine f_panic hF ?_; exact RetP.pan (by rw [addB_of_bad hs1 (by omega) (by omega) (by omega) hb]; rfl) (by decide) hM.since)
    · obtain rfl : t = n + 1 := by omega
      (repeat' (first | (with_reducible refine w_seq ?_) | (with_reducible refine c_region ?_) | (with_reducible refine s_nil ?_) | (with_reducible refine q_then_n ?_) | ((with_reducible apply s_pure hF); exact rfl; exact rfl; exact rfl; (first | exact trivial | omega | exact ⟨Int.natCast_nonneg _, Int.ofNat_lt.2 (by assumption)⟩ | decide); clear hF a; intro a hF) | (with_reducible refine w_exit ?_) | (with_reducible refine q_then_x ?_) | (with_reducible refine q_blk_n ?_) | (with_reducible refine q_blk_x ?_) | ((with_reducible apply c_dec hF); exact rfl; all_goals intro hc; all_goals (try (exfalso; omega)))))
      refine ⟨m - 1, by omega, s + 1, by omega, by omega, fun i j h1 h2 h3 h4 => ?_, hF.sub (by repeat (first | exact Sub.nil | refine Sub.cons rfl (by first | with_reducible rfl | (refine congrArg (Value.int _) ?_; omega) | exact rfl) ?_)), hM⟩
      by_cases e : i = s
      · rw [e] at h3 ⊢; exact hin j h3 (by omega)
      · exact hall i j h1 (by omega) h3 h4
  · obtain rfl : s = n + 1 := by omega
    (repeat' (first | (with_reducible refine w_seq ?_) | (with_reducible refine c_region ?_) | (with_reducible refine s_nil ?_) | (with_reducible refine q_then_n ?_) | ((with_reducible apply s_pure hF); exact rfl; exact rfl; exact rfl; (first | exact trivial | omega | exact ⟨Int.natCast_nonneg _, Int.ofNat_lt.2 (by assumption)⟩ | decide); clear hF a; intro a hF) | (with_reducible refine w_exit ?_) | (with_reducible refine q_then_x ?_) | (with_reducible refine q_blk_x ?_) | ((with_reducible apply c_dec hF); exact rfl; all_goals intro hc; all_goals (try (exfalso; omega)))))
    (apply f_end Try.results92 hF hM; (repeat (first | exact RL.nil | (apply RL.tmp; exact rfl) | (apply RL.cell; exact rfl; (repeat (first | exact List.mem_cons_self | refine List.mem_cons_of_mem _ ?_)); exact rfl))); try dsimp only [resV])
    refine RetP.ret ?_ hM.since trivial
    rw [addB_iff.2]
    · rfl
    refine ⟨by rw [hg0]; exact h0, fun i j h1 h2 h3 h4 => ?_⟩
    rcases Nat.le_total i j with h | h
    · exact hall i j h1 (by omega) h (by omega)
    · rw [addAt_comm]; exact hall j i h3 (by omega) h (by omega)
end
end Go.Proofs.Ytabfhoipclbeeaa


/- certificate: gentle, ticks, bound, check. -/
namespace Go.Proofs.Ytabfhoipclbeeaa
open Go.RowKit Go.Shelf C55 K57
set_option maxHeartbeats 1000000 in
theorem gentle_c (c : Cu) (ok : Ok c) (v : Value) (own : Nat → Prop) (W : World) (hl : ∀ b, own b → b < W.heap.size) (hv : Has own W (IsCu · v c)) :
    Calls Try.prog 95 ⟨[v]⟩ W (Ret W fun v _ => v = .bool (genB c)) := by
  obtain ⟨a0, c0, rfl, hV, l1, l2⟩ := isCu_open hv
  have hM := (Mm.start hl).known hV
  have k0 := ok.l0
  have k1 := ok.l1
  have ks := ok.s
  refine f_start Try.func95 rfl Try.ntmps95 rfl rfl ?_; intro a hF
  (repeat' (first | (with_reducible refine w_seq ?_) | (with_reducible refine c_region ?_) | (with_reducible refine s_nil ?_) | (with_reducible refine q_then_n ?_) | ((with_reducible apply s_pure hF); exact rfl; exact rfl; exact rfl; (first | exact trivial | omega | exact ⟨Int.natCast_nonneg _, Int.ofNat_lt.2 (by assumption)⟩ | decide); clear hF a; intro a hF) | ((with_reducible apply s_box hF hM); exact rfl; exact rfl; exact rfl; exact rfl; clear hF hM a; intro b w a hM hF) | (with_reducible refine w_block ?_)))
  generalize b = b1 at *
  refine c_loop (m := c.V.length - 1) (fun m a w' => ∃ (k : Nat), m + k = c.V.length ∧ 1 ≤ k ∧ (∀ t : Nat, t + 1 < k → vl c (t + 1) - vl c t ≤ 4096) ∧
    Fr 27 [] [(3, .int .i64 k), (1, .pointer (some ⟨b1, 0, none⟩))] a ∧
    Mm own W [⟨b1, ⟨[.slice a0 c.V.length c0, .int .i64 c.S]⟩, 24⟩] [] [RdF (Value.int .i64) a0 c.V] w')
    ⟨1, by omega, Nat.le_refl _, (fun t h => absurd h (by omega)), hF.sub (by repeat (first | exact Sub.nil | refine Sub.cons rfl (by first | with_reducible rfl | (refine congrArg (Value.int _) ?_; omega) | exact rfl) ?_)), hM⟩ ?_
  clear hF hM a
  rintro m a w' ⟨k, hm, hk1, hall, hF, hM⟩
  by_cases hk : k < c.V.length
  · have hx := vl_in hk
    have hy := vl_in (c := c) (k := k - 1) (by omega)
    rw [show k - 1 = ((k : Int) - 1).toNat by omega] at hy
    have hr1 := vl_rg ok (k := k) (by omega)
    have hr2 := vl_rg ok (k := ((k : Int) - 1).toNat) (by omega)
    obtain ⟨ad, rfl⟩ := rd_some hM (by (repeat (first | exact List.mem_cons_self | refine List.mem_cons_of_mem _ ?_))) hx
    have hkk : ((k : Int) - 1).toNat + 1 = k := by omega
    by_cases hb : vl c k - vl c ((k : Int) - 1).toNat ≤ 4096
    · (repeat' (first | (with_reducible refine w_seq ?_) | (with_reducible refine c_region ?_) | (with_reducible refine s_nil ?_) | (with_reducible refine q_then_n ?_) | ((with_reducible apply s_pure hF); exact rfl; exact rfl; exact rfl; (first | exact trivial | omega | exact ⟨Int.natCast_nonneg _, Int.ofNat_lt.2 (by assumption)⟩ | decide); clear hF a; intro a hF) | ((with_reducible apply s_load hF hM); exact rfl; exact rfl; (repeat (first | exact List.mem_cons_self | refine List.mem_cons_of_mem _ ?_)); exact rfl; exact rfl; clear hF a; intro a hF) | (with_reducible refine w_skip ?_) | (with_reducible refine w_block ?_) | ((with_reducible apply c_dec hF); exact rfl; all_goals intro hc; all_goals (try (exfalso; omega)))))
      refine c_draw (fun i => Nat.ble 13 i) hM ?_; clear hM; intro w hM
      (first | (refine t_pure (i := 0) hF rfl rfl rfl rfl (by kernel_rfl) hM.sm (fun _ _ _ h => h) ?_ ?_; (first | exact trivial | omega | decide); clear hF a; intro a hF))
      (first | (apply t_load (i := 1) hF rfl rfl rfl; (repeat (first | exact List.mem_cons_self | refine List.mem_cons_of_mem _ ?_)); exact rfl; exact rfl; kernel_rfl; exact hM.sm; exact (fun _ _ _ h => h); clear hF a; intro a hF))
      (first | (refine t_pure (i := 2) hF rfl rfl rfl rfl (by kernel_rfl) hM.sm (fun _ _ _ h => h) ?_ ?_; (first | exact trivial | omega | decide); clear hF a; intro a hF))
      (first | (refine t_pure (i := 3) hF rfl rfl rfl rfl (by kernel_rfl) hM.sm (fun _ _ _ h => h) ?_ ?_; (first | exact trivial | omega | decide); clear hF a; intro a hF))
      (first | (apply t_loadF (i := 4) hF rfl rfl rfl; (repeat (first | exact List.mem_cons_self | refine List.mem_cons_of_mem _ ?_)); (first | with_reducible assumption | (simp only [Int.toNat_natCast]; with_reducible assumption)); exact rfl; exact rfl; kernel_rfl; exact hM.sm; exact (fun _ _ _ h => h); clear hF a; intro a hF))
      (first | (refine t_pure (i := 5) hF rfl rfl rfl rfl (by kernel_rfl) hM.sm (fun _ _ _ h => h) ?_ ?_; (first | exact trivial | omega | decide); clear hF a; intro a hF))
      (first | (apply t_load (i := 6) hF rfl rfl rfl; (repeat (first | exact List.mem_cons_self | refine List.mem_cons_of_mem _ ?_)); exact rfl; exact rfl; kernel_rfl; exact hM.sm; exact (fun _ _ _ h => h); clear hF a; intro a hF))
      (first | (refine t_pure (i := 7) hF rfl rfl rfl rfl (by kernel_rfl) hM.sm (fun _ _ _ h => h) ?_ ?_; (first | exact trivial | omega | decide); clear hF a; intro a hF))
      (first | (refine t_pure (i := 8) hF rfl rfl rfl rfl (by kernel_rfl) hM.sm (fun _ _ _ h => h) ?_ ?_; (first | exact trivial | omega | decide); clear hF a; intro a hF))
      (first | (refine t_pure (i := 9) hF rfl rfl rfl rfl (by kernel_rfl) hM.sm (fun _ _ _ h => h) ?_ ?_; (first | exact trivial | omega | decide); clear hF a; intro a hF))
      (first | (apply t_loadF (i := 10) hF rfl rfl rfl; (repeat (first | exact List.mem_cons_self | refine List.mem_cons_of_mem _ ?_)); (first | with_reducible assumption | (simp only [Int.toNat_natCast]; with_reducible assumption)); exact rfl; exact rfl; kernel_rfl; exact hM.sm; exact (fun _ _ _ h => h); clear hF a; intro a hF))
      (first | (refine t_pure (i := 11) hF rfl rfl rfl rfl (by kernel_rfl) hM.sm (fun _ _ _ h => h) ?_ ?_; (first | exact trivial | omega | decide); clear hF a; intro a hF))
      (first | (refine t_pure (i := 12) hF rfl rfl rfl rfl (by kernel_rfl) hM.sm (fun _ _ _ h => h) ?_ ?_; (first | exact trivial | omega | decide); clear hF a; intro a hF))
      refine t_done (by kernel_rfl) ?_
      (repeat' (first | (with_reducible refine c_region ?_) | (with_reducible refine s_nil ?_) | (with_reducible refine q_then_n ?_) | ((with_reducible apply s_pure hF); exact rfl; exact rfl; exact rfl; (first | exact trivial | omega | exact ⟨Int.natCast_nonneg _, Int.ofNat_lt.2 (by assumption)⟩ | decide); clear hF a; intro a hF) | (with_reducible refine w_skip ?_) | (with_reducible refine q_blk_n ?_) | ((with_reducible apply c_dec hF); exact rfl; all_goals intro hc; all_goals (try (exfalso; omega)))))
      refine ⟨m - 1, by omega, k + 1, by omega, by omega, fun t ht => ?_, hF.sub (by repeat (first | exact Sub.nil | refine Sub.cons rfl (by first | with_reducible rfl | (refine congrArg (Value.int _) ?_; omega) | exact rfl) ?_)), hM⟩
      by_cases e : t + 1 = k
      · obtain rfl : t = ((k : Int) - 1).toNat := by omega
        rw [hkk]; exact hb
      · exact hall t (by omega)
    · (repeat' (first | (with_reducible refine w_seq ?_) | (with_reducible refine c_region ?_) | (with_reducible refine s_nil ?_) | (with_reducible refine q_then_n ?_) | ((with_reducible apply s_pure hF); exact rfl; exact rfl; exact rfl; (first | exact trivial | omega | exact ⟨Int.natCast_nonneg _, Int.ofNat_lt.2 (by assumption)⟩ | decide); clear hF a; intro a hF) | ((with_reducible apply s_load hF hM); exact rfl; exact rfl; (repeat (first | exact List.mem_cons_self | refine List.mem_cons_of_mem _ ?_)); exact rfl; exact rfl; clear hF a; intro a hF) | (with_reducible refine w_skip ?_) | (with_reducible refine w_block ?_) | ((with_reducible apply c_dec hF); exact rfl; all_goals intro hc; all_goals (try (exfalso; omega)))))
      refine c_draw (fun i => Nat.ble 13 i) hM ?_; clear hM; intro w hM
      (first | (refine t_pure (i := 0) hF rfl rfl rfl rfl (by kernel_rfl) hM.sm (fun _ _ _ h => h) ?_ ?_; (first | exact trivial | omega | decide); clear hF a; intro a hF))
      (first | (apply t_load (i := 1) hF rfl rfl rfl; (repeat (first | exact List.mem_cons_self | refine List.mem_cons_of_mem _ ?_)); exact rfl; exact rfl; kernel_rfl; exact hM.sm; exact (fun _ _ _ h => h); clear hF a; intro a hF))
      (first | (refine t_pure (i := 2) hF rfl rfl rfl rfl (by kernel_rfl) hM.sm (fun _ _ _ h => h) ?_ ?_; (first | exact trivial | omega | decide); clear hF a; intro a hF))
      (first | (refine t_pure (i := 3) hF rfl rfl rfl rfl (by kernel_rfl) hM.sm (fun _ _ _ h => h) ?_ ?_; (first | exact trivial | omega | decide); clear hF a; intro a hF))
      (first | (apply t_loadF (i := 4) hF rfl rfl rfl; (repeat (first | exact List.mem_cons_self | refine List.mem_cons_of_mem _ ?_)); (first | with_reducible assumption | (simp only [Int.toNat_natCast]; with_reducible assumption)); exact rfl; exact rfl; kernel_rfl; exact hM.sm; exact (fun _ _ _ h => h); clear hF a; intro a hF))
      (first | (refine t_pure (i := 5) hF rfl rfl rfl rfl (by kernel_rfl) hM.sm (fun _ _ _ h => h) ?_ ?_; (first | exact trivial | omega | decide); clear hF a; intro a hF))
      (first | (apply t_load (i := 6) hF rfl rfl rfl; (repeat (first | exact List.mem_cons_self | refine List.mem_cons_of_mem _ ?_)); exact rfl; exact rfl; kernel_rfl; exact hM.sm; exact (fun _ _ _ h => h); clear hF a; intro a hF))
      (first | (refine t_pure (i := 7) hF rfl rfl rfl rfl (by kernel_rfl) hM.sm (fun _ _ _ h => h) ?_ ?_; (first | exact trivial | omega | decide); clear hF a; intro a hF))
      (first | (refine t_pure (i := 8) hF rfl rfl rfl rfl (by kernel_rfl) hM.sm (fun _ _ _ h => h) ?_ ?_; (first | exact trivial | omega | decide); clear hF a; intro a hF))
      (first | (refine t_pure (i := 9) hF rfl rfl rfl rfl (by kernel_rfl) hM.sm (fun _ _ _ h => h) ?_ ?_; (first | exact trivial | omega | decide); clear hF a; intro a hF))
      (first | (apply t_loadF (i := 10) hF rfl rfl rfl; (repeat (first | exact List.mem_cons_self | refine List.mem_cons_of_mem _ ?_)); (first | with_reducible assumption | (simp only [Int.toNat_natCast]; with_reducible assumption)); exact rfl; exact rfl; kernel_rfl; exact hM.sm; exact (fun _ _ _ h => h); clear hF a; intro a hF))
      (first | (refine t_pure (i := 11) hF rfl rfl rfl rfl (by kernel_rfl) hM.sm (fun _ _ _ h => h) ?_ ?_; (first | exact trivial | omega | decide); clear hF a; intro a hF))
      (first | (refine t_pure (i := 12) hF rfl rfl rfl rfl (by kernel_rfl) hM.sm (fun _ _ _ h => h) ?_ ?_; (first | exact trivial | omega | decide); clear hF a; intro a hF))
      refine t_done (by kernel_rfl) ?_
      (repeat' (first | (with_reducible refine w_seq ?_) | (with_reducible refine c_region ?_) | (with_reducible refine s_nil ?_) | (with_reducible refine q_then_n ?_) | ((with_reducible apply s_pure hF); exact rfl; exact rfl; exact rfl; (first | exact trivial | omega | exact ⟨Int.natCast_nonneg _, Int.ofNat_lt.2 (by assumption)⟩ | decide); clear hF a; intro a hF) | (with_reducible refine w_ret ?_) | (with_reducible refine q_then_r ?_) | (with_reducible refine q_blk_r ?_) | ((with_reducible apply c_dec hF); exact rfl; all_goals intro hc; all_goals (try (exfalso; omega)))))
      (apply f_ret Try.results95 hF hM; (repeat (first | exact RL.nil | (apply RL.tmp; exact rfl) | (apply RL.cell; exact rfl; (repeat (first | exact List.mem_cons_self | refine List.mem_cons_of_mem _ ?_)); exact rfl))); refine Ret.mk hM.since ?_; dsimp only [resV])
      rw [genB_of_bad (t := ((k : Int) - 1).toNat) (by omega) (by rw [hkk]; exact hb)]
  · (repeat' (first | (with_reducible refine w_seq ?_) | (with_reducible refine c_region ?_) | (with_reducible refine s_nil ?_) | (with_reducible refine q_then_n ?_) | ((with_reducible apply s_pure hF); exact rfl; exact rfl; exact rfl; (first | exact trivial | omega | exact ⟨Int.natCast_nonneg _, Int.ofNat_lt.2 (by assumption)⟩ | decide); clear hF a; intro a hF) | ((with_reducible apply s_load hF hM); exact rfl; exact rfl; (repeat (first | exact List.mem_cons_self | refine List.mem_cons_of_mem _ ?_)); exact rfl; exact rfl; clear hF a; intro a hF) | (with_reducible refine w_exit ?_) | (with_reducible refine w_ret ?_) | (with_reducible refine q_then_x ?_) | (with_reducible refine q_blk_x ?_) | ((with_reducible apply c_dec hF); exact rfl; all_goals intro hc; all_goals (try (exfalso; omega)))))
    (apply f_ret Try.results95 hF hM; (repeat (first | exact RL.nil | (apply RL.tmp; exact rfl) | (apply RL.cell; exact rfl; (repeat (first | exact List.mem_cons_self | refine List.mem_cons_of_mem _ ?_)); exact rfl))); refine Ret.mk hM.since ?_; dsimp only [resV])
    rw [genB_of_all fun t ht => hall t (by omega)]
set_option maxHeartbeats 1000000 in
theorem ticks_c (c : Cu) (ok : Ok c) (x : Int) (hx : 0 ≤ x ∧ x ≤ 2000000000000000000) (v : Value) (own : Nat → Prop) (W : World) (hl : ∀ b, own b → b < W.heap.size) (hv : Has own W (IsCu · v c)) :
    Calls Try.prog 96 ⟨[v, .int .i64 x]⟩ W (RetP W (if never c x then 21 else 0) fun v _ => v = .int .i64 (rch c x)) := by
  obtain ⟨a0, c0, rfl, hV, l1, l2⟩ := isCu_open hv
  have hM := (Mm.start hl).known hV
  have k0 := ok.l0
  have k1 := ok.l1
  have ks := ok.s
  have kf := fpos_le c.V x
  obtain ⟨y, hy⟩ := get_of_lt (l := c.V) (i := c.V.length - 1) (by omega)
  obtain ⟨ad, rfl⟩ := rd_some hM (by (repeat (first | exact List.mem_cons_self | refine List.mem_cons_of_mem _ ?_))) hy
  have hyb := ok.v y (List.mem_of_getElem? hy)
  have hyd : c.V.getD (c.V.length - 1) 0 = y := by rw [List.getD_eq_getElem?_getD, hy]; rfl
  rw [show c.V.length - 1 = ((c.V.length : Int) - 1).toNat by omega] at hy
  have hbs := fun {own : Nat → Prop} (W : World) (hl : ∀ b, own b → b < W.heap.size) hv => binarySearch_c c.V x ok.m (some ad) c0 own W hl (by omega) hv
  by_cases hf : fpos c.V x < c.V.length
  · have hn : never c x = false := by unfold never; rw [decide_eq_false (by omega)]; rfl
    have hr : rch c x = fpos c.V x := by unfold rch; rw [if_pos hf]
    rw [hn, hr]
    refine f_start Try.func96 rfl Try.ntmps96 rfl rfl ?_; intro a hF
    (repeat' (first | (with_reducible refine w_seq ?_) | (with_reducible refine c_region ?_) | (with_reducible refine s_nil ?_) | ((with_reducible apply s_call (f := 123) hF hM); exact rfl; exact rfl; exact rfl; exact rfl; exact rfl; exact (binarySearch_c c.V x ok.m _ _ _ _ hM.lt (by omega) (hM.facts _ (by (repeat (first | exact List.mem_cons_self | refine List.mem_cons_of_mem _ ?_))))); clear hF hM a; rintro v w a ⟨fnd, rfl⟩ - hM hF) | (with_reducible refine q_then_n ?_) | ((with_reducible apply s_pure hF); exact rfl; exact rfl; exact rfl; (first | exact trivial | omega | exact ⟨Int.natCast_nonneg _, Int.ofNat_lt.2 (by assumption)⟩ | decide); clear hF a; intro a hF) | ((with_reducible apply s_load hF hM); exact rfl; exact rfl; (repeat (first | exact List.mem_cons_self | refine List.mem_cons_of_mem _ ?_)); exact rfl; exact rfl; clear hF a; intro a hF) | ((with_reducible apply s_box hF hM); exact rfl; exact rfl; exact rfl; exact rfl; clear hF hM a; intro b w a hM hF) | (with_reducible refine w_ret ?_) | (with_reducible refine q_then_r ?_) | ((with_reducible apply c_dec hF); exact rfl; all_goals intro hc; all_goals (try (exfalso; omega)))))
    (apply f_ret Try.results96 hF hM; (repeat (first | exact RL.nil | (apply RL.tmp; exact rfl) | (apply RL.cell; exact rfl; (repeat (first | exact List.mem_cons_self | refine List.mem_cons_of_mem _ ?_)); exact rfl))); try dsimp only [resV])
    exact RetP.ret rfl hM.since rfl
  · obtain hfe : fpos c.V x = c.V.length := by omega
    have hlast : y < x := fpos_lt (l := c.V) (x := x) (by omega) hy
    by_cases hS : c.S = 0
    · have hn : never c x = true := by unfold never; rw [decide_eq_true hfe, decide_eq_true hS]; rfl
      rw [hn]
      refine f_start Try.func96 rfl Try.ntmps96 rfl rfl ?_; intro a hF
      (repeat' (first | (with_reducible refine w_seq ?_) | (with_reducible refine c_region ?_) | (with_reducible refine s_nil ?_) | ((with_reducible apply s_call (f := 123) hF hM); exact rfl; exact rfl; exact rfl; exact rfl; exact rfl; exact (binarySearch_c c.V x ok.m _ _ _ _ hM.lt (by omega) (hM.facts _ (by (repeat (first | exact List.mem_cons_self | refine List.mem_cons_of_mem _ ?_))))); clear hF hM a; rintro v w a ⟨fnd, rfl⟩ - hM hF; rw [hfe] at hF) | ((with_reducible apply s_callE (f := 58) hF hM); exact rfl; exact rfl; exact rfl; exact rfl; exact (demand_f _ _ _ hM.lt (decide_eq_false (by omega))); clear hF hM a; intro w a hM hF) | (with_reducible refine q_then_p ?_) | (with_reducible refine q_then_n ?_) | ((with_reducible apply s_pure hF); exact rfl; exact rfl; exact rfl; (first | exact trivial | omega | exact ⟨Int.natCast_nonneg _, Int.ofNat_lt.2 (by assumption)⟩ | decide); clear hF a; intro a hF) | ((with_reducible apply s_load hF hM); exact rfl; exact rfl; (repeat (first | exact List.mem_cons_self | refine List.mem_cons_of_mem _ ?_)); exact rfl; exact rfl; clear hF a; intro a hF) | ((with_reducible apply s_box hF hM); exact rfl; exact rfl; exact rfl; exact rfl; clear hF hM a; intro b w a hM hF) | (with_reducible refine w_skip ?_) | ((with_reducible apply c_false2 hF); exact rfl; (first | with_reducible rfl | (refine congrArg Value.bool ?_; focus (simp; done))))))
      refine f_panic hF ?_
      exact RetP.pan rfl (by decide) hM.since
    · have hn : never c x = false := by unfold never; rw [decide_eq_false hS, Bool.and_false]
      have hr : rch c x = c.V.length - 1 + (x - y + c.S - 1) / c.S := by unfold rch; rw [if_neg hf, hyd]
      have hb := rch_bd ok hx.2 (fun e => absurd e hS)
      rw [hr] at hb
      have hq : 0 ≤ (x - y + c.S - 1) / c.S := Int.ediv_nonneg (by omega) (by omega)
      rw [hn, hr]
      refine f_start Try.func96 rfl Try.ntmps96 rfl rfl ?_; intro a hF
      (repeat' (first | (with_reducible refine w_seq ?_) | (with_reducible refine c_region ?_) | (with_reducible refine s_nil ?_) | ((with_reducible apply s_call (f := 123) hF hM); exact rfl; exact rfl; exact rfl; exact rfl; exact rfl; exact (binarySearch_c c.V x ok.m _ _ _ _ hM.lt (by omega) (hM.facts _ (by (repeat (first | exact List.mem_cons_self | refine List.mem_cons_of_mem _ ?_))))); clear hF hM a; rintro v w a ⟨fnd, rfl⟩ - hM hF; rw [hfe] at hF) | ((with_reducible apply s_call (f := 58) hF hM); exact rfl; exact rfl; exact rfl; exact rfl; exact rfl; exact (demand_t _ _ _ hM.lt (decide_eq_true (by omega))); clear hF hM a; rintro v w a - - hM hF) | (with_reducible refine q_then_n ?_) | ((with_reducible apply s_pure hF); exact rfl; exact rfl; exact rfl; (first | exact trivial | omega | exact ⟨Int.natCast_nonneg _, Int.ofNat_lt.2 (by assumption)⟩ | decide); clear hF a; intro a hF) | ((with_reducible apply s_load hF hM); exact rfl; exact rfl; (repeat (first | exact List.mem_cons_self | refine List.mem_cons_of_mem _ ?_)); exact rfl; exact rfl; clear hF a; intro a hF) | ((with_reducible apply s_box hF hM); exact rfl; exact rfl; exact rfl; exact rfl; clear hF hM a; intro b w a hM hF) | (with_reducible refine w_skip ?_) | ((with_reducible apply c_false2 hF); exact rfl; (first | with_reducible rfl | (refine congrArg Value.bool ?_; focus (simp; done))))))
      refine c_draw (fun i => Nat.ble 17 i) hM ?_; clear hM; intro w hM
      (first | (refine t_pure (i := 0) hF rfl rfl rfl rfl (by kernel_rfl) hM.sm (fun _ _ _ h => h) ?_ ?_; (first | exact trivial | omega | decide); clear hF a; intro a hF))
      (first | (refine t_pure (i := 1) hF rfl rfl rfl rfl (by kernel_rfl) hM.sm (fun _ _ _ h => h) ?_ ?_; (first | exact trivial | omega | decide); clear hF a; intro a hF))
      (first | (refine t_pure (i := 2) hF rfl rfl rfl rfl (by kernel_rfl) hM.sm (fun _ _ _ h => h) ?_ ?_; (first | exact trivial | omega | decide); clear hF a; intro a hF))
      (first | (apply t_load (i := 3) hF rfl rfl rfl; (repeat (first | exact List.mem_cons_self | refine List.mem_cons_of_mem _ ?_)); exact rfl; exact rfl; kernel_rfl; exact hM.sm; exact (fun _ _ _ h => h); clear hF a; intro a hF))
      (first | (refine t_pure (i := 4) hF rfl rfl rfl rfl (by kernel_rfl) hM.sm (fun _ _ _ h => h) ?_ ?_; (first | exact trivial | omega | decide); clear hF a; intro a hF))
      (first | (refine t_pure (i := 5) hF rfl rfl rfl rfl (by kernel_rfl) hM.sm (fun _ _ _ h => h) ?_ ?_; (first | exact trivial | omega | decide); clear hF a; intro a hF))
      (first | (apply t_loadF (i := 6) hF rfl rfl rfl; (repeat (first | exact List.mem_cons_self | refine List.mem_cons_of_mem _ ?_)); (first | with_reducible assumption | (simp only [Int.toNat_natCast]; with_reducible assumption)); exact rfl; exact rfl; kernel_rfl; exact hM.sm; exact (fun _ _ _ h => h); clear hF a; intro a hF))
      (first | (refine t_pure (i := 7) hF rfl rfl rfl rfl (by kernel_rfl) hM.sm (fun _ _ _ h => h) ?_ ?_; (first | exact trivial | omega | decide); clear hF a; intro a hF))
      (first | (refine t_pure (i := 8) hF rfl rfl rfl rfl (by kernel_rfl) hM.sm (fun _ _ _ h => h) ?_ ?_; (first | exact trivial | omega | decide); clear hF a; intro a hF))
      (first | (apply t_load (i := 9) hF rfl rfl rfl; (repeat (first | exact List.mem_cons_self | refine List.mem_cons_of_mem _ ?_)); exact rfl; exact rfl; kernel_rfl; exact hM.sm; exact (fun _ _ _ h => h); clear hF a; intro a hF))
      (first | (refine t_pure (i := 10) hF rfl rfl rfl rfl (by kernel_rfl) hM.sm (fun _ _ _ h => h) ?_ ?_; (first | exact trivial | omega | decide); clear hF a; intro a hF))
      (first | (refine t_pure (i := 11) hF rfl rfl rfl rfl (by kernel_rfl) hM.sm (fun _ _ _ h => h) ?_ ?_; (first | exact trivial | omega | decide); clear hF a; intro a hF))
      (first | (refine t_pure (i := 12) hF rfl rfl rfl rfl (by kernel_rfl) hM.sm (fun _ _ _ h => h) ?_ ?_; (first | exact trivial | omega | decide); clear hF a; intro a hF))
      (first | (apply t_load (i := 13) hF rfl rfl rfl; (repeat (first | exact List.mem_cons_self | refine List.mem_cons_of_mem _ ?_)); exact rfl; exact rfl; kernel_rfl; exact hM.sm; exact (fun _ _ _ h => h); clear hF a; intro a hF))
      (first | (refine t_pure (i := 14) hF rfl rfl rfl rfl (by kernel_rfl) hM.sm (fun _ _ _ h => h) ?_ ?_; (first | exact trivial | omega | decide); clear hF a; intro a hF))
      (first | (refine t_pure (i := 15) hF rfl rfl rfl rfl (by kernel_rfl) hM.sm (fun _ _ _ h => h) ?_ ?_; (first | exact trivial | omega | decide); clear hF a; intro a hF))
      (first | (refine t_pure (i := 16) hF rfl rfl rfl rfl (by kernel_rfl) hM.sm (fun _ _ _ h => h) ?_ ?_; (first | exact trivial | omega | decide); clear hF a; intro a hF))
      refine t_done (by kernel_rfl) ?_
      (repeat' (first | (with_reducible refine q_then_n ?_) | (with_reducible refine w_ret ?_)))
      (apply f_ret Try.results96 hF hM; (repeat (first | exact RL.nil | (apply RL.tmp; exact rfl) | (apply RL.cell; exact rfl; (repeat (first | exact List.mem_cons_self | refine List.mem_cons_of_mem _ ?_)); exact rfl))); try dsimp only [resV])
      exact RetP.ret rfl hM.since rfl
end Go.Proofs.Ytabfhoipclbeeaa


/- certificate: bound, check. -/
namespace Go.Proofs.Ytabfhoipclbeeaa
open Go.RowKit Go.Shelf C55 K57
theorem hold1_c (x y : Int) {own : Nat → Prop} (W : World) (hl : ∀ b, own b → b < W.heap.size) : Calls Try.prog 93 ⟨[.int .i64 x, .int .i64 y]⟩ W (Ret W fun v _ => v = .bool (hold true x y)) := by
  have hM := Mm.start hl
  refine f_start Try.func93 rfl Try.ntmps93 rfl rfl ?_; intro a hF
  (repeat' (first | (with_reducible refine w_seq ?_) | (with_reducible refine c_region ?_) | (with_reducible refine s_nil ?_) | (with_reducible refine q_then_n ?_) | ((with_reducible apply s_pure hF); exact rfl; exact rfl; exact rfl; (first | exact trivial | omega | exact ⟨Int.natCast_nonneg _, Int.ofNat_lt.2 (by assumption)⟩ | decide); clear hF a; intro a hF) | (with_reducible refine w_ret ?_)))
  (apply f_ret Try.results93 hF hM; (repeat (first | exact RL.nil | (apply RL.tmp; exact rfl) | (apply RL.cell; exact rfl; (repeat (first | exact List.mem_cons_self | refine List.mem_cons_of_mem _ ?_)); exact rfl))); refine Ret.mk hM.since ?_; dsimp only [resV])
  simp [hold]
theorem hold2_c (x y : Int) {own : Nat → Prop} (W : World) (hl : ∀ b, own b → b < W.heap.size) : Calls Try.prog 94 ⟨[.int .i64 x, .int .i64 y]⟩ W (Ret W fun v _ => v = .bool (hold false x y)) := by
  have hM := Mm.start hl
  refine f_start Try.func94 rfl Try.ntmps94 rfl rfl ?_; intro a hF
  (repeat' (first | (with_reducible refine w_seq ?_) | (with_reducible refine c_region ?_) | (with_reducible refine s_nil ?_) | (with_reducible refine q_then_n ?_) | ((with_reducible apply s_pure hF); exact rfl; exact rfl; exact rfl; (first | exact trivial | omega | exact ⟨Int.natCast_nonneg _, Int.ofNat_lt.2 (by assumption)⟩ | decide); clear hF a; intro a hF) | (with_reducible refine w_ret ?_)))
  (apply f_ret Try.results94 hF hM; (repeat (first | exact RL.nil | (apply RL.tmp; exact rfl) | (apply RL.cell; exact rfl; (repeat (first | exact List.mem_cons_self | refine List.mem_cons_of_mem _ ?_)); exact rfl))); refine Ret.mk hM.since ?_; dsimp only [resV])
  simp [hold]
/-- A certificate, as the program's memory holds it. -/
abbrev ceL (c : Ce) (a1 : Option Addr) (c1 : Nat) (a2 : Option Addr) (c2 : Nat) : List Value := [.slice a1 c.A.V.length c1, .int .i64 c.A.S, .slice a2 c.S.V.length c2, .int .i64 c.S.S, .int .i64 c.P, .int .i64 c.L, .int .i64 c.D, .int .i64 c.B]
theorem most_at {c : Ce} (h : check c.A = 0) (hP : 1 ≤ c.P ∧ c.P ≤ 4096) : atT c.A c.P = most c := by
  unfold atT most vl
  rw [if_neg (by omega), show min c.P 1073741824 = c.P by omega, show ((c.P.toNat : Nat) : Int) = c.P by omega]
theorem most_rg {c : Ce} (ok : Ok c.A) (hP : 1 ≤ c.P ∧ c.P ≤ 4096) : 0 ≤ most c ∧ most c ≤ 1152930301773611008 := vl_rg ok (by omega)
section
variable (c : Ce) (a1 a2 : Option Addr) (c1 c2 : Nat) (l1 : c.A.V.length ≤ 9223372036854775807) (m1 : c.A.V.length ≤ c1) (l2 : c.S.V.length ≤ 9223372036854775807) (m2 : c.S.V.length ≤ c2) (own : Nat → Prop) (W : World) (hl : ∀ b, own b → b < W.heap.size) (hA : Has own W (RdF (Value.int .i64) a1 c.A.V)) (hS : Has own W (RdF (Value.int .i64) a2 c.S.V))
include l1 m1 l2 m2 hl hA hS
set_option maxHeartbeats 4000000 in
theorem ceBound_c : Calls Try.prog 48 ⟨[.agg ⟨ceL c a1 c1 a2 c2⟩]⟩ W (RetP W (bndE c) fun v _ => v = .int .i64 (bndV c)) := by
  have hM := ((Mm.start hl).known hA).known hS
  refine f_start Try.func48 rfl Try.ntmps48 rfl rfl ?_; intro a hF
  by_cases hc1 : check c.A = 0
  case neg =>
    (repeat (first | (with_reducible refine w_seq ?_) | (with_reducible refine c_region ?_) | (with_reducible refine s_nil ?_) | (with_reducible refine q_then_n ?_) | ((with_reducible apply s_pure hF); exact rfl; exact rfl; exact rfl; (first | exact trivial | omega | exact ⟨Int.natCast_nonneg _, Int.ofNat_lt.2 (by assumption)⟩ | decide); clear hF a; intro a hF) | ((with_reducible apply s_load hF hM); exact rfl; exact rfl; (repeat (first | exact List.mem_cons_self | refine List.mem_cons_of_mem _ ?_)); exact rfl; exact rfl; clear hF a; intro a hF) | ((with_reducible apply s_box hF hM); exact rfl; exact rfl; exact rfl; exact rfl; clear hF hM a; intro b w a hM hF)))
    (((with_reducible apply s_call (f := 91) hF hM); exact rfl; exact rfl; exact rfl; exact rfl; exact rfl; exact (check_c c.A _ _ _ hM.lt (isCu_mk (hM.facts (RdF (Value.int .i64) a1 c.A.V) (by (repeat (first | exact List.mem_cons_self | refine List.mem_cons_of_mem _ ?_)))) l1 m1)); clear hF hM a; rintro v w a rfl - hM hF))
    (repeat' (first | ((with_reducible apply s_callE (f := 71) hF hM); exact rfl; exact rfl; exact rfl; exact rfl; exact (right_f _ _ hM.lt hc1); clear hF hM a; intro w a hM hF) | (with_reducible refine q_then_p ?_)))
    refine f_panic hF ?_
    exact RetP.pan (bndE_A hc1) hc1 hM.since
  have okA := check_ok.1 hc1
  by_cases hc2 : check c.S = 0
  case neg =>
    (repeat (first | (with_reducible refine w_seq ?_) | (with_reducible refine c_region ?_) | (with_reducible refine s_nil ?_) | (with_reducible refine q_then_n ?_) | ((with_reducible apply s_pure hF); exact rfl; exact rfl; exact rfl; (first | exact trivial | omega | exact ⟨Int.natCast_nonneg _, Int.ofNat_lt.2 (by assumption)⟩ | decide); clear hF a; intro a hF) | ((with_reducible apply s_load hF hM); exact rfl; exact rfl; (repeat (first | exact List.mem_cons_self | refine List.mem_cons_of_mem _ ?_)); exact rfl; exact rfl; clear hF a; intro a hF) | ((with_reducible apply s_box hF hM); exact rfl; exact rfl; exact rfl; exact rfl; clear hF hM a; intro b w a hM hF)))
    (((with_reducible apply s_call (f := 91) hF hM); exact rfl; exact rfl; exact rfl; exact rfl; exact rfl; exact (check_c c.A _ _ _ hM.lt (isCu_mk (hM.facts (RdF (Value.int .i64) a1 c.A.V) (by (repeat (first | exact List.mem_cons_self | refine List.mem_cons_of_mem _ ?_)))) l1 m1)); clear hF hM a; rintro v w a rfl - hM hF))
    (repeat (first | (with_reducible refine w_seq ?_) | (with_reducible refine c_region ?_) | (with_reducible refine s_nil ?_) | ((with_reducible apply s_call (f := 71) hF hM); exact rfl; exact rfl; exact rfl; exact rfl; exact rfl; exact (right_t _ _ hM.lt hc1); clear hF hM a; rintro v w a - - hM hF) | (with_reducible refine q_then_n ?_) | ((with_reducible apply s_pure hF); exact rfl; exact rfl; exact rfl; (first | exact trivial | omega | exact ⟨Int.natCast_nonneg _, Int.ofNat_lt.2 (by assumption)⟩ | decide); clear hF a; intro a hF) | ((with_reducible apply s_load hF hM); exact rfl; exact rfl; (repeat (first | exact List.mem_cons_self | refine List.mem_cons_of_mem _ ?_)); exact rfl; exact rfl; clear hF a; intro a hF)))
    (((with_reducible apply s_call (f := 91) hF hM); exact rfl; exact rfl; exact rfl; exact rfl; exact rfl; exact (check_c c.S _ _ _ hM.lt (isCu_mk (hM.facts (RdF (Value.int .i64) a2 c.S.V) (by (repeat (first | exact List.mem_cons_self | refine List.mem_cons_of_mem _ ?_)))) l2 m2)); clear hF hM a; rintro v w a rfl - hM hF))
    (repeat' (first | ((with_reducible apply s_callE (f := 71) hF hM); exact rfl; exact rfl; exact rfl; exact rfl; exact (right_f _ _ hM.lt hc2); clear hF hM a; intro w a hM hF) | (with_reducible refine q_then_p ?_)))
    refine f_panic hF ?_
    exact RetP.pan (bndE_S hc1 hc2) hc2 hM.since
  have okS := check_ok.1 hc2
  cases hs1 : addB true c.A with
  | false =>
    (repeat (first | (with_reducible refine w_seq ?_) | (with_reducible refine c_region ?_) | (with_reducible refine s_nil ?_) | (with_reducible refine q_then_n ?_) | ((with_reducible apply s_pure hF); exact rfl; exact rfl; exact rfl; (first | exact trivial | omega | exact ⟨Int.natCast_nonneg _, Int.ofNat_lt.2 (by assumption)⟩ | decide); clear hF a; intro a hF) | ((with_reducible apply s_load hF hM); exact rfl; exact rfl; (repeat (first | exact List.mem_cons_self | refine List.mem_cons_of_mem _ ?_)); exact rfl; exact rfl; clear hF a; intro a hF) | ((with_reducible apply s_box hF hM); exact rfl; exact rfl; exact rfl; exact rfl; clear hF hM a; intro b w a hM hF)))
    (((with_reducible apply s_call (f := 91) hF hM); exact rfl; exact rfl; exact rfl; exact rfl; exact rfl; exact (check_c c.A _ _ _ hM.lt (isCu_mk (hM.facts (RdF (Value.int .i64) a1 c.A.V) (by (repeat (first | exact List.mem_cons_self | refine List.mem_cons_of_mem _ ?_)))) l1 m1)); clear hF hM a; rintro v w a rfl - hM hF))
    (repeat (first | (with_reducible refine w_seq ?_) | (with_reducible refine c_region ?_) | (with_reducible refine s_nil ?_) | ((with_reducible apply s_call (f := 71) hF hM); exact rfl; exact rfl; exact rfl; exact rfl; exact rfl; exact (right_t _ _ hM.lt hc1); clear hF hM a; rintro v w a - - hM hF) | (with_reducible refine q_then_n ?_) | ((with_reducible apply s_pure hF); exact rfl; exact rfl; exact rfl; (first | exact trivial | omega | exact ⟨Int.natCast_nonneg _, Int.ofNat_lt.2 (by assumption)⟩ | decide); clear hF a; intro a hF) | ((with_reducible apply s_load hF hM); exact rfl; exact rfl; (repeat (first | exact List.mem_cons_self | refine List.mem_cons_of_mem _ ?_)); exact rfl; exact rfl; clear hF a; intro a hF)))
    (((with_reducible apply s_call (f := 91) hF hM); exact rfl; exact rfl; exact rfl; exact rfl; exact rfl; exact (check_c c.S _ _ _ hM.lt (isCu_mk (hM.facts (RdF (Value.int .i64) a2 c.S.V) (by (repeat (first | exact List.mem_cons_self | refine List.mem_cons_of_mem _ ?_)))) l2 m2)); clear hF hM a; rintro v w a rfl - hM hF))
    (repeat (first | (with_reducible refine w_seq ?_) | (with_reducible refine c_region ?_) | (with_reducible refine s_nil ?_) | ((with_reducible apply s_call (f := 71) hF hM); exact rfl; exact rfl; exact rfl; exact rfl; exact rfl; exact (right_t _ _ hM.lt hc2); clear hF hM a; rintro v w a - - hM hF) | (with_reducible refine q_then_n ?_) | ((with_reducible apply s_pure hF); exact rfl; exact rfl; exact rfl; (first | exact trivial | omega | exact ⟨Int.natCast_nonneg _, Int.ofNat_lt.2 (by assumption)⟩ | decide); clear hF a; intro a hF) | ((with_reducible apply s_load hF hM); exact rfl; exact rfl; (repeat (first | exact List.mem_cons_self | refine List.mem_cons_of_mem _ ?_)); exact rfl; exact rfl; clear hF a; intro a hF)))
    (repeat' (first | ((with_reducible apply s_callE (f := 92) hF hM); exact rfl; exact rfl; exact rfl; exact rfl; exact (RetP.err (additive_c true _ rfl hold1_c c.A okA _ _ _ hM.lt (isCu_mk (hM.facts (RdF (Value.int .i64) a1 c.A.V) (by (repeat (first | exact List.mem_cons_self | refine List.mem_cons_of_mem _ ?_)))) l1 m1)) (by simp [hs1])); clear hF hM a; intro w a hM hF) | (with_reducible refine q_then_p ?_)))
    refine f_panic hF ?_
    simp only [hs1, Bool.false_eq_true, if_false]
    exact RetP.pan (bndE_3 hc1 hc2 (by rw [hs1]; rfl)) (by decide) hM.since
  | true =>
  cases hs2 : addB false c.S with
  | false =>
    (repeat (first | (with_reducible refine w_seq ?_) | (with_reducible refine c_region ?_) | (with_reducible refine s_nil ?_) | (with_reducible refine q_then_n ?_) | ((with_reducible apply s_pure hF); exact rfl; exact rfl; exact rfl; (first | exact trivial | omega | exact ⟨Int.natCast_nonneg _, Int.ofNat_lt.2 (by assumption)⟩ | decide); clear hF a; intro a hF) | ((with_reducible apply s_load hF hM); exact rfl; exact rfl; (repeat (first | exact List.mem_cons_self | refine List.mem_cons_of_mem _ ?_)); exact rfl; exact rfl; clear hF a; intro a hF) | ((with_reducible apply s_box hF hM); exact rfl; exact rfl; exact rfl; exact rfl; clear hF hM a; intro b w a hM hF)))
    (((with_reducible apply s_call (f := 91) hF hM); exact rfl; exact rfl; exact rfl; exact rfl; exact rfl; exact (check_c c.A _ _ _ hM.lt (isCu_mk (hM.facts (RdF (Value.int .i64) a1 c.A.V) (by (repeat (first | exact List.mem_cons_self | refine List.mem_cons_of_mem _ ?_)))) l1 m1)); clear hF hM a; rintro v w a rfl - hM hF))
    (repeat (first | (with_reducible refine w_seq ?_) | (with_reducible refine c_region ?_) | (with_reducible refine s_nil ?_) | ((with_reducible apply s_call (f := 71) hF hM); exact rfl; exact rfl; exact rfl; exact rfl; exact rfl; exact (right_t _ _ hM.lt hc1); clear hF hM a; rintro v w a - - hM hF) | (with_reducible refine q_then_n ?_) | ((with_reducible apply s_pure hF); exact rfl; exact rfl; exact rfl; (first | exact trivial | omega | exact ⟨Int.natCast_nonneg _, Int.ofNat_lt.2 (by assumption)⟩ | decide); clear hF a; intro a hF) | ((with_reducible apply s_load hF hM); exact rfl; exact rfl; (repeat (first | exact List.mem_cons_self | refine List.mem_cons_of_mem _ ?_)); exact rfl; exact rfl; clear hF a; intro a hF)))
    (((with_reducible apply s_call (f := 91) hF hM); exact rfl; exact rfl; exact rfl; exact rfl; exact rfl; exact (check_c c.S _ _ _ hM.lt (isCu_mk (hM.facts (RdF (Value.int .i64) a2 c.S.V) (by (repeat (first | exact List.mem_cons_self | refine List.mem_cons_of_mem _ ?_)))) l2 m2)); clear hF hM a; rintro v w a rfl - hM hF))
    (repeat (first | (with_reducible refine w_seq ?_) | (with_reducible refine c_region ?_) | (with_reducible refine s_nil ?_) | ((with_reducible apply s_call (f := 71) hF hM); exact rfl; exact rfl; exact rfl; exact rfl; exact rfl; exact (right_t _ _ hM.lt hc2); clear hF hM a; rintro v w a - - hM hF) | (with_reducible refine q_then_n ?_) | ((with_reducible apply s_pure hF); exact rfl; exact rfl; exact rfl; (first | exact trivial | omega | exact ⟨Int.natCast_nonneg _, Int.ofNat_lt.2 (by assumption)⟩ | decide); clear hF a; intro a hF) | ((with_reducible apply s_load hF hM); exact rfl; exact rfl; (repeat (first | exact List.mem_cons_self | refine List.mem_cons_of_mem _ ?_)); exact rfl; exact rfl; clear hF a; intro a hF)))
    (((with_reducible apply s_call (f := 92) hF hM); exact rfl; exact rfl; exact rfl; exact rfl; exact rfl; exact (RetP.ok (additive_c true _ rfl hold1_c c.A okA _ _ _ hM.lt (isCu_mk (hM.facts (RdF (Value.int .i64) a1 c.A.V) (by (repeat (first | exact List.mem_cons_self | refine List.mem_cons_of_mem _ ?_)))) l1 m1)) (if_pos hs1)); clear hF hM a; rintro v w a - - hM hF))
    (repeat (first | (with_reducible refine w_seq ?_) | (with_reducible refine c_region ?_) | (with_reducible refine s_nil ?_) | (with_reducible refine q_then_n ?_) | ((with_reducible apply s_pure hF); exact rfl; exact rfl; exact rfl; (first | exact trivial | omega | exact ⟨Int.natCast_nonneg _, Int.ofNat_lt.2 (by assumption)⟩ | decide); clear hF a; intro a hF) | ((with_reducible apply s_load hF hM); exact rfl; exact rfl; (repeat (first | exact List.mem_cons_self | refine List.mem_cons_of_mem _ ?_)); exact rfl; exact rfl; clear hF a; intro a hF)))
    (repeat' (first | ((with_reducible apply s_callE (f := 92) hF hM); exact rfl; exact rfl; exact rfl; exact rfl; exact (RetP.err (additive_c false _ rfl hold2_c c.S okS _ _ _ hM.lt (isCu_mk (hM.facts (RdF (Value.int .i64) a2 c.S.V) (by (repeat (first | exact List.mem_cons_self | refine List.mem_cons_of_mem _ ?_)))) l2 m2)) (by simp [hs2])); clear hF hM a; intro w a hM hF) | (with_reducible refine q_then_p ?_)))
    refine f_panic hF ?_
    simp only [hs2, Bool.false_eq_true, if_false]
    exact RetP.pan (bndE_3 hc1 hc2 (by rw [hs1, hs2]; rfl)) (by decide) hM.since
  | true =>
  have h3 : (addB true c.A && addB false c.S) = true := by rw [hs1, hs2]; rfl
  (repeat (first | (with_reducible refine w_seq ?_) | (with_reducible refine c_region ?_) | (with_reducible refine s_nil ?_) | (with_reducible refine q_then_n ?_) | ((with_reducible apply s_pure hF); exact rfl; exact rfl; exact rfl; (first | exact trivial | omega | exact ⟨Int.natCast_nonneg _, Int.ofNat_lt.2 (by assumption)⟩ | decide); clear hF a; intro a hF) | ((with_reducible apply s_load hF hM); exact rfl; exact rfl; (repeat (first | exact List.mem_cons_self | refine List.mem_cons_of_mem _ ?_)); exact rfl; exact rfl; clear hF a; intro a hF) | ((with_reducible apply s_box hF hM); exact rfl; exact rfl; exact rfl; exact rfl; clear hF hM a; intro b w a hM hF)))
  (((with_reducible apply s_call (f := 91) hF hM); exact rfl; exact rfl; exact rfl; exact rfl; exact rfl; exact (check_c c.A _ _ _ hM.lt (isCu_mk (hM.facts (RdF (Value.int .i64) a1 c.A.V) (by (repeat (first | exact List.mem_cons_self | refine List.mem_cons_of_mem _ ?_)))) l1 m1)); clear hF hM a; rintro v w a rfl - hM hF))
  (repeat (first | (with_reducible refine w_seq ?_) | (with_reducible refine c_region ?_) | (with_reducible refine s_nil ?_) | ((with_reducible apply s_call (f := 71) hF hM); exact rfl; exact rfl; exact rfl; exact rfl; exact rfl; exact (right_t _ _ hM.lt hc1); clear hF hM a; rintro v w a - - hM hF) | (with_reducible refine q_then_n ?_) | ((with_reducible apply s_pure hF); exact rfl; exact rfl; exact rfl; (first | exact trivial | omega | exact ⟨Int.natCast_nonneg _, Int.ofNat_lt.2 (by assumption)⟩ | decide); clear hF a; intro a hF) | ((with_reducible apply s_load hF hM); exact rfl; exact rfl; (repeat (first | exact List.mem_cons_self | refine List.mem_cons_of_mem _ ?_)); exact rfl; exact rfl; clear hF a; intro a hF)))
  (((with_reducible apply s_call (f := 91) hF hM); exact rfl; exact rfl; exact rfl; exact rfl; exact rfl; exact (check_c c.S _ _ _ hM.lt (isCu_mk (hM.facts (RdF (Value.int .i64) a2 c.S.V) (by (repeat (first | exact List.mem_cons_self | refine List.mem_cons_of_mem _ ?_)))) l2 m2)); clear hF hM a; rintro v w a rfl - hM hF))
  (repeat (first | (with_reducible refine w_seq ?_) | (with_reducible refine c_region ?_) | (with_reducible refine s_nil ?_) | ((with_reducible apply s_call (f := 71) hF hM); exact rfl; exact rfl; exact rfl; exact rfl; exact rfl; exact (right_t _ _ hM.lt hc2); clear hF hM a; rintro v w a - - hM hF) | (with_reducible refine q_then_n ?_) | ((with_reducible apply s_pure hF); exact rfl; exact rfl; exact rfl; (first | exact trivial | omega | exact ⟨Int.natCast_nonneg _, Int.ofNat_lt.2 (by assumption)⟩ | decide); clear hF a; intro a hF) | ((with_reducible apply s_load hF hM); exact rfl; exact rfl; (repeat (first | exact List.mem_cons_self | refine List.mem_cons_of_mem _ ?_)); exact rfl; exact rfl; clear hF a; intro a hF)))
  (((with_reducible apply s_call (f := 92) hF hM); exact rfl; exact rfl; exact rfl; exact rfl; exact rfl; exact (RetP.ok (additive_c true _ rfl hold1_c c.A okA _ _ _ hM.lt (isCu_mk (hM.facts (RdF (Value.int .i64) a1 c.A.V) (by (repeat (first | exact List.mem_cons_self | refine List.mem_cons_of_mem _ ?_)))) l1 m1)) (if_pos hs1)); clear hF hM a; rintro v w a - - hM hF))
  (repeat (first | (with_reducible refine w_seq ?_) | (with_reducible refine c_region ?_) | (with_reducible refine s_nil ?_) | (with_reducible refine q_then_n ?_) | ((with_reducible apply s_pure hF); exact rfl; exact rfl; exact rfl; (first | exact trivial | omega | exact ⟨Int.natCast_nonneg _, Int.ofNat_lt.2 (by assumption)⟩ | decide); clear hF a; intro a hF) | ((with_reducible apply s_load hF hM); exact rfl; exact rfl; (repeat (first | exact List.mem_cons_self | refine List.mem_cons_of_mem _ ?_)); exact rfl; exact rfl; clear hF a; intro a hF)))
  (((with_reducible apply s_call (f := 92) hF hM); exact rfl; exact rfl; exact rfl; exact rfl; exact rfl; exact (RetP.ok (additive_c false _ rfl hold2_c c.S okS _ _ _ hM.lt (isCu_mk (hM.facts (RdF (Value.int .i64) a2 c.S.V) (by (repeat (first | exact List.mem_cons_self | refine List.mem_cons_of_mem _ ?_)))) l2 m2)) (if_pos hs2)); clear hF hM a; rintro v w a - - hM hF))
  (repeat (first | (with_reducible refine w_seq ?_) | (with_reducible refine c_region ?_) | (with_reducible refine s_nil ?_) | (with_reducible refine q_then_n ?_) | ((with_reducible apply s_pure hF); exact rfl; exact rfl; exact rfl; (first | exact trivial | omega | exact ⟨Int.natCast_nonneg _, Int.ofNat_lt.2 (by assumption)⟩ | decide); clear hF a; intro a hF) | ((with_reducible apply s_load hF hM); exact rfl; exact rfl; (repeat (first | exact List.mem_cons_self | refine List.mem_cons_of_mem _ ?_)); exact rfl; exact rfl; clear hF a; intro a hF)))
  (((with_reducible apply s_call (f := 95) hF hM); exact rfl; exact rfl; exact rfl; exact rfl; exact rfl; exact (gentle_c c.A okA _ _ _ hM.lt (isCu_mk (hM.facts (RdF (Value.int .i64) a1 c.A.V) (by (repeat (first | exact List.mem_cons_self | refine List.mem_cons_of_mem _ ?_)))) l1 m1)); clear hF hM a; rintro v w a rfl - hM hF))
  cases hg1 : genB c.A with
  | false =>
    rw [hg1] at hF
    (repeat' (first | ((with_reducible apply s_callE (f := 58) hF hM); exact rfl; exact rfl; exact rfl; exact rfl; exact (demand_f _ _ _ hM.lt rfl); clear hF hM a; intro w a hM hF) | (with_reducible refine q_then_p ?_) | ((with_reducible apply s_pure hF); exact rfl; exact rfl; exact rfl; (first | exact trivial | omega | exact ⟨Int.natCast_nonneg _, Int.ofNat_lt.2 (by assumption)⟩ | decide); clear hF a; intro a hF) | ((with_reducible apply s_skip hF); exact rfl; exact rfl; clear hF a; intro a hF)))
    refine f_panic hF ?_
    exact RetP.pan (bndE_2 hc1 hc2 h3 (by rw [hg1]; rfl)) (by decide) hM.since
  | true =>
  rw [hg1] at hF
  (repeat (first | ((with_reducible apply s_pure hF); exact rfl; exact rfl; exact rfl; (first | exact trivial | omega | exact ⟨Int.natCast_nonneg _, Int.ofNat_lt.2 (by assumption)⟩ | decide); clear hF a; intro a hF) | ((with_reducible apply s_load hF hM); exact rfl; exact rfl; (repeat (first | exact List.mem_cons_self | refine List.mem_cons_of_mem _ ?_)); exact rfl; exact rfl; clear hF a; intro a hF)))
  (((with_reducible apply s_call (f := 95) hF hM); exact rfl; exact rfl; exact rfl; exact rfl; exact rfl; exact (gentle_c c.S okS _ _ _ hM.lt (isCu_mk (hM.facts (RdF (Value.int .i64) a2 c.S.V) (by (repeat (first | exact List.mem_cons_self | refine List.mem_cons_of_mem _ ?_)))) l2 m2)); clear hF hM a; rintro v w a rfl - hM hF))
  cases hg2 : genB c.S with
  | false =>
    rw [hg2] at hF
    (repeat' (first | ((with_reducible apply s_callE (f := 58) hF hM); exact rfl; exact rfl; exact rfl; exact rfl; exact (demand_f _ _ _ hM.lt rfl); clear hF hM a; intro w a hM hF) | (with_reducible refine q_then_p ?_) | ((with_reducible apply s_pure hF); exact rfl; exact rfl; exact rfl; (first | exact trivial | omega | exact ⟨Int.natCast_nonneg _, Int.ofNat_lt.2 (by assumption)⟩ | decide); clear hF a; intro a hF)))
    refine f_panic hF ?_
    exact RetP.pan (bndE_2 hc1 hc2 h3 (by rw [hg1, hg2]; rfl)) (by decide) hM.since
  | true =>
  rw [hg2] at hF
  (repeat (first | ((with_reducible apply s_pure hF); exact rfl; exact rfl; exact rfl; (first | exact trivial | omega | exact ⟨Int.natCast_nonneg _, Int.ofNat_lt.2 (by assumption)⟩ | decide); clear hF a; intro a hF)))
  (((with_reducible apply s_call (f := 58) hF hM); exact rfl; exact rfl; exact rfl; exact rfl; exact rfl; exact (demand_t _ _ _ hM.lt rfl); clear hF hM a; rintro v w a - - hM hF))
  by_cases hnum : 1 ≤ c.P ∧ c.P ≤ 4096 ∧ 0 ≤ c.L ∧ 0 ≤ c.D ∧ c.L ≤ 1073741824 ∧ c.D ≤ 1073741824
  case neg =>
    have h4 : (genB c.A && genB c.S && numB c) = false := by unfold numB; rw [decide_eq_false hnum, Bool.and_false]
    (repeat' (first | (with_reducible refine w_seq ?_) | (with_reducible refine c_region ?_) | (with_reducible refine s_nil ?_) | ((with_reducible apply s_callE (f := 58) hF hM); exact rfl; exact rfl; exact rfl; exact rfl; exact (demand_f _ _ _ hM.lt (by first | rfl | exact decide_eq_false (by omega))); clear hF hM a; intro w a hM hF) | (with_reducible refine q_then_p ?_) | (with_reducible refine q_then_n ?_) | ((with_reducible apply s_pure hF); exact rfl; exact rfl; exact rfl; (first | exact trivial | omega | exact ⟨Int.natCast_nonneg _, Int.ofNat_lt.2 (by assumption)⟩ | decide); clear hF a; intro a hF) | ((with_reducible apply s_load hF hM); exact rfl; exact rfl; (repeat (first | exact List.mem_cons_self | refine List.mem_cons_of_mem _ ?_)); exact rfl; exact rfl; clear hF a; intro a hF) | ((with_reducible apply s_skip hF); exact rfl; exact rfl; clear hF a; intro a hF) | ((fail_if_success ((with_reducible refine g_known true hF ?_ ?_); focus exact rfl)); (fail_if_success ((with_reducible refine g_known false hF ?_ ?_); focus exact rfl)); (with_reducible apply g_dec hF); exact rfl; exact rfl; all_goals (clear hF; intro hc hF); all_goals (try (exfalso; omega)))))
    all_goals refine f_panic hF ?_
    all_goals exact RetP.pan (bndE_2 hc1 hc2 h3 h4) (by decide) hM.since
  have h4 : (genB c.A && genB c.S && numB c) = true := by unfold numB; rw [decide_eq_true hnum, hg1, hg2]; rfl
  have hat := most_at hc1 ⟨hnum.1, hnum.2.1⟩
  have hmr := most_rg okA ⟨hnum.1, hnum.2.1⟩
  (repeat' (first | (with_reducible refine w_seq ?_) | (with_reducible refine c_region ?_) | (with_reducible refine s_nil ?_) | ((with_reducible apply s_call (f := 58) hF hM); exact rfl; exact rfl; exact rfl; exact rfl; exact rfl; exact (demand_t _ _ _ hM.lt (by first | rfl | exact decide_eq_true (by omega))); clear hF hM a; rintro v w a - - hM hF) | (with_reducible refine q_then_n ?_) | ((with_reducible apply s_pure hF); exact rfl; exact rfl; exact rfl; (first | exact trivial | omega | exact ⟨Int.natCast_nonneg _, Int.ofNat_lt.2 (by assumption)⟩ | decide); clear hF a; intro a hF) | ((with_reducible apply s_load hF hM); exact rfl; exact rfl; (repeat (first | exact List.mem_cons_self | refine List.mem_cons_of_mem _ ?_)); exact rfl; exact rfl; clear hF a; intro a hF) | ((fail_if_success ((with_reducible refine g_known true hF ?_ ?_); focus exact rfl)); (fail_if_success ((with_reducible refine g_known false hF ?_ ?_); focus exact rfl)); (with_reducible apply g_dec hF); exact rfl; exact rfl; all_goals (clear hF; intro hc hF); all_goals (try (exfalso; omega)))))
  cases hnv : never c.S (most c) with
  | true =>
    have h5 : late c = true := by unfold late; rw [hnv]; rfl
    refine c_draw (fun i => Nat.ble 9 i) hM ?_; clear hM; intro w hM
    (first | (refine t_pure (i := 0) hF rfl rfl rfl rfl (by kernel_rfl) hM.sm (fun _ _ _ h => h) ?_ ?_; (first | exact trivial | omega | decide); clear hF a; intro a hF))
    (first | (apply t_load (i := 1) hF rfl rfl rfl; (repeat (first | exact List.mem_cons_self | refine List.mem_cons_of_mem _ ?_)); exact rfl; exact rfl; kernel_rfl; exact hM.sm; exact (fun _ _ _ h => h); clear hF a; intro a hF))
    (first | (refine t_pure (i := 2) hF rfl rfl rfl rfl (by kernel_rfl) hM.sm (fun _ _ _ h => h) ?_ ?_; (first | exact trivial | omega | decide); clear hF a; intro a hF))
    (first | (apply t_load (i := 3) hF rfl rfl rfl; (repeat (first | exact List.mem_cons_self | refine List.mem_cons_of_mem _ ?_)); exact rfl; exact rfl; kernel_rfl; exact hM.sm; exact (fun _ _ _ h => h); clear hF a; intro a hF))
    (first | (refine t_pure (i := 4) hF rfl rfl rfl rfl (by kernel_rfl) hM.sm (fun _ _ _ h => h) ?_ ?_; (first | exact trivial | omega | decide); clear hF a; intro a hF))
    (first | (apply t_load (i := 5) hF rfl rfl rfl; (repeat (first | exact List.mem_cons_self | refine List.mem_cons_of_mem _ ?_)); exact rfl; exact rfl; kernel_rfl; exact hM.sm; exact (fun _ _ _ h => h); clear hF a; intro a hF))
    refine t_one (i := 6) hF rfl (by kernel_rfl) rfl ?_
    intro K hK
    (apply x_call hF hM; exact rfl; exact rfl; exact rfl; exact rfl; exact (At_c c.A c.P _ _ _ hM.lt (isCu_mk (hM.facts (RdF (Value.int .i64) a1 c.A.V) (by (repeat (first | exact List.mem_cons_self | refine List.mem_cons_of_mem _ ?_)))) l1 m1)); clear hF hM a; rintro v w a rfl - hM hF)
    rw [hat] at hF
    refine hK _ _ (fun _ => (hM.sm.sub (fun x hx => by repeat (first | exact hx | refine List.mem_cons_of_mem _ ?_)) (fun _ h => by repeat (first | exact h | refine List.mem_cons_of_mem _ ?_)))) ?_; clear hK
    refine t_one (i := 7) hF rfl (by kernel_rfl) rfl ?_
    intro K hK
    (refine x_callE (f := 96) hF hM rfl rfl rfl (RetP.err (ticks_c c.S okS (most c) ⟨by omega, by omega⟩ _ _ _ hM.lt (isCu_mk (hM.facts (RdF (Value.int .i64) a2 c.S.V) (by (repeat (first | exact List.mem_cons_self | refine List.mem_cons_of_mem _ ?_)))) l2 m2)) (by simp [hnv])) ?_; clear hF hM a; intro w a hM hF; (repeat' (first | (with_reducible refine q_then_p ?_))); refine f_panic hF ?_; simp only [hnv, if_true]; exact RetP.pan (bndE_21 hc1 hc2 h3 h4 h5) (by decide) hM.since)
  | false =>
  have htr : rch c.S (most c) = tr c := rfl
  have htb : 0 ≤ tr c := (rch_bd okS (x := most c) (by omega) (fun e => by
    have := fpos_le c.S.V (most c)
    rcases Nat.lt_or_ge (fpos c.S.V (most c)) c.S.V.length with h | h
    · exact h
    · unfold never at hnv
      rw [decide_eq_true (by omega), decide_eq_true e] at hnv
      cases hnv)).1
  refine c_draw (fun i => Nat.ble 9 i) hM ?_; clear hM; intro w hM
  (first | (refine t_pure (i := 0) hF rfl rfl rfl rfl (by kernel_rfl) hM.sm (fun _ _ _ h => h) ?_ ?_; (first | exact trivial | omega | decide); clear hF a; intro a hF))
  (first | (apply t_load (i := 1) hF rfl rfl rfl; (repeat (first | exact List.mem_cons_self | refine List.mem_cons_of_mem _ ?_)); exact rfl; exact rfl; kernel_rfl; exact hM.sm; exact (fun _ _ _ h => h); clear hF a; intro a hF))
  (first | (refine t_pure (i := 2) hF rfl rfl rfl rfl (by kernel_rfl) hM.sm (fun _ _ _ h => h) ?_ ?_; (first | exact trivial | omega | decide); clear hF a; intro a hF))
  (first | (apply t_load (i := 3) hF rfl rfl rfl; (repeat (first | exact List.mem_cons_self | refine List.mem_cons_of_mem _ ?_)); exact rfl; exact rfl; kernel_rfl; exact hM.sm; exact (fun _ _ _ h => h); clear hF a; intro a hF))
  (first | (refine t_pure (i := 4) hF rfl rfl rfl rfl (by kernel_rfl) hM.sm (fun _ _ _ h => h) ?_ ?_; (first | exact trivial | omega | decide); clear hF a; intro a hF))
  (first | (apply t_load (i := 5) hF rfl rfl rfl; (repeat (first | exact List.mem_cons_self | refine List.mem_cons_of_mem _ ?_)); exact rfl; exact rfl; kernel_rfl; exact hM.sm; exact (fun _ _ _ h => h); clear hF a; intro a hF))
  refine t_one (i := 6) hF rfl (by kernel_rfl) rfl ?_
  intro K hK
  (apply x_call hF hM; exact rfl; exact rfl; exact rfl; exact rfl; exact (At_c c.A c.P _ _ _ hM.lt (isCu_mk (hM.facts (RdF (Value.int .i64) a1 c.A.V) (by (repeat (first | exact List.mem_cons_self | refine List.mem_cons_of_mem _ ?_)))) l1 m1)); clear hF hM a; rintro v w a rfl - hM hF)
  rw [hat] at hF
  refine hK _ _ (fun _ => (hM.sm.sub (fun x hx => by repeat (first | exact hx | refine List.mem_cons_of_mem _ ?_)) (fun _ h => by repeat (first | exact h | refine List.mem_cons_of_mem _ ?_)))) ?_; clear hK
  refine t_one (i := 7) hF rfl (by kernel_rfl) rfl ?_
  intro K hK
  (apply x_call hF hM; exact rfl; exact rfl; exact rfl; exact rfl; exact (RetP.ok (ticks_c c.S okS (most c) ⟨by omega, by omega⟩ _ _ _ hM.lt (isCu_mk (hM.facts (RdF (Value.int .i64) a2 c.S.V) (by (repeat (first | exact List.mem_cons_self | refine List.mem_cons_of_mem _ ?_)))) l2 m2)) (by simp [hnv])); clear hF hM a; rintro v w a rfl - hM hF)
  rw [htr] at hF
  refine hK _ _ (fun _ => (hM.sm.sub (fun x hx => by repeat (first | exact hx | refine List.mem_cons_of_mem _ ?_)) (fun _ h => by repeat (first | exact h | refine List.mem_cons_of_mem _ ?_)))) ?_; clear hK
  (first | (refine t_pure (i := 8) hF rfl rfl rfl rfl (by kernel_rfl) (hM.sm.sub (fun x hx => by repeat (first | exact hx | refine List.mem_cons_of_mem _ ?_)) (fun _ h => by repeat (first | exact h | refine List.mem_cons_of_mem _ ?_))) (fun _ _ _ h => h) ?_ ?_; (first | exact trivial | omega | decide); clear hF a; intro a hF))
  refine t_done (by kernel_rfl) ?_
  by_cases hle : tr c ≤ c.P
  · have h5 : late c = false := by unfold late; rw [hnv, decide_eq_false (by omega)]; rfl
    (repeat' (first | (with_reducible refine w_seq ?_) | (with_reducible refine c_region ?_) | (with_reducible refine s_nil ?_) | ((with_reducible apply s_call (f := 58) hF hM); exact rfl; exact rfl; exact rfl; exact rfl; exact rfl; exact (demand_t _ _ _ hM.lt (decide_eq_true hle)); clear hF hM a; rintro v w a - - hM hF) | (with_reducible refine q_then_n ?_) | ((with_reducible apply s_pure hF); exact rfl; exact rfl; exact rfl; (first | exact trivial | omega | exact ⟨Int.natCast_nonneg _, Int.ofNat_lt.2 (by assumption)⟩ | decide); clear hF a; intro a hF) | ((with_reducible apply s_load hF hM); exact rfl; exact rfl; (repeat (first | exact List.mem_cons_self | refine List.mem_cons_of_mem _ ?_)); exact rfl; exact rfl; clear hF a; intro a hF) | (with_reducible refine w_ret ?_)))
    (apply f_ret Try.results48 hF hM; (repeat (first | exact RL.nil | (apply RL.tmp; exact rfl) | (apply RL.cell; exact rfl; (repeat (first | exact List.mem_cons_self | refine List.mem_cons_of_mem _ ?_)); exact rfl))); try dsimp only [resV])
    exact RetP.ret (bndE_0 hc1 hc2 h3 h4 h5) hM.since rfl
  · have h5 : late c = true := by unfold late; rw [hnv, decide_eq_true (by omega)]; rfl
    (repeat' (first | (with_reducible refine w_seq ?_) | (with_reducible refine c_region ?_) | ((with_reducible apply s_callE (f := 58) hF hM); exact rfl; exact rfl; exact rfl; exact rfl; exact (demand_f _ _ _ hM.lt (decide_eq_false hle)); clear hF hM a; intro w a hM hF) | (with_reducible refine q_then_p ?_) | (with_reducible refine q_then_n ?_) | ((with_reducible apply s_pure hF); exact rfl; exact rfl; exact rfl; (first | exact trivial | omega | exact ⟨Int.natCast_nonneg _, Int.ofNat_lt.2 (by assumption)⟩ | decide); clear hF a; intro a hF) | ((with_reducible apply s_load hF hM); exact rfl; exact rfl; (repeat (first | exact List.mem_cons_self | refine List.mem_cons_of_mem _ ?_)); exact rfl; exact rfl; clear hF a; intro a hF)))
    refine f_panic hF ?_
    exact RetP.pan (bndE_21 hc1 hc2 h3 h4 h5) (by decide) hM.since
end
end Go.Proofs.Ytabfhoipclbeeaa


/- slices.Clone of a slice of integers. -/
namespace Go.Proofs.Ytabfhoipclbeeaa
open Go.RowKit Go.Shelf
theorem clone_c (a0 : Option Addr) (c0 : Nat) (xs : List Int) (own : Nat → Prop) (W : World) (hl : ∀ b, own b → b < W.heap.size) (hv : Has own W (RdF (Value.int .i64) a0 xs)) (hb : xs.length ≤ 1000000) :
    Calls Try.prog 89 ⟨[.slice a0 xs.length c0]⟩ W (Ret W fun v w' => ∃ a' c', v = .slice a' xs.length c' ∧ Owns w' W.heap.size [⟨3, 1, .slice a' xs.length c', xs.length, xs.map (Value.int .i64)⟩]) := by
  have hM := (Mm.start hl).known hv
  cases a0 with
  | none =>
    obtain rfl : xs = [] := by
      cases xs with
      | nil => rfl
      | cons x r => obtain ⟨ad, h⟩ := rd_some hM (by (repeat (first | exact List.mem_cons_self | refine List.mem_cons_of_mem _ ?_))) (k := 0) (x := x) rfl; cases h
    refine f_start Try.func89 rfl Try.ntmps89 rfl rfl ?_; intro a hF
    (repeat' (first | (with_reducible refine w_seq ?_) | (with_reducible refine c_region ?_) | (with_reducible refine s_nil ?_) | ((with_reducible apply s_eqn hF); exact rfl; exact rfl; exact rfl; exact rfl; exact rfl; exact rfl; clear hF a; intro a hF) | (with_reducible refine q_then_n ?_) | ((with_reducible apply s_pure hF); exact rfl; exact rfl; exact rfl; (first | exact trivial | omega | exact ⟨Int.natCast_nonneg _, Int.ofNat_lt.2 (by assumption)⟩ | decide); clear hF a; intro a hF) | (with_reducible refine w_ret ?_) | (with_reducible refine q_then_r ?_) | ((with_reducible apply c_true2 hF); exact rfl; (first | with_reducible rfl | (refine congrArg Value.bool ?_; focus (simp; done))))))
    (apply f_ret Try.results89 hF hM; (repeat (first | exact RL.nil | (apply RL.tmp; exact rfl) | (apply RL.cell; exact rfl; (repeat (first | exact List.mem_cons_self | refine List.mem_cons_of_mem _ ?_)); exact rfl))); refine Ret.mk hM.since ?_; dsimp only [resV])
    exact ⟨none, 0, rfl, (Owns.nil _ _).cons _ _⟩
  | some ad =>
    refine f_start Try.func89 rfl Try.ntmps89 rfl rfl ?_; intro a hF
    (repeat' (first | (with_reducible refine w_seq ?_) | (with_reducible refine c_region ?_) | (with_reducible refine s_nil ?_) | ((with_reducible apply s_eqn hF); exact rfl; exact rfl; exact rfl; exact rfl; exact rfl; exact rfl; clear hF a; intro a hF) | ((with_reducible apply s_appF hF hM); exact rfl; exact rfl; (repeat (first | exact List.mem_cons_self | refine List.mem_cons_of_mem _ ?_)); exact rfl; exact rfl; (repeat (first | exact Kth.z | apply Kth.s)); (intro _; exact rfl); exact rfl; omega; clear hF hM a; intro g cap w a hM hF; dsimp only [List.set] at hM) | ((with_reducible apply s_lit0 hF hM); exact rfl; exact rfl; exact rfl; exact rfl; clear hF hM a; intro bl w a hM hF) | (with_reducible refine q_then_n ?_) | ((with_reducible apply s_pure hF); exact rfl; exact rfl; exact rfl; (first | exact trivial | omega | exact ⟨Int.natCast_nonneg _, Int.ofNat_lt.2 (by assumption)⟩ | decide); clear hF a; intro a hF) | (with_reducible refine w_skip ?_) | (with_reducible refine w_ret ?_) | ((with_reducible apply c_false2 hF); exact rfl; (first | with_reducible rfl | (refine congrArg Value.bool ?_; focus (simp; done))))))
    (apply f_ret Try.results89 hF hM; (repeat (first | exact RL.nil | (apply RL.tmp; exact rfl) | (apply RL.cell; exact rfl; (repeat (first | exact List.mem_cons_self | refine List.mem_cons_of_mem _ ?_)); exact rfl))); refine Ret.mk hM.since ?_; dsimp only [resV])
    simp only [Nat.zero_add, List.nil_append] at hM ⊢
    exact ⟨_, _, rfl, hM.mem.own⟩
end Go.Proofs.Ytabfhoipclbeeaa


/- certificate: check, Check, copied, Make. -/
namespace Go.Proofs.Ytabfhoipclbeeaa
open Go.RowKit Go.Shelf C55 K57
section
variable (c : Ce) (a1 a2 : Option Addr) (c1 c2 : Nat) (l1 : c.A.V.length ≤ 9223372036854775807) (m1 : c.A.V.length ≤ c1) (l2 : c.S.V.length ≤ 9223372036854775807) (m2 : c.S.V.length ≤ c2)
include l1 m1 l2 m2
section
variable (own : Nat → Prop) (W : World) (hl : ∀ b, own b → b < W.heap.size) (hA : Has own W (RdF (Value.int .i64) a1 c.A.V)) (hS : Has own W (RdF (Value.int .i64) a2 c.S.V))
include hl hA hS
set_option maxHeartbeats 1000000 in
theorem ceChk_c : Calls Try.prog 56 ⟨[.agg ⟨ceL c a1 c1 a2 c2⟩]⟩ W (RetP W (chkE c) fun _ _ => True) := by
  have hM := ((Mm.start hl).known hA).known hS
  refine f_start Try.func56 rfl Try.ntmps56 rfl rfl ?_; intro a hF
  (repeat (first | (with_reducible refine w_seq ?_) | (with_reducible refine c_region ?_) | (with_reducible refine s_nil ?_) | (with_reducible refine q_then_n ?_) | ((with_reducible apply s_box hF hM); exact rfl; exact rfl; exact rfl; exact rfl; clear hF hM a; intro b w a hM hF)))
  by_cases hb : bndE c = 0
  case neg =>
    refine c_draw (fun i => Nat.ble 6 i) hM ?_; clear hM; intro w hM
    (first | (apply t_load (i := 0) hF rfl rfl rfl; (repeat (first | exact List.mem_cons_self | refine List.mem_cons_of_mem _ ?_)); exact rfl; exact rfl; kernel_rfl; exact hM.sm; exact (fun _ _ _ h => h); clear hF a; intro a hF))
    (first | (refine t_pure (i := 2) hF rfl rfl rfl rfl (by kernel_rfl) hM.sm (fun _ _ _ h => h) ?_ ?_; (first | exact trivial | omega | decide); clear hF a; intro a hF))
    (first | (apply t_load (i := 3) hF rfl rfl rfl; (repeat (first | exact List.mem_cons_self | refine List.mem_cons_of_mem _ ?_)); exact rfl; exact rfl; kernel_rfl; exact hM.sm; exact (fun _ _ _ h => h); clear hF a; intro a hF))
    refine t_one (i := 1) hF rfl (by kernel_rfl) rfl ?_
    intro K hK
    (refine x_callE (f := 48) hF hM rfl rfl rfl (RetP.err (ceBound_c c a1 a2 c1 c2 l1 m1 l2 m2 _ _ hM.lt (hM.facts _ (by (repeat (first | exact List.mem_cons_self | refine List.mem_cons_of_mem _ ?_)))) (hM.facts _ (by (repeat (first | exact List.mem_cons_self | refine List.mem_cons_of_mem _ ?_))))) hb) ?_; clear hF hM a; intro w a hM hF; (repeat' (first | fail)); refine f_panic hF ?_; exact RetP.pan (by unfold chkE; rw [if_pos hb]) hb hM.since)
  by_cases hB : bndV c = c.B
  · refine c_draw (fun i => Nat.ble 6 i) hM ?_; clear hM; intro w hM
    (first | (apply t_load (i := 0) hF rfl rfl rfl; (repeat (first | exact List.mem_cons_self | refine List.mem_cons_of_mem _ ?_)); exact rfl; exact rfl; kernel_rfl; exact hM.sm; exact (fun _ _ _ h => h); clear hF a; intro a hF))
    (first | (refine t_pure (i := 2) hF rfl rfl rfl rfl (by kernel_rfl) hM.sm (fun _ _ _ h => h) ?_ ?_; (first | exact trivial | omega | decide); clear hF a; intro a hF))
    (first | (apply t_load (i := 3) hF rfl rfl rfl; (repeat (first | exact List.mem_cons_self | refine List.mem_cons_of_mem _ ?_)); exact rfl; exact rfl; kernel_rfl; exact hM.sm; exact (fun _ _ _ h => h); clear hF a; intro a hF))
    refine t_one (i := 1) hF rfl (by kernel_rfl) rfl ?_
    intro K hK
    (apply x_call hF hM; exact rfl; exact rfl; exact rfl; exact rfl; exact (RetP.ok (ceBound_c c a1 a2 c1 c2 l1 m1 l2 m2 _ _ hM.lt (hM.facts _ (by (repeat (first | exact List.mem_cons_self | refine List.mem_cons_of_mem _ ?_)))) (hM.facts _ (by (repeat (first | exact List.mem_cons_self | refine List.mem_cons_of_mem _ ?_))))) hb); clear hF hM a; rintro v w a rfl - hM hF)
    refine hK _ _ (fun _ => hM.sm) ?_; clear hK
    (first | (refine t_pure (i := 4) hF rfl rfl rfl rfl (by kernel_rfl) hM.sm (fun _ _ _ h => h) ?_ ?_; (first | exact trivial | omega | decide); clear hF a; intro a hF))
    refine t_one (i := 5) hF rfl (by kernel_rfl) rfl ?_
    intro K hK
    (apply x_call hF hM; exact rfl; exact rfl; exact rfl; exact rfl; exact (demand_t _ _ _ hM.lt (decide_eq_true hB)); clear hF hM a; rintro v w a - - hM hF)
    refine hK _ _ (fun _ => hM.sm) ?_; clear hK
    refine t_done (by kernel_rfl) ?_
    (repeat' (first | fail))
    (apply f_end Try.results56 hF hM; (repeat (first | exact RL.nil | (apply RL.tmp; exact rfl) | (apply RL.cell; exact rfl; (repeat (first | exact List.mem_cons_self | refine List.mem_cons_of_mem _ ?_)); exact rfl))); try dsimp only [resV])
    exact RetP.ret (by unfold chkE; rw [if_neg (by omega), if_pos hB]) hM.since trivial
  · refine c_draw (fun i => Nat.ble 6 i) hM ?_; clear hM; intro w hM
    (first | (apply t_load (i := 0) hF rfl rfl rfl; (repeat (first | exact List.mem_cons_self | refine List.mem_cons_of_mem _ ?_)); exact rfl; exact rfl; kernel_rfl; exact hM.sm; exact (fun _ _ _ h => h); clear hF a; intro a hF))
    (first | (refine t_pure (i := 2) hF rfl rfl rfl rfl (by kernel_rfl) hM.sm (fun _ _ _ h => h) ?_ ?_; (first | exact trivial | omega | decide); clear hF a; intro a hF))
    (first | (apply t_load (i := 3) hF rfl rfl rfl; (repeat (first | exact List.mem_cons_self | refine List.mem_cons_of_mem _ ?_)); exact rfl; exact rfl; kernel_rfl; exact hM.sm; exact (fun _ _ _ h => h); clear hF a; intro a hF))
    refine t_one (i := 1) hF rfl (by kernel_rfl) rfl ?_
    intro K hK
    (apply x_call hF hM; exact rfl; exact rfl; exact rfl; exact rfl; exact (RetP.ok (ceBound_c c a1 a2 c1 c2 l1 m1 l2 m2 _ _ hM.lt (hM.facts _ (by (repeat (first | exact List.mem_cons_self | refine List.mem_cons_of_mem _ ?_)))) (hM.facts _ (by (repeat (first | exact List.mem_cons_self | refine List.mem_cons_of_mem _ ?_))))) hb); clear hF hM a; rintro v w a rfl - hM hF)
    refine hK _ _ (fun _ => hM.sm) ?_; clear hK
    (first | (refine t_pure (i := 4) hF rfl rfl rfl rfl (by kernel_rfl) hM.sm (fun _ _ _ h => h) ?_ ?_; (first | exact trivial | omega | decide); clear hF a; intro a hF))
    refine t_one (i := 5) hF rfl (by kernel_rfl) rfl ?_
    intro K hK
    (refine x_callE (f := 58) hF hM rfl rfl rfl (demand_f _ _ _ hM.lt (decide_eq_false hB)) ?_; clear hF hM a; intro w a hM hF; (repeat' (first | fail)); refine f_panic hF ?_; exact RetP.pan (by unfold chkE; rw [if_neg (by omega), if_neg hB]) (by decide) hM.since)
end
section
variable {own : Nat → Prop} {w0 W : World} {bs : List BoxE} {L : List Ent} {Fs : List (World → Prop)} (b2 b1 : Nat) (e2 : Int)
  (hM : Mm own w0 (⟨b2, ⟨[.int .i64 e2]⟩, 32⟩ :: ⟨b1, ⟨ceL c a1 c1 a2 c2⟩, 29⟩ :: bs) L (RdF (Value.int .i64) a2 c.S.V :: RdF (Value.int .i64) a1 c.A.V :: Fs) W)
include hM
theorem chk1_ok (h : chkE c = 0) : Calls Try.prog 55 ⟨[.pointer (some ⟨b1, 0, none⟩)]⟩ W (Rtn fun _ w' => Mm own w0 (⟨b2, ⟨[.int .i64 e2]⟩, 32⟩ :: ⟨b1, ⟨ceL c a1 c1 a2 c2⟩, 29⟩ :: bs) L (RdF (Value.int .i64) a2 c.S.V :: RdF (Value.int .i64) a1 c.A.V :: Fs) w') := by
  refine f_start Try.func55 rfl Try.ntmps55 rfl rfl ?_; intro a hF
  (repeat' (first | (with_reducible refine c_region ?_) | (with_reducible refine s_nil ?_) | ((with_reducible apply s_call (f := 56) hF hM); exact rfl; exact rfl; exact rfl; exact rfl; exact rfl; exact (RetP.ok (ceChk_c c a1 a2 c1 c2 l1 m1 l2 m2 _ _ hM.lt (hM.facts (RdF (Value.int .i64) a1 c.A.V) (by (repeat (first | exact List.mem_cons_self | refine List.mem_cons_of_mem _ ?_)))) (hM.facts (RdF (Value.int .i64) a2 c.S.V) (by (repeat (first | exact List.mem_cons_self | refine List.mem_cons_of_mem _ ?_))))) h); clear hF hM a; rintro v w a - - hM hF) | ((with_reducible apply s_load hF hM); exact rfl; exact rfl; (repeat (first | exact List.mem_cons_self | refine List.mem_cons_of_mem _ ?_)); exact rfl; exact rfl; clear hF a; intro a hF)))
  (apply f_end Try.results55 hF hM; (repeat (first | exact RL.nil | (apply RL.tmp; exact rfl) | (apply RL.cell; exact rfl; (repeat (first | exact List.mem_cons_self | refine List.mem_cons_of_mem _ ?_)); exact rfl))); try dsimp only [resV])
  exact hM
theorem chk1_err (h : chkE c ≠ 0) : Calls Try.prog 55 ⟨[.pointer (some ⟨b1, 0, none⟩)]⟩ W (Both (fun _ _ => False) fun p w' => p = failK (chkE c) ∧ Mm own w0 (⟨b2, ⟨[.int .i64 e2]⟩, 32⟩ :: ⟨b1, ⟨ceL c a1 c1 a2 c2⟩, 29⟩ :: bs) L (RdF (Value.int .i64) a2 c.S.V :: RdF (Value.int .i64) a1 c.A.V :: Fs) w') := by
  refine f_start Try.func55 rfl Try.ntmps55 rfl rfl ?_; intro a hF
  (repeat' (first | (with_reducible refine c_region ?_) | ((with_reducible apply s_callE (f := 56) hF hM); exact rfl; exact rfl; exact rfl; exact rfl; exact (RetP.err (ceChk_c c a1 a2 c1 c2 l1 m1 l2 m2 _ _ hM.lt (hM.facts (RdF (Value.int .i64) a1 c.A.V) (by (repeat (first | exact List.mem_cons_self | refine List.mem_cons_of_mem _ ?_)))) (hM.facts (RdF (Value.int .i64) a2 c.S.V) (by (repeat (first | exact List.mem_cons_self | refine List.mem_cons_of_mem _ ?_))))) h); clear hF hM a; intro w a hM hF) | ((with_reducible apply s_load hF hM); exact rfl; exact rfl; (repeat (first | exact List.mem_cons_self | refine List.mem_cons_of_mem _ ?_)); exact rfl; exact rfl; clear hF a; intro a hF)))
  refine f_panic hF ?_
  exact ⟨rfl, hM⟩
/-- c.Bound = bound(c) -/
theorem mk1_ok (h : bndE c = 0) : Calls Try.prog 47 ⟨[.pointer (some ⟨b1, 0, none⟩)]⟩ W (Rtn fun _ w' => Mm own w0 (⟨b2, ⟨[.int .i64 e2]⟩, 32⟩ :: ⟨b1, ⟨ceL { c with B := bndV c } a1 c1 a2 c2⟩, 29⟩ :: bs) L (RdF (Value.int .i64) a2 c.S.V :: RdF (Value.int .i64) a1 c.A.V :: Fs) w') := by
  refine f_start Try.func47 rfl Try.ntmps47 rfl rfl ?_; intro a hF
  (repeat' (first | (with_reducible refine c_region ?_) | (with_reducible refine s_nil ?_) | ((with_reducible apply s_call (f := 48) hF hM); exact rfl; exact rfl; exact rfl; exact rfl; exact rfl; exact (RetP.ok (ceBound_c c a1 a2 c1 c2 l1 m1 l2 m2 _ _ hM.lt (hM.facts (RdF (Value.int .i64) a1 c.A.V) (by (repeat (first | exact List.mem_cons_self | refine List.mem_cons_of_mem _ ?_)))) (hM.facts (RdF (Value.int .i64) a2 c.S.V) (by (repeat (first | exact List.mem_cons_self | refine List.mem_cons_of_mem _ ?_))))) h); clear hF hM a; rintro v w a rfl - hM hF) | ((with_reducible apply s_pure hF); exact rfl; exact rfl; exact rfl; (first | exact trivial | omega | exact ⟨Int.natCast_nonneg _, Int.ofNat_lt.2 (by assumption)⟩ | decide); clear hF a; intro a hF) | ((with_reducible apply s_load hF hM); exact rfl; exact rfl; (repeat (first | exact List.mem_cons_self | refine List.mem_cons_of_mem _ ?_)); exact rfl; exact rfl; clear hF a; intro a hF) | ((with_reducible apply s_store hF hM); exact rfl; exact rfl; exact rfl; exact rfl; (repeat (first | exact Upd.z | apply Upd.s)); exact rfl; exact rfl; exact rfl; clear hM; intro w hM)))
  (apply f_end Try.results47 hF hM; (repeat (first | exact RL.nil | (apply RL.tmp; exact rfl) | (apply RL.cell; exact rfl; (repeat (first | exact List.mem_cons_self | refine List.mem_cons_of_mem _ ?_)); exact rfl))); try dsimp only [resV])
  exact hM
theorem mk1_err (h : bndE c ≠ 0) : Calls Try.prog 47 ⟨[.pointer (some ⟨b1, 0, none⟩)]⟩ W (Both (fun _ _ => False) fun p w' => p = failK (bndE c) ∧ Mm own w0 (⟨b2, ⟨[.int .i64 e2]⟩, 32⟩ :: ⟨b1, ⟨ceL c a1 c1 a2 c2⟩, 29⟩ :: bs) L (RdF (Value.int .i64) a2 c.S.V :: RdF (Value.int .i64) a1 c.A.V :: Fs) w') := by
  refine f_start Try.func47 rfl Try.ntmps47 rfl rfl ?_; intro a hF
  (repeat' (first | (with_reducible refine c_region ?_) | ((with_reducible apply s_callE (f := 48) hF hM); exact rfl; exact rfl; exact rfl; exact rfl; exact (RetP.err (ceBound_c c a1 a2 c1 c2 l1 m1 l2 m2 _ _ hM.lt (hM.facts (RdF (Value.int .i64) a1 c.A.V) (by (repeat (first | exact List.mem_cons_self | refine List.mem_cons_of_mem _ ?_)))) (hM.facts (RdF (Value.int .i64) a2 c.S.V) (by (repeat (first | exact List.mem_cons_self | refine List.mem_cons_of_mem _ ?_))))) h); clear hF hM a; intro w a hM hF) | ((with_reducible apply s_load hF hM); exact rfl; exact rfl; (repeat (first | exact List.mem_cons_self | refine List.mem_cons_of_mem _ ?_)); exact rfl; exact rfl; clear hF a; intro a hF)))
  refine f_panic hF ?_
  exact ⟨rfl, hM⟩
end
end
section
variable {own : Nat → Prop} {w0 W : World} {bs bs' : List BoxE} {L L' : List Ent} {Fs Fs' : List (World → Prop)}
/-- A guarded function that leaves the memory in a known state. -/
theorem guardedM_ok (g : Nat) (ca : List Value) (hg : memB entL g = true) (hM : Mm own w0 bs L Fs W)
    (hC : ∀ b2 W', Mm own w0 (⟨b2, ⟨[.int .i64 0]⟩, 32⟩ :: bs) L Fs W' → Calls Try.prog g ⟨ca⟩ W' (Rtn fun _ w' => Mm own w0 (⟨b2, ⟨[.int .i64 0]⟩, 32⟩ :: bs') L' Fs' w')) :
    Calls Try.prog 46 ⟨[.func (.func g) #[] ⟨ca⟩]⟩ W (Rtn fun v w' => v = .int .i64 0 ∧ Mm own w0 bs' L' Fs' w') := by
  refine (guarded_ok (fun x y z => x = bs' ∧ y = L' ∧ z = Fs') g ca hg hM fun b2 W' h => (hC b2 W' h).mono ?_).mono ?_
  · intro e w' he
    cases e with
    | returned v => exact ⟨_, _, _, ⟨rfl, rfl, rfl⟩, he⟩
    | panicked c => exact he.elim
    | outgrown => exact he.elim
  · intro e w' he
    cases e with
    | returned v =>
      obtain ⟨h1, x, y, z, ⟨rfl, rfl, rfl⟩, h2⟩ := he
      exact ⟨h1, h2⟩
    | panicked c => exact he.elim
    | outgrown => exact he.elim
theorem guardedM_err (g : Nat) (ca : List Value) (e : Int) (hg : memB entL g = true) (hM : Mm own w0 bs L Fs W)
    (hC : ∀ b2 W', Mm own w0 (⟨b2, ⟨[.int .i64 0]⟩, 32⟩ :: bs) L Fs W' → Calls Try.prog g ⟨ca⟩ W' (Both (fun _ _ => False) fun c w' => c = failK e ∧ Mm own w0 (⟨b2, ⟨[.int .i64 0]⟩, 32⟩ :: bs') L' Fs' w')) :
    Calls Try.prog 46 ⟨[.func (.func g) #[] ⟨ca⟩]⟩ W (Rtn fun v w' => v = .int .i64 e ∧ Mm own w0 bs' L' Fs' w') := by
  refine (guarded_err (fun x y z => x = bs' ∧ y = L' ∧ z = Fs') g ca e hg hM fun b2 W' h => (hC b2 W' h).mono ?_).mono ?_
  · intro e w' he
    cases e with
    | returned v => exact he.elim
    | panicked c => exact ⟨he.1, _, _, _, ⟨rfl, rfl, rfl⟩, he.2⟩
    | outgrown => exact he.elim
  · intro e w' he
    cases e with
    | returned v =>
      obtain ⟨h1, x, y, z, ⟨rfl, rfl, rfl⟩, h2⟩ := he
      exact ⟨h1, h2⟩
    | panicked c => exact he.elim
    | outgrown => exact he.elim
end
set_option maxHeartbeats 1000000 in
theorem ceCheck_c (c : Ce) (a1 a2 : Option Addr) (c1 c2 : Nat) (l1 : c.A.V.length ≤ 9223372036854775807) (m1 : c.A.V.length ≤ c1) (l2 : c.S.V.length ≤ 9223372036854775807) (m2 : c.S.V.length ≤ c2) (own : Nat → Prop) (W : World) (hl : ∀ b, own b → b < W.heap.size) (hA : Has own W (RdF (Value.int .i64) a1 c.A.V)) (hS : Has own W (RdF (Value.int .i64) a2 c.S.V)) :
    Calls Try.prog 19 ⟨[.agg ⟨ceL c a1 c1 a2 c2⟩]⟩ W (Ret W fun v _ => v = .int .i64 (chkE c)) := by
  have hM := ((Mm.start hl).known hA).known hS
  refine f_start Try.func19 rfl Try.ntmps19 rfl rfl ?_; intro a hF
  by_cases h : chkE c = 0
  · rw [h]
    (repeat' (first | (with_reducible refine w_seq ?_) | (with_reducible refine c_region ?_) | (with_reducible refine s_nil ?_) | ((with_reducible apply s_callM (f := 46) hF); exact rfl; exact rfl; exact rfl; exact rfl; exact rfl; exact (guardedM_ok _ _ rfl hM (fun b2 W' h' => chk1_ok c a1 a2 c1 c2 l1 m1 l2 m2 b2 _ 0 h' h)); clear hF hM a; rintro v w a ⟨rfl, hM⟩ hF) | (with_reducible refine q_then_n ?_) | ((with_reducible apply s_pure hF); exact rfl; exact rfl; exact rfl; (first | exact trivial | omega | exact ⟨Int.natCast_nonneg _, Int.ofNat_lt.2 (by assumption)⟩ | decide); clear hF a; intro a hF) | ((with_reducible apply s_box hF hM); exact rfl; exact rfl; exact rfl; exact rfl; clear hF hM a; intro b w a hM hF) | (with_reducible refine w_ret ?_)))
    (apply f_ret Try.results19 hF hM; (repeat (first | exact RL.nil | (apply RL.tmp; exact rfl) | (apply RL.cell; exact rfl; (repeat (first | exact List.mem_cons_self | refine List.mem_cons_of_mem _ ?_)); exact rfl))); refine Ret.mk hM.since ?_; dsimp only [resV])
  · (repeat' (first | (with_reducible refine w_seq ?_) | (with_reducible refine c_region ?_) | (with_reducible refine s_nil ?_) | ((with_reducible apply s_callM (f := 46) hF); exact rfl; exact rfl; exact rfl; exact rfl; exact rfl; exact (guardedM_err _ _ (chkE c) rfl hM (fun b2 W' h' => chk1_err c a1 a2 c1 c2 l1 m1 l2 m2 b2 _ 0 h' h)); clear hF hM a; rintro v w a ⟨rfl, hM⟩ hF) | (with_reducible refine q_then_n ?_) | ((with_reducible apply s_pure hF); exact rfl; exact rfl; exact rfl; (first | exact trivial | omega | exact ⟨Int.natCast_nonneg _, Int.ofNat_lt.2 (by assumption)⟩ | decide); clear hF a; intro a hF) | ((with_reducible apply s_box hF hM); exact rfl; exact rfl; exact rfl; exact rfl; clear hF hM a; intro b w a hM hF) | (with_reducible refine w_ret ?_)))
    (apply f_ret Try.results19 hF hM; (repeat (first | exact RL.nil | (apply RL.tmp; exact rfl) | (apply RL.cell; exact rfl; (repeat (first | exact List.mem_cons_self | refine List.mem_cons_of_mem _ ?_)); exact rfl))); refine Ret.mk hM.since ?_; dsimp only [resV])
set_option maxHeartbeats 1000000 in
theorem copied_c (c : Cu) (hb : c.V.length ≤ 1000000) (v : Value) (own : Nat → Prop) (W : World) (hl : ∀ b, own b → b < W.heap.size) (hv : Has own W (IsCu · v c)) :
    Calls Try.prog 45 ⟨[v]⟩ W (Ret W fun v w' => ∃ a' c', v = .agg #[.slice a' c.V.length c', .int .i64 c.S] ∧ Has own w' (RdF (Value.int .i64) a' c.V) ∧ c.V.length ≤ c') := by
  obtain ⟨a0, c0, rfl, hV, l1, l2⟩ := isCu_open hv
  have hM := (Mm.start hl).known hV
  refine f_start Try.func45 rfl Try.ntmps45 rfl rfl ?_; intro a hF
  (repeat (first | (with_reducible refine w_seq ?_) | (with_reducible refine c_region ?_) | (with_reducible refine s_nil ?_) | (with_reducible refine q_then_n ?_) | ((with_reducible apply s_alloc hF hM); exact rfl; exact rfl; exact rfl; clear hF hM a; intro b w a hM hF) | ((with_reducible apply s_box hF hM); exact rfl; exact rfl; exact rfl; exact rfl; clear hF hM a; intro b w a hM hF)))
  refine c_draw (fun i => Nat.ble 6 i) hM ?_; clear hM; intro w hM
  (first | (refine t_pure (i := 0) hF rfl rfl rfl rfl (by kernel_rfl) hM.sm (fun _ _ _ h => h) ?_ ?_; (first | exact trivial | omega | decide); clear hF a; intro a hF))
  (first | (apply t_load (i := 1) hF rfl rfl rfl; (repeat (first | exact List.mem_cons_self | refine List.mem_cons_of_mem _ ?_)); exact rfl; exact rfl; kernel_rfl; exact hM.sm; exact (fun _ _ _ h => h); clear hF a; intro a hF))
  (first | (refine t_pure (i := 3) hF rfl rfl rfl rfl (by kernel_rfl) hM.sm (fun _ _ _ h => h) ?_ ?_; (first | exact trivial | omega | decide); clear hF a; intro a hF))
  (first | (apply t_load (i := 4) hF rfl rfl rfl; (repeat (first | exact List.mem_cons_self | refine List.mem_cons_of_mem _ ?_)); exact rfl; exact rfl; kernel_rfl; exact hM.sm; exact (fun _ _ _ h => h); clear hF a; intro a hF))
  refine t_one (i := 2) hF rfl (by kernel_rfl) rfl ?_
  intro K hK
  (apply x_callO hF; exact rfl; exact rfl; exact rfl; exact rfl; exact (clone_c a0 c0 c.V _ _ hM.lt (hM.facts _ (by (repeat (first | exact List.mem_cons_self | refine List.mem_cons_of_mem _ ?_)))) hb); clear hF a; rintro v wn a ⟨a3, c3, rfl, hO⟩ hS hF; replace hM := hM.addRows hS hO; clear hS hO; dsimp only [List.cons_append, List.nil_append] at hM)
  refine hK _ _ (fun _ => (hM.sm.sub (fun x hx => by repeat (first | exact hx | refine List.mem_cons_of_mem _ ?_)) (fun _ h => by repeat (first | exact h | refine List.mem_cons_of_mem _ ?_)))) ?_; clear hK
  (first | (refine t_pure (i := 5) hF rfl rfl rfl rfl (by kernel_rfl) (hM.sm.sub (fun x hx => by repeat (first | exact hx | refine List.mem_cons_of_mem _ ?_)) (fun _ h => by repeat (first | exact h | refine List.mem_cons_of_mem _ ?_))) (fun _ _ _ h => h) ?_ ?_; (first | exact trivial | omega | decide); clear hF a; intro a hF))
  refine t_one (i := 6) hF rfl (by kernel_rfl) rfl ?_
  intro K hK
  (apply x_store hF hM rfl rfl rfl; (repeat (first | exact Upd.z | apply Upd.s)); exact rfl; exact rfl; exact rfl; clear hF hM a; intro w a hM hF)
  refine hK _ _ (fun h => by cases h) ?_; clear hK
  refine t_done (by kernel_rfl) ?_
  (repeat' (first | (with_reducible refine q_then_n ?_) | (with_reducible refine w_ret ?_)))
  (apply f_end Try.results45 hF hM; (repeat (first | exact RL.nil | (apply RL.tmp; exact rfl) | (apply RL.cell; exact rfl; (repeat (first | exact List.mem_cons_self | refine List.mem_cons_of_mem _ ?_)); exact rfl))); refine Ret.mk hM.since ?_; dsimp only [resV])
  exact ⟨a3, c3, rfl, hM.rowFact List.mem_cons_self, row_capA hM List.mem_cons_self⟩
end Go.Proofs.Ytabfhoipclbeeaa


/- certificate: Make. -/
namespace Go.Proofs.Ytabfhoipclbeeaa
open Go.RowKit Go.Shelf C55 K57
abbrev ceZ : List Value := [.slice none 0 0, .int .i64 0, .slice none 0 0, .int .i64 0, .int .i64 0, .int .i64 0, .int .i64 0, .int .i64 0]
/-- What Make answers. -/
def MkR (own : Nat → Prop) (c : Ce) (v : Value) (w' : World) : Prop :=
  (bndE c ≠ 0 ∧ v = .tuple #[.agg ⟨ceZ⟩, .int .i64 (bndE c)]) ∨
  (bndE c = 0 ∧ ∃ a1 c1 a2 c2, v = .tuple #[.agg ⟨ceL { c with B := bndV c } a1 c1 a2 c2⟩, .int .i64 0] ∧ Has own w' (RdF (Value.int .i64) a1 c.A.V) ∧ Has own w' (RdF (Value.int .i64) a2 c.S.V) ∧ c.A.V.length ≤ c1 ∧ c.S.V.length ≤ c2)
set_option maxHeartbeats 2000000 in
theorem make_c (c : Ce) (h1 : c.A.V.length ≤ 1000000) (h2 : c.S.V.length ≤ 1000000) (v u : Value) (own : Nat → Prop) (W : World) (hl : ∀ b, own b → b < W.heap.size) (hv : Has own W (IsCu · v c.A)) (hu : Has own W (IsCu · u c.S)) :
    Calls Try.prog 16 ⟨[v, u, .int .i64 c.P, .int .i64 c.L, .int .i64 c.D]⟩ W (Ret W (MkR own c)) := by
  obtain ⟨a1, c1, rfl, hV, l1, m1⟩ := isCu_open hv
  obtain ⟨a2, c2, rfl, hU, l2, m2⟩ := isCu_open hu
  have hM := ((Mm.start hl).known hV).known hU
  refine f_start Try.func16 rfl Try.ntmps16 rfl rfl ?_; intro a hF
  (repeat (first | (with_reducible refine w_seq ?_) | (with_reducible refine c_region ?_) | (with_reducible refine s_nil ?_) | (with_reducible refine q_then_n ?_) | ((with_reducible apply s_pure hF); exact rfl; exact rfl; exact rfl; (first | exact trivial | omega | exact ⟨Int.natCast_nonneg _, Int.ofNat_lt.2 (by assumption)⟩ | decide); clear hF a; intro a hF) | ((with_reducible apply s_alloc hF hM); exact rfl; exact rfl; exact rfl; clear hF hM a; intro b w a hM hF) | ((with_reducible apply s_box hF hM); exact rfl; exact rfl; exact rfl; exact rfl; clear hF hM a; intro b w a hM hF)))
  refine c_draw (fun i => Nat.ble 9 i) hM ?_; clear hM; intro w hM
  (first | (apply t_load (i := 0) hF rfl rfl rfl; (repeat (first | exact List.mem_cons_self | refine List.mem_cons_of_mem _ ?_)); exact rfl; exact rfl; kernel_rfl; exact hM.sm; exact (fun _ _ _ h => h); clear hF a; intro a hF))
  (first | (apply t_load (i := 2) hF rfl rfl rfl; (repeat (first | exact List.mem_cons_self | refine List.mem_cons_of_mem _ ?_)); exact rfl; exact rfl; kernel_rfl; exact hM.sm; exact (fun _ _ _ h => h); clear hF a; intro a hF))
  (first | (refine t_pure (i := 4) hF rfl rfl rfl rfl (by kernel_rfl) hM.sm (fun _ _ _ h => h) ?_ ?_; (first | exact trivial | omega | decide); clear hF a; intro a hF))
  (first | (refine t_pure (i := 5) hF rfl rfl rfl rfl (by kernel_rfl) hM.sm (fun _ _ _ h => h) ?_ ?_; (first | exact trivial | omega | decide); clear hF a; intro a hF))
  (first | (refine t_pure (i := 6) hF rfl rfl rfl rfl (by kernel_rfl) hM.sm (fun _ _ _ h => h) ?_ ?_; (first | exact trivial | omega | decide); clear hF a; intro a hF))
  refine t_two (i := 1) (j := 8) hF rfl rfl (by kernel_rfl) rfl rfl ?_ ?_
  ·
    intro K hK
    (apply x_call hF hM; exact rfl; exact rfl; exact rfl; exact rfl; exact (copied_c c.A h1 _ _ _ hM.lt (isCu_mk (hM.facts (RdF (Value.int .i64) a1 c.A.V) (by (repeat (first | exact List.mem_cons_self | refine List.mem_cons_of_mem _ ?_)))) l1 m1)); clear hF hM a; rintro v w a ⟨a3, c3, rfl, h3, k3⟩ - hM hF)
    replace hM := hM.addFact h3
    refine hK _ _ (fun _ => (hM.sm.sub (fun x hx => by repeat (first | exact hx | refine List.mem_cons_of_mem _ ?_)) (fun _ h => by repeat (first | exact h | refine List.mem_cons_of_mem _ ?_)))) ?_; clear hK
    refine t_two (i := 3) (j := 8) hF rfl rfl (by kernel_rfl) rfl rfl ?_ ?_
    ·
      intro K hK
      (apply x_call hF hM; exact rfl; exact rfl; exact rfl; exact rfl; exact (copied_c c.S h2 _ _ _ hM.lt (isCu_mk (hM.facts (RdF (Value.int .i64) a2 c.S.V) (by (repeat (first | exact List.mem_cons_self | refine List.mem_cons_of_mem _ ?_)))) l2 m2)); clear hF hM a; rintro v w a ⟨a4, c4, rfl, h4, k4⟩ - hM hF)
      replace hM := hM.addFact h4
      refine hK _ _ (fun _ => (hM.sm.sub (fun x hx => by repeat (first | exact hx | refine List.mem_cons_of_mem _ ?_)) (fun _ h => by repeat (first | exact h | refine List.mem_cons_of_mem _ ?_)))) ?_; clear hK
      (first | (refine t_pure (i := 7) hF rfl rfl rfl rfl (by kernel_rfl) (hM.sm.sub (fun x hx => by repeat (first | exact hx | refine List.mem_cons_of_mem _ ?_)) (fun _ h => by repeat (first | exact h | refine List.mem_cons_of_mem _ ?_))) (fun _ _ _ h => h) ?_ ?_; (first | exact trivial | omega | decide); clear hF a; intro a hF))
      refine t_one (i := 8) hF rfl (by kernel_rfl) rfl ?_
      intro K hK
      (refine x_alloc hF hM rfl rfl ?_; clear hF hM a; intro b w a hM hF)
      refine hK _ _ (fun _ => (hM.sm.sub (fun x hx => by repeat (first | exact hx | refine List.mem_cons_of_mem _ ?_)) (fun _ h => by repeat (first | exact h | refine List.mem_cons_of_mem _ ?_)))) ?_; clear hK
      refine t_one (i := 9) hF rfl (by kernel_rfl) rfl ?_
      intro K hK
      (apply x_store hF hM rfl rfl rfl; (repeat (first | exact Upd.z | apply Upd.s)); exact rfl; exact rfl; exact rfl; clear hF hM a; intro w a hM hF)
      refine hK _ _ (fun h => by cases h) ?_; clear hK
      refine t_done (by kernel_rfl) ?_
      by_cases hb : bndE c = 0
      · (repeat' (first | (with_reducible refine w_seq ?_) | (with_reducible refine c_region ?_) | (with_reducible refine s_nil ?_) | ((with_reducible apply s_callM (f := 46) hF); exact rfl; exact rfl; exact rfl; exact rfl; exact rfl; exact (guardedM_ok _ _ rfl hM (fun b2 W' h' => mk1_ok { c with B := 0 } a3 a4 c3 c4 l1 k3 l2 k4 b2 _ 0 h' hb)); clear hF hM a; rintro v w a ⟨rfl, hM⟩ hF) | (with_reducible refine q_then_n ?_) | ((with_reducible apply s_pure hF); exact rfl; exact rfl; exact rfl; (first | exact trivial | omega | exact ⟨Int.natCast_nonneg _, Int.ofNat_lt.2 (by assumption)⟩ | decide); clear hF a; intro a hF) | ((with_reducible apply s_load hF hM); exact rfl; exact rfl; (repeat (first | exact List.mem_cons_self | refine List.mem_cons_of_mem _ ?_)); exact rfl; exact rfl; clear hF a; intro a hF) | ((with_reducible apply s_store hF hM); exact rfl; exact rfl; exact rfl; exact rfl; (repeat (first | exact Upd.z | apply Upd.s)); exact rfl; exact rfl; exact rfl; clear hM; intro w hM) | (with_reducible refine w_skip ?_) | (with_reducible refine w_ret ?_) | ((with_reducible apply c_false2 hF); exact rfl; (first | with_reducible rfl | (refine congrArg Value.bool ?_; focus (simp; done))))))
        (apply f_ret Try.results16 hF hM; (repeat (first | exact RL.nil | (apply RL.tmp; exact rfl) | (apply RL.cell; exact rfl; (repeat (first | exact List.mem_cons_self | refine List.mem_cons_of_mem _ ?_)); exact rfl))); refine Ret.mk hM.since ?_; dsimp only [resV])
        exact .inr ⟨hb, a3, c3, a4, c4, rfl, hM.factOut (f := RdF (Value.int .i64) a3 c.A.V) (by (repeat (first | exact List.mem_cons_self | refine List.mem_cons_of_mem _ ?_))), hM.factOut (f := RdF (Value.int .i64) a4 c.S.V) (by (repeat (first | exact List.mem_cons_self | refine List.mem_cons_of_mem _ ?_))), k3, k4⟩
      · (repeat' (first | (with_reducible refine w_seq ?_) | (with_reducible refine c_region ?_) | (with_reducible refine s_nil ?_) | ((with_reducible apply s_callM (f := 46) hF); exact rfl; exact rfl; exact rfl; exact rfl; exact rfl; exact (guardedM_err _ _ (bndE c) rfl hM (fun b2 W' h' => mk1_err { c with B := 0 } a3 a4 c3 c4 l1 k3 l2 k4 b2 _ 0 h' hb)); clear hF hM a; rintro v w a ⟨rfl, hM⟩ hF) | (with_reducible refine q_then_n ?_) | ((with_reducible apply s_pure hF); exact rfl; exact rfl; exact rfl; (first | exact trivial | omega | exact ⟨Int.natCast_nonneg _, Int.ofNat_lt.2 (by assumption)⟩ | decide); clear hF a; intro a hF) | ((with_reducible apply s_store hF hM); exact rfl; exact rfl; exact rfl; exact rfl; (repeat (first | exact Upd.z | apply Upd.s)); exact rfl; exact rfl; exact rfl; clear hM; intro w hM) | (with_reducible refine w_ret ?_) | (with_reducible refine q_then_r ?_) | ((with_reducible apply c_dec hF); exact rfl; all_goals intro hc; all_goals (try (exfalso; omega)))))
        (apply f_ret Try.results16 hF hM; (repeat (first | exact RL.nil | (apply RL.tmp; exact rfl) | (apply RL.cell; exact rfl; (repeat (first | exact List.mem_cons_self | refine List.mem_cons_of_mem _ ?_)); exact rfl))); refine Ret.mk hM.since ?_; dsimp only [resV])
        exact .inl ⟨hb, rfl⟩
    ·
      intro K hK
      (refine x_alloc hF hM rfl rfl ?_; clear hF hM a; intro b w a hM hF)
      refine hK _ _ (fun _ => (hM.sm.sub (fun x hx => by repeat (first | exact hx | refine List.mem_cons_of_mem _ ?_)) (fun _ h => by repeat (first | exact h | refine List.mem_cons_of_mem _ ?_)))) ?_; clear hK
      refine t_one (i := 3) hF rfl (by kernel_rfl) rfl ?_
      intro K hK
      (apply x_call hF hM; exact rfl; exact rfl; exact rfl; exact rfl; exact (copied_c c.S h2 _ _ _ hM.lt (isCu_mk (hM.facts (RdF (Value.int .i64) a2 c.S.V) (by (repeat (first | exact List.mem_cons_self | refine List.mem_cons_of_mem _ ?_)))) l2 m2)); clear hF hM a; rintro v w a ⟨a4, c4, rfl, h4, k4⟩ - hM hF)
      replace hM := hM.addFact h4
      refine hK _ _ (fun _ => (hM.sm.sub (fun x hx => by repeat (first | exact hx | refine List.mem_cons_of_mem _ ?_)) (fun _ h => by repeat (first | exact h | refine List.mem_cons_of_mem _ ?_)))) ?_; clear hK
      (first | (refine t_pure (i := 7) hF rfl rfl rfl rfl (by kernel_rfl) (hM.sm.sub (fun x hx => by repeat (first | exact hx | refine List.mem_cons_of_mem _ ?_)) (fun _ h => by repeat (first | exact h | refine List.mem_cons_of_mem _ ?_))) (fun _ _ _ h => h) ?_ ?_; (first | exact trivial | omega | decide); clear hF a; intro a hF))
      refine t_one (i := 9) hF rfl (by kernel_rfl) rfl ?_
      intro K hK
      (apply x_store hF hM rfl rfl rfl; (repeat (first | exact Upd.z | apply Upd.s)); exact rfl; exact rfl; exact rfl; clear hF hM a; intro w a hM hF)
      refine hK _ _ (fun h => by cases h) ?_; clear hK
      refine t_done (by kernel_rfl) ?_
      by_cases hb : bndE c = 0
      · (repeat' (first | (with_reducible refine w_seq ?_) | (with_reducible refine c_region ?_) | (with_reducible refine s_nil ?_) | ((with_reducible apply s_callM (f := 46) hF); exact rfl; exact rfl; exact rfl; exact rfl; exact rfl; exact (guardedM_ok _ _ rfl hM (fun b2 W' h' => mk1_ok { c with B := 0 } a3 a4 c3 c4 l1 k3 l2 k4 b2 _ 0 h' hb)); clear hF hM a; rintro v w a ⟨rfl, hM⟩ hF) | (with_reducible refine q_then_n ?_) | ((with_reducible apply s_pure hF); exact rfl; exact rfl; exact rfl; (first | exact trivial | omega | exact ⟨Int.natCast_nonneg _, Int.ofNat_lt.2 (by assumption)⟩ | decide); clear hF a; intro a hF) | ((with_reducible apply s_load hF hM); exact rfl; exact rfl; (repeat (first | exact List.mem_cons_self | refine List.mem_cons_of_mem _ ?_)); exact rfl; exact rfl; clear hF a; intro a hF) | ((with_reducible apply s_store hF hM); exact rfl; exact rfl; exact rfl; exact rfl; (repeat (first | exact Upd.z | apply Upd.s)); exact rfl; exact rfl; exact rfl; clear hM; intro w hM) | (with_reducible refine w_skip ?_) | (with_reducible refine w_ret ?_) | ((with_reducible apply c_false2 hF); exact rfl; (first | with_reducible rfl | (refine congrArg Value.bool ?_; focus (simp; done))))))
        (apply f_ret Try.results16 hF hM; (repeat (first | exact RL.nil | (apply RL.tmp; exact rfl) | (apply RL.cell; exact rfl; (repeat (first | exact List.mem_cons_self | refine List.mem_cons_of_mem _ ?_)); exact rfl))); refine Ret.mk hM.since ?_; dsimp only [resV])
        exact .inr ⟨hb, a3, c3, a4, c4, rfl, hM.factOut (f := RdF (Value.int .i64) a3 c.A.V) (by (repeat (first | exact List.mem_cons_self | refine List.mem_cons_of_mem _ ?_))), hM.factOut (f := RdF (Value.int .i64) a4 c.S.V) (by (repeat (first | exact List.mem_cons_self | refine List.mem_cons_of_mem _ ?_))), k3, k4⟩
      · (repeat' (first | (with_reducible refine w_seq ?_) | (with_reducible refine c_region ?_) | (with_reducible refine s_nil ?_) | ((with_reducible apply s_callM (f := 46) hF); exact rfl; exact rfl; exact rfl; exact rfl; exact rfl; exact (guardedM_err _ _ (bndE c) rfl hM (fun b2 W' h' => mk1_err { c with B := 0 } a3 a4 c3 c4 l1 k3 l2 k4 b2 _ 0 h' hb)); clear hF hM a; rintro v w a ⟨rfl, hM⟩ hF) | (with_reducible refine q_then_n ?_) | ((with_reducible apply s_pure hF); exact rfl; exact rfl; exact rfl; (first | exact trivial | omega | exact ⟨Int.natCast_nonneg _, Int.ofNat_lt.2 (by assumption)⟩ | decide); clear hF a; intro a hF) | ((with_reducible apply s_store hF hM); exact rfl; exact rfl; exact rfl; exact rfl; (repeat (first | exact Upd.z | apply Upd.s)); exact rfl; exact rfl; exact rfl; clear hM; intro w hM) | (with_reducible refine w_ret ?_) | (with_reducible refine q_then_r ?_) | ((with_reducible apply c_dec hF); exact rfl; all_goals intro hc; all_goals (try (exfalso; omega)))))
        (apply f_ret Try.results16 hF hM; (repeat (first | exact RL.nil | (apply RL.tmp; exact rfl) | (apply RL.cell; exact rfl; (repeat (first | exact List.mem_cons_self | refine List.mem_cons_of_mem _ ?_)); exact rfl))); refine Ret.mk hM.since ?_; dsimp only [resV])
        exact .inl ⟨hb, rfl⟩
  ·
    intro K hK
    (refine x_alloc hF hM rfl rfl ?_; clear hF hM a; intro b w a hM hF)
    refine hK _ _ (fun _ => (hM.sm.sub (fun x hx => by repeat (first | exact hx | refine List.mem_cons_of_mem _ ?_)) (fun _ h => by repeat (first | exact h | refine List.mem_cons_of_mem _ ?_)))) ?_; clear hK
    refine t_one (i := 1) hF rfl (by kernel_rfl) rfl ?_
    intro K hK
    (apply x_call hF hM; exact rfl; exact rfl; exact rfl; exact rfl; exact (copied_c c.A h1 _ _ _ hM.lt (isCu_mk (hM.facts (RdF (Value.int .i64) a1 c.A.V) (by (repeat (first | exact List.mem_cons_self | refine List.mem_cons_of_mem _ ?_)))) l1 m1)); clear hF hM a; rintro v w a ⟨a3, c3, rfl, h3, k3⟩ - hM hF)
    replace hM := hM.addFact h3
    refine hK _ _ (fun _ => (hM.sm.sub (fun x hx => by repeat (first | exact hx | refine List.mem_cons_of_mem _ ?_)) (fun _ h => by repeat (first | exact h | refine List.mem_cons_of_mem _ ?_)))) ?_; clear hK
    refine t_one (i := 3) hF rfl (by kernel_rfl) rfl ?_
    intro K hK
    (apply x_call hF hM; exact rfl; exact rfl; exact rfl; exact rfl; exact (copied_c c.S h2 _ _ _ hM.lt (isCu_mk (hM.facts (RdF (Value.int .i64) a2 c.S.V) (by (repeat (first | exact List.mem_cons_self | refine List.mem_cons_of_mem _ ?_)))) l2 m2)); clear hF hM a; rintro v w a ⟨a4, c4, rfl, h4, k4⟩ - hM hF)
    replace hM := hM.addFact h4
    refine hK _ _ (fun _ => (hM.sm.sub (fun x hx => by repeat (first | exact hx | refine List.mem_cons_of_mem _ ?_)) (fun _ h => by repeat (first | exact h | refine List.mem_cons_of_mem _ ?_)))) ?_; clear hK
    (first | (refine t_pure (i := 7) hF rfl rfl rfl rfl (by kernel_rfl) (hM.sm.sub (fun x hx => by repeat (first | exact hx | refine List.mem_cons_of_mem _ ?_)) (fun _ h => by repeat (first | exact h | refine List.mem_cons_of_mem _ ?_))) (fun _ _ _ h => h) ?_ ?_; (first | exact trivial | omega | decide); clear hF a; intro a hF))
    refine t_one (i := 9) hF rfl (by kernel_rfl) rfl ?_
    intro K hK
    (apply x_store hF hM rfl rfl rfl; (repeat (first | exact Upd.z | apply Upd.s)); exact rfl; exact rfl; exact rfl; clear hF hM a; intro w a hM hF)
    refine hK _ _ (fun h => by cases h) ?_; clear hK
    refine t_done (by kernel_rfl) ?_
    by_cases hb : bndE c = 0
    · (repeat' (first | (with_reducible refine w_seq ?_) | (with_reducible refine c_region ?_) | (with_reducible refine s_nil ?_) | ((with_reducible apply s_callM (f := 46) hF); exact rfl; exact rfl; exact rfl; exact rfl; exact rfl; exact (guardedM_ok _ _ rfl hM (fun b2 W' h' => mk1_ok { c with B := 0 } a3 a4 c3 c4 l1 k3 l2 k4 b2 _ 0 h' hb)); clear hF hM a; rintro v w a ⟨rfl, hM⟩ hF) | (with_reducible refine q_then_n ?_) | ((with_reducible apply s_pure hF); exact rfl; exact rfl; exact rfl; (first | exact trivial | omega | exact ⟨Int.natCast_nonneg _, Int.ofNat_lt.2 (by assumption)⟩ | decide); clear hF a; intro a hF) | ((with_reducible apply s_load hF hM); exact rfl; exact rfl; (repeat (first | exact List.mem_cons_self | refine List.mem_cons_of_mem _ ?_)); exact rfl; exact rfl; clear hF a; intro a hF) | ((with_reducible apply s_store hF hM); exact rfl; exact rfl; exact rfl; exact rfl; (repeat (first | exact Upd.z | apply Upd.s)); exact rfl; exact rfl; exact rfl; clear hM; intro w hM) | (with_reducible refine w_skip ?_) | (with_reducible refine w_ret ?_) | ((with_reducible apply c_false2 hF); exact rfl; (first | with_reducible rfl | (refine congrArg Value.bool ?_; focus (simp; done))))))
      (apply f_ret Try.results16 hF hM; (repeat (first | exact RL.nil | (apply RL.tmp; exact rfl) | (apply RL.cell; exact rfl; (repeat (first | exact List.mem_cons_self | refine List.mem_cons_of_mem _ ?_)); exact rfl))); refine Ret.mk hM.since ?_; dsimp only [resV])
      exact .inr ⟨hb, a3, c3, a4, c4, rfl, hM.factOut (f := RdF (Value.int .i64) a3 c.A.V) (by (repeat (first | exact List.mem_cons_self | refine List.mem_cons_of_mem _ ?_))), hM.factOut (f := RdF (Value.int .i64) a4 c.S.V) (by (repeat (first | exact List.mem_cons_self | refine List.mem_cons_of_mem _ ?_))), k3, k4⟩
    · (repeat' (first | (with_reducible refine w_seq ?_) | (with_reducible refine c_region ?_) | (with_reducible refine s_nil ?_) | ((with_reducible apply s_callM (f := 46) hF); exact rfl; exact rfl; exact rfl; exact rfl; exact rfl; exact (guardedM_err _ _ (bndE c) rfl hM (fun b2 W' h' => mk1_err { c with B := 0 } a3 a4 c3 c4 l1 k3 l2 k4 b2 _ 0 h' hb)); clear hF hM a; rintro v w a ⟨rfl, hM⟩ hF) | (with_reducible refine q_then_n ?_) | ((with_reducible apply s_pure hF); exact rfl; exact rfl; exact rfl; (first | exact trivial | omega | exact ⟨Int.natCast_nonneg _, Int.ofNat_lt.2 (by assumption)⟩ | decide); clear hF a; intro a hF) | ((with_reducible apply s_store hF hM); exact rfl; exact rfl; exact rfl; exact rfl; (repeat (first | exact Upd.z | apply Upd.s)); exact rfl; exact rfl; exact rfl; clear hM; intro w hM) | (with_reducible refine w_ret ?_) | (with_reducible refine q_then_r ?_) | ((with_reducible apply c_dec hF); exact rfl; all_goals intro hc; all_goals (try (exfalso; omega)))))
      (apply f_ret Try.results16 hF hM; (repeat (first | exact RL.nil | (apply RL.tmp; exact rfl) | (apply RL.cell; exact rfl; (repeat (first | exact List.mem_cons_self | refine List.mem_cons_of_mem _ ?_)); exact rfl))); refine Ret.mk hM.since ?_; dsimp only [resV])
      exact .inl ⟨hb, rfl⟩
end Go.Proofs.Ytabfhoipclbeeaa


/- Plain definitions and facts about traces and plans: what both texts of the planner compute; no program in sight. -/
namespace P56

/-- A trace. -/
structure Tr where
  W : List Int
  C : List Int
  P : Int
  L : Int
  A : Int

/-- Is this no number of sectors? -/
def bad (x : Int) : Bool := decide (x < 0) || decide (4096 < x)

/-- The number of the error of a trace. -/
def check (t : Tr) : Int :=
  if 4096 < t.W.length ∨ t.C.length < 1 ∨ 4096 < t.C.length then 6
  else if t.W.any bad = true ∨ t.C.any bad = true ∨ t.P < 1 ∨ 4096 < t.P ∨ t.L < 0 ∨ 1073741824 < t.L ∨ t.A < 0 ∨ 1073741824 < t.A then 2
  else 0

/-- A trace in order. -/
structure Ok (t : Tr) : Prop where
  wlen : t.W.length ≤ 4096
  clen0 : 1 ≤ t.C.length
  clen : t.C.length ≤ 4096
  w : ∀ x ∈ t.W, 0 ≤ x ∧ x ≤ 4096
  c : ∀ x ∈ t.C, 0 ≤ x ∧ x ≤ 4096
  p0 : 1 ≤ t.P
  p : t.P ≤ 4096
  l0 : 0 ≤ t.L
  l : t.L ≤ 1073741824
  a0 : 0 ≤ t.A
  a : t.A ≤ 1073741824

theorem any_bad_false {l : List Int} : l.any bad = false ↔ ∀ x ∈ l, 0 ≤ x ∧ x ≤ 4096 := by
  rw [List.any_eq_false]
  constructor
  · intro h x hx
    have := h x hx
    simp [bad] at this
    omega
  · intro h x hx
    have := h x hx
    simp [bad]
    omega

theorem check_ok {t : Tr} : check t = 0 ↔ Ok t := by
  unfold check
  constructor
  · intro h
    split at h
    · simp at h
    · rename_i h1
      split at h
      · simp at h
      · rename_i h2
        have hw : t.W.any bad = false := by
          cases hb : t.W.any bad
          · rfl
          · exact absurd (.inl hb) h2
        have hc : t.C.any bad = false := by
          cases hb : t.C.any bad
          · rfl
          · exact absurd (.inr (.inl hb)) h2
        exact ⟨by omega, by omega, by omega, any_bad_false.1 hw, any_bad_false.1 hc, by omega, by omega, by omega, by omega, by omega, by omega⟩
  · intro h
    rw [if_neg (by have := h.wlen; have := h.clen; have := h.clen0; omega)]
    have hw := any_bad_false.2 h.w
    have hc := any_bad_false.2 h.c
    rw [if_neg (by rw [hw, hc]; have := h.p; have := h.p0; have := h.l; have := h.l0; have := h.a; have := h.a0; simp; omega)]

theorem check_6 {t : Tr} (h : 4096 < t.W.length ∨ t.C.length < 1 ∨ 4096 < t.C.length) : 6 = check t := by unfold check; rw [if_pos h]
theorem check_2 {t : Tr} (h : ¬ (4096 < t.W.length ∨ t.C.length < 1 ∨ 4096 < t.C.length)) (h2 : t.W.any bad = true ∨ t.C.any bad = true ∨ t.P < 1 ∨ 4096 < t.P ∨ t.L < 0 ∨ 1073741824 < t.L ∨ t.A < 0 ∨ 1073741824 < t.A) : 2 = check t := by
  unfold check; rw [if_neg h, if_pos h2]
theorem check_0 {t : Tr} (h : ¬ (4096 < t.W.length ∨ t.C.length < 1 ∨ 4096 < t.C.length)) (h1 : t.W.any bad = false) (h2 : t.C.any bad = false) (h3 : 1 ≤ t.P ∧ t.P ≤ 4096 ∧ 0 ≤ t.L ∧ t.L ≤ 1073741824 ∧ 0 ≤ t.A ∧ t.A ≤ 1073741824) : 0 = check t := by
  unfold check; rw [if_neg h, if_neg (by rw [h1, h2]; simp; omega)]

theorem mul_bd {k p : Nat} (hk : k ≤ 4096) (hp : p ≤ 4096) : (0 : Int) ≤ (k : Int) * (p : Int) ∧ (k : Int) * (p : Int) ≤ 16777216 ∧ (0 : Int) ≤ ((k : Int) + 1) * (p : Int) ∧ ((k : Int) + 1) * (p : Int) ≤ 16781312 := by
  have h1 : k * p ≤ 4096 * 4096 := Nat.mul_le_mul hk hp
  have h2 : (k + 1) * p = k * p + p := Nat.succ_mul _ _
  have h3 : (k : Int) * (p : Int) = ((k * p : Nat) : Int) := (Int.natCast_mul _ _).symm
  have h4 : ((k : Int) + 1) * (p : Int) = (((k + 1) * p : Nat) : Int) := by rw [Int.natCast_mul]; simp
  omega
theorem sum_take_step {D : List Int} {n : Nat} {x : Int} (h : D[n]? = some x) : (D.take (n + 1)).sum = (D.take n).sum + x := by
  rw [List.take_add_one, h, List.sum_append]; simp
theorem sum_take_bd {D : List Int} (h : ∀ x ∈ D, 0 ≤ x ∧ x ≤ 4096) (n : Nat) (hn : D.length ≤ 4096) : 0 ≤ (D.take n).sum ∧ (D.take n).sum ≤ 16777216 := by
  have : ∀ l : List Int, (∀ x ∈ l, 0 ≤ x ∧ x ≤ 4096) → 0 ≤ l.sum ∧ l.sum ≤ 4096 * (l.length : Int) := by
    intro l
    induction l with
    | nil => simp
    | cons a l ih =>
      intro hl
      have h1 := hl a (by simp)
      have h2 := ih (fun x hx => hl x (by simp [hx]))
      simp only [List.sum_cons, List.length_cons]
      have e : (4096 : Int) * ((l.length + 1 : Nat) : Int) = 4096 * (l.length : Int) + 4096 := by omega
      omega
  have h1 := this (D.take n) (fun x hx => h x (List.mem_of_mem_take hx))
  have h2 : (D.take n).length ≤ D.length := by rw [List.length_take]; omega
  omega

/-- How many sectors the link carries in the ticks before t. -/
def last (C : List Int) : Int := C.getLastD 0
def carr (C : List Int) (t : Nat) : Int := (C.take t).sum + ((t - C.length : Nat) : Int) * last C

/-- e is the first time from s on such that n sectors are carried in the ticks from s to e - 1. -/
structure IsEnd (C : List Int) (s : Nat) (n : Int) (e : Nat) : Prop where
  le : s ≤ e
  enough : carr C s + n ≤ carr C e
  first : ∀ x, s ≤ x → x < e → carr C x < carr C s + n

theorem IsEnd.unique {C s n e f} (h : IsEnd C s n e) (k : IsEnd C s n f) : e = f := by
  rcases Nat.lt_trichotomy e f with g | g | g
  · have := k.first e h.le g
    have := h.enough
    omega
  · exact g
  · have := h.first f k.le g
    have := k.enough
    omega

/-- What the reference's loop does: it goes on while something is left. -/
def run : List Int → Int → Nat × Int
  | [], n => (0, n)
  | c :: cs, n => if 0 < n then ((run cs (n - c)).1 + 1, (run cs (n - c)).2) else (0, n)

/-- The end of a transfer, as the reference finds it. -/
def finish (C : List Int) (s : Nat) (n : Int) : Option Nat :=
  let r := run (C.drop s) n
  if r.2 ≤ 0 then some (s + r.1)
  else if last C = 0 then none
  else some (s + r.1 + ((r.2 + last C - 1) / last C).toNat)

/-- The sectors of cycle k. -/
def size (t : Tr) (k : Nat) : Int := ((t.W.drop (k * t.P.toNat)).take t.P.toNat).sum

/-- The number of cycles. -/
def cycles (t : Tr) : Nat := (t.W.length + t.P.toNat - 1) / t.P.toNat

/-- The end of the transfers before cycle k; none if one of them never ends. -/
def endOf (t : Tr) : Nat → Option Nat
  | 0 => some 0
  | k + 1 => (endOf t k).bind fun e => finish t.C (max ((k + 1) * t.P.toNat) e) (size t k)

def en (t : Tr) (k : Nat) : Nat := (endOf t k).getD 0
def cl (t : Tr) (k : Nat) : Int := ((k + 1) * t.P.toNat : Nat)
def st (t : Tr) (k : Nat) : Nat := max ((k + 1) * t.P.toNat) (en t k)
def ap (t : Tr) (k : Nat) : Int := (en t (k + 1) : Int) + t.L + t.A

/-- The reference's bound after k rounds. -/
def bdR (t : Tr) : Nat → Int
  | 0 => 0
  | k + 1 => if k = 0 ∨ ap t (k - 1) < ap t k then max (bdR t k) (ap t k - 1 - ((k * t.P.toNat : Nat) : Int)) else bdR t k
def boundR (t : Tr) : Int := if 0 < cycles t then max (bdR t (cycles t)) (ap t (cycles t - 1) - ((cycles t * t.P.toNat : Nat) : Int)) else 0
/-- A plan. -/
structure Pl where
  close : List Int
  start : List Int
  fin : List Int
  applied : List Int
  bound : Int
deriving DecidableEq

def none : Pl := ⟨[], [], [], [], 0⟩
def lists (t : Tr) (k : Nat) (b : Int) : Pl :=
  ⟨(List.range k).map (cl t), (List.range k).map fun i => (st t i : Int), (List.range k).map fun i => (en t (i + 1) : Int), (List.range k).map (ap t), b⟩

/-- The plan of a trace that is in order, and the number of the error. -/
def planOk (t : Tr) : Pl × Int := if (endOf t (cycles t)).isSome then (lists t (cycles t) (boundR t), 0) else (none, 21)
def plan (t : Tr) : Pl × Int := if check t = 0 then planOk t else (none, check t)

theorem sum_take_succ (l : List Int) (k : Nat) (h : k < l.length) : (l.take (k + 1)).sum = (l.take k).sum + l[k] := by
  rw [List.take_succ_eq_append_getElem h, List.sum_append]; simp
/-- What the link carries in tick t. -/
def capAt (C : List Int) (t : Nat) : Int := if h : t < C.length then C[t] else last C
theorem carr_succ (C : List Int) (t : Nat) : carr C (t + 1) = carr C t + capAt C t := by
  unfold carr capAt
  by_cases h : t < C.length
  · rw [dif_pos h, sum_take_succ _ _ h]
    have e1 : t + 1 - C.length = 0 := by omega
    have e2 : t - C.length = 0 := by omega
    rw [e1, e2]; omega
  · rw [dif_neg h, List.take_of_length_le (by omega), List.take_of_length_le (by omega)]
    have e1 : t + 1 - C.length = (t - C.length) + 1 := by omega
    rw [e1]
    generalize last C = q
    have : (((t - C.length) + 1 : Nat) : Int) * q = ((t - C.length : Nat) : Int) * q + q := by
      rw [Int.natCast_add, Int.add_mul]; simp
    omega
theorem last_nonneg {C : List Int} (h : ∀ x ∈ C, 0 ≤ x ∧ x ≤ 4096) : 0 ≤ last C ∧ last C ≤ 4096 := by
  unfold last
  cases C with
  | nil => simp
  | cons a l =>
    rw [List.getLastD_eq_getLast?, List.getLast?_eq_some_getLast (by simp)]
    exact h _ (List.getLast_mem _)
theorem capAt_bd {C : List Int} (h : ∀ x ∈ C, 0 ≤ x ∧ x ≤ 4096) (t : Nat) : 0 ≤ capAt C t ∧ capAt C t ≤ 4096 := by
  unfold capAt
  split
  · exact h _ (List.getElem_mem _)
  · exact last_nonneg h
theorem carr_mono1 {C : List Int} (h : ∀ x ∈ C, 0 ≤ x ∧ x ≤ 4096) (t : Nat) : carr C t ≤ carr C (t + 1) := by
  have := carr_succ C t; have := capAt_bd h t; omega
theorem carr_mono {C : List Int} (h : ∀ x ∈ C, 0 ≤ x ∧ x ≤ 4096) {s t : Nat} (hs : s ≤ t) : carr C s ≤ carr C t := by
  induction t with
  | zero => have : s = 0 := by omega
            subst this; omega
  | succ t ih =>
    by_cases e : s = t + 1
    · subst e; omega
    · have := ih (by omega); have := carr_mono1 h t; omega
theorem carr_zero (C : List Int) : carr C 0 = 0 := by simp [carr]
theorem carr_bd {C : List Int} (h : ∀ x ∈ C, 0 ≤ x ∧ x ≤ 4096) (t : Nat) : 0 ≤ carr C t ∧ carr C t ≤ 4096 * (t : Int) := by
  induction t with
  | zero => simp [carr_zero]
  | succ t ih => have := carr_succ C t; have := capAt_bd h t; omega
theorem carr_far (C : List Int) (s d : Nat) (h : C.length ≤ s) : carr C (s + d) = carr C s + (d : Int) * last C := by
  induction d with
  | zero => simp
  | succ d ih =>
    rw [← Nat.add_assoc, carr_succ, ih]
    have : capAt C (s + d) = last C := by unfold capAt; rw [dif_neg (by omega)]
    rw [this, Int.natCast_add, Int.add_mul]; simp; omega

/-- The loop: how far it goes, what is left. -/
theorem run_spec (C : List Int) (_h : ∀ x ∈ C, 0 ≤ x ∧ x ≤ 4096) : ∀ (k s : Nat) (n : Int), C.length - s = k →
    (run (C.drop s) n).2 = n - (carr C (s + (run (C.drop s) n).1) - carr C s) ∧ (∀ x, s ≤ x → x < s + (run (C.drop s) n).1 → carr C x < carr C s + n) ∧
    (0 < (run (C.drop s) n).2 → C.length ≤ s + (run (C.drop s) n).1) := by
  intro k
  induction k with
  | zero =>
    intro s n hk
    rw [List.drop_eq_nil_of_le (by omega)]
    simp only [run, Nat.add_zero]
    exact ⟨by omega, fun x a b => by omega, fun _ => by omega⟩
  | succ k ih =>
    intro s n hk
    have hs : s < C.length := by omega
    rw [List.drop_eq_getElem_cons hs]
    simp only [run]
    split
    · rename_i hn
      obtain ⟨h1, h2, h3⟩ := ih (s + 1) (n - C[s]) (by omega)
      have hc := carr_succ C s
      have hca : capAt C s = C[s] := by unfold capAt; rw [dif_pos hs]
      rw [hca] at hc
      refine ⟨?_, ?_, ?_⟩
      · show (run (C.drop (s + 1)) (n - C[s])).2 = _
        rw [h1, show s + ((run (C.drop (s + 1)) (n - C[s])).1 + 1) = s + 1 + (run (C.drop (s + 1)) (n - C[s])).1 from by omega]
        omega
      · intro x hx hx'
        by_cases e : x = s
        · subst e; omega
        · have := h2 x (by omega) (by simp only at hx'; omega); omega
      · intro hp
        have := h3 hp
        simp only; omega
    · rename_i hn
      refine ⟨by simp, fun x a b => by simp only at b; omega, fun hp => by simp only at hp; omega⟩

theorem ceil_spec {a b : Int} (ha : 0 < a) (hb : 0 < b) : 0 < (a + b - 1) / b ∧ a ≤ ((a + b - 1) / b) * b ∧ ((a + b - 1) / b - 1) * b < a := by
  have h1 := Int.mul_ediv_add_emod (a + b - 1) b
  have h2 := Int.emod_nonneg (a + b - 1) (by omega : b ≠ 0)
  have h3 := Int.emod_lt_of_pos (a + b - 1) hb
  have e : b * ((a + b - 1) / b) = ((a + b - 1) / b) * b := Int.mul_comm _ _
  have e2 : ((a + b - 1) / b - 1) * b = ((a + b - 1) / b) * b - b := by rw [Int.sub_mul]; omega
  refine ⟨?_, by omega, by omega⟩
  by_cases hq : (a + b - 1) / b ≤ 0
  · have := Int.mul_le_mul_of_nonneg_right hq (by omega : 0 ≤ b)
    omega
  · omega

theorem finish_some {C : List Int} (h : ∀ x ∈ C, 0 ≤ x ∧ x ≤ 4096) {s e : Nat} {n : Int} (hf : finish C s n = some e) : IsEnd C s n e := by
  unfold finish at hf
  obtain ⟨h1, h2, h3⟩ := run_spec C h _ s n rfl
  generalize run (C.drop s) n = r at hf h1 h2 h3
  simp only at hf
  split at hf
  · rename_i hr
    injection hf with hf
    subst hf
    exact ⟨by omega, by omega, h2⟩
  · rename_i hr
    split at hf
    · cases hf
    · rename_i hl
      injection hf with hf
      have hl' := last_nonneg h
      obtain ⟨c1, c2, c3⟩ := ceil_spec (a := r.2) (b := last C) (by omega) (by omega)
      generalize hq : (r.2 + last C - 1) / last C = q at hf c1 c2 c3
      subst hf
      have hfar := carr_far C (s + r.1) q.toNat (h3 (by omega))
      have eq : (q.toNat : Int) = q := Int.toNat_of_nonneg (by omega)
      rw [eq] at hfar
      refine ⟨by omega, by omega, fun x hx hx' => ?_⟩
      by_cases hxx : x < s + r.1
      · exact h2 x hx hxx
      · have hfar2 := carr_far C (s + r.1) (x - (s + r.1)) (h3 (by omega))
        rw [show s + r.1 + (x - (s + r.1)) = x from by omega] at hfar2
        have hle : ((x - (s + r.1) : Nat) : Int) ≤ q - 1 := by omega
        have := Int.mul_le_mul_of_nonneg_right hle (by omega : 0 ≤ last C)
        omega

theorem finish_none {C : List Int} (h : ∀ x ∈ C, 0 ≤ x ∧ x ≤ 4096) {s : Nat} {n : Int} (hf : finish C s n = Option.none) :
    last C = 0 ∧ ∀ x, s ≤ x → carr C x < carr C s + n := by
  unfold finish at hf
  obtain ⟨h1, h2, h3⟩ := run_spec C h _ s n rfl
  generalize run (C.drop s) n = r at hf h1 h2 h3
  simp only at hf
  split at hf
  · cases hf
  · rename_i hr
    split at hf
    · rename_i hl
      refine ⟨hl, fun x hx => ?_⟩
      by_cases hxx : x < s + r.1
      · exact h2 x hx hxx
      · have hfar2 := carr_far C (s + r.1) (x - (s + r.1)) (h3 (by omega))
        rw [show s + r.1 + (x - (s + r.1)) = x from by omega, hl] at hfar2
        omega
    · cases hf

/-- Whatever finds the first time, finds the reference's. -/
theorem finish_of_isEnd {C : List Int} (h : ∀ x ∈ C, 0 ≤ x ∧ x ≤ 4096) {s e : Nat} {n : Int} (he : IsEnd C s n e) : finish C s n = some e := by
  cases hf : finish C s n with
  | none => have := (finish_none h hf).2 e he.le; have := he.enough; omega
  | some f => rw [(finish_some h hf).unique he]

theorem bdR_ge (t : Tr) (hP : 1 ≤ t.P.toNat) : ∀ k, ap t k - (((k + 1) * t.P.toNat : Nat) : Int) ≤ bdR t (k + 1) := by
  intro k
  induction k with
  | zero => simp [bdR]; omega
  | succ k ih =>
    rw [bdR]
    have e : (k + 1 + 1) * t.P.toNat = (k + 1) * t.P.toNat + t.P.toNat := Nat.succ_mul _ _
    rw [e]
    simp only [Nat.add_sub_cancel]
    split <;> omega
theorem boundR_eq (t : Tr) (hP : 1 ≤ t.P.toNat) : boundR t = bdR t (cycles t) := by
  unfold boundR
  split
  · rename_i h
    obtain ⟨k, hk⟩ : ∃ k, cycles t = k + 1 := ⟨cycles t - 1, by omega⟩
    have := bdR_ge t hP k
    rw [hk]
    simp only [Nat.add_sub_cancel]
    omega
  · rename_i h
    rw [show cycles t = 0 from by omega]; rfl

end P56


/- planner: between, sectors, Check: what each call returns. -/
namespace Go.Proofs.Ytabfhoipclbeeaa
open Go.RowKit Go.Shelf

set_option maxHeartbeats 400000 in
theorem between_any (n lo hi : Int) (w : World) :
    Calls Try.prog 84 #[.int .i64 n, .int .i64 lo, .int .i64 hi] w fun e w' => e = .returned (.bool (decide (lo ≤ n ∧ n ≤ hi))) ∧ w = w' := by
  go_enter Try.func84, Try.ntmps84
  go_wp2
  all_goals (go_ret; refine ⟨?_, rfl⟩; simp [*]; try omega)
/-- An answer of between, looked at. -/
theorem between_cases (n lo hi : Int) (w : World) :
    Calls Try.prog 84 #[.int .i64 n, .int .i64 lo, .int .i64 hi] w fun e w' => (e = .returned (.bool true) ∧ (lo ≤ n ∧ n ≤ hi) ∧ w = w') ∨ (e = .returned (.bool false) ∧ (n < lo ∨ hi < n) ∧ w = w') :=
  dec_split (by omega) (between_any n lo hi w)
theorem sectors1_any (n : Int) (w : World) :
    Calls Try.prog 117 #[.int .i64 n] w fun e w' => e = .returned (.bool (P56.bad n)) ∧ w = w' := by
  go_enter Try.func117, Try.ntmps117
  go_wp2_with (go_at_call 84; refine (between_cases _ _ _ _).mono ?_; rintro e w' (⟨rfl, hb, rfl⟩ | ⟨rfl, hb, rfl⟩))
  all_goals (go_ret; refine ⟨?_, rfl⟩; simp [P56.bad]; omega)
theorem sectors_any (a : Option Addr) (c : Nat) (l : List Int) (w : World) (hl : l.length ≤ 9223372036854775807) (hr : Reads (Value.int .i64) w a l) :
    Calls Try.prog 85 #[.slice a l.length c] w fun e w' => e = .returned (.bool (!l.any P56.bad)) ∧ Since w w' := by
  have hcall := containsFunc_any 117 #[] P56.bad a c l w hl hr (fun x w' _ => (sectors1_any x w').mono fun e w'' ⟨h1, h2⟩ => ⟨h1, h2 ▸ Since.refl _⟩) (enters_of Try.func117 (by kernel_rfl) rfl)
  generalize (l.any P56.bad) = r at hcall ⊢
  clear hr
  go_enter Try.func85, Try.ntmps85
  go_wp2_with (go_at_call 116; refine hcall.mono ?_; rintro e w1 ⟨rfl, hs1⟩)
  go_ret
  exact ⟨rfl, hs1⟩

/-- The value v is the trace t, in memory. -/
def IsTr (w : World) (v : Value) (t : P56.Tr) : Prop :=
  ∃ a a' c c', v = .agg #[.slice a t.W.length c, .slice a' t.C.length c', .int .i64 t.P, .int .i64 t.L, .int .i64 t.A] ∧ Reads (Value.int .i64) w a t.W ∧ Reads (Value.int .i64) w a' t.C ∧
    t.W.length ≤ 9223372036854775807 ∧ t.C.length ≤ 9223372036854775807 ∧ t.W.length ≤ c ∧ t.C.length ≤ c'
theorem IsTr.since {w w' : World} {v : Value} {t : P56.Tr} (h : IsTr w v t) (hs : Since w w') : IsTr w' v t := by
  obtain ⟨a, a', c, c', h1, h2, h3, h4⟩ := h
  exact ⟨a, a', c, c', h1, h2.since hs, h3.since hs, h4⟩

set_option maxHeartbeats 400000 in
theorem check_any (t : P56.Tr) (v : Value) (w : World) (ht : IsTr w v t) :
    Calls Try.prog 37 #[v] w fun e w' => e = .returned (.int .i64 (P56.check t)) ∧ Since w w' := by
  obtain ⟨a, a', c, c', rfl, hr, hr', hW, hC, -⟩ := ht
  go_enter Try.func37, Try.ntmps37
  go_wp2_with (first
    | (go_at_call 84; refine (between_cases _ _ _ _).mono ?_; rintro e w' (⟨rfl, hb, rfl⟩ | ⟨rfl, hb, rfl⟩))
    | (go_at_call 85; refine (bool_split (sectors_any a c t.W _ hW (hr.since ?_))).mono ?_; ((repeat (first | with_reducible exact Since.refl _ | with_reducible assumption | with_reducible refine Since.alloc ?_ _ | with_reducible refine Since.drew ?_ | with_reducible refine Since.drewN ?_ _ | (with_reducible refine Since.setCell ?_ ?_ _; rotate_left; (first | (dsimp only; omega) | (simp; done) | (simp; omega))) | with_reducible refine Since.trans ?_ (by with_reducible assumption)))); rintro e w1 (⟨rfl, H1, hs1⟩ | ⟨rfl, H1, hs1⟩) <;> have hk1 := hs1.rules)
    | (go_at_call 85; refine (bool_split (sectors_any a' c' t.C _ hC (hr'.since ?_))).mono ?_; ((repeat (first | with_reducible exact Since.refl _ | with_reducible assumption | with_reducible refine Since.alloc ?_ _ | with_reducible refine Since.drew ?_ | with_reducible refine Since.drewN ?_ _ | (with_reducible refine Since.setCell ?_ ?_ _; rotate_left; (first | (dsimp only; omega) | (simp; done) | (simp; omega))) | with_reducible refine Since.trans ?_ (by with_reducible assumption)))); rintro e w2 (⟨rfl, H2, hs2⟩ | ⟨rfl, H2, hs2⟩) <;> have hk2 := hs2.rules))
  all_goals
    go_ret
    refine ⟨ret_int ?_, by (repeat (first | with_reducible exact Since.refl _ | with_reducible assumption | with_reducible refine Since.alloc ?_ _ | with_reducible refine Since.drew ?_ | with_reducible refine Since.drewN ?_ _ | (with_reducible refine Since.setCell ?_ ?_ _; rotate_left; (first | (dsimp only; omega) | (simp; done) | (simp; omega))) | with_reducible refine Since.trans ?_ (by with_reducible assumption)))⟩
    first
      | exact P56.check_6 (by omega)
      | exact P56.check_2 (by omega) (.inl (not_false H1))
      | exact P56.check_2 (by omega) (.inr (.inl (not_false H2)))
      | exact P56.check_2 (by omega) (by omega)
      | exact P56.check_0 (by omega) (not_true H1) (not_true H2) (by omega)
end Go.Proofs.Ytabfhoipclbeeaa


/- certificate: sums, Covers. -/
namespace Go.Proofs.Ytabfhoipclbeeaa
open Go.RowKit Go.Shelf C55 K57
def psum (l : List Int) (k : Nat) : Int := (l.take k).sum
theorem psum_bd {l : List Int} (hb : ∀ x ∈ l, 0 ≤ x ∧ x ≤ 4096) (hl : l.length ≤ 4096) (k : Nat) : 0 ≤ psum l k ∧ psum l k ≤ 16777216 := P56.sum_take_bd hb k hl
theorem psum_succ {l : List Int} {k : Nat} {x : Int} (h : l[k]? = some x) : psum l (k + 1) = psum l k + x := P56.sum_take_step h
set_option maxHeartbeats 1000000 in
theorem sums_c (l : List Int) (hb : ∀ x ∈ l, 0 ≤ x ∧ x ≤ 4096) (hl4 : l.length ≤ 4096) (a0 : Option Addr) (c0 : Nat) (own : Nat → Prop) (W : World) (hl : ∀ b, own b → b < W.heap.size) (hv : Has own W (RdF (Value.int .i64) a0 l)) :
    Calls Try.prog 76 ⟨[.slice a0 l.length c0]⟩ W (Ret W fun v w' => ∃ a' c', v = .slice a' (l.length + 1) c' ∧ Has own w' (RdF (Value.int .i64) a' (tab (psum l) (l.length + 1)))) := by
  have hM := (Mm.start hl).known hv
  refine f_start Try.func76 rfl Try.ntmps76 rfl rfl ?_; intro a hF
  (repeat (first | (with_reducible refine w_seq ?_) | (with_reducible refine c_region ?_) | (with_reducible refine s_nil ?_) | (with_reducible refine q_then_n ?_) | ((with_reducible apply s_pure hF); exact rfl; exact rfl; exact rfl; (first | exact trivial | omega | exact ⟨Int.natCast_nonneg _, Int.ofNat_lt.2 (by assumption)⟩ | decide); clear hF a; intro a hF) | ((with_reducible apply s_lit hF hM); exact rfl; exact rfl; exact rfl; exact rfl; clear hF hM a; intro bl w a hM hF) | (with_reducible refine w_block ?_)))
  replace hM := hM.boxRow 1 1 rfl (by decide)
  refine c_loop (m := l.length) (fun m a w' => ∃ (k g cap : Nat), m + k = l.length ∧
    Fr 26 [] [(9, .int .i64 k), (8, .int .i64 l.length), (7, .slice a0 l.length c0), (3, .slice (some ⟨g, 0, none⟩) (k + 1) cap)] a ∧
    Mm own W [] [⟨3, 1, .slice (some ⟨g, 0, none⟩) (k + 1) cap, k + 1, (tab (psum l) (k + 1)).map (Value.int .i64)⟩] [RdF (Value.int .i64) a0 l] w')
    ⟨0, _, _, by omega, hF.sub (by repeat (first | exact Sub.nil | refine Sub.cons rfl (by first | with_reducible rfl | (refine congrArg (Value.int _) ?_; omega) | exact rfl) ?_)), hM⟩ ?_
  clear hF hM a
  rintro m a w' ⟨k, g, cap, hm, hF, hM⟩
  by_cases hk : k < l.length
  · obtain ⟨x, hx⟩ := get_of_lt hk
    obtain ⟨ad, rfl⟩ := rd_some hM (by (repeat (first | exact List.mem_cons_self | refine List.mem_cons_of_mem _ ?_))) hx
    have hxb := hb x (List.mem_of_getElem? hx)
    have hp := psum_bd hb hl4 k
    have hrow : (tab (psum l) (k + 1))[((k + 1 : Nat) : Int) - 1 |>.toNat]? = some (psum l k) := by
      rw [show (((k + 1 : Nat) : Int) - 1).toNat = k by omega]
      exact tab_get (by omega)
    (repeat' (first | (with_reducible refine w_seq ?_) | (with_reducible refine c_region ?_) | (with_reducible refine s_nil ?_) | (with_reducible refine q_then_n ?_) | ((with_reducible apply s_pure hF); exact rfl; exact rfl; exact rfl; (first | exact trivial | omega | exact ⟨Int.natCast_nonneg _, Int.ofNat_lt.2 (by assumption)⟩ | decide); clear hF a; intro a hF) | ((with_reducible apply s_loadF hF hM); exact rfl; exact rfl; (repeat (first | exact List.mem_cons_self | refine List.mem_cons_of_mem _ ?_)); exact rfl; exact rfl; (first | with_reducible assumption | (simp only [Int.toNat_natCast]; with_reducible assumption)); clear hF a; intro a hF) | ((with_reducible apply s_loadR hF hM); exact rfl; exact rfl; (repeat (first | exact List.mem_cons_self | refine List.mem_cons_of_mem _ ?_)); exact rfl; exact rfl; (first | with_reducible assumption | (simp only [Int.toNat_natCast]; with_reducible assumption)); clear hF a; intro a hF) | ((with_reducible apply s_lit hF hM); exact rfl; exact rfl; exact rfl; exact rfl; clear hF hM a; intro bl w a hM hF) | ((with_reducible apply s_app hF hM); exact rfl; exact rfl; exact rfl; exact rfl; (repeat (first | exact Kth.z | apply Kth.s)); exact rfl; exact rfl; exact rfl; exact rfl; omega; clear hF hM a; intro g cap w a hM hF; dsimp only [List.set] at hM) | (with_reducible refine w_skip ?_) | (with_reducible refine w_block ?_) | (with_reducible refine q_blk_n ?_) | ((with_reducible apply c_dec hF); exact rfl; all_goals intro hc; all_goals (try (exfalso; omega)))))
    rename_i g2 _ _ _
    have e : (tab (psum l) (k + 1 + 1)).map (Value.int .i64) = (tab (psum l) (k + 1)).map (Value.int .i64) ++ [.int .i64 (psum l k + x)] := by
      rw [tab_succ, psum_succ hx, List.map_append]; rfl
    refine ⟨m - 1, by omega, k + 1, _, _, by omega, hF.sub (by repeat (first | exact Sub.nil | refine Sub.cons rfl (by first | with_reducible rfl | (refine congrArg (Value.int _) ?_; omega) | exact rfl) ?_)), ?_⟩
    rw [e]
    exact hM
  · obtain rfl : k = l.length := by omega
    (repeat' (first | (with_reducible refine w_seq ?_) | (with_reducible refine c_region ?_) | (with_reducible refine s_nil ?_) | (with_reducible refine q_then_n ?_) | ((with_reducible apply s_pure hF); exact rfl; exact rfl; exact rfl; (first | exact trivial | omega | exact ⟨Int.natCast_nonneg _, Int.ofNat_lt.2 (by assumption)⟩ | decide); clear hF a; intro a hF) | (with_reducible refine w_exit ?_) | (with_reducible refine w_ret ?_) | (with_reducible refine q_then_x ?_) | (with_reducible refine q_blk_x ?_) | ((with_reducible apply c_false2 hF); exact rfl; (first | with_reducible rfl | (refine congrArg Value.bool ?_; focus (simp; done))))))
    (apply f_ret Try.results76 hF hM; (repeat (first | exact RL.nil | (apply RL.tmp; exact rfl) | (apply RL.cell; exact rfl; (repeat (first | exact List.mem_cons_self | refine List.mem_cons_of_mem _ ?_)); exact rfl))); refine Ret.mk hM.since ?_; dsimp only [resV])
    exact ⟨_, _, rfl, hM.rowFact List.mem_cons_self⟩
theorem ceUp_c (l : List Int) (S : Int) (n : Nat) (z : Int) (hz : z = n) (hn : n ≤ 20000) (hS : 0 ≤ S ∧ S ≤ 4096) (hb : ∀ x ∈ l, 0 ≤ x ∧ x ≤ 4096) (hl4 : l.length ≤ 4096) (a0 : Option Addr) (m c0 : Nat) (hm : l.length + 1 = m) {own : Nat → Prop} (W : World) (hl : ∀ b, own b → b < W.heap.size) (hv : Has own W (RdF (Value.int .i64) a0 (tab (psum l) (l.length + 1)))) :
    Calls Try.prog 77 ⟨[.slice a0 m c0, .int .i64 z, .int .i64 S]⟩ W (Ret W fun v _ => v = .int .i64 (up l S n)) := by
  have hM := (Mm.start hl).known hv
  subst hz
  have hx : (tab (psum l) (l.length + 1))[(min (n : Int) ((m : Int) - 1)).toNat]? = some (psum l (min n l.length)) := by
    rw [show (min (n : Int) ((m : Int) - 1)).toNat = min n l.length by omega]
    exact tab_get (by omega)
  obtain ⟨ad, rfl⟩ := rd_some hM (by (repeat (first | exact List.mem_cons_self | refine List.mem_cons_of_mem _ ?_))) hx
  have hp := psum_bd hb hl4 (min n l.length)
  have hmx : max 0 ((n : Int) - ((m : Int) - 1)) = ((n - l.length : Nat) : Int) := by omega
  have h1 : 0 ≤ ((n - l.length : Nat) : Int) * S := Int.mul_nonneg (by omega) hS.1
  have h2 : ((n - l.length : Nat) : Int) * S ≤ 20000 * 4096 := Int.mul_le_mul (by omega) hS.2 hS.1 (by decide)
  have hup : up l S n = psum l (min n l.length) + ((n - l.length : Nat) : Int) * S := by
    unfold up psum
    congr 2
    rcases Nat.le_total n l.length with h | h
    · rw [Nat.min_eq_left h]
    · rw [Nat.min_eq_right h, List.take_of_length_le (Nat.le_refl _), List.take_of_length_le h]
  rw [hup]
  generalize (((n - l.length : Nat) : Int)) = d at hmx h1 h2
  obtain ⟨Z, hZ⟩ : ∃ Z, d * S = Z := ⟨_, rfl⟩
  rw [hZ] at h1 h2 ⊢
  refine f_start Try.func77 rfl Try.ntmps77 rfl rfl ?_; intro a hF
  (repeat' (first | (with_reducible refine w_seq ?_) | (with_reducible refine c_region ?_) | (with_reducible refine s_nil ?_) | (with_reducible refine q_then_n ?_) | ((with_reducible apply s_pure hF); exact rfl; exact rfl; exact rfl; (first | exact trivial | omega | exact ⟨Int.natCast_nonneg _, Int.ofNat_lt.2 (by assumption)⟩ | decide); clear hF a; intro a hF) | ((with_reducible apply s_loadF hF hM); exact rfl; exact rfl; (repeat (first | exact List.mem_cons_self | refine List.mem_cons_of_mem _ ?_)); exact rfl; exact rfl; (first | with_reducible assumption | (simp only [Int.toNat_natCast]; with_reducible assumption)); clear hF a; intro a hF)))
  rw [hmx] at hF
  refine s_pure (v := .int .i64 Z) (p := -9223372036854775808 ≤ Z ∧ Z ≤ 9223372036854775807) hF rfl (by rw [← hZ]; rfl) rfl (by omega) ?_
  clear hF a
  intro a hF
  (repeat' (first | (with_reducible refine s_nil ?_) | (with_reducible refine q_then_n ?_) | ((with_reducible apply s_pure hF); exact rfl; exact rfl; exact rfl; (first | exact trivial | omega | exact ⟨Int.natCast_nonneg _, Int.ofNat_lt.2 (by assumption)⟩ | decide); clear hF a; intro a hF) | (with_reducible refine w_ret ?_)))
  (apply f_ret Try.results77 hF hM; (repeat (first | exact RL.nil | (apply RL.tmp; exact rfl) | (apply RL.cell; exact rfl; (repeat (first | exact List.mem_cons_self | refine List.mem_cons_of_mem _ ?_)); exact rfl))); refine Ret.mk hM.since ?_; dsimp only [resV])
end Go.Proofs.Ytabfhoipclbeeaa


/- certificate: Covers. -/
namespace Go.Proofs.Ytabfhoipclbeeaa
open Go.RowKit Go.Shelf C55 K57
namespace K57
def covAt (c : Ce) (t : P56.Tr) (k s : Nat) : Bool := decide (win t.W 0 s k ≤ vl c.A k) && decide (vl c.S k ≤ win t.C (P56.last t.C) s k)
def mostT (t : P56.Tr) : Nat := max t.W.length t.C.length
def covAll (c : Ce) (t : P56.Tr) : Bool := (List.range (max (mostT t) c.S.V.length + 1)).all fun k => (List.range (mostT t + 1)).all fun s => covAt c t k s
def covE (c : Ce) (t : P56.Tr) : Int := if chkE c ≠ 0 then chkE c else P56.check t
def covV (c : Ce) (t : P56.Tr) : Bool := decide (covE c t = 0 ∧ t.P = c.P ∧ t.L ≤ c.L ∧ t.A ≤ c.D ∧ c.S.S ≤ P56.last t.C) && covAll c t
theorem covAll_iff {c : Ce} {t : P56.Tr} : covAll c t = true ↔ ∀ k s : Nat, k ≤ max (mostT t) c.S.V.length → s ≤ mostT t → covAt c t k s = true := by
  unfold covAll
  rw [List.all_eq_true]
  refine ⟨fun h k s hk hs => ?_, fun h k hk => List.all_eq_true.2 fun s hs => h k s (by have := List.mem_range.1 hk; omega) (by have := List.mem_range.1 hs; omega)⟩
  exact List.all_eq_true.1 (h k (List.mem_range.2 (by omega))) s (List.mem_range.2 (by omega))
theorem covAll_bad {c : Ce} {t : P56.Tr} {k s : Nat} (hk : k ≤ max (mostT t) c.S.V.length) (hs : s ≤ mostT t) (h : covAt c t k s = false) : covAll c t = false := by
  cases hb : covAll c t with
  | false => rfl
  | true =>
    have := covAll_iff.1 hb k s hk hs
    rw [h] at this
    cases this
theorem chk_bok {c : Ce} (h : chkE c = 0) : BOk c ∧ bndV c = c.B := by
  unfold chkE at h
  split at h
  · omega
  · split at h
    · rename_i h1 h2
      exact ⟨bnd_ok.1 (by omega), h2⟩
    · omega
end K57
theorem at_vl {c : Cu} (ok : Ok c) {k : Nat} (h : k ≤ 1073741824) : atT c k = vl c k := by
  unfold atT vl
  rw [if_neg (by have := check_ok.2 ok; omega), show min (k : Int) 1073741824 = k by omega]
theorem up_rg {l : List Int} {S : Int} {n : Nat} (hn : n ≤ 20000) (hS : 0 ≤ S ∧ S ≤ 4096) (hb : ∀ x ∈ l, 0 ≤ x ∧ x ≤ 4096) (hl4 : l.length ≤ 4096) : 0 ≤ up l S n ∧ up l S n ≤ 98697216 := by
  have hp := psum_bd hb hl4 n
  have h1 : 0 ≤ ((n - l.length : Nat) : Int) * S := Int.mul_nonneg (by omega) hS.1
  have h2 : ((n - l.length : Nat) : Int) * S ≤ 20000 * 4096 := Int.mul_le_mul (by omega) hS.2 hS.1 (by decide)
  unfold up
  unfold psum at hp
  omega
abbrev trL (t : P56.Tr) (aw : Option Addr) (cw : Nat) (ac : Option Addr) (cc : Nat) : List Value := [.slice aw t.W.length cw, .slice ac t.C.length cc, .int .i64 t.P, .int .i64 t.L, .int .i64 t.A]
section
variable (c : Ce) (a1 a2 : Option Addr) (c1 c2 : Nat) (l1 : c.A.V.length ≤ 9223372036854775807) (m1 : c.A.V.length ≤ c1) (l2 : c.S.V.length ≤ 9223372036854775807) (m2 : c.S.V.length ≤ c2)
variable (t : P56.Tr) (aw ac : Option Addr) (cw cc : Nat) (lw : t.W.length ≤ 9223372036854775807) (mw : t.W.length ≤ cw) (lc : t.C.length ≤ 9223372036854775807) (mc : t.C.length ≤ cc)
include l1 m1 l2 m2 lw mw lc mc
section
variable {own : Nat → Prop} {w0 W : World} {bs : List BoxE} {L : List Ent} {Fs : List (World → Prop)} (bg bt bc : Nat) (e2 : Int)
  (hM : Mm own w0 (⟨bg, ⟨[.int .i64 e2]⟩, 32⟩ :: ⟨bt, ⟨trL t aw cw ac cc⟩, 42⟩ :: ⟨bc, ⟨ceL c a1 c1 a2 c2⟩, 29⟩ :: bs) L (RdF (Value.int .i64) ac t.C :: RdF (Value.int .i64) aw t.W :: RdF (Value.int .i64) a2 c.S.V :: RdF (Value.int .i64) a1 c.A.V :: Fs) W)
include hM
theorem cov1_ok (h : covE c t = 0) : Calls Try.prog 75 ⟨[.pointer (some ⟨bc, 0, none⟩), .pointer (some ⟨bt, 0, none⟩)]⟩ W (Rtn fun _ w' => Mm own w0 (⟨bg, ⟨[.int .i64 e2]⟩, 32⟩ :: ⟨bt, ⟨trL t aw cw ac cc⟩, 42⟩ :: ⟨bc, ⟨ceL c a1 c1 a2 c2⟩, 29⟩ :: bs) L (RdF (Value.int .i64) ac t.C :: RdF (Value.int .i64) aw t.W :: RdF (Value.int .i64) a2 c.S.V :: RdF (Value.int .i64) a1 c.A.V :: Fs) w') := by
  have h1 : chkE c = 0 := by
    unfold covE at h
    split at h
    · omega
    · omega
  have h2 : P56.check t = 0 := by
    unfold covE at h
    rw [if_neg (by omega)] at h
    exact h
  refine f_start Try.func75 rfl Try.ntmps75 rfl rfl ?_; intro a hF
  (repeat' (first | (with_reducible refine w_seq ?_) | (with_reducible refine c_region ?_) | (with_reducible refine s_nil ?_) | ((with_reducible apply s_call (f := 56) hF hM); exact rfl; exact rfl; exact rfl; exact rfl; exact rfl; exact (RetP.ok (ceChk_c c a1 a2 c1 c2 l1 m1 l2 m2 _ _ hM.lt (hM.facts (RdF (Value.int .i64) a1 c.A.V) (by (repeat (first | exact List.mem_cons_self | refine List.mem_cons_of_mem _ ?_)))) (hM.facts (RdF (Value.int .i64) a2 c.S.V) (by (repeat (first | exact List.mem_cons_self | refine List.mem_cons_of_mem _ ?_))))) h1); clear hF hM a; rintro v w a - - hM hF) | ((with_reducible apply s_call (f := 37) hF hM); exact rfl; exact rfl; exact rfl; exact rfl; exact rfl; exact (Ret.of (check_any t _ _ ⟨aw, ac, cw, cc, rfl, hM.fact (f := RdF (Value.int .i64) aw t.W) (by (repeat (first | exact List.mem_cons_self | refine List.mem_cons_of_mem _ ?_))), hM.fact (f := RdF (Value.int .i64) ac t.C) (by (repeat (first | exact List.mem_cons_self | refine List.mem_cons_of_mem _ ?_))), lw, lc, mw, mc⟩)); clear hF hM a; rintro v w a rfl - hM hF) | ((with_reducible apply s_call (f := 71) hF hM); exact rfl; exact rfl; exact rfl; exact rfl; exact rfl; exact (right_t _ _ hM.lt h2); clear hF hM a; rintro v w a - - hM hF) | (with_reducible refine q_then_n ?_) | ((with_reducible apply s_load hF hM); exact rfl; exact rfl; (repeat (first | exact List.mem_cons_self | refine List.mem_cons_of_mem _ ?_)); exact rfl; exact rfl; clear hF a; intro a hF)))
  (apply f_end Try.results75 hF hM; (repeat (first | exact RL.nil | (apply RL.tmp; exact rfl) | (apply RL.cell; exact rfl; (repeat (first | exact List.mem_cons_self | refine List.mem_cons_of_mem _ ?_)); exact rfl))); try dsimp only [resV])
  exact hM
theorem cov1_err (h : covE c t ≠ 0) : Calls Try.prog 75 ⟨[.pointer (some ⟨bc, 0, none⟩), .pointer (some ⟨bt, 0, none⟩)]⟩ W (Both (fun _ _ => False) fun p w' => p = failK (covE c t) ∧ Mm own w0 (⟨bg, ⟨[.int .i64 e2]⟩, 32⟩ :: ⟨bt, ⟨trL t aw cw ac cc⟩, 42⟩ :: ⟨bc, ⟨ceL c a1 c1 a2 c2⟩, 29⟩ :: bs) L (RdF (Value.int .i64) ac t.C :: RdF (Value.int .i64) aw t.W :: RdF (Value.int .i64) a2 c.S.V :: RdF (Value.int .i64) a1 c.A.V :: Fs) w') := by
  refine f_start Try.func75 rfl Try.ntmps75 rfl rfl ?_; intro a hF
  by_cases h1 : chkE c = 0
  · have h2 : covE c t = P56.check t := by unfold covE; rw [if_neg (by omega)]
    rw [h2] at h ⊢
    (repeat' (first | (with_reducible refine w_seq ?_) | (with_reducible refine c_region ?_) | (with_reducible refine s_nil ?_) | ((with_reducible apply s_call (f := 56) hF hM); exact rfl; exact rfl; exact rfl; exact rfl; exact rfl; exact (RetP.ok (ceChk_c c a1 a2 c1 c2 l1 m1 l2 m2 _ _ hM.lt (hM.facts (RdF (Value.int .i64) a1 c.A.V) (by (repeat (first | exact List.mem_cons_self | refine List.mem_cons_of_mem _ ?_)))) (hM.facts (RdF (Value.int .i64) a2 c.S.V) (by (repeat (first | exact List.mem_cons_self | refine List.mem_cons_of_mem _ ?_))))) h1); clear hF hM a; rintro v w a - - hM hF) | ((with_reducible apply s_call (f := 37) hF hM); exact rfl; exact rfl; exact rfl; exact rfl; exact rfl; exact (Ret.of (check_any t _ _ ⟨aw, ac, cw, cc, rfl, hM.fact (f := RdF (Value.int .i64) aw t.W) (by (repeat (first | exact List.mem_cons_self | refine List.mem_cons_of_mem _ ?_))), hM.fact (f := RdF (Value.int .i64) ac t.C) (by (repeat (first | exact List.mem_cons_self | refine List.mem_cons_of_mem _ ?_))), lw, lc, mw, mc⟩)); clear hF hM a; rintro v w a rfl - hM hF) | ((with_reducible apply s_callE (f := 71) hF hM); exact rfl; exact rfl; exact rfl; exact rfl; exact (right_f _ _ hM.lt h); clear hF hM a; intro w a hM hF) | (with_reducible refine q_then_n ?_) | ((with_reducible apply s_load hF hM); exact rfl; exact rfl; (repeat (first | exact List.mem_cons_self | refine List.mem_cons_of_mem _ ?_)); exact rfl; exact rfl; clear hF a; intro a hF)))
    refine f_panic hF ?_
    exact ⟨rfl, hM⟩
  · have h2 : covE c t = chkE c := by unfold covE; rw [if_pos h1]
    rw [h2]
    (repeat' (first | (with_reducible refine w_seq ?_) | (with_reducible refine c_region ?_) | ((with_reducible apply s_callE (f := 56) hF hM); exact rfl; exact rfl; exact rfl; exact rfl; exact (RetP.err (ceChk_c c a1 a2 c1 c2 l1 m1 l2 m2 _ _ hM.lt (hM.facts (RdF (Value.int .i64) a1 c.A.V) (by (repeat (first | exact List.mem_cons_self | refine List.mem_cons_of_mem _ ?_)))) (hM.facts (RdF (Value.int .i64) a2 c.S.V) (by (repeat (first | exact List.mem_cons_self | refine List.mem_cons_of_mem _ ?_))))) h1); clear hF hM a; intro w a hM hF) | (with_reducible refine q_then_p ?_) | ((with_reducible apply s_load hF hM); exact rfl; exact rfl; (repeat (first | exact List.mem_cons_self | refine List.mem_cons_of_mem _ ?_)); exact rfl; exact rfl; clear hF a; intro a hF)))
    refine f_panic hF ?_
    exact ⟨rfl, hM⟩
end
set_option maxHeartbeats 8000000 in
theorem covers_c (own : Nat → Prop) (W : World) (hl : ∀ b, own b → b < W.heap.size) (hA : Has own W (RdF (Value.int .i64) a1 c.A.V)) (hS : Has own W (RdF (Value.int .i64) a2 c.S.V)) (hW : Has own W (RdF (Value.int .i64) aw t.W)) (hC : Has own W (RdF (Value.int .i64) ac t.C)) :
    Calls Try.prog 34 ⟨[.agg ⟨ceL c a1 c1 a2 c2⟩, .agg ⟨trL t aw cw ac cc⟩]⟩ W (Ret W fun v _ => v = .tuple #[.bool (covV c t), .int .i64 (covE c t)]) := by
  have hM := ((((Mm.start hl).known hA).known hS).known hW).known hC
  refine f_start Try.func34 rfl Try.ntmps34 rfl rfl ?_; intro a hF
  (repeat (first | (with_reducible refine w_seq ?_) | (with_reducible refine c_region ?_) | (with_reducible refine s_nil ?_) | (with_reducible refine q_then_n ?_) | ((with_reducible apply s_pure hF); exact rfl; exact rfl; exact rfl; (first | exact trivial | omega | exact ⟨Int.natCast_nonneg _, Int.ofNat_lt.2 (by assumption)⟩ | decide); clear hF a; intro a hF) | ((with_reducible apply s_box hF hM); exact rfl; exact rfl; exact rfl; exact rfl; clear hF hM a; intro b w a hM hF)))
  rename_i bce _
  by_cases he : covE c t = 0
  case neg =>
    have hv : covV c t = false := by unfold covV; rw [decide_eq_false (fun h => he h.1)]; rfl
    rw [hv]
    (repeat' (first | (with_reducible refine w_seq ?_) | (with_reducible refine c_region ?_) | (with_reducible refine s_nil ?_) | ((with_reducible apply s_callM (f := 46) hF); exact rfl; exact rfl; exact rfl; exact rfl; exact rfl; exact (guardedM_err _ _ (covE c t) rfl hM (fun b2 W' h' => cov1_err c a1 a2 c1 c2 l1 m1 l2 m2 t aw ac cw cc lw mw lc mc b2 _ _ 0 h' he)); clear hF hM a; rintro v w a ⟨rfl, hM⟩ hF) | (with_reducible refine q_then_n ?_) | ((with_reducible apply s_pure hF); exact rfl; exact rfl; exact rfl; (first | exact trivial | omega | exact ⟨Int.natCast_nonneg _, Int.ofNat_lt.2 (by assumption)⟩ | decide); clear hF a; intro a hF) | (with_reducible refine w_ret ?_) | (with_reducible refine q_then_r ?_) | ((with_reducible apply c_true2 hF); exact rfl; (first | with_reducible rfl | (refine congrArg Value.bool ?_; focus (simp; done)))) | ((with_reducible apply s_skip hF); exact rfl; exact rfl; clear hF a; intro a hF) | ((fail_if_success ((with_reducible refine g_known true hF ?_ ?_); focus exact rfl)); (fail_if_success ((with_reducible refine g_known false hF ?_ ?_); focus exact rfl)); (with_reducible apply g_dec hF); exact rfl; exact rfl; all_goals (clear hF; intro hc hF); all_goals (try (exfalso; omega)))))
    (apply f_ret Try.results34 hF hM; (repeat (first | exact RL.nil | (apply RL.tmp; exact rfl) | (apply RL.cell; exact rfl; (repeat (first | exact List.mem_cons_self | refine List.mem_cons_of_mem _ ?_)); exact rfl))); refine Ret.mk hM.since ?_; dsimp only [resV])
  have hchk : chkE c = 0 := by
    unfold covE at he
    split at he
    · omega
    · omega
  have htk : P56.Ok t := by
    unfold covE at he
    rw [if_neg (by omega)] at he
    exact P56.check_ok.1 he
  obtain ⟨hbok, _⟩ := chk_bok hchk
  rw [he]
  by_cases hnum : t.P = c.P ∧ t.L ≤ c.L ∧ t.A ≤ c.D
  case neg =>
    have hv : covV c t = false := by unfold covV; rw [decide_eq_false (fun h => hnum ⟨h.2.1, h.2.2.1, h.2.2.2.1⟩)]; rfl
    rw [hv]
    (repeat' (first | (with_reducible refine w_seq ?_) | (with_reducible refine c_region ?_) | (with_reducible refine s_nil ?_) | ((with_reducible apply s_callM (f := 46) hF); exact rfl; exact rfl; exact rfl; exact rfl; exact rfl; exact (guardedM_ok _ _ rfl hM (fun b2 W' h' => cov1_ok c a1 a2 c1 c2 l1 m1 l2 m2 t aw ac cw cc lw mw lc mc b2 _ _ 0 h' he)); clear hF hM a; rintro v w a ⟨rfl, hM⟩ hF) | (with_reducible refine q_then_n ?_) | ((with_reducible apply s_pure hF); exact rfl; exact rfl; exact rfl; (first | exact trivial | omega | exact ⟨Int.natCast_nonneg _, Int.ofNat_lt.2 (by assumption)⟩ | decide); clear hF a; intro a hF) | ((with_reducible apply s_load hF hM); exact rfl; exact rfl; (repeat (first | exact List.mem_cons_self | refine List.mem_cons_of_mem _ ?_)); exact rfl; exact rfl; clear hF a; intro a hF) | (with_reducible refine w_ret ?_) | (with_reducible refine q_then_r ?_) | ((with_reducible apply c_true2 hF); exact rfl; (first | with_reducible rfl | (refine congrArg Value.bool ?_; focus (simp; done)))) | ((with_reducible apply s_skip hF); exact rfl; exact rfl; clear hF a; intro a hF) | ((fail_if_success ((with_reducible refine g_known true hF ?_ ?_); focus exact rfl)); (fail_if_success ((with_reducible refine g_known false hF ?_ ?_); focus exact rfl)); (with_reducible apply g_dec hF); exact rfl; exact rfl; all_goals (clear hF; intro hc hF); all_goals (try (exfalso; omega))) | ((with_reducible apply c_dec hF); exact rfl; all_goals intro hc; all_goals (try (exfalso; omega)))))
    all_goals (apply f_ret Try.results34 hF hM; (repeat (first | exact RL.nil | (apply RL.tmp; exact rfl) | (apply RL.cell; exact rfl; (repeat (first | exact List.mem_cons_self | refine List.mem_cons_of_mem _ ?_)); exact rfl))); refine Ret.mk hM.since ?_; dsimp only [resV])
  obtain ⟨hn1, hn2, hn3⟩ := hnum
  obtain ⟨nC, hnC⟩ : ∃ n, t.C.length = n := ⟨_, rfl⟩
  have hcl := htk.clen0
  have hcu := htk.clen
  have hwu := htk.wlen
  have hsu := hbok.S.l1
  have hlast : t.C[((t.C.length : Int) - 1).toNat]? = some (P56.last t.C) := by
    rw [show ((t.C.length : Int) - 1).toNat = t.C.length - 1 by omega]
    unfold P56.last
    rw [← List.getLast?_eq_getElem?]
    cases hC : t.C with
    | nil => rw [hC] at hcl; simp at hcl
    | cons x r => rw [List.getLast?_eq_some_getLast (by simp), List.getLastD_eq_getLast?, List.getLast?_eq_some_getLast (by simp)]; rfl
  have hlr := P56.last_nonneg htk.c
  obtain ⟨lst, hlst⟩ : ∃ x, P56.last t.C = x := ⟨_, rfl⟩
  obtain ⟨adc, rfl⟩ := rd_some hM (a := ac) (by (repeat (first | exact List.mem_cons_self | refine List.mem_cons_of_mem _ ?_))) hlast
  by_cases hsl : c.S.S ≤ P56.last t.C
  case neg =>
    have hv : covV c t = false := by unfold covV; rw [decide_eq_false (fun h => hsl h.2.2.2.2)]; rfl
    rw [hv]
    (repeat' (first | (with_reducible refine w_seq ?_) | (with_reducible refine c_region ?_) | (with_reducible refine s_nil ?_) | ((with_reducible apply s_callM (f := 46) hF); exact rfl; exact rfl; exact rfl; exact rfl; exact rfl; exact (guardedM_ok _ _ rfl hM (fun b2 W' h' => cov1_ok c a1 a2 c1 c2 l1 m1 l2 m2 t aw _ cw cc lw mw lc mc b2 _ _ 0 h' he)); clear hF hM a; rintro v w a ⟨rfl, hM⟩ hF) | (with_reducible refine q_then_n ?_) | ((with_reducible apply s_pure hF); exact rfl; exact rfl; exact rfl; (first | exact trivial | omega | exact ⟨Int.natCast_nonneg _, Int.ofNat_lt.2 (by assumption)⟩ | decide); clear hF a; intro a hF) | ((with_reducible apply s_load hF hM); exact rfl; exact rfl; (repeat (first | exact List.mem_cons_self | refine List.mem_cons_of_mem _ ?_)); exact rfl; exact rfl; clear hF a; intro a hF) | ((with_reducible apply s_loadF hF hM); exact rfl; exact rfl; (repeat (first | exact List.mem_cons_self | refine List.mem_cons_of_mem _ ?_)); exact rfl; exact rfl; (first | with_reducible assumption | (simp only [Int.toNat_natCast]; with_reducible assumption)); clear hF a; intro a hF) | (with_reducible refine w_skip ?_) | (with_reducible refine w_ret ?_) | (with_reducible refine q_then_r ?_) | ((fail_if_success ((with_reducible refine g_known true hF ?_ ?_); focus exact rfl)); (fail_if_success ((with_reducible refine g_known false hF ?_ ?_); focus exact rfl)); (with_reducible apply g_dec hF); exact rfl; exact rfl; all_goals (clear hF; intro hc hF); all_goals (try (exfalso; omega))) | ((with_reducible apply c_dec hF); exact rfl; all_goals intro hc; all_goals (try (exfalso; omega)))))
    all_goals (apply f_ret Try.results34 hF hM; (repeat (first | exact RL.nil | (apply RL.tmp; exact rfl) | (apply RL.cell; exact rfl; (repeat (first | exact List.mem_cons_self | refine List.mem_cons_of_mem _ ?_)); exact rfl))); refine Ret.mk hM.since ?_; dsimp only [resV])
  have hcv : covV c t = covAll c t := by unfold covV; rw [decide_eq_true ⟨he, hn1, hn2, hn3, hsl⟩]; rfl
  rw [hcv]
  (repeat' (first | (with_reducible refine w_seq ?_) | (with_reducible refine c_region ?_) | (with_reducible refine s_nil ?_) | ((with_reducible apply s_callM (f := 46) hF); exact rfl; exact rfl; exact rfl; exact rfl; exact rfl; exact (guardedM_ok _ _ rfl hM (fun b2 W' h' => cov1_ok c a1 a2 c1 c2 l1 m1 l2 m2 t aw _ cw cc lw mw lc mc b2 _ _ 0 h' he)); clear hF hM a; rintro v w a ⟨rfl, hM⟩ hF) | (with_reducible refine q_then_n ?_) | ((with_reducible apply s_pure hF); exact rfl; exact rfl; exact rfl; (first | exact trivial | omega | exact ⟨Int.natCast_nonneg _, Int.ofNat_lt.2 (by assumption)⟩ | decide); clear hF a; intro a hF) | ((with_reducible apply s_load hF hM); exact rfl; exact rfl; (repeat (first | exact List.mem_cons_self | refine List.mem_cons_of_mem _ ?_)); exact rfl; exact rfl; clear hF a; intro a hF) | ((with_reducible apply s_loadF hF hM); exact rfl; exact rfl; (repeat (first | exact List.mem_cons_self | refine List.mem_cons_of_mem _ ?_)); exact rfl; exact rfl; (first | with_reducible assumption | (simp only [Int.toNat_natCast]; with_reducible assumption)); clear hF a; intro a hF) | (with_reducible refine w_skip ?_) | ((fail_if_success ((with_reducible refine g_known true hF ?_ ?_); focus exact rfl)); (fail_if_success ((with_reducible refine g_known false hF ?_ ?_); focus exact rfl)); (with_reducible apply g_dec hF); exact rfl; exact rfl; all_goals (clear hF; intro hc hF); all_goals (try (exfalso; omega))) | ((with_reducible apply c_dec hF); exact rfl; all_goals intro hc; all_goals (try (exfalso; omega)))))
  refine c_draw (fun i => Nat.ble 8 i) hM ?_; clear hM; intro w hM
  (first | (refine t_pure (i := 0) hF rfl rfl rfl rfl (by kernel_rfl) hM.sm (fun _ _ _ h => h) ?_ ?_; (first | exact trivial | omega | decide); clear hF a; intro a hF))
  (first | (apply t_load (i := 1) hF rfl rfl rfl; (repeat (first | exact List.mem_cons_self | refine List.mem_cons_of_mem _ ?_)); exact rfl; exact rfl; kernel_rfl; exact hM.sm; exact (fun _ _ _ h => h); clear hF a; intro a hF))
  (first | (refine t_pure (i := 3) hF rfl rfl rfl rfl (by kernel_rfl) hM.sm (fun _ _ _ h => h) ?_ ?_; (first | exact trivial | omega | decide); clear hF a; intro a hF))
  (first | (apply t_load (i := 4) hF rfl rfl rfl; (repeat (first | exact List.mem_cons_self | refine List.mem_cons_of_mem _ ?_)); exact rfl; exact rfl; kernel_rfl; exact hM.sm; exact (fun _ _ _ h => h); clear hF a; intro a hF))
  refine t_one (i := 2) hF rfl (by kernel_rfl) rfl ?_
  intro K hK
  (apply x_call hF hM; exact rfl; exact rfl; exact rfl; exact rfl; exact (sums_c t.W htk.w htk.wlen _ _ _ _ hM.lt (hM.facts (RdF (Value.int .i64) aw t.W) (by (repeat (first | exact List.mem_cons_self | refine List.mem_cons_of_mem _ ?_))))); clear hF hM a; rintro v w a ⟨a8, c8, rfl, h8⟩ - hM hF)
  replace hM := hM.addFact h8
  refine hK _ _ (fun _ => (hM.sm.sub (fun x hx => by repeat (first | exact hx | refine List.mem_cons_of_mem _ ?_)) (fun _ h => by repeat (first | exact h | refine List.mem_cons_of_mem _ ?_)))) ?_; clear hK
  refine t_one (i := 5) hF rfl (by kernel_rfl) rfl ?_
  intro K hK
  (apply x_call hF hM; exact rfl; exact rfl; exact rfl; exact rfl; exact (sums_c t.C htk.c htk.clen _ _ _ _ hM.lt (hM.facts (RdF (Value.int .i64) (some adc) t.C) (by (repeat (first | exact List.mem_cons_self | refine List.mem_cons_of_mem _ ?_))))); clear hF hM a; rintro v w a ⟨a9, c9, rfl, h9⟩ - hM hF)
  replace hM := hM.addFact h9
  refine hK _ _ (fun _ => (hM.sm.sub (fun x hx => by repeat (first | exact hx | refine List.mem_cons_of_mem _ ?_)) (fun _ h => by repeat (first | exact h | refine List.mem_cons_of_mem _ ?_)))) ?_; clear hK
  (first | (refine t_pure (i := 6) hF rfl rfl rfl rfl (by kernel_rfl) (hM.sm.sub (fun x hx => by repeat (first | exact hx | refine List.mem_cons_of_mem _ ?_)) (fun _ h => by repeat (first | exact h | refine List.mem_cons_of_mem _ ?_))) (fun _ _ _ h => h) ?_ ?_; (first | exact trivial | omega | decide); clear hF a; intro a hF))
  (first | (refine t_pure (i := 7) hF rfl rfl rfl rfl (by kernel_rfl) (hM.sm.sub (fun x hx => by repeat (first | exact hx | refine List.mem_cons_of_mem _ ?_)) (fun _ h => by repeat (first | exact h | refine List.mem_cons_of_mem _ ?_))) (fun _ _ _ h => h) ?_ ?_; (first | exact trivial | omega | decide); clear hF a; intro a hF))
  refine t_done (by kernel_rfl) ?_
  (repeat' (first | (with_reducible refine w_seq ?_) | (with_reducible refine c_region ?_) | (with_reducible refine s_nil ?_) | (with_reducible refine q_then_n ?_) | ((with_reducible apply s_pure hF); exact rfl; exact rfl; exact rfl; (first | exact trivial | omega | exact ⟨Int.natCast_nonneg _, Int.ofNat_lt.2 (by assumption)⟩ | decide); clear hF a; intro a hF) | ((with_reducible apply s_load hF hM); exact rfl; exact rfl; (repeat (first | exact List.mem_cons_self | refine List.mem_cons_of_mem _ ?_)); exact rfl; exact rfl; clear hF a; intro a hF) | (with_reducible refine w_block ?_)))
  obtain ⟨M, hMM⟩ : ∃ M : Nat, mostT t = M := ⟨_, rfl⟩
  obtain ⟨N, hNN⟩ : ∃ N : Nat, max M c.S.V.length = N := ⟨_, rfl⟩
  have hM1 : max (t.W.length : Int) (t.C.length : Int) = (M : Int) := by unfold mostT at hMM; omega
  have hM4 : M ≤ 4096 := by unfold mostT at hMM; omega
  have hN4 : N ≤ 4096 := by omega
  rw [hM1] at hF
  refine c_loop (m := N + 1) (fun m a w' => ∃ (k : Nat), m + k = N + 1 ∧ (∀ k' s' : Nat, k' < k → s' ≤ M → covAt c t k' s' = true) ∧
    Fr 123 [] [(75, .int .i64 k), (74, .int .i64 ((N + 1 : Nat) : Int)), (11, .int .i64 M), (10, .func (.func 77) #[] #[]), (9, .slice a9 (t.C.length + 1) c9), (8, .slice a8 (t.W.length + 1) c8), (7, .int .i64 (P56.last t.C)), (2, .pointer (some ⟨bce, 0, none⟩))] a ∧
    Mm own W [⟨bce, ⟨ceL c a1 c1 a2 c2⟩, 29⟩] [] [RdF (Value.int .i64) a9 (tab (psum t.C) (t.C.length + 1)), RdF (Value.int .i64) a8 (tab (psum t.W) (t.W.length + 1)), RdF (Value.int .i64) a2 c.S.V, RdF (Value.int .i64) a1 c.A.V] w')
    ⟨0, by omega, (fun k' s' h => absurd h (by omega)), hF.sub (by repeat (first | exact Sub.nil | refine Sub.cons rfl (by first | with_reducible rfl | (refine congrArg (Value.int _) ?_; omega) | exact rfl) ?_)), hM.sub (.cons _ (.refl _)) (.refl _) (by intro f hf; simp only [List.mem_cons, List.not_mem_nil, or_false] at hf; (repeat (rcases hf with rfl | hf; · (repeat (first | exact List.mem_cons_self | refine List.mem_cons_of_mem _ ?_)))); first | (subst hf; (repeat (first | exact List.mem_cons_self | refine List.mem_cons_of_mem _ ?_)); done) | (repeat (first | exact hf | refine List.mem_cons_of_mem _ ?_)))⟩ ?_
  clear hF hM a
  rintro m a w' ⟨k, hm, hall, hF, hM⟩
  by_cases hk : k < N + 1
  · have hka := at_vl hbok.A (k := k) (by omega)
    have hks := at_vl hbok.S (k := k) (by omega)
    have hra := vl_rg hbok.A (k := k) (by omega)
    have hrs := vl_rg hbok.S (k := k) (by omega)
    (repeat' (first | (with_reducible refine w_seq ?_) | (with_reducible refine c_region ?_) | (with_reducible refine s_nil ?_) | (with_reducible refine q_then_n ?_) | ((with_reducible apply s_pure hF); exact rfl; exact rfl; exact rfl; (first | exact trivial | omega | exact ⟨Int.natCast_nonneg _, Int.ofNat_lt.2 (by assumption)⟩ | decide); clear hF a; intro a hF) | (with_reducible refine w_skip ?_) | (with_reducible refine w_block ?_) | ((with_reducible apply c_dec hF); exact rfl; all_goals intro hc; all_goals (try (exfalso; omega)))))
    refine c_draw (fun i => Nat.ble 10 i) hM ?_; clear hM; intro w hM
    (first | (refine t_pure (i := 0) hF rfl rfl rfl rfl (by kernel_rfl) hM.sm (fun _ _ _ h => h) ?_ ?_; (first | exact trivial | omega | decide); clear hF a; intro a hF))
    (first | (apply t_load (i := 1) hF rfl rfl rfl; (repeat (first | exact List.mem_cons_self | refine List.mem_cons_of_mem _ ?_)); exact rfl; exact rfl; kernel_rfl; exact hM.sm; exact (fun _ _ _ h => h); clear hF a; intro a hF))
    (first | (refine t_pure (i := 2) hF rfl rfl rfl rfl (by kernel_rfl) hM.sm (fun _ _ _ h => h) ?_ ?_; (first | exact trivial | omega | decide); clear hF a; intro a hF))
    (first | (refine t_pure (i := 4) hF rfl rfl rfl rfl (by kernel_rfl) hM.sm (fun _ _ _ h => h) ?_ ?_; (first | exact trivial | omega | decide); clear hF a; intro a hF))
    (first | (apply t_load (i := 5) hF rfl rfl rfl; (repeat (first | exact List.mem_cons_self | refine List.mem_cons_of_mem _ ?_)); exact rfl; exact rfl; kernel_rfl; exact hM.sm; exact (fun _ _ _ h => h); clear hF a; intro a hF))
    (first | (refine t_pure (i := 6) hF rfl rfl rfl rfl (by kernel_rfl) hM.sm (fun _ _ _ h => h) ?_ ?_; (first | exact trivial | omega | decide); clear hF a; intro a hF))
    refine t_one (i := 3) hF rfl (by kernel_rfl) rfl ?_
    intro K hK
    (apply x_call hF hM; exact rfl; exact rfl; exact rfl; exact rfl; exact (At_c c.A k _ _ _ hM.lt (isCu_mk (hM.facts (RdF (Value.int .i64) a1 c.A.V) (by (repeat (first | exact List.mem_cons_self | refine List.mem_cons_of_mem _ ?_)))) l1 m1)); clear hF hM a; rintro v w a rfl - hM hF)
    rw [hka] at hF
    refine hK _ _ (fun _ => (hM.sm.sub (fun x hx => by repeat (first | exact hx | refine List.mem_cons_of_mem _ ?_)) (fun _ h => by repeat (first | exact h | refine List.mem_cons_of_mem _ ?_)))) ?_; clear hK
    refine t_one (i := 7) hF rfl (by kernel_rfl) rfl ?_
    intro K hK
    (apply x_call hF hM; exact rfl; exact rfl; exact rfl; exact rfl; exact (At_c c.S k _ _ _ hM.lt (isCu_mk (hM.facts (RdF (Value.int .i64) a2 c.S.V) (by (repeat (first | exact List.mem_cons_self | refine List.mem_cons_of_mem _ ?_)))) l2 m2)); clear hF hM a; rintro v w a rfl - hM hF)
    rw [hks] at hF
    refine hK _ _ (fun _ => (hM.sm.sub (fun x hx => by repeat (first | exact hx | refine List.mem_cons_of_mem _ ?_)) (fun _ h => by repeat (first | exact h | refine List.mem_cons_of_mem _ ?_)))) ?_; clear hK
    (first | (refine t_pure (i := 8) hF rfl rfl rfl rfl (by kernel_rfl) (hM.sm.sub (fun x hx => by repeat (first | exact hx | refine List.mem_cons_of_mem _ ?_)) (fun _ h => by repeat (first | exact h | refine List.mem_cons_of_mem _ ?_))) (fun _ _ _ h => h) ?_ ?_; (first | exact trivial | omega | decide); clear hF a; intro a hF))
    (first | (refine t_pure (i := 9) hF rfl rfl rfl rfl (by kernel_rfl) (hM.sm.sub (fun x hx => by repeat (first | exact hx | refine List.mem_cons_of_mem _ ?_)) (fun _ h => by repeat (first | exact h | refine List.mem_cons_of_mem _ ?_))) (fun _ _ _ h => h) ?_ ?_; (first | exact trivial | omega | decide); clear hF a; intro a hF))
    refine t_done (by kernel_rfl) ?_
    (repeat' (first | (with_reducible refine w_seq ?_) | (with_reducible refine c_region ?_) | (with_reducible refine s_nil ?_) | (with_reducible refine q_then_n ?_) | ((with_reducible apply s_pure hF); exact rfl; exact rfl; exact rfl; (first | exact trivial | omega | exact ⟨Int.natCast_nonneg _, Int.ofNat_lt.2 (by assumption)⟩ | decide); clear hF a; intro a hF) | (with_reducible refine w_block ?_)))
    refine c_loop (m := M + 1) (fun z a w' => ∃ (s : Nat), z + s = M + 1 ∧ (∀ s' : Nat, s' < s → covAt c t k s' = true) ∧
      Fr 123 [] [(88, .int .i64 s), (87, .int .i64 ((M + 1 : Nat) : Int)), (75, .int .i64 k), (74, .int .i64 ((N + 1 : Nat) : Int)), (14, .int .i64 (vl c.S k)), (13, .int .i64 (vl c.A k)), (12, .int .i64 k), (11, .int .i64 M), (10, .func (.func 77) #[] #[]), (9, .slice a9 (t.C.length + 1) c9), (8, .slice a8 (t.W.length + 1) c8), (7, .int .i64 (P56.last t.C)), (2, .pointer (some ⟨bce, 0, none⟩))] a ∧
      Mm own W [⟨bce, ⟨ceL c a1 c1 a2 c2⟩, 29⟩] [] [RdF (Value.int .i64) a9 (tab (psum t.C) (t.C.length + 1)), RdF (Value.int .i64) a8 (tab (psum t.W) (t.W.length + 1)), RdF (Value.int .i64) a2 c.S.V, RdF (Value.int .i64) a1 c.A.V] w')
      ⟨0, by omega, (fun s' h => absurd h (by omega)), hF.sub (by repeat (first | exact Sub.nil | refine Sub.cons rfl (by first | with_reducible rfl | (refine congrArg (Value.int _) ?_; omega) | exact rfl) ?_)), hM⟩ ?_
    clear hF hM a
    rintro z a w' ⟨s, hz, hin, hF, hM⟩
    by_cases hs : s < M + 1
    · have u1 := up_rg (l := t.W) (S := 0) (n := s + k) (by omega) (by omega) htk.w hwu
      have u2 := up_rg (l := t.W) (S := 0) (n := s) (by omega) (by omega) htk.w hwu
      have u3 := up_rg (l := t.C) (S := P56.last t.C) (n := s + k) (by omega) hlr htk.c hcu
      have u4 := up_rg (l := t.C) (S := P56.last t.C) (n := s) (by omega) hlr htk.c hcu
      obtain ⟨U1, hU1⟩ : ∃ x, up t.W 0 (s + k) = x := ⟨_, rfl⟩
      obtain ⟨U2, hU2⟩ : ∃ x, up t.W 0 s = x := ⟨_, rfl⟩
      obtain ⟨U3, hU3⟩ : ∃ x, up t.C (P56.last t.C) (s + k) = x := ⟨_, rfl⟩
      obtain ⟨U4, hU4⟩ : ∃ x, up t.C (P56.last t.C) s = x := ⟨_, rfl⟩
      obtain ⟨VA, hVA⟩ : ∃ x, vl c.A k = x := ⟨_, rfl⟩
      obtain ⟨VS, hVS⟩ : ∃ x, vl c.S k = x := ⟨_, rfl⟩
      have hw1 : win t.W 0 s k = U1 - U2 := by unfold win; rw [hU1, hU2]
      have hw2 : win t.C (P56.last t.C) s k = U3 - U4 := by unfold win; rw [hU3, hU4]
      rw [hU1] at u1
      rw [hU2] at u2
      rw [hU3] at u3
      rw [hU4] at u4
      rw [hVA, hVS] at hF
      (repeat' (first | (with_reducible refine w_seq ?_) | (with_reducible refine c_region ?_) | (with_reducible refine s_nil ?_) | (with_reducible refine q_then_n ?_) | ((with_reducible apply s_pure hF); exact rfl; exact rfl; exact rfl; (first | exact trivial | omega | exact ⟨Int.natCast_nonneg _, Int.ofNat_lt.2 (by assumption)⟩ | decide); clear hF a; intro a hF) | (with_reducible refine w_skip ?_) | (with_reducible refine w_block ?_) | ((with_reducible apply c_dec hF); exact rfl; all_goals intro hc; all_goals (try (exfalso; omega)))))
      (((with_reducible apply s_callc (f := 77) hF hM); exact rfl; exact rfl; exact rfl; exact rfl; exact rfl; exact rfl; exact rfl; exact (ceUp_c t.W 0 (s + k) _ (by omega) (by omega) (by omega) htk.w hwu _ _ _ rfl _ hM.lt (hM.facts (RdF (Value.int .i64) a8 (tab (psum t.W) (t.W.length + 1))) (by (repeat (first | with_reducible exact List.mem_cons_self | refine List.mem_cons_of_mem _ ?_))))); clear hF hM a; rintro v w a rfl - hM hF; rw [hU1] at hF))
      (repeat (first | ((with_reducible apply s_pure hF); exact rfl; exact rfl; exact rfl; (first | exact trivial | omega | exact ⟨Int.natCast_nonneg _, Int.ofNat_lt.2 (by assumption)⟩ | decide); clear hF a; intro a hF)))
      (((with_reducible apply s_callc (f := 77) hF hM); exact rfl; exact rfl; exact rfl; exact rfl; exact rfl; exact rfl; exact rfl; exact (ceUp_c t.W 0 s _ rfl (by omega) (by omega) htk.w hwu _ _ _ rfl _ hM.lt (hM.facts (RdF (Value.int .i64) a8 (tab (psum t.W) (t.W.length + 1))) (by (repeat (first | with_reducible exact List.mem_cons_self | refine List.mem_cons_of_mem _ ?_))))); clear hF hM a; rintro v w a rfl - hM hF; rw [hU2] at hF))
      by_cases hb1 : U1 - U2 ≤ VA
      case neg =>
        (repeat' (first | (with_reducible refine w_seq ?_) | (with_reducible refine c_region ?_) | (with_reducible refine s_nil ?_) | (with_reducible refine q_then_n ?_) | ((with_reducible apply s_pure hF); exact rfl; exact rfl; exact rfl; (first | exact trivial | omega | exact ⟨Int.natCast_nonneg _, Int.ofNat_lt.2 (by assumption)⟩ | decide); clear hF a; intro a hF) | (with_reducible refine w_ret ?_) | (with_reducible refine q_then_r ?_) | (with_reducible refine q_blk_r ?_) | ((with_reducible apply c_true2 hF); exact rfl; (first | with_reducible rfl | (refine congrArg Value.bool ?_; focus (simp; done)))) | ((with_reducible apply s_skip hF); exact rfl; exact rfl; clear hF a; intro a hF) | ((fail_if_success ((with_reducible refine g_known true hF ?_ ?_); focus exact rfl)); (fail_if_success ((with_reducible refine g_known false hF ?_ ?_); focus exact rfl)); (with_reducible apply g_dec hF); exact rfl; exact rfl; all_goals (clear hF; intro hc hF); all_goals (try (exfalso; omega)))))
        (apply f_ret Try.results34 hF hM; (repeat (first | exact RL.nil | (apply RL.tmp; exact rfl) | (apply RL.cell; exact rfl; (repeat (first | exact List.mem_cons_self | refine List.mem_cons_of_mem _ ?_)); exact rfl))); refine Ret.mk hM.since ?_; dsimp only [resV])
        have q3 : covAt c t k s = false := by
          unfold covAt
          rw [decide_eq_false (show ¬ win t.W 0 s k ≤ vl c.A k by rw [hw1, hVA]; exact hb1)]
          rfl
        rw [covAll_bad (show k ≤ max (mostT t) c.S.V.length by omega) (show s ≤ mostT t by omega) q3]
      (repeat (first | ((with_reducible apply s_pure hF); exact rfl; exact rfl; exact rfl; (first | exact trivial | omega | exact ⟨Int.natCast_nonneg _, Int.ofNat_lt.2 (by assumption)⟩ | decide); clear hF a; intro a hF)))
      rw [show decide (VA < U1 - U2) = false from decide_eq_false (by omega)] at hF
      (repeat (first | ((with_reducible apply s_pure hF); exact rfl; exact rfl; exact rfl; (first | exact trivial | omega | exact ⟨Int.natCast_nonneg _, Int.ofNat_lt.2 (by assumption)⟩ | decide); clear hF a; intro a hF)))
      (((with_reducible apply s_callc (f := 77) hF hM); exact rfl; exact rfl; exact rfl; exact rfl; exact rfl; exact rfl; exact rfl; exact (ceUp_c t.C (P56.last t.C) (s + k) _ (by omega) (by omega) hlr htk.c hcu _ _ _ rfl _ hM.lt (hM.facts (RdF (Value.int .i64) a9 (tab (psum t.C) (t.C.length + 1))) (by (repeat (first | with_reducible exact List.mem_cons_self | refine List.mem_cons_of_mem _ ?_))))); clear hF hM a; rintro v w a rfl - hM hF; rw [hU3] at hF))
      (repeat (first | ((with_reducible apply s_pure hF); exact rfl; exact rfl; exact rfl; (first | exact trivial | omega | exact ⟨Int.natCast_nonneg _, Int.ofNat_lt.2 (by assumption)⟩ | decide); clear hF a; intro a hF)))
      (((with_reducible apply s_callc (f := 77) hF hM); exact rfl; exact rfl; exact rfl; exact rfl; exact rfl; exact rfl; exact rfl; exact (ceUp_c t.C (P56.last t.C) s _ rfl (by omega) hlr htk.c hcu _ _ _ rfl _ hM.lt (hM.facts (RdF (Value.int .i64) a9 (tab (psum t.C) (t.C.length + 1))) (by (repeat (first | with_reducible exact List.mem_cons_self | refine List.mem_cons_of_mem _ ?_))))); clear hF hM a; rintro v w a rfl - hM hF; rw [hU4] at hF))
      by_cases hb2 : VS ≤ U3 - U4
      case neg =>
        (repeat' (first | (with_reducible refine w_seq ?_) | (with_reducible refine c_region ?_) | (with_reducible refine s_nil ?_) | (with_reducible refine q_then_n ?_) | ((with_reducible apply s_pure hF); exact rfl; exact rfl; exact rfl; (first | exact trivial | omega | exact ⟨Int.natCast_nonneg _, Int.ofNat_lt.2 (by assumption)⟩ | decide); clear hF a; intro a hF) | (with_reducible refine w_ret ?_) | (with_reducible refine q_then_r ?_) | (with_reducible refine q_blk_r ?_) | ((with_reducible apply c_dec hF); exact rfl; all_goals intro hc; all_goals (try (exfalso; omega)))))
        (apply f_ret Try.results34 hF hM; (repeat (first | exact RL.nil | (apply RL.tmp; exact rfl) | (apply RL.cell; exact rfl; (repeat (first | exact List.mem_cons_self | refine List.mem_cons_of_mem _ ?_)); exact rfl))); refine Ret.mk hM.since ?_; dsimp only [resV])
        have q3 : covAt c t k s = false := by
          unfold covAt
          rw [decide_eq_false (show ¬ vl c.S k ≤ win t.C (P56.last t.C) s k by rw [hw2, hVS]; exact hb2), Bool.and_false]
        rw [covAll_bad (show k ≤ max (mostT t) c.S.V.length by omega) (show s ≤ mostT t by omega) q3]
      (repeat' (first | (with_reducible refine c_region ?_) | (with_reducible refine s_nil ?_) | (with_reducible refine q_then_n ?_) | ((with_reducible apply s_pure hF); exact rfl; exact rfl; exact rfl; (first | exact trivial | omega | exact ⟨Int.natCast_nonneg _, Int.ofNat_lt.2 (by assumption)⟩ | decide); clear hF a; intro a hF) | (with_reducible refine w_skip ?_) | (with_reducible refine q_blk_n ?_) | ((with_reducible apply c_dec hF); exact rfl; all_goals intro hc; all_goals (try (exfalso; omega)))))
      rw [← hVA, ← hVS] at hF
      refine ⟨z - 1, by omega, s + 1, by omega, fun s' h => ?_, hF.sub (by repeat (first | exact Sub.nil | refine Sub.cons rfl (by first | with_reducible rfl | (refine congrArg (Value.int _) ?_; omega) | exact rfl) ?_)), hM⟩
      by_cases e : s' = s
      · rw [e]
        unfold covAt
        rw [decide_eq_true (show win t.W 0 s k ≤ vl c.A k by rw [hw1, hVA]; exact hb1), decide_eq_true (show vl c.S k ≤ win t.C (P56.last t.C) s k by rw [hw2, hVS]; exact hb2)]
        rfl
      · exact hin s' (by omega)
    · obtain rfl : s = M + 1 := by omega
      (repeat' (first | (with_reducible refine w_seq ?_) | (with_reducible refine c_region ?_) | (with_reducible refine s_nil ?_) | (with_reducible refine q_then_n ?_) | ((with_reducible apply s_pure hF); exact rfl; exact rfl; exact rfl; (first | exact trivial | omega | exact ⟨Int.natCast_nonneg _, Int.ofNat_lt.2 (by assumption)⟩ | decide); clear hF a; intro a hF) | (with_reducible refine w_exit ?_) | (with_reducible refine q_then_x ?_) | (with_reducible refine q_blk_n ?_) | (with_reducible refine q_blk_x ?_) | ((with_reducible apply c_false2 hF); exact rfl; (first | with_reducible rfl | (refine congrArg Value.bool ?_; focus (simp; done))))))
      refine ⟨m - 1, by omega, k + 1, by omega, fun k' s' h1 h2 => ?_, hF.sub (by repeat (first | exact Sub.nil | refine Sub.cons rfl (by first | with_reducible rfl | (refine congrArg (Value.int _) ?_; omega) | exact rfl) ?_)), hM⟩
      by_cases e : k' = k
      · rw [e]; exact hin s' (by omega)
      · exact hall k' s' (by omega) h2
  · obtain rfl : k = N + 1 := by omega
    (repeat' (first | (with_reducible refine w_seq ?_) | (with_reducible refine c_region ?_) | (with_reducible refine s_nil ?_) | (with_reducible refine q_then_n ?_) | ((with_reducible apply s_pure hF); exact rfl; exact rfl; exact rfl; (first | exact trivial | omega | exact ⟨Int.natCast_nonneg _, Int.ofNat_lt.2 (by assumption)⟩ | decide); clear hF a; intro a hF) | (with_reducible refine w_exit ?_) | (with_reducible refine w_ret ?_) | (with_reducible refine q_then_x ?_) | (with_reducible refine q_blk_x ?_) | ((with_reducible apply c_false2 hF); exact rfl; (first | with_reducible rfl | (refine congrArg Value.bool ?_; focus (simp; done))))))
    (apply f_ret Try.results34 hF hM; (repeat (first | exact RL.nil | (apply RL.tmp; exact rfl) | (apply RL.cell; exact rfl; (repeat (first | exact List.mem_cons_self | refine List.mem_cons_of_mem _ ?_)); exact rfl))); refine Ret.mk hM.since ?_; dsimp only [resV])
    rw [covAll_iff.2 fun k' s' h1 h2 => hall k' s' (by omega) (by omega)]
end
end Go.Proofs.Ytabfhoipclbeeaa


/- certificate: growth; slices.Repeat of a number. -/
namespace Go.Proofs.Ytabfhoipclbeeaa
open Go.RowKit Go.Shelf C55 K57
set_option maxRecDepth 20000 in
theorem mul64_c (c : Nat) (hc : c < 4294967296) (W : World) : Calls Try.prog 125 ⟨[.int .u64 1, .int .u64 c]⟩ W (Ret W fun v _ => v = .tuple #[.int .u64 0, .int .u64 c]) := by
  have hM : Mm (fun _ => False) W [] [] [] W := Mm.start (fun _ h => h.elim)
  refine f_start Try.func125 rfl Try.ntmps125 rfl rfl ?_; intro a hF
  (repeat (first | (with_reducible refine w_seq ?_) | (with_reducible refine c_region ?_) | (with_reducible refine s_nil ?_) | ((with_reducible apply s_and32 hF); exact rfl; exact rfl; exact rfl; exact rfl; omega; clear hF a; intro a hF) | ((with_reducible apply s_shr32 hF); exact rfl; exact rfl; exact rfl; exact rfl; exact rfl; omega; clear hF a; intro a hF) | (with_reducible refine q_then_n ?_) | ((with_reducible apply s_pure hF); exact rfl; exact rfl; exact rfl; (first | exact trivial | omega | exact ⟨Int.natCast_nonneg _, Int.ofNat_lt.2 (by assumption)⟩ | decide); clear hF a; intro a hF) | (with_reducible refine w_ret ?_)))
  (apply f_ret Try.results125 hF hM; (repeat (first | exact RL.nil | (apply RL.tmp; exact rfl) | (apply RL.cell; exact rfl; (repeat (first | exact List.mem_cons_self | refine List.mem_cons_of_mem _ ?_)); exact rfl))); refine Ret.mk hM.since ?_; dsimp only [resV])
  simp
  omega
set_option maxRecDepth 20000 in
theorem mul_c (c : Nat) (hc : c < 4294967296) (x q : Int) (hx : x = 1) (hq : q = c) (W : World) : Calls Try.prog 98 ⟨[.int .u64 x, .int .u64 q]⟩ W (Ret W fun v _ => v = .tuple #[.int .u64 0, .int .u64 c]) := by
  have hM : Mm (fun _ => False) W [] [] [] W := Mm.start (fun _ h => h.elim)
  subst hx hq
  refine f_start Try.func98 rfl Try.ntmps98 rfl rfl ?_; intro a hF
  (repeat' (first | (with_reducible refine w_seq ?_) | (with_reducible refine c_region ?_) | (with_reducible refine s_nil ?_) | ((with_reducible apply s_call (f := 125) hF hM); exact rfl; exact rfl; exact rfl; exact rfl; exact rfl; exact (mul64_c c hc _); clear hF hM a; rintro v w a rfl - hM hF) | (with_reducible refine q_then_n ?_) | ((with_reducible apply s_pure hF); exact rfl; exact rfl; exact rfl; (first | exact trivial | omega | exact ⟨Int.natCast_nonneg _, Int.ofNat_lt.2 (by assumption)⟩ | decide); clear hF a; intro a hF) | (with_reducible refine w_skip ?_) | (with_reducible refine w_ret ?_) | ((with_reducible apply c_false2 hF); exact rfl; (first | with_reducible rfl | (refine congrArg Value.bool ?_; focus (simp; done))))))
  (apply f_ret Try.results98 hF hM; (repeat (first | exact RL.nil | (apply RL.tmp; exact rfl) | (apply RL.cell; exact rfl; (repeat (first | exact List.mem_cons_self | refine List.mem_cons_of_mem _ ?_)); exact rfl))); refine Ret.mk hM.since ?_; dsimp only [resV])
/-- n numbers x, the rest zero. -/
def mixI (x : Int) (c n : Nat) : List Int := List.replicate n x ++ List.replicate (c - n) 0
theorem mixI_step {x : Int} {c n q : Nat} (hq : n + q ≤ c) :
    ((mixI x c n).map (Value.int .i64)).take n ++ (List.replicate q x).map (Value.int .i64) ++ ((mixI x c n).map (Value.int .i64)).drop (n + ((List.replicate q x).map (Value.int .i64)).length) = (mixI x c (n + q)).map (Value.int .i64) := by
  rw [List.length_map, List.length_replicate, ← List.map_take, ← List.map_drop, ← List.map_append, ← List.map_append]
  congr 1
  unfold mixI
  rw [List.take_left' (by simp), List.drop_append, List.length_replicate, List.drop_eq_nil_of_le (by simp), List.nil_append, show n + q - n = q by omega, List.drop_replicate, List.replicate_append_replicate]
  congr 2
  omega
theorem mixI_pre {x : Int} {c n q : Nat} (hq : q ≤ n) {i : Nat} {v : Value} (h : ((List.replicate q x).map (Value.int .i64))[i]? = some v) : ((mixI x c n).map (Value.int .i64))[i]? = some v := by
  have e : mixI x c n = List.replicate q x ++ (List.replicate (n - q) x ++ List.replicate (c - n) 0) := by
    unfold mixI
    rw [← List.append_assoc]
    congr 1
    rw [List.replicate_append_replicate]
    congr 1
    omega
  rw [e, List.map_append, List.getElem?_append_left (List.getElem?_eq_some_iff.1 h).1]
  exact h
set_option maxRecDepth 20000 in
set_option maxHeartbeats 1000000 in
theorem repeatI_c (x : Int) (c : Nat) (z : Int) (hz : z = c) (hc0 : 1 ≤ c) (hc : c ≤ 1000000) (a0 : Option Addr) (c1 : Nat) (own : Nat → Prop) (W : World) (hl : ∀ b, own b → b < W.heap.size) (hv : Has own W (RdF (Value.int .i64) a0 [x])) :
    Calls Try.prog 59 ⟨[.slice a0 1 c1, .int .i64 z]⟩ W (Ret W fun v w' => ∃ a' c', v = .slice a' c c' ∧ Owns w' W.heap.size [⟨3, 1, .slice a' c c', c, (List.replicate c x).map (Value.int .i64)⟩]) := by
  subst hz
  have hM := (Mm.start hl).known hv
  refine f_start Try.func59 rfl Try.ntmps59 rfl rfl ?_; intro a hF
  (repeat' (first | (with_reducible refine w_seq ?_) | (with_reducible refine c_region ?_) | (with_reducible refine s_nil ?_) | ((with_reducible apply s_call (f := 98) hF hM); exact rfl; exact rfl; exact rfl; exact rfl; exact rfl; exact (mul_c c (by omega) _ _ (by omega) (by omega) _); clear hF hM a; rintro v w a rfl - hM hF) | (with_reducible refine q_then_n ?_) | ((with_reducible apply s_pure hF); exact rfl; exact rfl; exact rfl; (first | exact trivial | omega | exact ⟨Int.natCast_nonneg _, Int.ofNat_lt.2 (by assumption)⟩ | decide); clear hF a; intro a hF) | (with_reducible refine w_skip ?_) | ((with_reducible apply c_false2 hF); exact rfl; (first | with_reducible rfl | (refine congrArg Value.bool ?_; focus (simp; done)))) | ((with_reducible apply c_dec hF); exact rfl; all_goals intro hc; all_goals (try (exfalso; omega)))))
  apply s_make c hF hM
  iterate 5 exact rfl
  · omega
  · omega
  · omega
  clear hF hM a
  intro b w a hM hF
  obtain ⟨ad, rfl⟩ := rd_some hM (xs := [x]) (k := 0) (by (repeat (first | exact List.mem_cons_self | refine List.mem_cons_of_mem _ ?_))) rfl
  (repeat (first | (with_reducible refine w_seq ?_) | (with_reducible refine c_region ?_) | (with_reducible refine s_nil ?_) | (with_reducible refine q_then_n ?_) | ((with_reducible apply s_pure hF); exact rfl; exact rfl; exact rfl; (first | exact trivial | omega | exact ⟨Int.natCast_nonneg _, Int.ofNat_lt.2 (by assumption)⟩ | decide); clear hF a; intro a hF)))
  refine s_op hF rfl fun K hK => ?_
  have hz : List.replicate c (Value.int .i64 0) = (mixI x c 0).map (Value.int .i64) := by
    unfold mixI
    rw [List.replicate_zero, List.nil_append, Nat.sub_zero]
    simp
  rw [hz] at hM
  have h1c : Nat.min 1 c = 1 := Nat.min_eq_left hc0
  refine e_copyR hF hM (cs := (List.replicate 1 x).map (Value.int .i64)) (off := 0) rfl rfl rfl ?_ .z ?_ ?_ ?_ ?_
  · intro v hv
    obtain ⟨y, _, rfl⟩ := List.mem_map.1 hv
    rfl
  · rw [h1c]; simp
  · intro i v hi
    have hrd := hM.fact (f := RdF (Value.int .i64) (some ad) [x]) (by (repeat (first | exact List.mem_cons_self | refine List.mem_cons_of_mem _ ?_)))
    simp only [List.replicate_one, List.getElem?_map] at hi
    cases hy : [x][i]? with
    | none => rw [hy] at hi; cases hi
    | some y =>
      rw [hy] at hi
      injection hi with hi
      subst hi
      obtain ⟨b', off', e4, _, e5⟩ := hrd i y hy
      injection e4 with e4
      subst e4
      rw [add_lit]
      exact e5
  · simp; omega
  intro w2 hM
  have hst := mixI_step (x := x) (c := c) (n := 0) (q := 1) (by omega)
  rw [h1c]
  dsimp only [List.set] at hM
  rw [hst] at hM
  refine hK _ _ ?_
  clear hK
  have hF := hF.put (d := 33) rfl (.int .i64 ((1 : Nat) : Int))
  generalize a.put (some 33) _ = a at *
  (repeat (first | (with_reducible refine w_seq ?_) | (with_reducible refine s_nil ?_) | (with_reducible refine q_then_n ?_) | ((with_reducible apply s_pure hF); exact rfl; exact rfl; exact rfl; (first | exact trivial | omega | exact ⟨Int.natCast_nonneg _, Int.ofNat_lt.2 (by assumption)⟩ | decide); clear hF a; intro a hF) | (with_reducible refine w_block ?_)))
  refine c_loop (m := c - 1) (fun m a w' => ∃ k : Nat, m + k = c ∧ 1 ≤ k ∧ k ≤ c ∧ Fr 48 [] [(8, .int .i64 k), (7, .slice (some ⟨b, 0, none⟩) c c)] a ∧
    Mm own W [] [⟨3, 1, .slice (some ⟨b, 0, none⟩) c c, c, (mixI x c k).map (Value.int .i64)⟩] [RdF (Value.int .i64) (some ad) [x]] w') ⟨1, by omega, by omega, by omega, hF.sub (by repeat (first | exact Sub.nil | refine Sub.cons rfl (by first | with_reducible rfl | (refine congrArg (Value.int _) ?_; omega) | exact rfl) ?_)), hM⟩ ?_
  clear hF hM a
  rintro m a w' ⟨k, hm, hk1, hkc, hF, hM⟩
  by_cases hlt : k < c
  · obtain ⟨q, hq⟩ : ∃ q, Nat.min k (c - k) = q := ⟨_, rfl⟩
    have hq1 : q ≤ k := by rw [← hq]; exact Nat.min_le_left _ _
    have hq2 : q ≤ c - k := by rw [← hq]; exact Nat.min_le_right _ _
    have hq3 : 1 ≤ q := by rw [← hq]; exact Nat.le_min.2 ⟨hk1, by omega⟩
    have hone : ∀ v ∈ (List.replicate q x).map (Value.int .i64), v.oneCell' = true := by
      intro v hv
      obtain ⟨y, _, rfl⟩ := List.mem_map.1 hv
      rfl
    have hrl : ((List.replicate q x).map (Value.int .i64)).length = q := by simp
    have hs1 : sadr (some ⟨b, 0, none⟩) k c 1 = some ⟨b, k, none⟩ := by
      unfold sadr
      rw [if_neg (by omega)]
      simp [add_lit]
    have hs2 : sadr (some ⟨b, 0, none⟩) 0 c 1 = some ⟨b, 0, none⟩ := by
      unfold sadr
      rw [if_neg (by omega)]
      simp [add_lit]
    have hst := mixI_step (x := x) (c := c) (n := k) (q := q) (by omega)
    with_reducible refine w_seq ?_
    refine c_cut (fun a' w1 => w1 = w' ∧ Fr 48 [] [(8, .int .i64 k), (7, .slice (some ⟨b, 0, none⟩) c c)] a') ?_ ?_
    · (repeat' (first | (with_reducible refine w_seq ?_) | (with_reducible refine c_region ?_) | (with_reducible refine s_nil ?_) | (with_reducible refine q_then_n ?_) | ((with_reducible apply s_pure hF); exact rfl; exact rfl; exact rfl; (first | exact trivial | omega | exact ⟨Int.natCast_nonneg _, Int.ofNat_lt.2 (by assumption)⟩ | decide); clear hF a; intro a hF) | (with_reducible refine w_skip ?_) | ((with_reducible apply c_dec hF); exact rfl; all_goals intro hc; all_goals (try (exfalso; omega)))))
      exact q_cut ⟨rfl, hF.sub (by repeat (first | exact Sub.nil | refine Sub.cons rfl (by first | with_reducible rfl | (refine congrArg (Value.int _) ?_; omega) | exact rfl) ?_))⟩
    clear hF a
    rintro a w1 ⟨rfl, hF⟩
    with_reducible refine w_block ?_
    refine c_draw (fun i => Nat.ble 10 i) hM ?_; clear hM; intro w hM
    (first | (refine t_pure (i := 0) hF rfl rfl rfl rfl (by kernel_rfl) hM.sm (fun _ _ _ h => h) ?_ ?_; (first | exact trivial | omega | decide); clear hF a; intro a hF))
    (first | (refine t_pure (i := 1) hF rfl rfl rfl rfl (by kernel_rfl) hM.sm (fun _ _ _ h => h) ?_ ?_; (first | exact trivial | omega | decide); clear hF a; intro a hF))
    (first | (refine t_pure (i := 2) hF rfl rfl rfl rfl (by kernel_rfl) hM.sm (fun _ _ _ h => h) ?_ ?_; (first | exact trivial | omega | decide); clear hF a; intro a hF))
    (first | (refine t_pure (i := 3) hF rfl rfl rfl rfl (by kernel_rfl) hM.sm (fun _ _ _ h => h) ?_ ?_; (first | exact trivial | omega | decide); clear hF a; intro a hF))
    replace hF := Fr.same (t := 41) (u := .slice (some ⟨b, k, none⟩) (c - k) (c - k)) hF rfl (by rw [Int.toNat_natCast, hs1]; simp)
    (first | (refine t_pure (i := 4) hF rfl rfl rfl rfl (by kernel_rfl) (hM.sm.sub (fun x hx => by repeat (first | exact hx | refine List.mem_cons_of_mem _ ?_)) (fun _ h => by repeat (first | exact h | refine List.mem_cons_of_mem _ ?_))) (fun _ _ _ h => h) ?_ ?_; (first | exact trivial | omega | decide); clear hF a; intro a hF))
    (first | (refine t_pure (i := 5) hF rfl rfl rfl rfl (by kernel_rfl) (hM.sm.sub (fun x hx => by repeat (first | exact hx | refine List.mem_cons_of_mem _ ?_)) (fun _ h => by repeat (first | exact h | refine List.mem_cons_of_mem _ ?_))) (fun _ _ _ h => h) ?_ ?_; (first | exact trivial | omega | decide); clear hF a; intro a hF))
    (first | (refine t_pure (i := 6) hF rfl rfl rfl rfl (by kernel_rfl) (hM.sm.sub (fun x hx => by repeat (first | exact hx | refine List.mem_cons_of_mem _ ?_)) (fun _ h => by repeat (first | exact h | refine List.mem_cons_of_mem _ ?_))) (fun _ _ _ h => h) ?_ ?_; (first | exact trivial | omega | decide); clear hF a; intro a hF))
    replace hF := Fr.same (t := 44) (u := .slice (some ⟨b, 0, none⟩) k c) hF rfl (by rw [show ((0 : Int)).toNat = 0 from rfl, hs2]; simp)
    refine t_one (i := 7) hF rfl (by kernel_rfl) rfl ?_
    intro K hK
    (refine e_copyR hF hM (cs := (List.replicate q x).map (Value.int .i64)) (off := k) rfl rfl rfl hone .z (by rw [hrl, hq, Nat.mul_one]) (fun i v hi => (hM.mem.own.own _ List.mem_cons_self).cells (g := b) rfl i v (mixI_pre hq1 hi)) (by rw [hrl]; omega) ?_; clear hM; intro w hM; dsimp only [List.set] at hM; rw [hst] at hM; rw [hq]; replace hF := hF.put (d := 45) rfl (.int .i64 (q : Nat)); generalize a.put (some 45) _ = a at *)
    refine hK _ _ (fun _ => (hM.sm.sub (fun x hx => by repeat (first | exact hx | refine List.mem_cons_of_mem _ ?_)) (fun _ h => by repeat (first | exact h | refine List.mem_cons_of_mem _ ?_)))) ?_; clear hK
    (first | (refine t_pure (i := 8) hF rfl rfl rfl rfl (by kernel_rfl) (hM.sm.sub (fun x hx => by repeat (first | exact hx | refine List.mem_cons_of_mem _ ?_)) (fun _ h => by repeat (first | exact h | refine List.mem_cons_of_mem _ ?_))) (fun _ _ _ h => h) ?_ ?_; (first | exact trivial | omega | decide); clear hF a; intro a hF))
    (first | (refine t_pure (i := 9) hF rfl rfl rfl rfl (by kernel_rfl) (hM.sm.sub (fun x hx => by repeat (first | exact hx | refine List.mem_cons_of_mem _ ?_)) (fun _ h => by repeat (first | exact h | refine List.mem_cons_of_mem _ ?_))) (fun _ _ _ h => h) ?_ ?_; (first | exact trivial | omega | decide); clear hF a; intro a hF))
    refine t_done (by kernel_rfl) ?_
    (repeat' (first | (with_reducible refine q_then_n ?_) | (with_reducible refine q_blk_n ?_)))
    exact ⟨m - q, by omega, k + q, by omega, by omega, by omega, hF.sub (by repeat (first | exact Sub.nil | refine Sub.cons rfl (by first | with_reducible rfl | (refine congrArg (Value.int _) ?_; omega) | exact rfl) ?_)), hM⟩
  · obtain rfl : k = c := by omega
    (repeat' (first | (with_reducible refine w_seq ?_) | (with_reducible refine c_region ?_) | (with_reducible refine s_nil ?_) | (with_reducible refine q_then_n ?_) | ((with_reducible apply s_pure hF); exact rfl; exact rfl; exact rfl; (first | exact trivial | omega | exact ⟨Int.natCast_nonneg _, Int.ofNat_lt.2 (by assumption)⟩ | decide); clear hF a; intro a hF) | (with_reducible refine w_exit ?_) | (with_reducible refine w_ret ?_) | (with_reducible refine q_then_x ?_) | (with_reducible refine q_blk_x ?_) | ((with_reducible apply c_false2 hF); exact rfl; (first | with_reducible rfl | (refine congrArg Value.bool ?_; focus (simp; done))))))
    (apply f_ret Try.results59 hF hM; (repeat (first | exact RL.nil | (apply RL.tmp; exact rfl) | (apply RL.cell; exact rfl; (repeat (first | exact List.mem_cons_self | refine List.mem_cons_of_mem _ ?_)); exact rfl))); refine Ret.mk hM.since ?_; dsimp only [resV])
    refine ⟨some ⟨b, 0, none⟩, k, rfl, ?_⟩
    have hO := hM.mem.own
    unfold mixI at hO
    rw [Nat.sub_self, List.replicate_zero, List.append_nil] at hO
    exact hO
/-- What a curve grows by. -/
def gr (c : Cu) (t : Nat) : Int := vl c (t + 1) - vl c t
set_option maxHeartbeats 1000000 in
theorem growth_c (c : Cu) (ok : Ok c) (n : Nat) (z : Int) (hz : z = n) (hn : n ≤ 100000) (v : Value) (own : Nat → Prop) (W : World) (hl : ∀ b, own b → b < W.heap.size) (hv : Has own W (IsCu · v c)) :
    Calls Try.prog 60 ⟨[v, .int .i64 z]⟩ W (Ret W fun v w' => ∃ a' c', v = .slice a' n c' ∧ n ≤ c' ∧ Has own w' (RdF (Value.int .i64) a' (tab (gr c) n))) := by
  subst hz
  obtain ⟨a0, c0, rfl, hV, l1, l2⟩ := isCu_open hv
  have hM := ((Mm.start hl).known hV).nilRow 3 1
  refine f_start Try.func60 rfl Try.ntmps60 rfl rfl ?_; intro a hF
  (repeat' (first | (with_reducible refine w_seq ?_) | (with_reducible refine c_region ?_) | (with_reducible refine s_nil ?_) | (with_reducible refine q_then_n ?_) | ((with_reducible apply s_pure hF); exact rfl; exact rfl; exact rfl; (first | exact trivial | omega | exact ⟨Int.natCast_nonneg _, Int.ofNat_lt.2 (by assumption)⟩ | decide); clear hF a; intro a hF) | ((with_reducible apply s_box hF hM); exact rfl; exact rfl; exact rfl; exact rfl; clear hF hM a; intro b w a hM hF) | (with_reducible refine w_block ?_)))
  generalize b = b2 at *
  refine c_loop (m := n) (fun m a w' => ∃ (k : Nat) (rv : Value), m + k = n ∧
    Fr 24 [] [(8, .int .i64 k), (7, .int .i64 n), (5, rv), (2, .pointer (some ⟨b2, 0, none⟩))] a ∧
    Mm own W [⟨b2, ⟨[.slice a0 c.V.length c0, .int .i64 c.S]⟩, 24⟩] [⟨3, 1, rv, k, (tab (gr c) k).map (Value.int .i64)⟩] [RdF (Value.int .i64) a0 c.V] w')
    ⟨0, _, by omega, hF.sub (by repeat (first | exact Sub.nil | refine Sub.cons rfl (by first | with_reducible rfl | (refine congrArg (Value.int _) ?_; omega) | exact rfl) ?_)), hM⟩ ?_
  clear hF hM a
  rintro m a w' ⟨k, rv, hm, hF, hM⟩
  by_cases hk : k < n
  · have e1 : atT c ((k : Int) + 1) = vl c (k + 1) := by rw [show (k : Int) + 1 = ((k + 1 : Nat) : Int) by omega]; exact at_vl ok (by omega)
    have e2 : atT c (k : Int) = vl c k := at_vl ok (by omega)
    have r1 := vl_rg ok (k := k + 1) (by omega)
    have r2 := vl_rg ok (k := k) (by omega)
    have e : (tab (gr c) (k + 1)).map (Value.int .i64) = (tab (gr c) k).map (Value.int .i64) ++ [.int .i64 (vl c (k + 1) - vl c k)] := by
      rw [tab_succ, List.map_append]; rfl
    (repeat' (first | (with_reducible refine w_seq ?_) | (with_reducible refine c_region ?_) | (with_reducible refine s_nil ?_) | (with_reducible refine q_then_n ?_) | ((with_reducible apply s_pure hF); exact rfl; exact rfl; exact rfl; (first | exact trivial | omega | exact ⟨Int.natCast_nonneg _, Int.ofNat_lt.2 (by assumption)⟩ | decide); clear hF a; intro a hF) | (with_reducible refine w_skip ?_) | (with_reducible refine w_block ?_) | ((with_reducible apply c_dec hF); exact rfl; all_goals intro hc; all_goals (try (exfalso; omega)))))
    refine c_draw (fun i => Nat.ble 12 i) hM ?_; clear hM; intro w hM
    (first | (refine t_pure (i := 0) hF rfl rfl rfl rfl (by kernel_rfl) hM.sm (fun _ _ _ h => h) ?_ ?_; (first | exact trivial | omega | decide); clear hF a; intro a hF))
    (first | (apply t_load (i := 1) hF rfl rfl rfl; (repeat (first | exact List.mem_cons_self | refine List.mem_cons_of_mem _ ?_)); exact rfl; exact rfl; kernel_rfl; exact hM.sm; exact (fun _ _ _ h => h); clear hF a; intro a hF))
    (first | (refine t_pure (i := 2) hF rfl rfl rfl rfl (by kernel_rfl) hM.sm (fun _ _ _ h => h) ?_ ?_; (first | exact trivial | omega | decide); clear hF a; intro a hF))
    (first | (refine t_pure (i := 3) hF rfl rfl rfl rfl (by kernel_rfl) hM.sm (fun _ _ _ h => h) ?_ ?_; (first | exact trivial | omega | decide); clear hF a; intro a hF))
    (first | (apply t_load (i := 5) hF rfl rfl rfl; (repeat (first | exact List.mem_cons_self | refine List.mem_cons_of_mem _ ?_)); exact rfl; exact rfl; kernel_rfl; exact hM.sm; exact (fun _ _ _ h => h); clear hF a; intro a hF))
    (first | (refine t_pure (i := 6) hF rfl rfl rfl rfl (by kernel_rfl) hM.sm (fun _ _ _ h => h) ?_ ?_; (first | exact trivial | omega | decide); clear hF a; intro a hF))
    refine t_one (i := 4) hF rfl (by kernel_rfl) rfl ?_
    intro K hK
    (apply x_call hF hM; exact rfl; exact rfl; exact rfl; exact rfl; exact (At_c c ((k : Int) + 1) _ _ _ hM.lt (isCu_mk (hM.facts (RdF (Value.int .i64) a0 c.V) (by (repeat (first | exact List.mem_cons_self | refine List.mem_cons_of_mem _ ?_)))) l1 l2)); clear hF hM a; rintro v w a rfl - hM hF)
    rw [e1] at hF
    refine hK _ _ (fun _ => (hM.sm.sub (fun x hx => by repeat (first | exact hx | refine List.mem_cons_of_mem _ ?_)) (fun _ h => by repeat (first | exact h | refine List.mem_cons_of_mem _ ?_)))) ?_; clear hK
    refine t_one (i := 7) hF rfl (by kernel_rfl) rfl ?_
    intro K hK
    (apply x_call hF hM; exact rfl; exact rfl; exact rfl; exact rfl; exact (At_c c k _ _ _ hM.lt (isCu_mk (hM.facts (RdF (Value.int .i64) a0 c.V) (by (repeat (first | exact List.mem_cons_self | refine List.mem_cons_of_mem _ ?_)))) l1 l2)); clear hF hM a; rintro v w a rfl - hM hF)
    rw [e2] at hF
    refine hK _ _ (fun _ => (hM.sm.sub (fun x hx => by repeat (first | exact hx | refine List.mem_cons_of_mem _ ?_)) (fun _ h => by repeat (first | exact h | refine List.mem_cons_of_mem _ ?_)))) ?_; clear hK
    (first | (refine t_pure (i := 8) hF rfl rfl rfl rfl (by kernel_rfl) (hM.sm.sub (fun x hx => by repeat (first | exact hx | refine List.mem_cons_of_mem _ ?_)) (fun _ h => by repeat (first | exact h | refine List.mem_cons_of_mem _ ?_))) (fun _ _ _ h => h) ?_ ?_; (first | exact trivial | omega | decide); clear hF a; intro a hF))
    refine t_one (i := 9) hF rfl (by kernel_rfl) rfl ?_
    intro K hK
    (refine x_lit hF hM rfl rfl rfl ?_; clear hF hM a; intro bl w a hM hF)
    refine hK _ _ (fun _ => (hM.sm.sub (fun x hx => by repeat (first | exact hx | refine List.mem_cons_of_mem _ ?_)) (fun _ h => by repeat (first | exact h | refine List.mem_cons_of_mem _ ?_)))) ?_; clear hK
    refine t_one (i := 10) hF rfl (by kernel_rfl) rfl ?_
    intro K hK
    (apply x_app hF hM rfl rfl rfl; (repeat (first | exact List.mem_cons_self | refine List.mem_cons_of_mem _ ?_)); (repeat (first | exact Kth.z | apply Kth.s)); exact rfl; exact rfl; exact rfl; exact rfl; omega; clear hF hM a; intro g cap w a hM hF; dsimp only [List.set] at hM)
    refine hK _ _ (fun _ => (hM.sm.sub (fun x hx => by repeat (first | exact hx | refine List.mem_cons_of_mem _ ?_)) (fun _ h => by repeat (first | exact h | refine List.mem_cons_of_mem _ ?_)))) ?_; clear hK
    (first | (refine t_pure (i := 11) hF rfl rfl rfl rfl (by kernel_rfl) (hM.sm.sub (fun x hx => by repeat (first | exact hx | refine List.mem_cons_of_mem _ ?_)) (fun _ h => by repeat (first | exact h | refine List.mem_cons_of_mem _ ?_))) (fun _ _ _ h => h) ?_ ?_; (first | exact trivial | omega | decide); clear hF a; intro a hF))
    refine t_done (by kernel_rfl) ?_
    (repeat' (first | (with_reducible refine c_region ?_) | (with_reducible refine s_nil ?_) | (with_reducible refine q_then_n ?_) | ((with_reducible apply s_pure hF); exact rfl; exact rfl; exact rfl; (first | exact trivial | omega | exact ⟨Int.natCast_nonneg _, Int.ofNat_lt.2 (by assumption)⟩ | decide); clear hF a; intro a hF) | (with_reducible refine q_blk_n ?_)))
    refine ⟨m - 1, by omega, k + 1, _, by omega, hF.sub (by repeat (first | exact Sub.nil | refine Sub.cons rfl (by first | with_reducible rfl | (refine congrArg (Value.int _) ?_; omega) | exact rfl) ?_)), ?_⟩
    rw [e]
    exact hM.sub (.cons _ (.refl _)) (.refl _) (fun _ h => h)
  · obtain rfl : k = n := by omega
    obtain ⟨a', c', rfl, hcap, _⟩ := OffR.shape hM (k := 0) rfl (OffR.plain hM List.mem_cons_self)
    (repeat' (first | (with_reducible refine w_seq ?_) | (with_reducible refine c_region ?_) | (with_reducible refine s_nil ?_) | (with_reducible refine q_then_n ?_) | ((with_reducible apply s_pure hF); exact rfl; exact rfl; exact rfl; (first | exact trivial | omega | exact ⟨Int.natCast_nonneg _, Int.ofNat_lt.2 (by assumption)⟩ | decide); clear hF a; intro a hF) | (with_reducible refine w_exit ?_) | (with_reducible refine w_ret ?_) | (with_reducible refine q_then_x ?_) | (with_reducible refine q_blk_x ?_) | ((with_reducible apply c_false2 hF); exact rfl; (first | with_reducible rfl | (refine congrArg Value.bool ?_; focus (simp; done))))))
    (apply f_ret Try.results60 hF hM; (repeat (first | exact RL.nil | (apply RL.tmp; exact rfl) | (apply RL.cell; exact rfl; (repeat (first | exact List.mem_cons_self | refine List.mem_cons_of_mem _ ?_)); exact rfl))); refine Ret.mk hM.since ?_; dsimp only [resV])
    exact ⟨a', c', rfl, hcap, hM.rowFact List.mem_cons_self⟩
end Go.Proofs.Ytabfhoipclbeeaa


/- certificate: Worst. -/
namespace Go.Proofs.Ytabfhoipclbeeaa
open Go.RowKit Go.Shelf C55 K57
namespace K57
def wrsE (c : Ce) (n : Int) : Int := if chkE c ≠ 0 then chkE c else if ¬ (c.P ≤ n ∧ n ≤ 4096) then 2 else if 4096 < c.P + c.S.V.length then 5 else 0
def wrsT (c : Ce) (n : Nat) : P56.Tr := ⟨tab (gr c.A) n, List.replicate c.P.toNat 4096 ++ tab (gr c.S) c.S.V.length, c.P, c.L, c.D⟩
theorem wrsE_ok {c : Ce} {n : Int} (h : wrsE c n = 0) : chkE c = 0 ∧ c.P ≤ n ∧ n ≤ 4096 ∧ c.P + c.S.V.length ≤ 4096 := by
  unfold wrsE at h
  split at h
  · omega
  split at h
  · omega
  split at h
  · omega
  · omega
theorem wrsT_W (c : Ce) (n : Nat) : (wrsT c n).W.length = n := tab_len _ _
theorem wrsT_C (c : Ce) (n : Nat) : (wrsT c n).C.length = c.P.toNat + c.S.V.length := by unfold wrsT; rw [List.length_append, List.length_replicate, tab_len]
end K57
abbrev trZ : List Value := [.slice none 0 0, .slice none 0 0, .int .i64 0, .int .i64 0, .int .i64 0]
/-- What Worst answers. -/
def WrR (own : Nat → Prop) (c : Ce) (n : Int) (v : Value) (w' : World) : Prop :=
  (wrsE c n ≠ 0 ∧ v = .tuple #[.agg ⟨trZ⟩, .int .i64 (wrsE c n)]) ∨
  (wrsE c n = 0 ∧ ∃ aw cw ac cc, v = .tuple #[.agg ⟨trL (wrsT c n.toNat) aw cw ac cc⟩, .int .i64 0] ∧ Has own w' (RdF (Value.int .i64) aw (wrsT c n.toNat).W) ∧ Has own w' (RdF (Value.int .i64) ac (wrsT c n.toNat).C) ∧ (wrsT c n.toNat).W.length ≤ cw ∧ (wrsT c n.toNat).C.length ≤ cc)
theorem RdF.cells {α : Type} {enc : α → Value} {ad : Addr} {xs : List α} {w : World} (h : RdF enc (some ad) xs w) : ∀ (j : Nat) (u : Value), (xs.map enc)[j]? = some u → w.cell? (ad.add j) = some u := by
  intro j u hu
  rw [List.getElem?_map] at hu
  cases hy : xs[j]? with
  | none => rw [hy] at hu; cases hu
  | some y =>
    rw [hy] at hu
    injection hu with hu
    obtain ⟨b, off, e1, _, e2⟩ := h j y hy
    injection e1 with e1
    subst e1
    rw [add_lit, e2, hu]
theorem row_ad' {own : Nat → Prop} {w w0 : World} {bs : List BoxE} {L : List Ent} {Fs : List (World → Prop)} {e : TypeId} {size k c : Nat} {ao : Option Addr} {xs : List Value} (hM : Mm own w0 bs L Fs w) {i : Nat} (h : L[i]? = some ⟨e, size, .slice ao k c, k, xs⟩) : k ≤ c := by
  obtain ⟨ao', c', e1, h1, _⟩ := OffR.shape hM h (OffR.plain hM (List.mem_of_getElem? h))
  injection e1 with e1 _ e2
  subst e1 e2
  exact h1
section
variable (c : Ce) (a1 a2 : Option Addr) (c1 c2 : Nat) (l1 : c.A.V.length ≤ 9223372036854775807) (m1 : c.A.V.length ≤ c1) (l2 : c.S.V.length ≤ 9223372036854775807) (m2 : c.S.V.length ≤ c2)
include l1 m1 l2 m2
section
variable {own : Nat → Prop} {w0 W : World} {bs : List BoxE} {L : List Ent} {Fs : List (World → Prop)} (bg bn bc : Nat) (e2 n : Int) (xb : BoxE)
  (hM : Mm own w0 (⟨bg, ⟨[.int .i64 e2]⟩, 32⟩ :: xb :: ⟨bn, ⟨[.int .i64 n]⟩, 3⟩ :: ⟨bc, ⟨ceL c a1 c1 a2 c2⟩, 29⟩ :: bs) L (RdF (Value.int .i64) a2 c.S.V :: RdF (Value.int .i64) a1 c.A.V :: Fs) W)
include hM
theorem wrs1_ok (h : wrsE c n = 0) : Calls Try.prog 57 ⟨[.pointer (some ⟨bc, 0, none⟩), .pointer (some ⟨bn, 0, none⟩)]⟩ W (Rtn fun _ w' => Mm own w0 (⟨bg, ⟨[.int .i64 e2]⟩, 32⟩ :: xb :: ⟨bn, ⟨[.int .i64 n]⟩, 3⟩ :: ⟨bc, ⟨ceL c a1 c1 a2 c2⟩, 29⟩ :: bs) L (RdF (Value.int .i64) a2 c.S.V :: RdF (Value.int .i64) a1 c.A.V :: Fs) w') := by
  obtain ⟨h1, h2, h3, h4⟩ := wrsE_ok h
  have hP := (chk_bok h1).1.num
  refine f_start Try.func57 rfl Try.ntmps57 rfl rfl ?_; intro a hF
  (repeat' (first | (with_reducible refine w_seq ?_) | (with_reducible refine c_region ?_) | (with_reducible refine s_nil ?_) | ((with_reducible apply s_call (f := 56) hF hM); exact rfl; exact rfl; exact rfl; exact rfl; exact rfl; exact (RetP.ok (ceChk_c c a1 a2 c1 c2 l1 m1 l2 m2 _ _ hM.lt (hM.facts (RdF (Value.int .i64) a1 c.A.V) (by (repeat (first | exact List.mem_cons_self | refine List.mem_cons_of_mem _ ?_)))) (hM.facts (RdF (Value.int .i64) a2 c.S.V) (by (repeat (first | exact List.mem_cons_self | refine List.mem_cons_of_mem _ ?_))))) h1); clear hF hM a; rintro v w a - - hM hF) | ((with_reducible apply s_call (f := 58) hF hM); exact rfl; exact rfl; exact rfl; exact rfl; exact rfl; exact (demand_t _ _ _ hM.lt (by first | rfl | exact decide_eq_true (by omega))); clear hF hM a; rintro v w a - - hM hF) | (with_reducible refine q_then_n ?_) | ((with_reducible apply s_pure hF); exact rfl; exact rfl; exact rfl; (first | exact trivial | omega | exact ⟨Int.natCast_nonneg _, Int.ofNat_lt.2 (by assumption)⟩ | decide); clear hF a; intro a hF) | ((with_reducible apply s_load hF hM); exact rfl; exact rfl; (repeat (first | exact List.mem_cons_self | refine List.mem_cons_of_mem _ ?_)); exact rfl; exact rfl; clear hF a; intro a hF) | ((fail_if_success ((with_reducible refine g_known true hF ?_ ?_); focus exact rfl)); (fail_if_success ((with_reducible refine g_known false hF ?_ ?_); focus exact rfl)); (with_reducible apply g_dec hF); exact rfl; exact rfl; all_goals (clear hF; intro hc hF); all_goals (try (exfalso; omega)))))
  (apply f_end Try.results57 hF hM; (repeat (first | exact RL.nil | (apply RL.tmp; exact rfl) | (apply RL.cell; exact rfl; (repeat (first | exact List.mem_cons_self | refine List.mem_cons_of_mem _ ?_)); exact rfl))); try dsimp only [resV])
  exact hM
theorem wrs1_err (h : wrsE c n ≠ 0) : Calls Try.prog 57 ⟨[.pointer (some ⟨bc, 0, none⟩), .pointer (some ⟨bn, 0, none⟩)]⟩ W (Both (fun _ _ => False) fun p w' => p = failK (wrsE c n) ∧ Mm own w0 (⟨bg, ⟨[.int .i64 e2]⟩, 32⟩ :: xb :: ⟨bn, ⟨[.int .i64 n]⟩, 3⟩ :: ⟨bc, ⟨ceL c a1 c1 a2 c2⟩, 29⟩ :: bs) L (RdF (Value.int .i64) a2 c.S.V :: RdF (Value.int .i64) a1 c.A.V :: Fs) w') := by
  refine f_start Try.func57 rfl Try.ntmps57 rfl rfl ?_; intro a hF
  by_cases h1 : chkE c = 0
  case neg =>
    have he : wrsE c n = chkE c := by unfold wrsE; rw [if_pos h1]
    rw [he]
    (repeat' (first | (with_reducible refine w_seq ?_) | (with_reducible refine c_region ?_) | ((with_reducible apply s_callE (f := 56) hF hM); exact rfl; exact rfl; exact rfl; exact rfl; exact (RetP.err (ceChk_c c a1 a2 c1 c2 l1 m1 l2 m2 _ _ hM.lt (hM.facts (RdF (Value.int .i64) a1 c.A.V) (by (repeat (first | exact List.mem_cons_self | refine List.mem_cons_of_mem _ ?_)))) (hM.facts (RdF (Value.int .i64) a2 c.S.V) (by (repeat (first | exact List.mem_cons_self | refine List.mem_cons_of_mem _ ?_))))) h1); clear hF hM a; intro w a hM hF) | (with_reducible refine q_then_p ?_) | ((with_reducible apply s_load hF hM); exact rfl; exact rfl; (repeat (first | exact List.mem_cons_self | refine List.mem_cons_of_mem _ ?_)); exact rfl; exact rfl; clear hF a; intro a hF)))
    refine f_panic hF ?_
    exact ⟨rfl, hM⟩
  have hP := (chk_bok h1).1.num
  have hl := (chk_bok h1).1.S.l1
  by_cases h2 : c.P ≤ n ∧ n ≤ 4096
  case neg =>
    have he : wrsE c n = 2 := by unfold wrsE; rw [if_neg (by omega), if_pos h2]
    rw [he]
    (repeat' (first | (with_reducible refine w_seq ?_) | (with_reducible refine c_region ?_) | (with_reducible refine s_nil ?_) | ((with_reducible apply s_call (f := 56) hF hM); exact rfl; exact rfl; exact rfl; exact rfl; exact rfl; exact (RetP.ok (ceChk_c c a1 a2 c1 c2 l1 m1 l2 m2 _ _ hM.lt (hM.facts (RdF (Value.int .i64) a1 c.A.V) (by (repeat (first | exact List.mem_cons_self | refine List.mem_cons_of_mem _ ?_)))) (hM.facts (RdF (Value.int .i64) a2 c.S.V) (by (repeat (first | exact List.mem_cons_self | refine List.mem_cons_of_mem _ ?_))))) h1); clear hF hM a; rintro v w a - - hM hF) | ((with_reducible apply s_callE (f := 58) hF hM); exact rfl; exact rfl; exact rfl; exact rfl; exact (demand_f _ _ _ hM.lt (by first | rfl | exact decide_eq_false (by omega))); clear hF hM a; intro w a hM hF) | (with_reducible refine q_then_p ?_) | (with_reducible refine q_then_n ?_) | ((with_reducible apply s_pure hF); exact rfl; exact rfl; exact rfl; (first | exact trivial | omega | exact ⟨Int.natCast_nonneg _, Int.ofNat_lt.2 (by assumption)⟩ | decide); clear hF a; intro a hF) | ((with_reducible apply s_load hF hM); exact rfl; exact rfl; (repeat (first | exact List.mem_cons_self | refine List.mem_cons_of_mem _ ?_)); exact rfl; exact rfl; clear hF a; intro a hF) | ((with_reducible apply s_skip hF); exact rfl; exact rfl; clear hF a; intro a hF) | ((fail_if_success ((with_reducible refine g_known true hF ?_ ?_); focus exact rfl)); (fail_if_success ((with_reducible refine g_known false hF ?_ ?_); focus exact rfl)); (with_reducible apply g_dec hF); exact rfl; exact rfl; all_goals (clear hF; intro hc hF); all_goals (try (exfalso; omega)))))
    all_goals refine f_panic hF ?_
    all_goals exact ⟨rfl, hM⟩
  have h3 : 4096 < c.P + c.S.V.length := by
    apply Classical.byContradiction
    intro hn
    apply h
    unfold wrsE
    rw [if_neg (by omega), if_neg (fun hq => hq h2), if_neg hn]
  have he : wrsE c n = 5 := by unfold wrsE; rw [if_neg (by omega), if_neg (fun hq => hq h2), if_pos h3]
  rw [he]
  (repeat' (first | (with_reducible refine w_seq ?_) | (with_reducible refine c_region ?_) | (with_reducible refine s_nil ?_) | ((with_reducible apply s_call (f := 56) hF hM); exact rfl; exact rfl; exact rfl; exact rfl; exact rfl; exact (RetP.ok (ceChk_c c a1 a2 c1 c2 l1 m1 l2 m2 _ _ hM.lt (hM.facts (RdF (Value.int .i64) a1 c.A.V) (by (repeat (first | exact List.mem_cons_self | refine List.mem_cons_of_mem _ ?_)))) (hM.facts (RdF (Value.int .i64) a2 c.S.V) (by (repeat (first | exact List.mem_cons_self | refine List.mem_cons_of_mem _ ?_))))) h1); clear hF hM a; rintro v w a - - hM hF) | ((with_reducible apply s_call (f := 58) hF hM); exact rfl; exact rfl; exact rfl; exact rfl; exact rfl; exact (demand_t _ _ _ hM.lt (by first | rfl | exact decide_eq_true (by omega))); clear hF hM a; rintro v w a - - hM hF) | ((with_reducible apply s_callE (f := 58) hF hM); exact rfl; exact rfl; exact rfl; exact rfl; exact (demand_f _ _ _ hM.lt (by first | rfl | exact decide_eq_false (by omega))); clear hF hM a; intro w a hM hF) | (with_reducible refine q_then_n ?_) | ((with_reducible apply s_pure hF); exact rfl; exact rfl; exact rfl; (first | exact trivial | omega | exact ⟨Int.natCast_nonneg _, Int.ofNat_lt.2 (by assumption)⟩ | decide); clear hF a; intro a hF) | ((with_reducible apply s_load hF hM); exact rfl; exact rfl; (repeat (first | exact List.mem_cons_self | refine List.mem_cons_of_mem _ ?_)); exact rfl; exact rfl; clear hF a; intro a hF) | ((fail_if_success ((with_reducible refine g_known true hF ?_ ?_); focus exact rfl)); (fail_if_success ((with_reducible refine g_known false hF ?_ ?_); focus exact rfl)); (with_reducible apply g_dec hF); exact rfl; exact rfl; all_goals (clear hF; intro hc hF); all_goals (try (exfalso; omega)))))
  refine f_panic hF ?_
  exact ⟨rfl, hM⟩
end
set_option maxHeartbeats 2000000 in
theorem worst_c (n : Int) (own : Nat → Prop) (W : World) (hl : ∀ b, own b → b < W.heap.size) (hA : Has own W (RdF (Value.int .i64) a1 c.A.V)) (hS : Has own W (RdF (Value.int .i64) a2 c.S.V)) :
    Calls Try.prog 21 ⟨[.agg ⟨ceL c a1 c1 a2 c2⟩, .int .i64 n]⟩ W (Ret W (WrR own c n)) := by
  have hM := ((Mm.start hl).known hA).known hS
  refine f_start Try.func21 rfl Try.ntmps21 rfl rfl ?_; intro a hF
  (repeat (first | (with_reducible refine w_seq ?_) | (with_reducible refine c_region ?_) | (with_reducible refine s_nil ?_) | (with_reducible refine q_then_n ?_) | ((with_reducible apply s_pure hF); exact rfl; exact rfl; exact rfl; (first | exact trivial | omega | exact ⟨Int.natCast_nonneg _, Int.ofNat_lt.2 (by assumption)⟩ | decide); clear hF a; intro a hF) | ((with_reducible apply s_alloc hF hM); exact rfl; exact rfl; exact rfl; clear hF hM a; intro b w a hM hF) | ((with_reducible apply s_box hF hM); exact rfl; exact rfl; exact rfl; exact rfl; clear hF hM a; intro b w a hM hF)))
  rename_i bce _ bn _
  by_cases h : wrsE c n = 0
  case neg =>
    (repeat' (first | (with_reducible refine w_seq ?_) | (with_reducible refine c_region ?_) | (with_reducible refine s_nil ?_) | ((with_reducible apply s_callM (f := 46) hF); exact rfl; exact rfl; exact rfl; exact rfl; exact rfl; exact (guardedM_err _ _ (wrsE c n) rfl hM (fun b2 W' h' => wrs1_err c a1 a2 c1 c2 l1 m1 l2 m2 b2 _ _ 0 n _ h' h)); clear hF hM a; rintro v w a ⟨rfl, hM⟩ hF) | (with_reducible refine q_then_n ?_) | ((with_reducible apply s_pure hF); exact rfl; exact rfl; exact rfl; (first | exact trivial | omega | exact ⟨Int.natCast_nonneg _, Int.ofNat_lt.2 (by assumption)⟩ | decide); clear hF a; intro a hF) | ((with_reducible apply s_store hF hM); exact rfl; exact rfl; exact rfl; exact rfl; (repeat (first | exact Upd.z | apply Upd.s)); exact rfl; exact rfl; exact rfl; clear hM; intro w hM) | (with_reducible refine w_ret ?_) | (with_reducible refine q_then_r ?_) | ((with_reducible apply c_dec hF); exact rfl; all_goals intro hc; all_goals (try (exfalso; omega)))))
    (apply f_ret Try.results21 hF hM; (repeat (first | exact RL.nil | (apply RL.tmp; exact rfl) | (apply RL.cell; exact rfl; (repeat (first | exact List.mem_cons_self | refine List.mem_cons_of_mem _ ?_)); exact rfl))); refine Ret.mk hM.since ?_; dsimp only [resV])
    exact .inl ⟨h, rfl⟩
  obtain ⟨h1, h2, h3, h4⟩ := wrsE_ok h
  have hb := (chk_bok h1).1
  have hP := hb.num
  have hl0 := hb.S.l0
  obtain ⟨p, hp⟩ : ∃ p : Nat, c.P = p := ⟨c.P.toNat, by omega⟩
  obtain ⟨k, hk⟩ : ∃ k : Nat, n = k := ⟨n.toNat, by omega⟩
  (repeat' (first | (with_reducible refine w_seq ?_) | (with_reducible refine c_region ?_) | (with_reducible refine s_nil ?_) | ((with_reducible apply s_callM (f := 46) hF); exact rfl; exact rfl; exact rfl; exact rfl; exact rfl; exact (guardedM_ok _ _ rfl hM (fun b2 W' h' => wrs1_ok c a1 a2 c1 c2 l1 m1 l2 m2 b2 _ _ 0 n _ h' h)); clear hF hM a; rintro v w a ⟨rfl, hM⟩ hF) | ((with_reducible apply s_lit hF hM); exact rfl; exact rfl; exact rfl; exact rfl; clear hF hM a; intro bl w a hM hF; replace hM := Mm.freeze hM) | ((with_reducible apply s_callO (f := 59) hF); exact rfl; exact rfl; exact rfl; exact rfl; exact rfl; exact (repeatI_c 4096 p _ hp (by omega) (by omega) _ _ _ _ hM.lt (Has.ints (hM.facts _ List.mem_cons_self) [4096] rfl)); clear hF a; rintro v wn a ⟨a7, c7, rfl, hO⟩ hS hF; replace hM := hM.addRows hS hO; clear hS hO; dsimp only [List.cons_append, List.nil_append] at hM) | (with_reducible refine q_then_n ?_) | ((with_reducible apply s_pure hF); exact rfl; exact rfl; exact rfl; (first | exact trivial | omega | exact ⟨Int.natCast_nonneg _, Int.ofNat_lt.2 (by assumption)⟩ | decide); clear hF a; intro a hF) | ((with_reducible apply s_load hF hM); exact rfl; exact rfl; (repeat (first | exact List.mem_cons_self | refine List.mem_cons_of_mem _ ?_)); exact rfl; exact rfl; clear hF a; intro a hF) | (with_reducible refine w_skip ?_) | ((with_reducible apply c_false2 hF); exact rfl; (first | with_reducible rfl | (refine congrArg Value.bool ?_; focus (simp; done))))))
  have hone : ∀ u ∈ (tab (gr c.S) c.S.V.length).map (Value.int .i64), u.oneCell' = true := by
    intro u hu
    obtain ⟨y, _, rfl⟩ := List.mem_map.1 hu
    rfl
  refine c_draw (fun i => Nat.ble 20 i) hM ?_; clear hM; intro w hM
  (first | (refine t_pure (i := 0) hF rfl rfl rfl rfl (by kernel_rfl) hM.sm (fun _ _ _ h => h) ?_ ?_; (first | exact trivial | omega | decide); clear hF a; intro a hF))
  (first | (apply t_load (i := 1) hF rfl rfl rfl; (repeat (first | exact List.mem_cons_self | refine List.mem_cons_of_mem _ ?_)); exact rfl; exact rfl; kernel_rfl; exact hM.sm; exact (fun _ _ _ h => h); clear hF a; intro a hF))
  (first | (apply t_load (i := 2) hF rfl rfl rfl; (repeat (first | exact List.mem_cons_self | refine List.mem_cons_of_mem _ ?_)); exact rfl; exact rfl; kernel_rfl; exact hM.sm; exact (fun _ _ _ h => h); clear hF a; intro a hF))
  (first | (refine t_pure (i := 4) hF rfl rfl rfl rfl (by kernel_rfl) hM.sm (fun _ _ _ h => h) ?_ ?_; (first | exact trivial | omega | decide); clear hF a; intro a hF))
  (first | (refine t_pure (i := 5) hF rfl rfl rfl rfl (by kernel_rfl) hM.sm (fun _ _ _ h => h) ?_ ?_; (first | exact trivial | omega | decide); clear hF a; intro a hF))
  (first | (apply t_load (i := 6) hF rfl rfl rfl; (repeat (first | exact List.mem_cons_self | refine List.mem_cons_of_mem _ ?_)); exact rfl; exact rfl; kernel_rfl; exact hM.sm; exact (fun _ _ _ h => h); clear hF a; intro a hF))
  (first | (refine t_pure (i := 7) hF rfl rfl rfl rfl (by kernel_rfl) hM.sm (fun _ _ _ h => h) ?_ ?_; (first | exact trivial | omega | decide); clear hF a; intro a hF))
  (first | (refine t_pure (i := 8) hF rfl rfl rfl rfl (by kernel_rfl) hM.sm (fun _ _ _ h => h) ?_ ?_; (first | exact trivial | omega | decide); clear hF a; intro a hF))
  (first | (apply t_load (i := 9) hF rfl rfl rfl; (repeat (first | exact List.mem_cons_self | refine List.mem_cons_of_mem _ ?_)); exact rfl; exact rfl; kernel_rfl; exact hM.sm; exact (fun _ _ _ h => h); clear hF a; intro a hF))
  (first | (refine t_pure (i := 10) hF rfl rfl rfl rfl (by kernel_rfl) hM.sm (fun _ _ _ h => h) ?_ ?_; (first | exact trivial | omega | decide); clear hF a; intro a hF))
  (first | (refine t_pure (i := 13) hF rfl rfl rfl rfl (by kernel_rfl) hM.sm (fun _ _ _ h => h) ?_ ?_; (first | exact trivial | omega | decide); clear hF a; intro a hF))
  (first | (apply t_load (i := 14) hF rfl rfl rfl; (repeat (first | exact List.mem_cons_self | refine List.mem_cons_of_mem _ ?_)); exact rfl; exact rfl; kernel_rfl; exact hM.sm; exact (fun _ _ _ h => h); clear hF a; intro a hF))
  (first | (refine t_pure (i := 15) hF rfl rfl rfl rfl (by kernel_rfl) hM.sm (fun _ _ _ h => h) ?_ ?_; (first | exact trivial | omega | decide); clear hF a; intro a hF))
  (first | (apply t_load (i := 16) hF rfl rfl rfl; (repeat (first | exact List.mem_cons_self | refine List.mem_cons_of_mem _ ?_)); exact rfl; exact rfl; kernel_rfl; exact hM.sm; exact (fun _ _ _ h => h); clear hF a; intro a hF))
  (first | (refine t_pure (i := 17) hF rfl rfl rfl rfl (by kernel_rfl) hM.sm (fun _ _ _ h => h) ?_ ?_; (first | exact trivial | omega | decide); clear hF a; intro a hF))
  (first | (apply t_load (i := 18) hF rfl rfl rfl; (repeat (first | exact List.mem_cons_self | refine List.mem_cons_of_mem _ ?_)); exact rfl; exact rfl; kernel_rfl; exact hM.sm; exact (fun _ _ _ h => h); clear hF a; intro a hF))
  refine t_one (i := 3) hF rfl (by kernel_rfl) rfl ?_
  intro K hK
  (apply x_call hF hM; exact rfl; exact rfl; exact rfl; exact rfl; exact (growth_c c.A hb.A k _ hk (by omega) _ _ _ hM.lt (isCu_mk (hM.facts (RdF (Value.int .i64) a1 c.A.V) (by (repeat (first | exact List.mem_cons_self | refine List.mem_cons_of_mem _ ?_)))) l1 m1)); clear hF hM a; rintro v w a ⟨a8, c8, rfl, k8, h8⟩ - hM hF)
  replace hM := hM.addFact h8
  refine hK _ _ (fun _ => (hM.sm.sub (fun x hx => by repeat (first | exact hx | refine List.mem_cons_of_mem _ ?_)) (fun _ h => by repeat (first | exact h | refine List.mem_cons_of_mem _ ?_)))) ?_; clear hK
  refine t_one (i := 11) hF rfl (by kernel_rfl) rfl ?_
  intro K hK
  (apply x_call hF hM; exact rfl; exact rfl; exact rfl; exact rfl; exact (growth_c c.S hb.S c.S.V.length _ rfl (by omega) _ _ _ hM.lt (isCu_mk (hM.facts (RdF (Value.int .i64) a2 c.S.V) (by (repeat (first | exact List.mem_cons_self | refine List.mem_cons_of_mem _ ?_)))) l2 m2)); clear hF hM a; rintro v w a ⟨a9, c9, rfl, k9, h9⟩ - hM hF)
  replace hM := hM.addFact h9
  refine hK _ _ (fun _ => (hM.sm.sub (fun x hx => by repeat (first | exact hx | refine List.mem_cons_of_mem _ ?_)) (fun _ h => by repeat (first | exact h | refine List.mem_cons_of_mem _ ?_)))) ?_; clear hK
  refine t_one (i := 12) hF rfl (by kernel_rfl) rfl ?_
  intro K hK
  (obtain ⟨ad9, rfl⟩ := rd_some hM (a := a9) (xs := tab (gr c.S) c.S.V.length) (k := 0) (by (repeat (first | with_reducible exact List.mem_cons_self | refine List.mem_cons_of_mem _ ?_))) (tab_get (by omega)); refine e_app (k := 0) (ys := (tab (gr c.S) c.S.V.length).map (Value.int .i64)) hF hM rfl rfl rfl .z (by rw [List.length_map, tab_len, Nat.mul_one]) ((hM.fact (f := RdF (Value.int .i64) (some ad9) (tab (gr c.S) c.S.V.length)) (by (repeat (first | with_reducible exact List.mem_cons_self | refine List.mem_cons_of_mem _ ?_)))).cells) hone (by omega) ⟨by omega, by omega⟩ ?_; clear hM; intro gA cap w hM; dsimp only [List.set] at hM; replace hF := hF.put (d := 30) rfl (.slice (some ⟨gA, 0, none⟩) (p + c.S.V.length) cap); generalize a.put (some 30) _ = a at *)
  refine hK _ _ (fun _ => (hM.sm.sub (fun x hx => by repeat (first | exact hx | refine List.mem_cons_of_mem _ ?_)) (fun _ h => by repeat (first | exact h | refine List.mem_cons_of_mem _ ?_)))) ?_; clear hK
  (first | (refine t_pure (i := 19) hF rfl rfl rfl rfl (by kernel_rfl) (hM.sm.sub (fun x hx => by repeat (first | exact hx | refine List.mem_cons_of_mem _ ?_)) (fun _ h => by repeat (first | exact h | refine List.mem_cons_of_mem _ ?_))) (fun _ _ _ h => h) ?_ ?_; (first | exact trivial | omega | decide); clear hF a; intro a hF))
  refine t_one (i := 20) hF rfl (by kernel_rfl) rfl ?_
  intro K hK
  (apply x_store hF hM rfl rfl rfl; (repeat (first | exact Upd.z | apply Upd.s)); exact rfl; exact rfl; exact rfl; clear hF hM a; intro w a hM hF)
  refine hK _ _ (fun h => by cases h) ?_; clear hK
  refine t_one (i := 21) hF rfl (by kernel_rfl) rfl ?_
  intro K hK
  (first | (refine x_pure hF hM rfl rfl ?_ ?_; (first | exact trivial | omega | decide); clear hF a; intro a hF) | (apply x_load hF hM rfl; (repeat (first | exact List.mem_cons_self | refine List.mem_cons_of_mem _ ?_)); exact rfl; exact rfl; clear hF a; intro a hF))
  refine hK _ _ (fun h => by cases h) ?_; clear hK
  refine t_done (by kernel_rfl) ?_
  (repeat' (first | (with_reducible refine q_then_n ?_) | (with_reducible refine w_ret ?_)))
  (apply f_ret Try.results21 hF hM; (repeat (first | exact RL.nil | (apply RL.tmp; exact rfl) | (apply RL.cell; exact rfl; (repeat (first | exact List.mem_cons_self | refine List.mem_cons_of_mem _ ?_)); exact rfl))); refine Ret.mk hM.since ?_; dsimp only [resV])
  have e1 : (wrsT c n.toNat).W.length = k := by rw [wrsT_W]; omega
  have e2 : (wrsT c n.toNat).C.length = p + c.S.V.length := by rw [wrsT_C]; omega
  have e3 : (wrsT c n.toNat).C = List.replicate p 4096 ++ tab (gr c.S) c.S.V.length := by unfold wrsT; simp only; rw [hp, Int.toNat_natCast]
  have e4 : (wrsT c n.toNat).W = tab (gr c.A) k := by unfold wrsT; simp only; rw [hk, Int.toNat_natCast]
  refine .inr ⟨h, a8, c8, some ⟨gA, 0, none⟩, cap, ?_, ?_, ?_, ?_, ?_⟩
  · unfold trL; rw [e1, e2]; rfl
  · rw [e4]; exact hM.factOut (f := RdF (Value.int .i64) a8 (tab (gr c.A) k)) (by (repeat (first | with_reducible exact List.mem_cons_self | refine List.mem_cons_of_mem _ ?_)))
  · rw [e3]
    rw [← List.map_append] at hM
    exact hM.rowFact List.mem_cons_self
  · rw [e1]; exact k8
  · rw [e2]
    exact (row_ad' hM (i := 0) rfl)
end
end Go.Proofs.Ytabfhoipclbeeaa

