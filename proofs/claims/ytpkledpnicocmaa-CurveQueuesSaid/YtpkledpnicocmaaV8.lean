/- curve: Convolve, Delay, Backlog. -/
import Derived.Test.YtpkledpnicocmaaV7
set_option linter.unusedSimpArgs false
set_option linter.unusedVariables false
namespace Go.Proofs.Ytpkledpnicocmaa
open Go.RowKit Go.Shelf C55
theorem least_z (A B : Cu) (ha : Ok A) (hb : Ok B) (va vb : Value) (n r : Nat) (zn zr : Int) (hn : zn = n) (hr : zr = r) (h1 : 1 ≤ n) (h2 : n ≤ r + 1) (h3 : r ≤ 20000) (own : Nat → Prop) (W : World) (hl : ∀ b, own b → b < W.heap.size) (hA : Has own W (IsCu · va A)) (hB : Has own W (IsCu · vb B)) :
    Calls Try.prog 48 ⟨[.int .i64 zn, .int .i64 zr, .func (.func 44) #[va] #[], .func (.func 44) #[vb] #[]]⟩ W (Ret W fun v _ => v = .int .i64 (lst (vl A) (vl B) r (n - 1))) := by
  subst hn
  subst hr
  exact least_c A B ha hb va vb n r h1 h2 h3 own W hl hA hB
theorem conv1_c (A B : Cu) (ha : Ok A) (hb : Ok B) (va vb : Value) (b6 b7 : Nat) (T T' : TypeId) (own : Nat → Prop) (W : World) (hl : ∀ b, own b → b < W.heap.size)
    (h6 : Has own W (BxF b6 [.func (.func 44) #[va] #[]] T)) (h7 : Has own W (BxF b7 [.func (.func 44) #[vb] #[]] T')) (hA : Has own W (IsCu · va A)) (hB : Has own W (IsCu · vb B)) (t : Nat) (ht : t ≤ 20000) :
    Calls Try.prog 50 ⟨[.int .i64 t, .pointer (some ⟨b6, 0, none⟩), .pointer (some ⟨b7, 0, none⟩)]⟩ W (Ret W fun v _ => v = .int .i64 (lst (vl A) (vl B) t t)) := by
  have hM := ((((Mm.start hl).known h6).known h7).known hA).known hB
  refine f_start Try.func50 rfl Try.ntmps50 rfl rfl ?_; intro a hF
  (repeat (first | (with_reducible refine w_seq ?_) | (with_reducible refine c_region ?_) | (with_reducible refine s_nil ?_) | ((with_reducible apply s_call (f := 48) hF hM); exact rfl; exact rfl; exact rfl; exact rfl; exact rfl; exact (least_z A B ha hb va vb (t + 1) t _ _ (by omega) rfl (by omega) (by omega) (by omega) _ _ hM.lt (hM.facts (IsCu · _ A) (by (repeat (first | exact List.mem_cons_self | refine List.mem_cons_of_mem _ ?_)))) (hM.facts (IsCu · _ B) (by (repeat (first | exact List.mem_cons_self | refine List.mem_cons_of_mem _ ?_))))); clear hF hM a; rintro v w a rfl - hM hF) | (with_reducible refine q_then_n ?_) | ((with_reducible apply s_pure hF); exact rfl; exact rfl; exact rfl; (first | exact trivial | omega | decide); clear hF a; intro a hF) | ((with_reducible apply s_loadK hF hM); exact rfl; exact rfl; (repeat (first | exact List.mem_cons_self | refine List.mem_cons_of_mem _ ?_)); exact rfl; exact rfl; clear hF a; intro a hF) | (with_reducible refine w_ret ?_)))
  (apply f_ret Try.results50 hF hM; (repeat (first | exact RL.nil | (apply RL.tmp; exact rfl) | (apply RL.cell; exact rfl; (repeat (first | exact List.mem_cons_self | refine List.mem_cons_of_mem _ ?_)); exact rfl))); refine Ret.mk hM.since ?_; dsimp only [resV])
  rfl
def convK (A B : Cu) : Int := cross (lst (vl A) (vl B) (A.V.length + B.V.length - 2) (A.V.length - 1)) B.S (lst (vl B) (vl A) (A.V.length + B.V.length - 2) (B.V.length - 1)) A.S
def convR (A B : Cu) : Cu × Int := if pairE A B ≠ 0 then (zc, pairE A B) else fin (tab (fun t => lst (vl A) (vl B) t t) (A.V.length + B.V.length - 1 + (convK A B).toNat)) (min A.S B.S)
theorem vl_bd {A : Cu} (h : Ok A) {k : Nat} (hk : k ≤ 20000) : 0 ≤ vl A k ∧ vl A k ≤ 1152930301773611008 := h.val_bd (t := k) (by omega) (by omega)
theorem lst_bd' {A B : Cu} (ha : Ok A) (hb : Ok B) {r s : Nat} (hr : r ≤ 20000) (hs : s ≤ r) : 0 ≤ lst (vl A) (vl B) r s ∧ lst (vl A) (vl B) r s ≤ 2305860603547222016 :=
  lst_bd (B := 1152930301773611008) (fun k h => vl_bd ha (by omega)) (fun k h => vl_bd hb (by omega)) s hs
theorem Convolve_c (A B : Cu) (v u : Value) (own : Nat → Prop) (W : World) (hl : ∀ b, own b → b < W.heap.size) (hv : Has own W (IsCu · v A)) (hu : Has own W (IsCu · u B)) :
    Calls Try.prog 21 ⟨[v, u]⟩ W (Ret W (CvR own (convR A B))) := by
  obtain ⟨a0, c0, rfl, hV, l1, l2⟩ := isCu_open hv
  obtain ⟨a1, c1, rfl, hU, m1, m2⟩ := isCu_open hu
  have hM := (((Mm.start hl).known hv).known hu)
  refine f_start Try.func21 rfl Try.ntmps21 rfl rfl ?_; intro a hF
  unfold convR
  by_cases hp : pairE A B = 0
  case neg =>
    rw [if_pos hp]
    (repeat' (first | (with_reducible refine w_seq ?_) | (with_reducible refine c_region ?_) | (with_reducible refine s_nil ?_) | ((with_reducible apply s_call (f := 46) hF hM); exact rfl; exact rfl; exact rfl; exact rfl; exact rfl; exact (pair_c A B _ _ _ _ hM.lt (hM.facts (IsCu · _ A) (by (repeat (first | exact List.mem_cons_self | refine List.mem_cons_of_mem _ ?_)))) (hM.facts (IsCu · _ B) (by (repeat (first | exact List.mem_cons_self | refine List.mem_cons_of_mem _ ?_))))); clear hF hM a; rintro v w a ⟨s, t, rfl, ⟨⟨s1, s2, s3, s4, rfl⟩, u1, u2, u3, u4, rfl⟩, hst⟩ - hM hF) | (with_reducible refine q_then_n ?_) | ((with_reducible apply s_pure hF); exact rfl; exact rfl; exact rfl; (first | exact trivial | omega | decide); clear hF a; intro a hF) | ((with_reducible apply s_load hF hM); exact rfl; exact rfl; (repeat (first | exact List.mem_cons_self | refine List.mem_cons_of_mem _ ?_)); exact rfl; exact rfl; clear hF a; intro a hF) | ((with_reducible apply s_store hF hM); exact rfl; exact rfl; exact rfl; exact rfl; (repeat (first | exact Upd.z | apply Upd.s)); exact rfl; exact rfl; exact rfl; clear hM; intro w hM) | ((with_reducible apply s_alloc hF hM); exact rfl; exact rfl; exact rfl; clear hF hM a; intro b w a hM hF) | ((with_reducible apply s_box hF hM); exact rfl; exact rfl; exact rfl; exact rfl; clear hF hM a; intro b w a hM hF) | (with_reducible refine w_ret ?_) | (with_reducible refine q_then_r ?_) | ((with_reducible apply c_dec hF); exact rfl; all_goals intro hc; all_goals (try (exfalso; omega)))))
    (apply f_ret Try.results21 hF hM; (repeat (first | exact RL.nil | (apply RL.tmp; exact rfl) | (apply RL.cell; exact rfl; (repeat (first | exact List.mem_cons_self | refine List.mem_cons_of_mem _ ?_)); exact rfl))); refine Ret.mk hM.since ?_; dsimp only [resV])
    exact cvR_z rfl
  rw [if_neg (by omega)]
  obtain ⟨ha, hb⟩ := pairE_ok hp
  have k0 := ha.l0
  have k1 := ha.l1
  have k2 := hb.l0
  have k3 := hb.l1
  have d1 := lst_bd' ha hb (r := A.V.length + B.V.length - 2) (s := A.V.length - 1) (by omega) (by omega)
  have d2 := lst_bd' hb ha (r := A.V.length + B.V.length - 2) (s := B.V.length - 1) (by omega) (by omega)
  have d3 := cross_bd (p := lst (vl A) (vl B) (A.V.length + B.V.length - 2) (A.V.length - 1)) (sp := B.S) (q := lst (vl B) (vl A) (A.V.length + B.V.length - 2) (B.V.length - 1)) (sq := A.S) (by omega) (by omega) hb.s ha.s
  (repeat' (first | (with_reducible refine w_seq ?_) | (with_reducible refine c_region ?_) | (with_reducible refine s_nil ?_) | ((with_reducible apply s_call (f := 46) hF hM); exact rfl; exact rfl; exact rfl; exact rfl; exact rfl; exact (pair0_c A B hp _ _ _ _ hM.lt (hM.facts (IsCu · _ A) (by (repeat (first | exact List.mem_cons_self | refine List.mem_cons_of_mem _ ?_)))) (hM.facts (IsCu · _ B) (by (repeat (first | exact List.mem_cons_self | refine List.mem_cons_of_mem _ ?_))))); clear hF hM a; rintro v w a rfl - hM hF) | (with_reducible refine q_then_n ?_) | ((with_reducible apply s_pure hF); exact rfl; exact rfl; exact rfl; (first | exact trivial | omega | decide); clear hF a; intro a hF) | ((with_reducible apply s_load hF hM); exact rfl; exact rfl; (repeat (first | exact List.mem_cons_self | refine List.mem_cons_of_mem _ ?_)); exact rfl; exact rfl; clear hF a; intro a hF) | ((with_reducible apply s_store hF hM); exact rfl; exact rfl; exact rfl; exact rfl; (repeat (first | exact Upd.z | apply Upd.s)); exact rfl; exact rfl; exact rfl; clear hM; intro w hM) | ((with_reducible apply s_alloc hF hM); exact rfl; exact rfl; exact rfl; clear hF hM a; intro b w a hM hF) | ((with_reducible apply s_box hF hM); exact rfl; exact rfl; exact rfl; exact rfl; clear hF hM a; intro b w a hM hF) | (with_reducible refine w_skip ?_) | ((with_reducible apply c_false hF); exact rfl)))
  rename_i b2 _ b3 _ b4 _ _ b6 _ _ _
  refine c_cut (fun a w => ∃ b9 b10 : Nat, Fr 70 [] [(9, .pointer (some ⟨b9, 0, none⟩)), (10, .pointer (some ⟨b10, 0, none⟩)), (2, .pointer (some ⟨b2, 0, none⟩)), (3, .pointer (some ⟨b3, 0, none⟩)), (4, .pointer (some ⟨b4, 0, none⟩)), (5, .int .i64 0)] a ∧
    Mm own W [⟨b10, ⟨[.func (.func 44) #[.agg #[.slice a1 B.V.length c1, .int .i64 B.S]] #[]]⟩, 58⟩, ⟨b9, ⟨[.func (.func 44) #[.agg #[.slice a0 A.V.length c0, .int .i64 A.S]] #[]]⟩, 58⟩,
      ⟨b4, ⟨[.slice none 0 0, .int .i64 0]⟩, 24⟩, ⟨b3, ⟨[.slice a1 B.V.length c1, .int .i64 B.S]⟩, 24⟩, ⟨b2, ⟨[.slice a0 A.V.length c0, .int .i64 A.S]⟩, 24⟩] []
      [(IsCu · (.agg #[.slice a1 B.V.length c1, .int .i64 B.S]) B), (IsCu · (.agg #[.slice a0 A.V.length c0, .int .i64 A.S]) A)] w) ?_ ?_
  · refine c_draw (fun i => Nat.ble 7 i) hM ?_; clear hM; intro w hM
    (first | (apply t_load (i := 0) hF rfl rfl rfl; (repeat (first | exact List.mem_cons_self | refine List.mem_cons_of_mem _ ?_)); exact rfl; exact rfl; kernel_rfl; exact hM.sm; exact (fun _ _ _ h => h); clear hF a; intro a hF))
    (first | (refine t_pure (i := 1) hF rfl rfl rfl rfl (by kernel_rfl) hM.sm (fun _ _ _ h => h) ?_ ?_; (first | exact trivial | omega | decide); clear hF a; intro a hF))
    (first | (apply t_load (i := 2) hF rfl rfl rfl; (repeat (first | exact List.mem_cons_self | refine List.mem_cons_of_mem _ ?_)); exact rfl; exact rfl; kernel_rfl; exact hM.sm; exact (fun _ _ _ h => h); clear hF a; intro a hF))
    (first | (refine t_pure (i := 3) hF rfl rfl rfl rfl (by kernel_rfl) hM.sm (fun _ _ _ h => h) ?_ ?_; (first | exact trivial | omega | decide); clear hF a; intro a hF))
    refine t_two (i := 4) (j := 5) hF rfl rfl (by kernel_rfl) rfl rfl ?_ ?_
    ·
      intro K hK
      (refine x_alloc hF hM rfl rfl ?_; clear hF hM a; intro b w a hM hF)
      refine hK _ _ (fun _ => (hM.sm.sub (fun x hx => by repeat (first | exact hx | refine List.mem_cons_of_mem _ ?_)) (fun _ h => by repeat (first | exact h | refine List.mem_cons_of_mem _ ?_)))) ?_; clear hK
      refine t_one (i := 5) hF rfl (by kernel_rfl) rfl ?_
      intro K hK
      (refine x_alloc hF hM rfl rfl ?_; clear hF hM a; intro b w a hM hF)
      refine hK _ _ (fun _ => (hM.sm.sub (fun x hx => by repeat (first | exact hx | refine List.mem_cons_of_mem _ ?_)) (fun _ h => by repeat (first | exact h | refine List.mem_cons_of_mem _ ?_)))) ?_; clear hK
      refine t_one (i := 6) hF rfl (by kernel_rfl) rfl ?_
      intro K hK
      (apply x_store hF hM rfl rfl rfl; (repeat (first | exact Upd.z | apply Upd.s)); exact rfl; exact rfl; exact rfl; clear hF hM a; intro w a hM hF)
      refine hK _ _ (fun _ => (hM.sm.sub (fun x hx => by repeat (first | exact hx | refine List.mem_cons_of_mem _ ?_)) (fun _ h => by repeat (first | exact h | refine List.mem_cons_of_mem _ ?_)))) ?_; clear hK
      refine t_one (i := 7) hF rfl (by kernel_rfl) rfl ?_
      intro K hK
      (apply x_store hF hM rfl rfl rfl; (repeat (first | exact Upd.z | apply Upd.s)); exact rfl; exact rfl; exact rfl; clear hF hM a; intro w a hM hF)
      refine hK _ _ (fun h => by cases h) ?_; clear hK
      refine t_done (by kernel_rfl) ?_
      refine q_cut ?_
      apply Exists.intro
      apply Exists.intro
      apply And.intro
      · exact hF.sub (by repeat (first | exact Sub.nil | refine Sub.cons rfl (by first | with_reducible rfl | (refine congrArg (Value.int _) ?_; omega) | exact rfl) ?_))
      · first | exact hM.sub (.cons_cons _ (.cons_cons _ (.cons _ (.cons _ (.refl _))))) (.refl _) (fun _ h => h) | exact (hM.perm (List.Perm.swap _ _ _)).sub (.cons_cons _ (.cons_cons _ (.cons _ (.cons _ (.refl _))))) (.refl _) (fun _ h => h)
    ·
      intro K hK
      (refine x_alloc hF hM rfl rfl ?_; clear hF hM a; intro b w a hM hF)
      refine hK _ _ (fun _ => (hM.sm.sub (fun x hx => by repeat (first | exact hx | refine List.mem_cons_of_mem _ ?_)) (fun _ h => by repeat (first | exact h | refine List.mem_cons_of_mem _ ?_)))) ?_; clear hK
      refine t_one (i := 4) hF rfl (by kernel_rfl) rfl ?_
      intro K hK
      (refine x_alloc hF hM rfl rfl ?_; clear hF hM a; intro b w a hM hF)
      refine hK _ _ (fun _ => (hM.sm.sub (fun x hx => by repeat (first | exact hx | refine List.mem_cons_of_mem _ ?_)) (fun _ h => by repeat (first | exact h | refine List.mem_cons_of_mem _ ?_)))) ?_; clear hK
      refine t_one (i := 6) hF rfl (by kernel_rfl) rfl ?_
      intro K hK
      (apply x_store hF hM rfl rfl rfl; (repeat (first | exact Upd.z | apply Upd.s)); exact rfl; exact rfl; exact rfl; clear hF hM a; intro w a hM hF)
      refine hK _ _ (fun _ => (hM.sm.sub (fun x hx => by repeat (first | exact hx | refine List.mem_cons_of_mem _ ?_)) (fun _ h => by repeat (first | exact h | refine List.mem_cons_of_mem _ ?_)))) ?_; clear hK
      refine t_one (i := 7) hF rfl (by kernel_rfl) rfl ?_
      intro K hK
      (apply x_store hF hM rfl rfl rfl; (repeat (first | exact Upd.z | apply Upd.s)); exact rfl; exact rfl; exact rfl; clear hF hM a; intro w a hM hF)
      refine hK _ _ (fun h => by cases h) ?_; clear hK
      refine t_done (by kernel_rfl) ?_
      refine q_cut ?_
      apply Exists.intro
      apply Exists.intro
      apply And.intro
      · exact hF.sub (by repeat (first | exact Sub.nil | refine Sub.cons rfl (by first | with_reducible rfl | (refine congrArg (Value.int _) ?_; omega) | exact rfl) ?_))
      · first | exact hM.sub (.cons_cons _ (.cons_cons _ (.cons _ (.cons _ (.refl _))))) (.refl _) (fun _ h => h) | exact (hM.perm (List.Perm.swap _ _ _)).sub (.cons_cons _ (.cons_cons _ (.cons _ (.cons _ (.refl _))))) (.refl _) (fun _ h => h)
  clear hF hM a
  rintro a w ⟨b9, b10, hF, hM⟩
  (repeat' (first | (with_reducible refine w_seq ?_)))
  refine c_draw (fun i => Nat.ble 8 i) hM ?_; clear hM; intro w hM
  (first | (refine t_pure (i := 0) hF rfl rfl rfl rfl (by kernel_rfl) hM.sm (fun _ _ _ h => h) ?_ ?_; (first | exact trivial | omega | decide); clear hF a; intro a hF))
  (first | (apply t_load (i := 1) hF rfl rfl rfl; (repeat (first | exact List.mem_cons_self | refine List.mem_cons_of_mem _ ?_)); exact rfl; exact rfl; kernel_rfl; exact hM.sm; exact (fun _ _ _ h => h); clear hF a; intro a hF))
  (first | (refine t_pure (i := 2) hF rfl rfl rfl rfl (by kernel_rfl) hM.sm (fun _ _ _ h => h) ?_ ?_; (first | exact trivial | omega | decide); clear hF a; intro a hF))
  (first | (refine t_pure (i := 3) hF rfl rfl rfl rfl (by kernel_rfl) hM.sm (fun _ _ _ h => h) ?_ ?_; (first | exact trivial | omega | decide); clear hF a; intro a hF))
  (first | (apply t_load (i := 4) hF rfl rfl rfl; (repeat (first | exact List.mem_cons_self | refine List.mem_cons_of_mem _ ?_)); exact rfl; exact rfl; kernel_rfl; exact hM.sm; exact (fun _ _ _ h => h); clear hF a; intro a hF))
  (first | (refine t_pure (i := 5) hF rfl rfl rfl rfl (by kernel_rfl) hM.sm (fun _ _ _ h => h) ?_ ?_; (first | exact trivial | omega | decide); clear hF a; intro a hF))
  (first | (refine t_pure (i := 6) hF rfl rfl rfl rfl (by kernel_rfl) hM.sm (fun _ _ _ h => h) ?_ ?_; (first | exact trivial | omega | decide); clear hF a; intro a hF))
  (first | (refine t_pure (i := 7) hF rfl rfl rfl rfl (by kernel_rfl) hM.sm (fun _ _ _ h => h) ?_ ?_; (first | exact trivial | omega | decide); clear hF a; intro a hF))
  refine t_done (by kernel_rfl) ?_
  (repeat' (first | (with_reducible refine w_seq ?_) | (with_reducible refine c_region ?_) | (with_reducible refine s_nil ?_) | (with_reducible refine q_then_n ?_) | ((with_reducible apply s_pure hF); exact rfl; exact rfl; exact rfl; (first | exact trivial | omega | decide); clear hF a; intro a hF)))
  obtain ⟨r, hr⟩ : ∃ r : Nat, A.V.length + B.V.length - 2 = r := ⟨_, rfl⟩
  have hrz : (A.V.length : Int) + B.V.length - 2 = (r : Int) := by omega
  rw [hrz] at hF
  unfold convK at *
  rw [hr] at d1 d2 d3 ⊢
  refine c_draw (fun i => Nat.ble 18 i) hM ?_; clear hM; intro w hM
  (first | (refine t_pure (i := 0) hF rfl rfl rfl rfl (by kernel_rfl) hM.sm (fun _ _ _ h => h) ?_ ?_; (first | exact trivial | omega | decide); clear hF a; intro a hF))
  (first | (refine t_pure (i := 1) hF rfl rfl rfl rfl (by kernel_rfl) hM.sm (fun _ _ _ h => h) ?_ ?_; (first | exact trivial | omega | decide); clear hF a; intro a hF))
  (first | (apply t_load (i := 2) hF rfl rfl rfl; (repeat (first | exact List.mem_cons_self | refine List.mem_cons_of_mem _ ?_)); exact rfl; exact rfl; kernel_rfl; exact hM.sm; exact (fun _ _ _ h => h); clear hF a; intro a hF))
  (first | (apply t_load (i := 3) hF rfl rfl rfl; (repeat (first | exact List.mem_cons_self | refine List.mem_cons_of_mem _ ?_)); exact rfl; exact rfl; kernel_rfl; exact hM.sm; exact (fun _ _ _ h => h); clear hF a; intro a hF))
  (first | (refine t_pure (i := 5) hF rfl rfl rfl rfl (by kernel_rfl) hM.sm (fun _ _ _ h => h) ?_ ?_; (first | exact trivial | omega | decide); clear hF a; intro a hF))
  (first | (apply t_load (i := 6) hF rfl rfl rfl; (repeat (first | exact List.mem_cons_self | refine List.mem_cons_of_mem _ ?_)); exact rfl; exact rfl; kernel_rfl; exact hM.sm; exact (fun _ _ _ h => h); clear hF a; intro a hF))
  (first | (refine t_pure (i := 8) hF rfl rfl rfl rfl (by kernel_rfl) hM.sm (fun _ _ _ h => h) ?_ ?_; (first | exact trivial | omega | decide); clear hF a; intro a hF))
  (first | (refine t_pure (i := 9) hF rfl rfl rfl rfl (by kernel_rfl) hM.sm (fun _ _ _ h => h) ?_ ?_; (first | exact trivial | omega | decide); clear hF a; intro a hF))
  (first | (apply t_load (i := 10) hF rfl rfl rfl; (repeat (first | exact List.mem_cons_self | refine List.mem_cons_of_mem _ ?_)); exact rfl; exact rfl; kernel_rfl; exact hM.sm; exact (fun _ _ _ h => h); clear hF a; intro a hF))
  (first | (apply t_load (i := 11) hF rfl rfl rfl; (repeat (first | exact List.mem_cons_self | refine List.mem_cons_of_mem _ ?_)); exact rfl; exact rfl; kernel_rfl; exact hM.sm; exact (fun _ _ _ h => h); clear hF a; intro a hF))
  (first | (refine t_pure (i := 13) hF rfl rfl rfl rfl (by kernel_rfl) hM.sm (fun _ _ _ h => h) ?_ ?_; (first | exact trivial | omega | decide); clear hF a; intro a hF))
  (first | (apply t_load (i := 14) hF rfl rfl rfl; (repeat (first | exact List.mem_cons_self | refine List.mem_cons_of_mem _ ?_)); exact rfl; exact rfl; kernel_rfl; exact hM.sm; exact (fun _ _ _ h => h); clear hF a; intro a hF))
  refine t_one (i := 4) hF rfl (by kernel_rfl) rfl ?_
  intro K hK
  (apply x_call hF hM; exact rfl; exact rfl; exact rfl; exact rfl; exact (least_z A B ha hb _ _ A.V.length r _ _ rfl rfl (by omega) (by omega) (by omega) _ _ hM.lt (hM.facts (IsCu · _ A) (by (repeat (first | exact List.mem_cons_self | refine List.mem_cons_of_mem _ ?_)))) (hM.facts (IsCu · _ B) (by (repeat (first | exact List.mem_cons_self | refine List.mem_cons_of_mem _ ?_))))); clear hF hM a; rintro v w a rfl - hM hF)
  refine hK _ _ (fun _ => hM.sm) ?_; clear hK
  (first | (refine t_pure (i := 7) hF rfl rfl rfl rfl (by kernel_rfl) hM.sm (fun _ _ _ h => h) ?_ ?_; (first | exact trivial | omega | decide); clear hF a; intro a hF))
  refine t_one (i := 12) hF rfl (by kernel_rfl) rfl ?_
  intro K hK
  (apply x_call hF hM; exact rfl; exact rfl; exact rfl; exact rfl; exact (least_z B A hb ha _ _ B.V.length r _ _ rfl rfl (by omega) (by omega) (by omega) _ _ hM.lt (hM.facts (IsCu · _ B) (by (repeat (first | exact List.mem_cons_self | refine List.mem_cons_of_mem _ ?_)))) (hM.facts (IsCu · _ A) (by (repeat (first | exact List.mem_cons_self | refine List.mem_cons_of_mem _ ?_))))); clear hF hM a; rintro v w a rfl - hM hF)
  refine hK _ _ (fun _ => hM.sm) ?_; clear hK
  (first | (refine t_pure (i := 15) hF rfl rfl rfl rfl (by kernel_rfl) hM.sm (fun _ _ _ h => h) ?_ ?_; (first | exact trivial | omega | decide); clear hF a; intro a hF))
  refine t_one (i := 16) hF rfl (by kernel_rfl) rfl ?_
  intro K hK
  (apply x_call hF hM; exact rfl; exact rfl; exact rfl; exact rfl; exact (crossing_c _ _ _ _ _ (by omega) (by omega) hb.s ha.s); clear hF hM a; rintro v w a rfl - hM hF)
  refine hK _ _ (fun _ => hM.sm) ?_; clear hK
  (first | (refine t_pure (i := 17) hF rfl rfl rfl rfl (by kernel_rfl) hM.sm (fun _ _ _ h => h) ?_ ?_; (first | exact trivial | omega | decide); clear hF a; intro a hF))
  refine t_done (by kernel_rfl) ?_
  generalize hkk : cross (lst (vl A) (vl B) r (A.V.length - 1)) B.S (lst (vl B) (vl A) r (B.V.length - 1)) A.S = kk at hF d3 ⊢
  (repeat (first | (with_reducible refine w_seq ?_) | (with_reducible refine c_region ?_) | (with_reducible refine s_nil ?_) | ((with_reducible apply s_call (f := 49) hF hM); exact rfl; exact rfl; exact rfl; exact rfl; exact rfl; exact (made_z _ (by rfl) _ (fun t => lst (vl A) (vl B) t t) _ _ _ (show _ = ((A.V.length + B.V.length - 1 + kk.toNat : Nat) : Int) by omega) _ _ hM.lt (fun k w' hk hn hs => conv1_c A B ha hb _ _ _ _ _ _ own w' (fun b h => Nat.lt_of_lt_of_le (hM.lt b (.inl h)) hs.size) ((hM.boxFact (by (repeat (first | exact List.mem_cons_self | refine List.mem_cons_of_mem _ ?_)))).since hs) ((hM.boxFact (by (repeat (first | exact List.mem_cons_self | refine List.mem_cons_of_mem _ ?_)))).since hs) ((hM.factOut (f := (IsCu · _ A)) (by (repeat (first | exact List.mem_cons_self | refine List.mem_cons_of_mem _ ?_)))).since hs) ((hM.factOut (f := (IsCu · _ B)) (by (repeat (first | exact List.mem_cons_self | refine List.mem_cons_of_mem _ ?_)))).since hs) k (by omega))); clear hF hM a; rintro v w a ⟨cv, rfl, hcv⟩ - hM hF; (obtain ⟨a2, c2, rfl, -, -, -⟩ := isCu_open hcv); replace hM := hM.addFact hcv) | (with_reducible refine q_then_n ?_) | ((with_reducible apply s_pure hF); exact rfl; exact rfl; exact rfl; (first | exact trivial | omega | decide); clear hF a; intro a hF) | ((with_reducible apply s_load hF hM); exact rfl; exact rfl; (repeat (first | exact List.mem_cons_self | refine List.mem_cons_of_mem _ ?_)); exact rfl; exact rfl; clear hF a; intro a hF) | ((with_reducible apply s_store hF hM); exact rfl; exact rfl; exact rfl; exact rfl; (repeat (first | exact Upd.z | apply Upd.s)); exact rfl; exact rfl; exact rfl; clear hM; intro w hM) | (with_reducible refine w_ret ?_)))
  (apply f_ret Try.results21 hF hM; (repeat (first | exact RL.nil | (apply RL.tmp; exact rfl) | (apply RL.cell; exact rfl; (repeat (first | exact List.mem_cons_self | refine List.mem_cons_of_mem _ ?_)); exact rfl))); refine Ret.mk hM.since ?_; dsimp only [resV])
  exact ⟨_, rfl, hM.factOut (by (repeat (first | exact List.mem_cons_self | refine List.mem_cons_of_mem _ ?_)))⟩
end Go.Proofs.Ytpkledpnicocmaa
