/- throttle: the small functions. -/
import Derived.Test.YtobflnjbdghnhaaHa
set_option linter.unusedSimpArgs false
set_option linter.unusedVariables false
set_option linter.unusedSectionVars false
namespace Go.Proofs.Ytobflnjbdghnhaa
open Go.RowKit Go.Shelf
/-- Marks, as the program's memory holds them. -/
abbrev Mk := List (Int × Int)
def mks (ms : Mk) : List (List Int) := ms.map fun m => [m.1, m.2]
def tot (ms : Mk) : Int := match ms.getLast? with | some m => m.2 | none => 0
def opn (cf : Int) : Mk → Nat
  | [] => 0
  | m :: r => if cf < m.2 then 0 else opn cf r + 1
theorem opn_le (cf : Int) : ∀ ms : Mk, opn cf ms ≤ ms.length
  | [] => Nat.le_refl _
  | m :: r => by
    unfold opn
    have := opn_le cf r
    split
    · simp
    · simp; exact this
theorem opn_lt (cf : Int) : ∀ {ms : Mk} {k : Nat} {m : Int × Int}, ms[k]? = some m → k < opn cf ms → m.2 ≤ cf
  | [], k, m, h, _ => by simp at h
  | x :: r, 0, m, h, hk => by
    simp at h
    subst h
    unfold opn at hk
    split at hk <;> omega
  | x :: r, k + 1, m, h, hk => by
    unfold opn at hk
    split at hk
    · omega
    · exact opn_lt cf (by simpa using h) (by omega : k < opn cf r)
theorem opn_at (cf : Int) : ∀ {ms : Mk} {m : Int × Int}, ms[opn cf ms]? = some m → cf < m.2
  | [], m, h => by simp at h
  | x :: r, m, h => by
    unfold opn at h
    split at h
    · simp at h; subst h; assumption
    · exact opn_at cf (by simpa using h)
theorem opn_eq {cf : Int} {ms : Mk} {k : Nat} {m : Int × Int} (hk : k ≤ opn cf ms) (h : ms[k]? = some m) (hc : cf < m.2) : opn cf ms = k := by
  by_cases hq : k = opn cf ms
  · exact hq.symm
  · have := opn_lt cf h (by omega); omega
theorem opn_succ {cf : Int} {ms : Mk} {k : Nat} {m : Int × Int} (hk : k ≤ opn cf ms) (h : ms[k]? = some m) (hc : ¬ cf < m.2) : k + 1 ≤ opn cf ms := by
  by_cases hq : k = opn cf ms
  · rw [hq] at h; have := opn_at cf h; omega
  · omega
theorem mks_len (ms : Mk) : (mks ms).flatten.length = ms.length * 2 := by
  induction ms with
  | nil => rfl
  | cons m r ih =>
    have : (mks (m :: r)).flatten = m.1 :: m.2 :: (mks r).flatten := rfl
    rw [this, List.length_cons, List.length_cons, List.length_cons, ih]; omega
theorem mks_w (ms : Mk) : ∀ y ∈ mks ms, y.length = 2 := by
  intro y hy
  obtain ⟨m, _, rfl⟩ := List.mem_map.1 hy
  rfl
theorem mks_get {ms : Mk} {k : Nat} {m : Int × Int} (h : ms[k]? = some m) : (mks ms)[k]? = some [m.1, m.2] := by
  unfold mks; rw [List.getElem?_map, h]; rfl
theorem mks_0 {ms : Mk} {k : Nat} {m : Int × Int} (h : ms[k]? = some m) : (mks ms).flatten[k * 2 + 0]? = some m.1 := flat_get (mks_w ms) (mks_get h) (q := 0) rfl
theorem mks_1 {ms : Mk} {k : Nat} {m : Int × Int} (h : ms[k]? = some m) : (mks ms).flatten[k * 2 + 1]? = some m.2 := flat_get (mks_w ms) (mks_get h) (q := 1) rfl
theorem tot_get {ms : Mk} (h : 0 < ms.length) : ∃ m, ms[ms.length - 1]? = some m ∧ tot ms = m.2 := by
  have h1 : ms.length - 1 < ms.length := by omega
  refine ⟨ms[ms.length - 1], List.getElem?_eq_getElem h1, ?_⟩
  unfold tot
  rw [List.getLast?_eq_getElem?, List.getElem?_eq_getElem h1]
abbrev thV (O R T B : Int) (a : Option Addr) (n c : Nat) : Value := .agg #[.int .i64 O, .int .i64 R, .int .i64 T, .int .i64 B, .slice a n c]
theorem between_t (x lo hi : Int) {own : Nat → Prop} (W : World) (hl : ∀ b, own b → b < W.heap.size) (h : lo ≤ x ∧ x ≤ hi) : Calls Try.prog 15 ⟨[.int .i64 x, .int .i64 lo, .int .i64 hi]⟩ W (Ret W fun v _ => v = .bool true) := by
  have hM := Mm.start hl
  refine f_start Try.func15 rfl Try.ntmps15 rfl rfl ?_; intro a hF
  (repeat' (first | (with_reducible refine w_seq ?_) | (with_reducible refine c_region ?_) | (with_reducible refine s_nil ?_) | (with_reducible refine q_then_n ?_) | ((with_reducible apply s_pure hF); exact rfl; exact rfl; exact rfl; (first | exact trivial | omega | exact ⟨Int.natCast_nonneg _, Int.ofNat_lt.2 (by assumption)⟩ | decide); clear hF a; intro a hF) | (with_reducible refine w_ret ?_) | ((with_reducible apply g_dec hF); exact rfl; exact rfl; all_goals (clear hF; intro hc hF); all_goals (try (exfalso; omega)))))
  (apply f_ret Try.results15 hF hM; (repeat (first | exact RL.nil | (apply RL.tmp; exact rfl) | (apply RL.cell; exact rfl; (repeat (first | exact List.mem_cons_self | refine List.mem_cons_of_mem _ ?_)); exact rfl))); refine Ret.mk hM.since ?_; dsimp only [resV])
  simp; omega
section
variable (O R T B : Int) (a0 : Option Addr) (n c0 : Nat) (ms : Mk) (hn : ms.length = n) (hb : n ≤ 100000) {own : Nat → Prop} (W : World) (hl : ∀ b, own b → b < W.heap.size) (hv : Has own W (RdF (Value.int .i64) a0 (mks ms).flatten))
theorem new_c (hl : ∀ b, own b → b < W.heap.size) (hO : 1 ≤ O ∧ O ≤ 1073741824) (hR : 1 ≤ R ∧ R ≤ 4096) : Calls Try.prog 9 ⟨[.int .i64 O, .int .i64 R]⟩ W (Ret W fun v _ => v = .tuple #[thV O R 0 0 none 0 0, .int .i64 0]) := by
  have hM := Mm.start hl
  refine f_start Try.func9 rfl Try.ntmps9 rfl rfl ?_; intro a hF
  (repeat' (first | (with_reducible refine w_seq ?_) | (with_reducible refine c_region ?_) | (with_reducible refine s_nil ?_) | ((with_reducible apply s_call (f := 15) hF hM); exact rfl; exact rfl; exact rfl; exact rfl; exact rfl; exact (between_t _ _ _ _ (fun b h => hM.lt b (.inl h)) (by omega)); clear hF hM a; rintro v w a rfl - hM hF) | (with_reducible refine q_then_n ?_) | ((with_reducible apply s_pure hF); exact rfl; exact rfl; exact rfl; (first | exact trivial | omega | exact ⟨Int.natCast_nonneg _, Int.ofNat_lt.2 (by assumption)⟩ | decide); clear hF a; intro a hF) | ((with_reducible apply s_store hF hM); exact rfl; exact rfl; exact rfl; exact rfl; (repeat (first | exact Upd.z | apply Upd.s)); exact rfl; exact rfl; exact rfl; clear hM; intro w hM) | ((with_reducible apply s_alloc hF hM); exact rfl; exact rfl; exact rfl; clear hF hM a; intro b w a hM hF) | (with_reducible refine w_skip ?_) | (with_reducible refine w_ret ?_) | ((with_reducible apply c_false2 hF); exact rfl; (first | with_reducible rfl | (refine congrArg Value.bool ?_; focus (simp; done))))))
  (apply f_ret Try.results9 hF hM; (repeat (first | exact RL.nil | (apply RL.tmp; exact rfl) | (apply RL.cell; exact rfl; (repeat (first | exact List.mem_cons_self | refine List.mem_cons_of_mem _ ?_)); exact rfl))); refine Ret.mk hM.since ?_; dsimp only [resV])
theorem bound_c (hl : ∀ b, own b → b < W.heap.size) (hO : 1 ≤ O ∧ O ≤ 1073741824) (hR : 1 ≤ R ∧ R ≤ 4096) : Calls Try.prog 21 ⟨[thV O R T B a0 n c0]⟩ W (Ret W fun v _ => v = .int .i64 (R * O)) := by
  have hM := Mm.start hl
  have h1 : 0 ≤ R * O := Int.mul_nonneg (by omega) (by omega)
  have h2 : R * O ≤ 4096 * 1073741824 := Int.mul_le_mul (by omega) (by omega) (by omega) (by omega)
  refine f_start Try.func21 rfl Try.ntmps21 rfl rfl ?_; intro a hF
  (repeat' (first | (with_reducible refine w_seq ?_) | (with_reducible refine c_region ?_) | (with_reducible refine s_nil ?_) | (with_reducible refine q_then_n ?_) | ((with_reducible apply s_pure hF); exact rfl; exact rfl; exact rfl; (first | exact trivial | omega | exact ⟨Int.natCast_nonneg _, Int.ofNat_lt.2 (by assumption)⟩ | decide); clear hF a; intro a hF) | ((with_reducible apply s_load hF hM); exact rfl; exact rfl; (repeat (first | exact List.mem_cons_self | refine List.mem_cons_of_mem _ ?_)); exact rfl; exact rfl; clear hF a; intro a hF) | ((with_reducible apply s_box hF hM); exact rfl; exact rfl; exact rfl; exact rfl; clear hF hM a; intro b w a hM hF) | (with_reducible refine w_ret ?_)))
  (apply f_ret Try.results21 hF hM; (repeat (first | exact RL.nil | (apply RL.tmp; exact rfl) | (apply RL.cell; exact rfl; (repeat (first | exact List.mem_cons_self | refine List.mem_cons_of_mem _ ?_)); exact rfl))); refine Ret.mk hM.since ?_; dsimp only [resV])
include hn hb hl hv
theorem total_c : Calls Try.prog 20 ⟨[thV O R T B a0 n c0]⟩ W (Ret W fun v _ => v = .int .i64 (tot ms)) := by
  have hM := (Mm.start hl).known hv
  refine f_start Try.func20 rfl Try.ntmps20 rfl rfl ?_; intro a hF
  rcases Nat.eq_zero_or_pos n with h0 | h0
  · subst h0
    obtain rfl := List.length_eq_zero_iff.1 hn
    (repeat' (first | (with_reducible refine w_seq ?_) | (with_reducible refine c_region ?_) | (with_reducible refine s_nil ?_) | (with_reducible refine q_then_n ?_) | ((with_reducible apply s_pure hF); exact rfl; exact rfl; exact rfl; (first | exact trivial | omega | exact ⟨Int.natCast_nonneg _, Int.ofNat_lt.2 (by assumption)⟩ | decide); clear hF a; intro a hF) | ((with_reducible apply s_load hF hM); exact rfl; exact rfl; (repeat (first | exact List.mem_cons_self | refine List.mem_cons_of_mem _ ?_)); exact rfl; exact rfl; clear hF a; intro a hF) | ((with_reducible apply s_box hF hM); exact rfl; exact rfl; exact rfl; exact rfl; clear hF hM a; intro b w a hM hF) | (with_reducible refine w_skip ?_) | (with_reducible refine w_ret ?_) | ((with_reducible apply c_false2 hF); exact rfl; (first | with_reducible rfl | (refine congrArg Value.bool ?_; focus (simp; done))))))
    (apply f_ret Try.results20 hF hM; (repeat (first | exact RL.nil | (apply RL.tmp; exact rfl) | (apply RL.cell; exact rfl; (repeat (first | exact List.mem_cons_self | refine List.mem_cons_of_mem _ ?_)); exact rfl))); refine Ret.mk hM.since ?_; dsimp only [resV])
    rfl
  · obtain ⟨m, h1, h2⟩ := tot_get (ms := ms) (by omega)
    have hx := mks_1 h1
    have h3 : ((n : Int) - 1).toNat = ms.length - 1 := by omega
    rw [← h3, ← h2] at hx
    obtain ⟨ad, rfl⟩ := rd_some hM (by (repeat (first | exact List.mem_cons_self | refine List.mem_cons_of_mem _ ?_))) hx
    (repeat' (first | (with_reducible refine w_seq ?_) | (with_reducible refine c_region ?_) | (with_reducible refine s_nil ?_) | ((with_reducible apply s_fieldA hF); exact rfl; exact rfl; exact rfl; exact rfl; clear hF a; intro a hF) | ((with_reducible apply s_loadP hF hM); exact rfl; exact rfl; (repeat (first | exact List.mem_cons_self | refine List.mem_cons_of_mem _ ?_)); exact rfl; exact rfl; (first | with_reducible assumption | (simp only [Int.toNat_natCast]; with_reducible assumption)); clear hF a; intro a hF) | (with_reducible refine q_then_n ?_) | ((with_reducible apply s_pure hF); exact rfl; exact rfl; exact rfl; (first | exact trivial | omega | exact ⟨Int.natCast_nonneg _, Int.ofNat_lt.2 (by assumption)⟩ | decide); clear hF a; intro a hF) | ((with_reducible apply s_load hF hM); exact rfl; exact rfl; (repeat (first | exact List.mem_cons_self | refine List.mem_cons_of_mem _ ?_)); exact rfl; exact rfl; clear hF a; intro a hF) | ((with_reducible apply s_box hF hM); exact rfl; exact rfl; exact rfl; exact rfl; clear hF hM a; intro b w a hM hF) | (with_reducible refine w_ret ?_) | (with_reducible refine q_then_r ?_) | ((with_reducible apply c_dec hF); exact rfl; all_goals intro hc; all_goals (try (exfalso; omega)))))
    (apply f_ret Try.results20 hF hM; (repeat (first | exact RL.nil | (apply RL.tmp; exact rfl) | (apply RL.cell; exact rfl; (repeat (first | exact List.mem_cons_self | refine List.mem_cons_of_mem _ ?_)); exact rfl))); refine Ret.mk hM.since ?_; dsimp only [resV])
theorem confirmed_c (ht : 0 ≤ tot ms ∧ tot ms ≤ 1073741824) (hB : 0 ≤ B ∧ B ≤ 1073741824) : Calls Try.prog 18 ⟨[thV O R T B a0 n c0]⟩ W (Ret W fun v _ => v = .int .i64 (tot ms - B)) := by
  have hM := (Mm.start hl).known hv
  refine f_start Try.func18 rfl Try.ntmps18 rfl rfl ?_; intro a hF
  (repeat (first | (with_reducible refine w_seq ?_) | (with_reducible refine c_region ?_) | (with_reducible refine s_nil ?_) | (with_reducible refine q_then_n ?_) | ((with_reducible apply s_pure hF); exact rfl; exact rfl; exact rfl; (first | exact trivial | omega | exact ⟨Int.natCast_nonneg _, Int.ofNat_lt.2 (by assumption)⟩ | decide); clear hF a; intro a hF) | ((with_reducible apply s_box hF hM); exact rfl; exact rfl; exact rfl; exact rfl; clear hF hM a; intro b w a hM hF)))
  refine c_draw (fun i => Nat.ble 7 i) hM ?_; clear hM; intro w hM
  (first | (apply t_load (i := 0) hF rfl rfl rfl; (repeat (first | exact List.mem_cons_self | refine List.mem_cons_of_mem _ ?_)); exact rfl; exact rfl; kernel_rfl; exact hM.sm; exact (fun _ _ _ h => h); clear hF a; intro a hF))
  (first | (refine t_pure (i := 2) hF rfl rfl rfl rfl (by kernel_rfl) hM.sm (fun _ _ _ h => h) ?_ ?_; (first | exact trivial | omega | decide); clear hF a; intro a hF))
  (first | (refine t_pure (i := 3) hF rfl rfl rfl rfl (by kernel_rfl) hM.sm (fun _ _ _ h => h) ?_ ?_; (first | exact trivial | omega | decide); clear hF a; intro a hF))
  (first | (apply t_load (i := 4) hF rfl rfl rfl; (repeat (first | exact List.mem_cons_self | refine List.mem_cons_of_mem _ ?_)); exact rfl; exact rfl; kernel_rfl; exact hM.sm; exact (fun _ _ _ h => h); clear hF a; intro a hF))
  refine t_one (i := 1) hF rfl (by kernel_rfl) rfl ?_
  intro K hK
  (apply x_call hF hM; exact rfl; exact rfl; exact rfl; exact rfl; exact (total_c O R T B a0 n c0 ms hn hb _ hM.lt (hM.facts _ (by (repeat (first | exact List.mem_cons_self | refine List.mem_cons_of_mem _ ?_))))); clear hF hM a; rintro v w a rfl - hM hF)
  refine hK _ _ (fun _ => hM.sm) ?_; clear hK
  (first | (refine t_pure (i := 5) hF rfl rfl rfl rfl (by kernel_rfl) hM.sm (fun _ _ _ h => h) ?_ ?_; (first | exact trivial | omega | decide); clear hF a; intro a hF))
  (first | (refine t_pure (i := 6) hF rfl rfl rfl rfl (by kernel_rfl) hM.sm (fun _ _ _ h => h) ?_ ?_; (first | exact trivial | omega | decide); clear hF a; intro a hF))
  refine t_done (by kernel_rfl) ?_
  (repeat (first | (with_reducible refine q_then_n ?_) | (with_reducible refine w_ret ?_)))
  (apply f_ret Try.results18 hF hM; (repeat (first | exact RL.nil | (apply RL.tmp; exact rfl) | (apply RL.cell; exact rfl; (repeat (first | exact List.mem_cons_self | refine List.mem_cons_of_mem _ ?_)); exact rfl))); refine Ret.mk hM.since ?_; dsimp only [resV])
end
theorem open1_c (b : Nat) (t u cf : Int) {own : Nat → Prop} (W : World) (hl : ∀ b, own b → b < W.heap.size) (hc : Has own W (BxF b [.int .i64 cf] 3)) : Calls Try.prog 24 ⟨[.agg #[.int .i64 t, .int .i64 u], .pointer (some ⟨b, 0, none⟩)]⟩ W (Ret W fun v _ => v = .bool (decide (cf < u))) := by
  have hM := (Mm.start hl).known hc
  refine f_start Try.func24 rfl Try.ntmps24 rfl rfl ?_; intro a hF
  (repeat (first | (with_reducible refine w_seq ?_) | (with_reducible refine c_region ?_) | (with_reducible refine s_nil ?_) | (with_reducible refine q_then_n ?_) | ((with_reducible apply s_pure hF); exact rfl; exact rfl; exact rfl; (first | exact trivial | omega | exact ⟨Int.natCast_nonneg _, Int.ofNat_lt.2 (by assumption)⟩ | decide); clear hF a; intro a hF) | ((with_reducible apply s_load hF hM); exact rfl; exact rfl; (repeat (first | exact List.mem_cons_self | refine List.mem_cons_of_mem _ ?_)); exact rfl; exact rfl; clear hF a; intro a hF) | ((with_reducible apply s_loadK hF hM); exact rfl; exact rfl; (repeat (first | exact List.mem_cons_self | refine List.mem_cons_of_mem _ ?_)); exact rfl; exact rfl; clear hF a; intro a hF) | ((with_reducible apply s_box hF hM); exact rfl; exact rfl; exact rfl; exact rfl; clear hF hM a; intro b w a hM hF) | (with_reducible refine w_ret ?_)))
  (apply f_ret Try.results24 hF hM; (repeat (first | exact RL.nil | (apply RL.tmp; exact rfl) | (apply RL.cell; exact rfl; (repeat (first | exact List.mem_cons_self | refine List.mem_cons_of_mem _ ?_)); exact rfl))); refine Ret.mk hM.since ?_; dsimp only [resV])
section
variable (a0 : Option Addr) (n c0 : Nat) (ms : Mk) (hn : ms.length = n) (hb : n ≤ 100000) {own : Nat → Prop} (W : World) (hl : ∀ b, own b → b < W.heap.size) (hv : Has own W (RdF (Value.int .i64) a0 (mks ms).flatten))
include hn hb hl hv
set_option maxHeartbeats 1000000 in
theorem idxM_c (cb : Nat) (cf : Int) (hc : Has own W (BxF cb [.int .i64 cf] 3)) : Calls Try.prog 26 ⟨[.slice a0 n c0, .func (.func 24) #[] #[.pointer (some ⟨cb, 0, none⟩)]]⟩ W (Ret W fun v _ => v = .int .i64 (if opn cf ms < n then (opn cf ms : Int) else -1)) := by
  have hM := ((Mm.start hl).known hv).known hc
  have hw := mks_w ms
  have hle := opn_le cf ms
  refine f_start Try.func26 rfl Try.ntmps26 rfl rfl ?_; intro a hF
  (repeat (first | (with_reducible refine w_seq ?_) | (with_reducible refine c_region ?_) | (with_reducible refine s_nil ?_) | (with_reducible refine q_then_n ?_) | ((with_reducible apply s_pure hF); exact rfl; exact rfl; exact rfl; (first | exact trivial | omega | exact ⟨Int.natCast_nonneg _, Int.ofNat_lt.2 (by assumption)⟩ | decide); clear hF a; intro a hF) | (with_reducible refine w_block ?_)))
  refine c_loop (m := n) (fun m a w' => ∃ k : Nat, m + k = n ∧ k ≤ opn cf ms ∧ Fr 19 [] [(8, .int .i64 k), (7, .int .i64 n), (1, .func (.func 24) #[] #[.pointer (some ⟨cb, 0, none⟩)]), (0, .slice a0 n c0)] a ∧
    Mm own W [] [] [BxF cb [.int .i64 cf] 3, RdF (Value.int .i64) a0 (mks ms).flatten] w')
    ⟨0, by omega, Nat.zero_le _, hF.sub (by repeat (first | exact Sub.nil | refine Sub.cons rfl (by first | with_reducible rfl | (refine congrArg (Value.int _) ?_; omega) | exact rfl) ?_)), hM⟩ ?_
  clear hF hM a
  rintro m a w' ⟨k, hm, hk, hF, hM⟩
  by_cases hlt : k < n
  · obtain ⟨x, hx⟩ : ∃ x, ms[k]? = some x := ⟨_, List.getElem?_eq_getElem (by omega)⟩
    have hx2 := mks_get hx
    obtain ⟨ad, rfl⟩ := rd_some hM (by (repeat (first | exact List.mem_cons_self | refine List.mem_cons_of_mem _ ?_))) (mks_0 hx)
    by_cases hc1 : cf < x.2
    · have he := opn_eq hk hx hc1
      rw [he, if_pos hlt]
      (repeat' (first | (with_reducible refine w_seq ?_) | (with_reducible refine c_region ?_) | (with_reducible refine s_nil ?_) | ((with_reducible apply s_callc (f := 24) hF hM); exact rfl; exact rfl; exact rfl; exact rfl; exact rfl; exact rfl; exact rfl; exact (open1_c cb x.1 x.2 cf _ hM.lt (hM.facts _ (by (repeat (first | exact List.mem_cons_self | refine List.mem_cons_of_mem _ ?_))))); clear hF hM a; rintro v w a rfl - hM hF) | ((with_reducible apply s_loadS hF hM); exact rfl; exact rfl; (repeat (first | exact List.mem_cons_self | refine List.mem_cons_of_mem _ ?_)); exact rfl; exact rfl; (first | with_reducible assumption | (simp only [Int.toNat_natCast]; with_reducible assumption)); (with_reducible assumption); clear hF a; intro a hF) | (with_reducible refine q_then_n ?_) | ((with_reducible apply s_pure hF); exact rfl; exact rfl; exact rfl; (first | exact trivial | omega | exact ⟨Int.natCast_nonneg _, Int.ofNat_lt.2 (by assumption)⟩ | decide); clear hF a; intro a hF) | (with_reducible refine w_skip ?_) | (with_reducible refine w_block ?_) | (with_reducible refine w_ret ?_) | (with_reducible refine q_then_r ?_) | (with_reducible refine q_blk_r ?_) | ((with_reducible apply c_dec hF); exact rfl; all_goals intro hc; all_goals (try (exfalso; omega)))))
      (apply f_ret Try.results26 hF hM; (repeat (first | exact RL.nil | (apply RL.tmp; exact rfl) | (apply RL.cell; exact rfl; (repeat (first | exact List.mem_cons_self | refine List.mem_cons_of_mem _ ?_)); exact rfl))); refine Ret.mk hM.since ?_; dsimp only [resV])
    · (repeat' (first | (with_reducible refine w_seq ?_) | (with_reducible refine c_region ?_) | (with_reducible refine s_nil ?_) | ((with_reducible apply s_callc (f := 24) hF hM); exact rfl; exact rfl; exact rfl; exact rfl; exact rfl; exact rfl; exact rfl; exact (open1_c cb x.1 x.2 cf _ hM.lt (hM.facts _ (by (repeat (first | exact List.mem_cons_self | refine List.mem_cons_of_mem _ ?_))))); clear hF hM a; rintro v w a rfl - hM hF) | ((with_reducible apply s_loadS hF hM); exact rfl; exact rfl; (repeat (first | exact List.mem_cons_self | refine List.mem_cons_of_mem _ ?_)); exact rfl; exact rfl; (first | with_reducible assumption | (simp only [Int.toNat_natCast]; with_reducible assumption)); (with_reducible assumption); clear hF a; intro a hF) | (with_reducible refine q_then_n ?_) | ((with_reducible apply s_pure hF); exact rfl; exact rfl; exact rfl; (first | exact trivial | omega | exact ⟨Int.natCast_nonneg _, Int.ofNat_lt.2 (by assumption)⟩ | decide); clear hF a; intro a hF) | (with_reducible refine w_skip ?_) | (with_reducible refine w_block ?_) | (with_reducible refine q_blk_n ?_) | ((with_reducible apply c_dec hF); exact rfl; all_goals intro hc; all_goals (try (exfalso; omega)))))
      exact ⟨m - 1, by omega, k + 1, by omega, opn_succ hk hx hc1, hF.sub (by repeat (first | exact Sub.nil | refine Sub.cons rfl (by first | with_reducible rfl | (refine congrArg (Value.int _) ?_; omega) | exact rfl) ?_)), hM⟩
  · rw [if_neg (by omega)]
    (repeat' (first | (with_reducible refine w_seq ?_) | (with_reducible refine c_region ?_) | (with_reducible refine s_nil ?_) | (with_reducible refine q_then_n ?_) | ((with_reducible apply s_pure hF); exact rfl; exact rfl; exact rfl; (first | exact trivial | omega | exact ⟨Int.natCast_nonneg _, Int.ofNat_lt.2 (by assumption)⟩ | decide); clear hF a; intro a hF) | (with_reducible refine w_exit ?_) | (with_reducible refine w_ret ?_) | (with_reducible refine q_then_x ?_) | (with_reducible refine q_blk_x ?_) | ((with_reducible apply c_dec hF); exact rfl; all_goals intro hc; all_goals (try (exfalso; omega)))))
    (apply f_end Try.results26 hF hM; (repeat (first | exact RL.nil | (apply RL.tmp; exact rfl) | (apply RL.cell; exact rfl; (repeat (first | exact List.mem_cons_self | refine List.mem_cons_of_mem _ ?_)); exact rfl))); refine Ret.mk hM.since ?_; dsimp only [resV])
variable (O R T B : Int)
set_option maxHeartbeats 1000000 in
theorem first_c (cb : Nat) (cf : Int) (hc : Has own W (BxF cb [.int .i64 cf] 3)) : Calls Try.prog 23 ⟨[thV O R T B a0 n c0, .func (.func 24) #[] #[.pointer (some ⟨cb, 0, none⟩)]]⟩ W (Ret W fun v _ => v = .int .i64 (opn cf ms)) := by
  have hM := ((Mm.start hl).known hv).known hc
  have hle := opn_le cf ms
  refine f_start Try.func23 rfl Try.ntmps23 rfl rfl ?_; intro a hF
  by_cases hq : opn cf ms < n
  · (repeat' (first | (with_reducible refine w_seq ?_) | (with_reducible refine c_region ?_) | (with_reducible refine s_nil ?_) | ((with_reducible apply s_call (f := 26) hF hM); exact rfl; exact rfl; exact rfl; exact rfl; exact rfl; exact (idxM_c a0 n c0 ms hn hb _ hM.lt (hM.facts _ (by (repeat (first | with_reducible exact List.mem_cons_self | refine List.mem_cons_of_mem _ ?_)))) cb cf (hM.facts _ (by (repeat (first | with_reducible exact List.mem_cons_self | refine List.mem_cons_of_mem _ ?_))))); clear hF hM a; rintro v w a hv2 - hM hF; rw [if_pos hq] at hv2; subst hv2) | (with_reducible refine q_then_n ?_) | ((with_reducible apply s_pure hF); exact rfl; exact rfl; exact rfl; (first | exact trivial | omega | exact ⟨Int.natCast_nonneg _, Int.ofNat_lt.2 (by assumption)⟩ | decide); clear hF a; intro a hF) | ((with_reducible apply s_load hF hM); exact rfl; exact rfl; (repeat (first | exact List.mem_cons_self | refine List.mem_cons_of_mem _ ?_)); exact rfl; exact rfl; clear hF a; intro a hF) | ((with_reducible apply s_box hF hM); exact rfl; exact rfl; exact rfl; exact rfl; clear hF hM a; intro b w a hM hF) | (with_reducible refine w_ret ?_) | (with_reducible refine q_then_r ?_) | ((with_reducible apply c_true2 hF); exact rfl; (first | with_reducible rfl | (refine congrArg Value.bool ?_; focus (simp; done))))))
    (apply f_ret Try.results23 hF hM; (repeat (first | exact RL.nil | (apply RL.tmp; exact rfl) | (apply RL.cell; exact rfl; (repeat (first | exact List.mem_cons_self | refine List.mem_cons_of_mem _ ?_)); exact rfl))); refine Ret.mk hM.since ?_; dsimp only [resV])
  · (repeat' (first | (with_reducible refine w_seq ?_) | (with_reducible refine c_region ?_) | (with_reducible refine s_nil ?_) | ((with_reducible apply s_call (f := 26) hF hM); exact rfl; exact rfl; exact rfl; exact rfl; exact rfl; exact (idxM_c a0 n c0 ms hn hb _ hM.lt (hM.facts _ (by (repeat (first | with_reducible exact List.mem_cons_self | refine List.mem_cons_of_mem _ ?_)))) cb cf (hM.facts _ (by (repeat (first | with_reducible exact List.mem_cons_self | refine List.mem_cons_of_mem _ ?_))))); clear hF hM a; rintro v w a hv2 - hM hF; rw [if_neg hq] at hv2; subst hv2) | (with_reducible refine q_then_n ?_) | ((with_reducible apply s_pure hF); exact rfl; exact rfl; exact rfl; (first | exact trivial | omega | exact ⟨Int.natCast_nonneg _, Int.ofNat_lt.2 (by assumption)⟩ | decide); clear hF a; intro a hF) | ((with_reducible apply s_load hF hM); exact rfl; exact rfl; (repeat (first | exact List.mem_cons_self | refine List.mem_cons_of_mem _ ?_)); exact rfl; exact rfl; clear hF a; intro a hF) | ((with_reducible apply s_box hF hM); exact rfl; exact rfl; exact rfl; exact rfl; clear hF hM a; intro b w a hM hF) | (with_reducible refine w_skip ?_) | (with_reducible refine w_ret ?_) | ((with_reducible apply c_false2 hF); exact rfl; (first | with_reducible rfl | (refine congrArg Value.bool ?_; focus (simp; done))))))
    (apply f_ret Try.results23 hF hM; (repeat (first | exact RL.nil | (apply RL.tmp; exact rfl) | (apply RL.cell; exact rfl; (repeat (first | exact List.mem_cons_self | refine List.mem_cons_of_mem _ ?_)); exact rfl))); refine Ret.mk hM.since ?_; dsimp only [resV])
    rw [show opn cf ms = n by omega]
set_option maxHeartbeats 1000000 in
theorem open_c (cf : Int) : Calls Try.prog 17 ⟨[thV O R T B a0 n c0, .int .i64 cf]⟩ W (Ret W fun v _ => v = .int .i64 (opn cf ms)) := by
  have hM := (Mm.start hl).known hv
  refine f_start Try.func17 rfl Try.ntmps17 rfl rfl ?_; intro a hF
  (repeat (first | (with_reducible refine w_seq ?_) | (with_reducible refine c_region ?_) | (with_reducible refine s_nil ?_) | (with_reducible refine q_then_n ?_) | ((with_reducible apply s_pure hF); exact rfl; exact rfl; exact rfl; (first | exact trivial | omega | exact ⟨Int.natCast_nonneg _, Int.ofNat_lt.2 (by assumption)⟩ | decide); clear hF a; intro a hF) | ((with_reducible apply s_load hF hM); exact rfl; exact rfl; (repeat (first | exact List.mem_cons_self | refine List.mem_cons_of_mem _ ?_)); exact rfl; exact rfl; clear hF a; intro a hF) | ((with_reducible apply s_box hF hM); exact rfl; exact rfl; exact rfl; exact rfl; clear hF hM a; intro b w a hM hF)))
  replace hM := Mm.freeze hM
  (repeat (first | (with_reducible refine s_nil ?_) | ((with_reducible apply s_call (f := 23) hF hM); exact rfl; exact rfl; exact rfl; exact rfl; exact rfl; exact (first_c a0 n c0 ms hn hb _ hM.lt (hM.facts _ (by (repeat (first | with_reducible exact List.mem_cons_self | refine List.mem_cons_of_mem _ ?_)))) O R T B _ cf (hM.facts _ (by (repeat (first | with_reducible exact List.mem_cons_self | refine List.mem_cons_of_mem _ ?_))))); clear hF hM a; rintro v w a rfl - hM hF) | (with_reducible refine q_then_n ?_) | ((with_reducible apply s_pure hF); exact rfl; exact rfl; exact rfl; (first | exact trivial | omega | exact ⟨Int.natCast_nonneg _, Int.ofNat_lt.2 (by assumption)⟩ | decide); clear hF a; intro a hF) | (with_reducible refine w_ret ?_)))
  (apply f_ret Try.results17 hF hM; (repeat (first | exact RL.nil | (apply RL.tmp; exact rfl) | (apply RL.cell; exact rfl; (repeat (first | exact List.mem_cons_self | refine List.mem_cons_of_mem _ ?_)); exact rfl))); refine Ret.mk hM.since ?_; dsimp only [resV])
end
end Go.Proofs.Ytobflnjbdghnhaa
