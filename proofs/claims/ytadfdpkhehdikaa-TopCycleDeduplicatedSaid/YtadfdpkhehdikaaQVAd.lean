/- Texts of this seat, one behind the other: W3 J4 Jl Jm J3 Jn Jo Jp Jq Jr Js Jt Kc Kd Km T1 T2 T3 T4 T5 T6 T7 T8 T9 Ju Jv Jw Jx Jy Jz Ta Tb S1 S2 S3 Tc Td. -/
import Derived.Test.YtadfdpkhehdikaaQVAc
set_option linter.unusedSimpArgs false
set_option linter.unusedVariables false
set_option linter.unusedSectionVars false
set_option maxRecDepth 3000
/- wire: numbers that are read. -/
namespace Go.Proofs.Ytadfdpkhehdikaa
open Go.RowKit Go.Shelf
theorem rdN_none {xs : List Int} {f i : Nat} {n : Int} (h : xs[i]? = none) : rdN xs (f + 1) i n = (0, 10, 0) := by rw [rdN, h]
theorem rdN_some {xs : List Int} {f i : Nat} {n b : Int} (h : xs[i]? = some b) : rdN xs (f + 1) i n = if 128 ≤ b then rdN xs f (i + 1) (n + b % 128 * 128 ^ i) else if (b = 0 ∧ 0 < i) ∨ 9007199254740991 < n + b % 128 * 128 ^ i then (0, 3, 0) else (n + b % 128 * 128 ^ i, 0, i + 1) := by rw [rdN, h]
/-- The rest of a slice. -/
theorem RdF.drop {α : Type} {enc : α → Value} {own : Nat → Prop} {w : World} {ad : Addr} {xs : List α} (h : Has own w (RdF enc (some ad) xs)) (k m : Nat) (hm : xs.length ≤ m) : Has own w (RdF enc (sadr (some ad) k m 1) (xs.drop k)) := by
  refine h.imp fun w h j x hx => ?_
  rw [List.getElem?_drop] at hx
  have hlt := (List.getElem?_eq_some_iff.1 hx).1
  obtain ⟨b, off, e, hb, hc⟩ := h (k + j) x hx
  injection e with e
  subst e
  refine ⟨b, off + k, ?_, hb, ?_⟩
  · unfold sadr
    rw [if_neg (by omega)]
    simp [add_lit]
  · rw [Nat.add_assoc]
    exact hc
theorem dup0 {own : Nat → Prop} {w w0 : World} {bs : List BoxE} {L : List Ent} {Fs : List (World → Prop)} {f : World → Prop} (hM : Mm own w0 bs L (f :: Fs) w) : Mm own w0 bs L (f :: f :: Fs) w :=
  hM.sub (.refl _) (.refl _) fun g hg => by
    rcases List.mem_cons.1 hg with rfl | hg
    · exact List.mem_cons_self
    · exact hg
theorem mul_bdP {x y a b : Int} (hx : 0 ≤ x ∧ x ≤ a) (hy : 0 ≤ y ∧ y ≤ b) : 0 ≤ x * y ∧ x * y ≤ a * b :=
  ⟨Int.mul_nonneg hx.1 hy.1, Int.mul_le_mul hx.2 hy.2 hy.1 (by omega)⟩
set_option maxRecDepth 20000 in
theorem number_m (xs : List Int) (hxb : ∀ x ∈ xs, 0 ≤ x ∧ x < 256) (hlen : xs.length ≤ 1000000) (a0 : Option Addr) (c0 : Nat) (hc0 : xs.length ≤ c0) {own : Nat → Prop} {w0 W : World} {bs : List BoxE} {L : List Ent} {Fs : List (World → Prop)} {b : Nat} {T : TypeId} (hM : Mm own w0 (⟨b, ⟨[.slice a0 xs.length c0]⟩, T⟩ :: bs) L (RdF (Value.int .u8) a0 xs :: Fs) W) :
    Calls Try.prog 100 ⟨[.pointer (some ⟨b, 0, none⟩)]⟩ W (Rtn fun u w' => u = .tuple #[.int .i64 (rdNum xs).1, .int .i64 (rdNum xs).2.1] ∧ ∃ a' c', xs.length - (rdNum xs).2.2 ≤ c' ∧ Mm own w0 (⟨b, ⟨[.slice a' (xs.length - (rdNum xs).2.2) c']⟩, T⟩ :: bs) L (RdF (Value.int .u8) a' (xs.drop (rdNum xs).2.2) :: RdF (Value.int .u8) a0 xs :: Fs) w') := by
  refine f_start Try.func100 rfl Try.ntmps100 rfl rfl ?_; intro a hF
  (repeat' (first | (with_reducible refine w_seq ?_) | (with_reducible refine c_region ?_) | (with_reducible refine s_nil ?_) | (with_reducible refine q_then_n ?_) | ((with_reducible apply s_pure hF); exact rfl; exact rfl; exact rfl; (first | exact trivial | omega | exact ⟨Int.natCast_nonneg _, Int.ofNat_lt.2 (by assumption)⟩ | decide); clear hF a; intro a hF) | (with_reducible refine w_block ?_)))
  refine c_loop (m := 8) (fun m a w' => ∃ (i : Nat) (n : Int), m + i = 8 ∧ rdNum xs = rdN xs m i n ∧ 0 ≤ n ∧ n < 128 ^ i ∧
    Fr 57 [] [(7, .int .i64 i), (4, .int .i64 n), (0, .pointer (some ⟨b, 0, none⟩))] a ∧
    Mm own w0 (⟨b, ⟨[.slice a0 xs.length c0]⟩, T⟩ :: bs) L (RdF (Value.int .u8) a0 xs :: Fs) w') ⟨0, 0, by omega, rfl, by omega, by simp, hF.sub (by repeat (first | exact Sub.nil | refine Sub.cons rfl (by first | with_reducible rfl | (refine congrArg (Value.int _) ?_; omega) | exact rfl) ?_)), hM⟩ ?_
  clear hF hM a
  rintro m a w' ⟨i, n, hmi, hrd, hn0, hn1, hF, hM⟩
  by_cases hi : i < 8
  case neg =>
    obtain rfl : m = 0 := by omega
    have hr : rdNum xs = (0, 3, 0) := hrd
    rw [hr]
    (repeat' (first | (with_reducible refine w_seq ?_) | (with_reducible refine c_region ?_) | (with_reducible refine s_nil ?_) | (with_reducible refine q_then_n ?_) | ((with_reducible apply s_pure hF); exact rfl; exact rfl; exact rfl; (first | exact trivial | omega | exact ⟨Int.natCast_nonneg _, Int.ofNat_lt.2 (by assumption)⟩ | decide); clear hF a; intro a hF) | (with_reducible refine w_exit ?_) | (with_reducible refine w_ret ?_) | (with_reducible refine q_then_x ?_) | (with_reducible refine q_blk_x ?_) | ((with_reducible apply c_dec hF); exact rfl; all_goals intro hc; all_goals (try (exfalso; omega)))))
    (apply f_ret Try.results100 hF hM; (repeat (first | exact RL.nil | (apply RL.tmp; exact rfl) | (apply RL.cell; exact rfl; (repeat (first | exact List.mem_cons_self | refine List.mem_cons_of_mem _ ?_)); exact rfl))); refine Both.mk ?_; try dsimp only [resV])
    refine ⟨rfl, a0, c0, by simp only [Nat.sub_zero]; exact hc0, ?_⟩
    simp only [List.drop_zero, Nat.sub_zero]
    exact dup0 hM
  obtain ⟨m, rfl⟩ : ∃ k, m = k + 1 := ⟨m - 1, by omega⟩
  obtain ⟨p1, p2, p3⟩ := pow7 ⟨i, hi⟩
  have p4 := pow7s ⟨i, hi⟩
  simp only at p1 p2 p3 p4
  by_cases hin : i < xs.length
  case neg =>
    have hr : rdNum xs = (0, 10, 0) := by rw [hrd]; exact rdN_none (List.getElem?_eq_none (by omega))
    rw [hr]
    (repeat' (first | (with_reducible refine w_seq ?_) | (with_reducible refine c_region ?_) | (with_reducible refine s_nil ?_) | (with_reducible refine q_then_n ?_) | ((with_reducible apply s_pure hF); exact rfl; exact rfl; exact rfl; (first | exact trivial | omega | exact ⟨Int.natCast_nonneg _, Int.ofNat_lt.2 (by assumption)⟩ | decide); clear hF a; intro a hF) | ((with_reducible apply s_load hF hM); exact rfl; exact rfl; (repeat (first | exact List.mem_cons_self | refine List.mem_cons_of_mem _ ?_)); exact rfl; exact rfl; clear hF a; intro a hF) | (with_reducible refine w_skip ?_) | (with_reducible refine w_block ?_) | (with_reducible refine w_ret ?_) | (with_reducible refine q_then_r ?_) | (with_reducible refine q_blk_r ?_) | ((with_reducible apply c_dec hF); exact rfl; all_goals intro hc; all_goals (try (exfalso; omega)))))
    (apply f_ret Try.results100 hF hM; (repeat (first | exact RL.nil | (apply RL.tmp; exact rfl) | (apply RL.cell; exact rfl; (repeat (first | exact List.mem_cons_self | refine List.mem_cons_of_mem _ ?_)); exact rfl))); refine Both.mk ?_; try dsimp only [resV])
    refine ⟨rfl, a0, c0, by simp only [Nat.sub_zero]; exact hc0, ?_⟩
    simp only [List.drop_zero, Nat.sub_zero]
    exact dup0 hM
  obtain ⟨y, hy⟩ := get_of_lt hin
  obtain ⟨ad, rfl⟩ := rd_some hM (by (repeat (first | exact List.mem_cons_self | refine List.mem_cons_of_mem _ ?_))) hy
  have hyb := hxb y (List.mem_of_getElem? hy)
  have hr := hrd.trans (rdN_some hy)
  obtain ⟨P, hP⟩ : ∃ P, (128 : Int) ^ i = P := ⟨_, rfl⟩
  rw [hP] at p1 p2 p3 p4 hn1 hr
  have hmb := mul_bdP (show 0 ≤ y % 128 ∧ y % 128 ≤ 127 by omega) (show 0 ≤ P ∧ P ≤ 562949953421312 by omega)
  have hsh : 0 ≤ 7 * (i : Int) ∧ 7 * (i : Int) ≤ 62 ∧ y % 128 * 2 ^ (7 * (i : Int)).toNat = y % 128 * P ∧ 0 ≤ y % 128 * P ∧ y % 128 * P < 9223372036854775808 := by
    refine ⟨by omega, by omega, ?_, hmb.1, by omega⟩
    rw [show (7 * (i : Int)).toNat = 7 * i by omega, p1]
  have hj : Join n (y % 128 * P) := by
    refine ⟨7 * i, by omega, hn0, by rw [p1]; exact hn1, hmb.1, ?_, by omega⟩
    rw [p1, Int.mul_emod_left]
  obtain ⟨Z, hZ⟩ : ∃ Z, y % 128 * P = Z := ⟨_, rfl⟩
  rw [hZ] at hr hmb hsh hj
  by_cases hbig : 128 ≤ y
  · rw [if_pos hbig] at hr
    have hbd : n + Z < 128 ^ (i + 1) := by
      rw [p4, ← hZ]
      have : y % 128 * P ≤ 127 * P := Int.mul_le_mul_of_nonneg_right (by omega) (by omega)
      omega
    (repeat' (first | (with_reducible refine w_seq ?_) | (with_reducible refine c_region ?_) | (with_reducible refine s_nil ?_) | ((with_reducible apply s_and127 hF); exact rfl; exact rfl; exact rfl; exact rfl; omega; clear hF a; intro a hF) | ((with_reducible apply s_and128 hF); exact rfl; exact rfl; exact rfl; exact rfl; omega; clear hF a; intro a hF) | ((with_reducible apply s_join hF); exact rfl; exact rfl; exact rfl; exact rfl; (with_reducible assumption); clear hF a; intro a hF) | ((with_reducible apply s_shl hF); exact rfl; exact rfl; exact rfl; exact rfl; (with_reducible assumption); clear hF a; intro a hF) | (with_reducible refine q_then_n ?_) | ((with_reducible apply s_pure hF); exact rfl; exact rfl; exact rfl; (first | exact trivial | omega | exact ⟨Int.natCast_nonneg _, Int.ofNat_lt.2 (by assumption)⟩ | decide); clear hF a; intro a hF) | ((with_reducible apply s_load hF hM); exact rfl; exact rfl; (repeat (first | exact List.mem_cons_self | refine List.mem_cons_of_mem _ ?_)); exact rfl; exact rfl; clear hF a; intro a hF) | ((with_reducible apply s_loadF hF hM); exact rfl; exact rfl; (repeat (first | exact List.mem_cons_self | refine List.mem_cons_of_mem _ ?_)); exact rfl; exact rfl; (first | with_reducible assumption | (simp only [Int.toNat_natCast]; with_reducible assumption)); clear hF a; intro a hF) | (with_reducible refine w_skip ?_) | (with_reducible refine w_block ?_) | (with_reducible refine w_exit ?_) | (with_reducible refine q_then_x ?_) | (with_reducible refine q_blk_x ?_) | ((with_reducible apply c_dec hF); exact rfl; all_goals intro hc; all_goals (try (exfalso; omega)))))
    exact ⟨m, by omega, i + 1, n + Z, by omega, hr, by omega, hbd, hF.sub (by repeat (first | exact Sub.nil | refine Sub.cons rfl (by first | with_reducible rfl | (refine congrArg (Value.int _) ?_; omega) | exact rfl) ?_)), hM⟩
  rw [if_neg hbig] at hr
  by_cases hbad : (y = 0 ∧ 0 < i) ∨ 9007199254740991 < n + Z
  · rw [if_pos hbad] at hr
    rw [hr]
    (repeat' (first | (with_reducible refine w_seq ?_) | (with_reducible refine c_region ?_) | (with_reducible refine s_nil ?_) | ((with_reducible apply s_and127 hF); exact rfl; exact rfl; exact rfl; exact rfl; omega; clear hF a; intro a hF) | ((with_reducible apply s_and128 hF); exact rfl; exact rfl; exact rfl; exact rfl; omega; clear hF a; intro a hF) | ((with_reducible apply s_join hF); exact rfl; exact rfl; exact rfl; exact rfl; (with_reducible assumption); clear hF a; intro a hF) | ((with_reducible apply s_shl hF); exact rfl; exact rfl; exact rfl; exact rfl; (with_reducible assumption); clear hF a; intro a hF) | (with_reducible refine q_then_n ?_) | ((with_reducible apply s_pure hF); exact rfl; exact rfl; exact rfl; (first | exact trivial | omega | exact ⟨Int.natCast_nonneg _, Int.ofNat_lt.2 (by assumption)⟩ | decide); clear hF a; intro a hF) | ((with_reducible apply s_load hF hM); exact rfl; exact rfl; (repeat (first | exact List.mem_cons_self | refine List.mem_cons_of_mem _ ?_)); exact rfl; exact rfl; clear hF a; intro a hF) | ((with_reducible apply s_loadF hF hM); exact rfl; exact rfl; (repeat (first | exact List.mem_cons_self | refine List.mem_cons_of_mem _ ?_)); exact rfl; exact rfl; (first | with_reducible assumption | (simp only [Int.toNat_natCast]; with_reducible assumption)); clear hF a; intro a hF) | (with_reducible refine w_skip ?_) | (with_reducible refine w_block ?_) | (with_reducible refine w_ret ?_) | (with_reducible refine q_then_r ?_) | (with_reducible refine q_blk_r ?_) | ((with_reducible apply c_true2 hF); exact rfl; (first | with_reducible rfl | (refine congrArg Value.bool ?_; focus (simp; done)))) | ((with_reducible apply s_skip hF); exact rfl; exact rfl; clear hF a; intro a hF) | ((fail_if_success ((with_reducible refine g_known true hF ?_ ?_); focus exact rfl)); (fail_if_success ((with_reducible refine g_known false hF ?_ ?_); focus exact rfl)); (with_reducible apply g_dec hF); exact rfl; exact rfl; all_goals (clear hF; intro hc hF); all_goals (try (exfalso; omega))) | ((with_reducible apply c_dec hF); exact rfl; all_goals intro hc; all_goals (try (exfalso; omega)))))
    all_goals
      (apply f_ret Try.results100 hF hM; (repeat (first | exact RL.nil | (apply RL.tmp; exact rfl) | (apply RL.cell; exact rfl; (repeat (first | exact List.mem_cons_self | refine List.mem_cons_of_mem _ ?_)); exact rfl))); refine Both.mk ?_; try dsimp only [resV])
      refine ⟨rfl, some ad, c0, by simp only [Nat.sub_zero]; exact hc0, ?_⟩
      simp only [List.drop_zero, Nat.sub_zero]
      exact dup0 hM
  · rw [if_neg hbad] at hr
    rw [hr]
    (repeat' (first | (with_reducible refine w_seq ?_) | (with_reducible refine c_region ?_) | (with_reducible refine s_nil ?_) | ((with_reducible apply s_and127 hF); exact rfl; exact rfl; exact rfl; exact rfl; omega; clear hF a; intro a hF) | ((with_reducible apply s_and128 hF); exact rfl; exact rfl; exact rfl; exact rfl; omega; clear hF a; intro a hF) | ((with_reducible apply s_join hF); exact rfl; exact rfl; exact rfl; exact rfl; (with_reducible assumption); clear hF a; intro a hF) | ((with_reducible apply s_shl hF); exact rfl; exact rfl; exact rfl; exact rfl; (with_reducible assumption); clear hF a; intro a hF) | (with_reducible refine q_then_n ?_) | ((with_reducible apply s_pure hF); exact rfl; exact rfl; exact rfl; (first | exact trivial | omega | exact ⟨Int.natCast_nonneg _, Int.ofNat_lt.2 (by assumption)⟩ | decide); clear hF a; intro a hF) | ((with_reducible apply s_load hF hM); exact rfl; exact rfl; (repeat (first | exact List.mem_cons_self | refine List.mem_cons_of_mem _ ?_)); exact rfl; exact rfl; clear hF a; intro a hF) | ((with_reducible apply s_loadF hF hM); exact rfl; exact rfl; (repeat (first | exact List.mem_cons_self | refine List.mem_cons_of_mem _ ?_)); exact rfl; exact rfl; (first | with_reducible assumption | (simp only [Int.toNat_natCast]; with_reducible assumption)); clear hF a; intro a hF) | ((with_reducible apply s_store hF hM); exact rfl; exact rfl; exact rfl; exact rfl; (repeat (first | exact Upd.z | apply Upd.s)); exact rfl; exact rfl; exact rfl; clear hM; intro w hM) | (with_reducible refine w_skip ?_) | (with_reducible refine w_block ?_) | (with_reducible refine w_ret ?_) | (with_reducible refine q_then_r ?_) | (with_reducible refine q_blk_r ?_) | ((with_reducible apply s_skip hF); exact rfl; exact rfl; clear hF a; intro a hF) | ((fail_if_success ((with_reducible refine g_known true hF ?_ ?_); focus exact rfl)); (fail_if_success ((with_reducible refine g_known false hF ?_ ?_); focus exact rfl)); (with_reducible apply g_dec hF); exact rfl; exact rfl; all_goals (clear hF; intro hc hF); all_goals (try (exfalso; omega))) | ((with_reducible apply c_dec hF); exact rfl; all_goals intro hc; all_goals (try (exfalso; omega)))))
    all_goals
      rw [show ((i : Int) + 1).toNat = i + 1 by omega, Int.toNat_natCast] at hM
      (apply f_ret Try.results100 hF hM; (repeat (first | exact RL.nil | (apply RL.tmp; exact rfl) | (apply RL.cell; exact rfl; (repeat (first | exact List.mem_cons_self | refine List.mem_cons_of_mem _ ?_)); exact rfl))); refine Both.mk ?_; try dsimp only [resV])
      exact ⟨rfl, sadr (some ad) (i + 1) c0 1, c0 - (i + 1), (by show xs.length - (i + 1) ≤ c0 - (i + 1); omega), hM.addFact (RdF.drop (hM.facts (RdF (Value.int .u8) (some ad) xs) List.mem_cons_self) (i + 1) c0 hc0)⟩
theorem rdN_err : ∀ (f i : Nat) (n : Int) (xs : List Int), (rdN xs f i n).2.1 ≠ 0 → (rdN xs f i n).1 = 0 ∧ (rdN xs f i n).2.2 = 0
  | 0, _, _, _, _ => ⟨rfl, rfl⟩
  | f + 1, i, n, xs, h => by
    rw [rdN] at h ⊢
    split
    · exact ⟨rfl, rfl⟩
    · rename_i b hb
      rw [hb] at h
      simp only at h
      split at h
      · rename_i h1
        rw [if_pos h1]
        exact rdN_err f (i + 1) _ xs h
      · rename_i h1
        rw [if_neg h1]
        split at h
        · rename_i h2
          rw [if_pos h2]
          exact ⟨rfl, rfl⟩
        · exact absurd rfl h
theorem cloneB_z (a0 : Option Addr) (c0 : Nat) (xs : List Int) (n : Nat) (hn : xs.length = n) (own : Nat → Prop) (W : World) (hl : ∀ b, own b → b < W.heap.size) (hv : Has own W (RdF (Value.int .u8) a0 xs)) (hb : xs.length ≤ 10000000000) :
    Calls Try.prog 68 ⟨[.slice a0 n c0]⟩ W (Ret W fun v w' => ∃ a' c', v = .slice a' n c' ∧ Owns w' W.heap.size [⟨5, 1, .slice a' n c', n, xs.map (Value.int .u8)⟩]) := by
  subst hn
  exact cloneB_c a0 c0 xs own W hl hv hb
/-- What Int answers: the number, a copy of the rest, the error. -/
def IntR (own : Nat → Prop) (xs : List Int) (b0 : Nat) (v : Value) (w : World) : Prop := ∃ a' n' c', v = .tuple #[.int .i64 (rdNum xs).1, .slice a' n' c', .int .i64 (rdNum xs).2.1] ∧
  (((rdNum xs).2.1 ≠ 0 ∧ a' = none ∧ n' = 0 ∧ c' = 0) ∨ ((rdNum xs).2.1 = 0 ∧ n' = (xs.drop (rdNum xs).2.2).length ∧ Owns w b0 [⟨5, 1, .slice a' n' c', n', (xs.drop (rdNum xs).2.2).map (Value.int .u8)⟩]))
set_option maxRecDepth 20000 in
theorem read_c (xs : List Int) (hxb : ∀ x ∈ xs, 0 ≤ x ∧ x < 256) (hlen : xs.length ≤ 1000000) (a0 : Option Addr) (c0 : Nat) (hc0 : xs.length ≤ c0) (own : Nat → Prop) (W : World) (hl : ∀ b, own b → b < W.heap.size) (hv : Has own W (RdF (Value.int .u8) a0 xs)) :
    Calls Try.prog 99 ⟨[.slice a0 xs.length c0, .func (.func 100) #[] #[]]⟩ W (Ret W (IntR own xs W.heap.size)) := by
  have hM := (Mm.start hl).known hv
  refine f_start Try.func99 rfl Try.ntmps99 rfl rfl ?_; intro a hF
  have hbl : (xs.drop (rdNum xs).2.2).length ≤ 10000000000 := by simp; omega
  by_cases he : (rdNum xs).2.1 = 0
  · (repeat' (first | (with_reducible refine w_seq ?_) | (with_reducible refine c_region ?_) | (with_reducible refine s_nil ?_) | ((with_reducible apply s_callM (f := 100) hF); exact rfl; exact rfl; exact rfl; exact rfl; exact rfl; exact (number_m xs hxb hlen a0 c0 hc0 hM); clear hF hM a; rintro v w a ⟨rfl, a1, c1, hcq, hM⟩ hF) | ((with_reducible apply s_callO (f := 68) hF); exact rfl; exact rfl; exact rfl; exact rfl; exact rfl; exact (cloneB_z a1 c1 (xs.drop (rdNum xs).2.2) _ (by simp) _ _ hM.lt (hM.facts _ (by (repeat (first | exact List.mem_cons_self | refine List.mem_cons_of_mem _ ?_)))) hbl); clear hF a; rintro v wn a ⟨a2, c2, rfl, hO⟩ hS hF; replace hM := hM.addRows hS hO; clear hS hO; dsimp only [List.cons_append, List.nil_append] at hM) | (with_reducible refine q_then_n ?_) | ((with_reducible apply s_pure hF); exact rfl; exact rfl; exact rfl; (first | exact trivial | omega | exact ⟨Int.natCast_nonneg _, Int.ofNat_lt.2 (by assumption)⟩ | decide); clear hF a; intro a hF) | ((with_reducible apply s_load hF hM); exact rfl; exact rfl; (repeat (first | exact List.mem_cons_self | refine List.mem_cons_of_mem _ ?_)); exact rfl; exact rfl; clear hF a; intro a hF) | ((with_reducible apply s_box hF hM); exact rfl; exact rfl; exact rfl; exact rfl; clear hF hM a; intro b w a hM hF) | (with_reducible refine w_skip ?_) | (with_reducible refine w_ret ?_) | ((with_reducible apply c_dec hF); exact rfl; all_goals intro hc; all_goals (try (exfalso; omega)))))
    (apply f_ret Try.results99 hF hM; (repeat (first | exact RL.nil | (apply RL.tmp; exact rfl) | (apply RL.cell; exact rfl; (repeat (first | exact List.mem_cons_self | refine List.mem_cons_of_mem _ ?_)); exact rfl))); refine Ret.mk hM.since ?_; dsimp only [resV])
    have hO2 := hM.mem.own
    refine ⟨a2, _, c2, by rw [he], .inr ⟨he, by simp, ?_⟩⟩
    exact hO2
  · (repeat' (first | (with_reducible refine w_seq ?_) | (with_reducible refine c_region ?_) | (with_reducible refine s_nil ?_) | ((with_reducible apply s_callM (f := 100) hF); exact rfl; exact rfl; exact rfl; exact rfl; exact rfl; exact (number_m xs hxb hlen a0 c0 hc0 hM); clear hF hM a; rintro v w a ⟨rfl, a1, c1, hcq, hM⟩ hF) | (with_reducible refine q_then_n ?_) | ((with_reducible apply s_pure hF); exact rfl; exact rfl; exact rfl; (first | exact trivial | omega | exact ⟨Int.natCast_nonneg _, Int.ofNat_lt.2 (by assumption)⟩ | decide); clear hF a; intro a hF) | ((with_reducible apply s_box hF hM); exact rfl; exact rfl; exact rfl; exact rfl; clear hF hM a; intro b w a hM hF) | (with_reducible refine w_ret ?_) | (with_reducible refine q_then_r ?_) | ((with_reducible apply c_dec hF); exact rfl; all_goals intro hc; all_goals (try (exfalso; omega)))))
    (apply f_ret Try.results99 hF hM; (repeat (first | exact RL.nil | (apply RL.tmp; exact rfl) | (apply RL.cell; exact rfl; (repeat (first | exact List.mem_cons_self | refine List.mem_cons_of_mem _ ?_)); exact rfl))); refine Ret.mk hM.since ?_; dsimp only [resV])
    exact ⟨none, 0, 0, by rw [show (rdNum xs).1 = 0 from (rdN_err 8 0 0 xs he).1], .inl ⟨he, rfl, rfl, rfl⟩⟩
section
variable (xs : List Int) (hxb : ∀ x ∈ xs, 0 ≤ x ∧ x < 256) (hlen : xs.length ≤ 1000000) (a0 : Option Addr) (c0 : Nat) (hc0 : xs.length ≤ c0) (own : Nat → Prop) (W : World) (hl : ∀ b, own b → b < W.heap.size) (hv : Has own W (RdF (Value.int .u8) a0 xs))
include hxb hlen hc0 hl hv
theorem read_ok (he : (rdNum xs).2.1 = 0) : Calls Try.prog 99 ⟨[.slice a0 xs.length c0, .func (.func 100) #[] #[]]⟩ W (Ret W fun v w' => ∃ a' c', v = .tuple #[.int .i64 (rdNum xs).1, .slice a' (xs.drop (rdNum xs).2.2).length c', .int .i64 0] ∧ Owns w' W.heap.size [⟨5, 1, .slice a' (xs.drop (rdNum xs).2.2).length c', (xs.drop (rdNum xs).2.2).length, (xs.drop (rdNum xs).2.2).map (Value.int .u8)⟩]) := by
  refine (read_c xs hxb hlen a0 c0 hc0 own W hl hv).mono ?_
  rintro e w' ⟨v, rfl, hs, a', n', c', rfl, h⟩
  rcases h with ⟨h, _⟩ | ⟨_, rfl, hO⟩
  · exact absurd he h
  · exact ⟨_, rfl, hs, a', c', by rw [he], hO⟩
theorem read_err (he : (rdNum xs).2.1 ≠ 0) : Calls Try.prog 99 ⟨[.slice a0 xs.length c0, .func (.func 100) #[] #[]]⟩ W (Ret W fun v _ => v = .tuple #[.int .i64 0, .slice none 0 0, .int .i64 (rdNum xs).2.1]) := by
  refine (read_c xs hxb hlen a0 c0 hc0 own W hl hv).mono ?_
  rintro e w' ⟨v, rfl, hs, a', n', c', rfl, h⟩
  rcases h with ⟨_, rfl, rfl, rfl⟩ | ⟨h, _⟩
  · exact ⟨_, rfl, hs, by rw [show (rdNum xs).1 = 0 from (rdN_err 8 0 0 xs he).1]⟩
  · exact absurd h he
theorem Int_ok (he : (rdNum xs).2.1 = 0) : Calls Try.prog 64 ⟨[.slice a0 xs.length c0]⟩ W (Ret W fun v w' => ∃ a' c', v = .tuple #[.int .i64 (rdNum xs).1, .slice a' (xs.drop (rdNum xs).2.2).length c', .int .i64 0] ∧ Owns w' W.heap.size [⟨5, 1, .slice a' (xs.drop (rdNum xs).2.2).length c', (xs.drop (rdNum xs).2.2).length, (xs.drop (rdNum xs).2.2).map (Value.int .u8)⟩]) := by
  have hM := (Mm.start hl).known hv
  refine f_start Try.func64 rfl Try.ntmps64 rfl rfl ?_; intro a hF
  (repeat (first | (with_reducible refine w_seq ?_) | (with_reducible refine c_region ?_) | (with_reducible refine s_nil ?_) | ((with_reducible apply s_callO (f := 99) hF); exact rfl; exact rfl; exact rfl; exact rfl; exact rfl; exact (read_ok xs hxb hlen a0 c0 hc0 _ _ hM.lt (hM.facts _ (by (repeat (first | exact List.mem_cons_self | refine List.mem_cons_of_mem _ ?_)))) he); clear hF a; rintro v wn a ⟨a1, c1, rfl, hO⟩ hS hF; replace hM := hM.addRows hS hO; clear hS hO; dsimp only [List.cons_append, List.nil_append] at hM) | (with_reducible refine q_then_n ?_) | ((with_reducible apply s_pure hF); exact rfl; exact rfl; exact rfl; (first | exact trivial | omega | exact ⟨Int.natCast_nonneg _, Int.ofNat_lt.2 (by assumption)⟩ | decide); clear hF a; intro a hF) | (with_reducible refine w_ret ?_)))
  (apply f_ret Try.results64 hF hM; (repeat (first | exact RL.nil | (apply RL.tmp; exact rfl) | (apply RL.cell; exact rfl; (repeat (first | exact List.mem_cons_self | refine List.mem_cons_of_mem _ ?_)); exact rfl))); refine Ret.mk hM.since ?_; dsimp only [resV])
  exact ⟨a1, c1, rfl, hM.mem.own⟩
theorem Int_err (he : (rdNum xs).2.1 ≠ 0) : Calls Try.prog 64 ⟨[.slice a0 xs.length c0]⟩ W (Ret W fun v _ => v = .tuple #[.int .i64 0, .slice none 0 0, .int .i64 (rdNum xs).2.1]) := by
  have hM := (Mm.start hl).known hv
  refine f_start Try.func64 rfl Try.ntmps64 rfl rfl ?_; intro a hF
  (repeat (first | (with_reducible refine w_seq ?_) | (with_reducible refine c_region ?_) | (with_reducible refine s_nil ?_) | ((with_reducible apply s_call (f := 99) hF hM); exact rfl; exact rfl; exact rfl; exact rfl; exact rfl; exact (read_err xs hxb hlen a0 c0 hc0 _ _ hM.lt (hM.facts _ (by (repeat (first | exact List.mem_cons_self | refine List.mem_cons_of_mem _ ?_)))) he); clear hF hM a; rintro v w a rfl - hM hF) | (with_reducible refine q_then_n ?_) | ((with_reducible apply s_pure hF); exact rfl; exact rfl; exact rfl; (first | exact trivial | omega | exact ⟨Int.natCast_nonneg _, Int.ofNat_lt.2 (by assumption)⟩ | decide); clear hF a; intro a hF) | (with_reducible refine w_ret ?_)))
  (apply f_ret Try.results64 hF hM; (repeat (first | exact RL.nil | (apply RL.tmp; exact rfl) | (apply RL.cell; exact rfl; (repeat (first | exact List.mem_cons_self | refine List.mem_cons_of_mem _ ?_)); exact rfl))); refine Ret.mk hM.since ?_; dsimp only [resV])
end
end Go.Proofs.Ytadfdpkhehdikaa


/- Plain laws of layer 29: tokens in bytes. -/
namespace Go.Proofs.Ytadfdpkhehdikaa
namespace D29
/-- Numbers that are put are read. -/
theorem rdN_puts (n : Nat) : ∀ (i f : Nat) (acc : Int) (xs ys : List Int), xs.drop i = puts n ++ ys → (puts n).length ≤ f → 0 ≤ acc → acc + n * 128 ^ i ≤ 9007199254740991 → (n = 0 → i = 0) → rdN xs f i acc = (acc + n * 128 ^ i, 0, i + (puts n).length) := by
  induction n using Nat.strongRecOn with
  | _ n ih =>
    intro i f acc xs ys hd hf ha hb h0
    have get0 : ∀ (b : Int) (r : List Int), puts n = b :: r → xs[i]? = some b := by
      intro b r e
      have : (xs.drop i)[0]? = some b := by rw [hd, e]; rfl
      rw [List.getElem?_drop] at this
      exact this
    by_cases h : n < 128
    · have e := puts_lt h
      rw [e] at hf ⊢
      simp only [List.length_cons, List.length_nil] at hf ⊢
      obtain ⟨f, rfl⟩ : ∃ k, f = k + 1 := ⟨f - 1, by omega⟩
      rw [rdN_some (get0 _ _ e), if_neg (by omega), if_neg]
      · rw [show ((n : Int)) % 128 = n by omega]
      · rw [show ((n : Int)) % 128 = n by omega]
        rintro (⟨h1, h2⟩ | h1)
        · have := h0 (by omega); omega
        · omega
    · have e := puts_ge h
      rw [e] at hf ⊢
      simp only [List.length_cons] at hf ⊢
      obtain ⟨f, rfl⟩ : ∃ k, f = k + 1 := ⟨f - 1, by omega⟩
      rw [rdN_some (get0 _ _ e), if_pos (by omega)]
      have hm : ((n % 128 + 128 : Nat) : Int) % 128 = ((n % 128 : Nat) : Int) := by omega
      rw [hm]
      have hp : (0 : Int) ≤ 128 ^ i := Int.pow_nonneg (by decide)
      have hq : ((n % 128 : Nat) : Int) * 128 ^ i + ((n / 128 : Nat) : Int) * 128 ^ (i + 1) = (n : Int) * 128 ^ i := by
        rw [Int.pow_succ, Int.mul_comm (128 ^ i) 128, ← Int.mul_assoc, ← Int.add_mul]
        congr 1
        omega
      have := ih (n / 128) (by omega) (i + 1) f (acc + ((n % 128 : Nat) : Int) * 128 ^ i) xs ys (by
        have h2 : xs.drop (i + 1) = (xs.drop i).drop 1 := by rw [List.drop_drop]
        rw [h2, hd, e]
        rfl) (by omega) (Int.add_nonneg ha (Int.mul_nonneg (by omega) hp)) (by rw [Int.add_assoc, hq]; exact hb) (fun h => by omega)
      rw [this, Int.add_assoc, hq]
      congr 2
      omega
theorem rdNum_puts {n : Nat} (hn : n ≤ 9007199254740991) (ys : List Int) : rdNum (puts n ++ ys) = ((n : Int), 0, (puts n).length) := by
  have := rdN_puts n 0 8 0 (puts n ++ ys) ys (by simp) (puts_len 7 n (by omega)) (by omega) (by omega) (fun _ => rfl)
  unfold rdNum
  rw [this]
  simp
/-- Numbers that are read have these bytes. -/
theorem rdN_can : ∀ (f i : Nat) (acc : Int) (xs : List Int), (∀ x ∈ xs, 0 ≤ x ∧ x < 256) → (rdN xs f i acc).2.1 = 0 → ∃ m : Nat, (rdN xs f i acc).1 = acc + m * 128 ^ i ∧ xs.drop i = puts m ++ xs.drop (rdN xs f i acc).2.2 ∧ (m = 0 → i = 0)
  | 0, i, acc, xs, hb, h => by rw [rdN] at h; exact absurd h (by decide)
  | f + 1, i, acc, xs, hb, h => by
    cases hx : xs[i]? with
    | none => rw [rdN_none hx] at h; exact absurd h (by decide)
    | some b =>
      have hbb := hb b (List.mem_of_getElem? hx)
      have hd : xs.drop i = b :: xs.drop (i + 1) := by
        obtain ⟨hi, e⟩ := List.getElem?_eq_some_iff.1 hx
        rw [List.drop_eq_getElem_cons hi, e]
      rw [rdN_some hx] at h ⊢
      split at h
      · rename_i h1
        rw [if_pos h1]
        obtain ⟨m, e1, e2, e3⟩ := rdN_can f (i + 1) _ xs hb h
        refine ⟨m * 128 + (b % 128).toNat, ?_, ?_, fun e => by have := e3 (by omega); omega⟩
        · rw [e1, Int.add_assoc, Int.pow_succ, Int.mul_comm (128 ^ i) 128, ← Int.mul_assoc, ← Int.add_mul]
          congr 2
          omega
        · have hm : m ≠ 0 := fun e => by have := e3 e; omega
          rw [hd, e2, puts_ge (n := m * 128 + (b % 128).toNat) (by omega), List.cons_append, show (m * 128 + (b % 128).toNat) / 128 = m by omega]
          congr 1
          omega
      · rename_i h1
        rw [if_neg h1]
        split at h
        · exact absurd h (by decide)
        · rename_i h2
          rw [if_neg h2]
          refine ⟨b.toNat, ?_, ?_, fun e => ?_⟩
          · show acc + b % 128 * 128 ^ i = _
            rw [show b % 128 = ((b.toNat : Nat) : Int) by omega]
          · rw [hd, puts_lt (by omega), show ((b.toNat : Nat) : Int) = b by omega]
            rfl
          · apply Classical.byContradiction
            intro hi
            exact h2 (.inl ⟨by omega, by omega⟩)
theorem rdNum_can {xs : List Int} (hb : ∀ x ∈ xs, 0 ≤ x ∧ x < 256) (h : (rdNum xs).2.1 = 0) : ∃ m : Nat, (rdNum xs).1 = m ∧ xs = puts m ++ xs.drop (rdNum xs).2.2 := by
  obtain ⟨m, e1, e2, -⟩ := rdN_can 8 0 0 xs hb h
  exact ⟨m, by unfold rdNum; rw [e1]; simp, by unfold rdNum; simpa using e2⟩
/-- Sectors that are read. -/
def rdSec : Nat → List Int → Except Int (Dat × List Int)
  | 0, xs => .ok ([], xs)
  | k + 1, xs => if xs.length < 8 then .error 10 else match rdSec k (xs.drop 8) with
    | .error e => .error e
    | .ok (l, ys) => .ok (xs.take 8 :: l, ys)
def rdSecs (xs : List Int) : Except Int (Dat × List Int) := if (rdNum xs).2.1 ≠ 0 then .error (rdNum xs).2.1 else if 65536 < (rdNum xs).1 then .error 5 else rdSec (rdNum xs).1.toNat (xs.drop (rdNum xs).2.2)
/-- The bytes of a word, the least one first. -/
def le : Nat → Int → List Int
  | 0, _ => []
  | k + 1, d => d % 256 :: le k (d / 256)
def un : List Int → Int
  | [] => 0
  | x :: r => x + 256 * un r
def rdTok : List Int → Except Int (Tok × List Int)
  | [] => .error 10
  | m :: r => if m = 0 then match rdSecs r with
      | .error e => .error e
      | .ok (x, ys) => if isCh x = true then .ok (⟨false, 0, x⟩, ys) else .error 3
    else if m = 1 then if r.length < 8 then .error 10 else .ok (⟨true, un (r.take 8), []⟩, r.drop 8) else .error 3
def rdToks : Nat → List Int → Except Int (List Tok × List Int)
  | 0, xs => .ok ([], xs)
  | k + 1, xs => match rdTok xs with
    | .error e => .error e
    | .ok (t, ys) => match rdToks k ys with
      | .error e => .error e
      | .ok (l, zs) => .ok (t :: l, zs)
def rdTokens (xs : List Int) : Except Int (List Tok × List Int) := if (rdNum xs).2.1 ≠ 0 then .error (rdNum xs).2.1 else if 65536 < (rdNum xs).1 then .error 5 else rdToks (rdNum xs).1.toNat (xs.drop (rdNum xs).2.2)
def putTok (t : Tok) : List Int := if t.r then 1 :: le 8 t.d else 0 :: (puts t.x.length ++ t.x.flatten)
def putToks (l : List Tok) : List Int := puts l.length ++ (l.map putTok).flatten
theorem le_len : ∀ (k : Nat) (d : Int), (le k d).length = k
  | 0, _ => rfl
  | k + 1, d => by rw [le, List.length_cons, le_len k]
theorem un_le : ∀ (k : Nat) (d : Int), 0 ≤ d → d < 256 ^ k → un (le k d) = d
  | 0, d, h0, h1 => by simp at h1; simp [le, un]; omega
  | k + 1, d, h0, h1 => by
    rw [le, un, un_le k (d / 256) (by omega) (Int.ediv_lt_of_lt_mul (by decide) (by rw [Int.pow_succ] at h1; exact h1))]
    omega
theorem le_un : ∀ (xs : List Int), (∀ x ∈ xs, 0 ≤ x ∧ x < 256) → le xs.length (un xs) = xs
  | [], _ => rfl
  | x :: r, h => by
    have hx := h x List.mem_cons_self
    rw [un, List.length_cons, le, show (x + 256 * un r) % 256 = x by omega, show (x + 256 * un r) / 256 = un r by omega, le_un r fun y hy => h y (List.mem_cons_of_mem _ hy)]
theorem un_bd : ∀ (xs : List Int), (∀ x ∈ xs, 0 ≤ x ∧ x < 256) → 0 ≤ un xs ∧ un xs < 256 ^ xs.length
  | [], _ => by simp [un]
  | x :: r, h => by
    have hx := h x List.mem_cons_self
    have := un_bd r fun y hy => h y (List.mem_cons_of_mem _ hy)
    rw [un, List.length_cons, Int.pow_succ]
    omega
theorem rdSec_flat : ∀ {x : Dat} (_ : ∀ s ∈ x, s.length = 8) (ys : List Int), rdSec x.length (x.flatten ++ ys) = .ok (x, ys)
  | [], _, ys => rfl
  | s :: r, h, ys => by
    have hs := h s List.mem_cons_self
    rw [List.length_cons, rdSec, List.flatten_cons, List.append_assoc]
    rw [if_neg (by rw [List.length_append]; omega), List.drop_left' hs, List.take_left' hs, rdSec_flat (fun y hy => h y (List.mem_cons_of_mem _ hy))]
theorem rdSec_can : ∀ {k : Nat} {xs : List Int} {x : Dat} {ys : List Int}, rdSec k xs = .ok (x, ys) → xs = x.flatten ++ ys ∧ x.length = k ∧ ∀ s ∈ x, s.length = 8
  | 0, xs, x, ys, h => by
    injection h with h
    injection h with h1 h2
    subst h1 h2
    simp
  | k + 1, xs, x, ys, h => by
    rw [rdSec] at h
    split at h
    · cases h
    · rename_i hl
      cases hr : rdSec k (xs.drop 8) with
      | error e => rw [hr] at h; cases h
      | ok p =>
        obtain ⟨l, zs⟩ := p
        rw [hr] at h
        injection h with h
        injection h with h1 h2
        subst h1 h2
        obtain ⟨q1, q2, q3⟩ := rdSec_can hr
        refine ⟨?_, by rw [List.length_cons, q2], ?_⟩
        · rw [List.flatten_cons, List.append_assoc, ← q1, List.take_append_drop]
        · intro s hs
          rcases List.mem_cons.1 hs with rfl | hs
          · rw [List.length_take]; omega
          · exact q3 s hs
theorem rdSecs_put {x : Dat} (h : ∀ s ∈ x, s.length = 8) (hl : x.length ≤ 65536) (ys : List Int) : rdSecs (puts x.length ++ (x.flatten ++ ys)) = .ok (x, ys) := by
  have e := rdNum_puts (n := x.length) (by omega) (x.flatten ++ ys)
  unfold rdSecs
  rw [e]
  simp only [ne_eq, not_true_eq_false, if_false]
  rw [if_neg (by omega), Int.toNat_natCast, List.drop_left]
  exact rdSec_flat h ys
theorem rdSecs_can {xs : List Int} (hb : ∀ x ∈ xs, 0 ≤ x ∧ x < 256) {x : Dat} {ys : List Int} (h : rdSecs xs = .ok (x, ys)) : xs = puts x.length ++ (x.flatten ++ ys) ∧ ∀ s ∈ x, s.length = 8 := by
  unfold rdSecs at h
  split at h
  · cases h
  · rename_i h0
    split at h
    · cases h
    · obtain ⟨m, e1, e2⟩ := rdNum_can hb (by simpa using h0)
      rw [e1, Int.toNat_natCast] at h
      obtain ⟨q1, q2, q3⟩ := rdSec_can h
      refine ⟨?_, q3⟩
      rw [← q1, q2]
      exact e2
/-- A token whose sectors have their length, and whose digest is a word. -/
def TokW (t : Tok) : Prop := (∀ s ∈ t.x, s.length = 8) ∧ 0 ≤ t.d ∧ t.d < 18446744073709551616
theorem rdTok_put {t : Tok} (h : TokW t) (hc : corT t = true) (ys : List Int) : rdTok (putTok t ++ ys) = .ok (t, ys) := by
  obtain ⟨r, d, x⟩ := t
  obtain ⟨h1, h2, h3⟩ := h
  unfold putTok
  cases r with
  | true =>
    have hx : x = [] := by simpa [corT] using hc
    subst hx
    have hl := le_len 8 d
    simp only [if_true]
    show rdTok (1 :: (le 8 d ++ ys)) = _
    rw [rdTok, if_neg (by decide), if_pos rfl, if_neg (by rw [List.length_append]; omega), List.take_left' hl, List.drop_left' hl, un_le 8 d h2 (by simpa using h3)]
  | false =>
    have hx : d = 0 ∧ isCh x = true := by simpa [corT] using hc
    obtain ⟨rfl, hx⟩ := hx
    have hlen : x.length ≤ 4096 := by
      unfold isCh at hx
      rw [decide_eq_true_eq] at hx
      exact hx.2
    simp only [Bool.false_eq_true, if_false]
    show rdTok (0 :: (puts x.length ++ x.flatten ++ ys)) = _
    rw [rdTok, if_pos rfl, List.append_assoc, rdSecs_put (x := x) h1 (by omega)]
    simp only [hx, if_true]
theorem rdTok_can {xs : List Int} (hb : ∀ x ∈ xs, 0 ≤ x ∧ x < 256) {t : Tok} {ys : List Int} (h : rdTok xs = .ok (t, ys)) : xs = putTok t ++ ys := by
  cases xs with
  | nil => cases h
  | cons m r =>
    have hbr : ∀ x ∈ r, 0 ≤ x ∧ x < 256 := fun x hx => hb x (List.mem_cons_of_mem _ hx)
    rw [rdTok] at h
    split at h
    · rename_i hm
      cases hs : rdSecs r with
      | error e => rw [hs] at h; cases h
      | ok p =>
        obtain ⟨x, zs⟩ := p
        rw [hs] at h
        simp only at h
        split at h
        · injection h with h
          injection h with h1 h2
          subst h1 h2
          obtain ⟨q1, -⟩ := rdSecs_can hbr hs
          rw [hm, q1]
          simp [putTok]
        · cases h
    · split at h
      · rename_i hm
        split at h
        · cases h
        · rename_i hl
          injection h with h
          injection h with h1 h2
          subst h1 h2
          have e := le_un (r.take 8) fun x hx => hbr x (List.mem_of_mem_take hx)
          rw [List.length_take, show min 8 r.length = 8 by omega] at e
          rw [hm]
          unfold putTok
          simp only [if_true]
          rw [e, List.cons_append, List.take_append_drop]
      · cases h
theorem rdToks_put : ∀ {l : List Tok} (_ : ∀ t ∈ l, TokW t ∧ corT t = true) (ys : List Int), rdToks l.length ((l.map putTok).flatten ++ ys) = .ok (l, ys)
  | [], _, _ => rfl
  | t :: r, h, ys => by
    have ht := h t List.mem_cons_self
    rw [List.length_cons, rdToks, List.map_cons, List.flatten_cons, List.append_assoc, rdTok_put ht.1 ht.2]
    simp only
    rw [rdToks_put fun s hs => h s (List.mem_cons_of_mem _ hs)]
theorem tokens_put {l : List Tok} (h : ∀ t ∈ l, TokW t ∧ corT t = true) (hl : l.length ≤ 65536) (ys : List Int) : rdTokens (putToks l ++ ys) = .ok (l, ys) := by
  unfold putToks
  rw [List.append_assoc]
  have e := rdNum_puts (n := l.length) (by omega) ((l.map putTok).flatten ++ ys)
  unfold rdTokens
  rw [e]
  simp only [ne_eq, not_true_eq_false, if_false]
  rw [if_neg (by omega), Int.toNat_natCast, List.drop_left]
  exact rdToks_put h ys
end D29
end Go.Proofs.Ytadfdpkhehdikaa


/- dedup: correct, Decode. -/
namespace Go.Proofs.Ytadfdpkhehdikaa
open Go.RowKit Go.Shelf D29
theorem correct1_c (r : Bool) (d : Int) (x : Dat) (ax : Option Addr) (cx q : Nat) (hq : x.length = q) (own : Nat → Prop) (W : World) (hl : ∀ b, own b → b < W.heap.size) :
    Calls Try.prog 41 ⟨[.agg ⟨[.bool r, .int .u64 d, .slice ax q cx]⟩]⟩ W (Ret W fun v _ => v = .bool (corT ⟨r, d, x⟩)) := by
  have hM := Mm.start hl
  unfold corT
  dsimp only
  have h0 : (x = []) ↔ (q : Int) = 0 := by rw [← List.length_eq_zero_iff, hq]; omega
  rw [show decide (x = []) = decide ((q : Int) = 0) from decide_eq_decide.2 h0]
  refine f_start Try.func41 rfl Try.ntmps41 rfl rfl ?_; intro a hF
  cases r with
  | true =>
    (repeat' (first | (with_reducible refine w_seq ?_) | (with_reducible refine c_region ?_) | (with_reducible refine s_nil ?_) | (with_reducible refine q_then_n ?_) | ((with_reducible apply s_pure hF); exact rfl; exact rfl; exact rfl; (first | exact trivial | omega | exact ⟨Int.natCast_nonneg _, Int.ofNat_lt.2 (by assumption)⟩ | decide); clear hF a; intro a hF) | ((with_reducible apply s_load hF hM); exact rfl; exact rfl; (repeat (first | exact List.mem_cons_self | refine List.mem_cons_of_mem _ ?_)); exact rfl; exact rfl; clear hF a; intro a hF) | ((with_reducible apply s_box hF hM); exact rfl; exact rfl; exact rfl; exact rfl; clear hF hM a; intro b w a hM hF) | (with_reducible refine w_ret ?_) | (with_reducible refine q_then_r ?_) | ((with_reducible apply c_true2 hF); exact rfl; (first | with_reducible rfl | (refine congrArg Value.bool ?_; focus (simp; done))))))
    all_goals (apply f_ret Try.results41 hF hM; (repeat (first | exact RL.nil | (apply RL.tmp; exact rfl) | (apply RL.cell; exact rfl; (repeat (first | exact List.mem_cons_self | refine List.mem_cons_of_mem _ ?_)); exact rfl))); refine Ret.mk hM.since ?_; dsimp only [resV])
    all_goals rfl
  | false =>
    by_cases hd : d = 0
    · rw [decide_eq_true hd]
      (repeat' (first | (with_reducible refine w_seq ?_) | (with_reducible refine c_region ?_) | (with_reducible refine s_nil ?_) | ((with_reducible apply s_call (f := 48) hF hM); exact rfl; exact rfl; exact rfl; exact rfl; exact rfl; exact (isChunk_c x ax cx q hq _ _ hM.lt); clear hF hM a; rintro v w a rfl - hM hF) | (with_reducible refine q_then_n ?_) | ((with_reducible apply s_pure hF); exact rfl; exact rfl; exact rfl; (first | exact trivial | omega | exact ⟨Int.natCast_nonneg _, Int.ofNat_lt.2 (by assumption)⟩ | decide); clear hF a; intro a hF) | ((with_reducible apply s_load hF hM); exact rfl; exact rfl; (repeat (first | exact List.mem_cons_self | refine List.mem_cons_of_mem _ ?_)); exact rfl; exact rfl; clear hF a; intro a hF) | ((with_reducible apply s_box hF hM); exact rfl; exact rfl; exact rfl; exact rfl; clear hF hM a; intro b w a hM hF) | (with_reducible refine w_skip ?_) | (with_reducible refine w_ret ?_) | ((with_reducible apply c_false2 hF); exact rfl; (first | with_reducible rfl | (refine congrArg Value.bool ?_; focus (simp; done)))) | ((fail_if_success ((with_reducible refine g_known true hF ?_ ?_); focus exact rfl)); (fail_if_success ((with_reducible refine g_known false hF ?_ ?_); focus exact rfl)); (with_reducible apply g_dec hF); exact rfl; exact rfl; all_goals (clear hF; intro hc hF); all_goals (try (exfalso; omega)))))
      all_goals (apply f_ret Try.results41 hF hM; (repeat (first | exact RL.nil | (apply RL.tmp; exact rfl) | (apply RL.cell; exact rfl; (repeat (first | exact List.mem_cons_self | refine List.mem_cons_of_mem _ ?_)); exact rfl))); refine Ret.mk hM.since ?_; dsimp only [resV])
      all_goals rfl
    · rw [decide_eq_false hd]
      (repeat' (first | (with_reducible refine w_seq ?_) | (with_reducible refine c_region ?_) | (with_reducible refine s_nil ?_) | (with_reducible refine q_then_n ?_) | ((with_reducible apply s_pure hF); exact rfl; exact rfl; exact rfl; (first | exact trivial | omega | exact ⟨Int.natCast_nonneg _, Int.ofNat_lt.2 (by assumption)⟩ | decide); clear hF a; intro a hF) | ((with_reducible apply s_load hF hM); exact rfl; exact rfl; (repeat (first | exact List.mem_cons_self | refine List.mem_cons_of_mem _ ?_)); exact rfl; exact rfl; clear hF a; intro a hF) | ((with_reducible apply s_box hF hM); exact rfl; exact rfl; exact rfl; exact rfl; clear hF hM a; intro b w a hM hF) | (with_reducible refine w_skip ?_) | (with_reducible refine w_ret ?_) | ((with_reducible apply c_false2 hF); exact rfl; (first | with_reducible rfl | (refine congrArg Value.bool ?_; focus (simp; done)))) | ((with_reducible apply s_skip hF); exact rfl; exact rfl; clear hF a; intro a hF) | ((fail_if_success ((with_reducible refine g_known true hF ?_ ?_); focus exact rfl)); (fail_if_success ((with_reducible refine g_known false hF ?_ ?_); focus exact rfl)); (with_reducible apply g_dec hF); exact rfl; exact rfl; all_goals (clear hF; intro hc hF); all_goals (try (exfalso; omega)))))
      all_goals (apply f_ret Try.results41 hF hM; (repeat (first | exact RL.nil | (apply RL.tmp; exact rfl) | (apply RL.cell; exact rfl; (repeat (first | exact List.mem_cons_self | refine List.mem_cons_of_mem _ ?_)); exact rfl))); refine Ret.mk hM.since ?_; dsimp only [resV])
      all_goals rfl
namespace D29
/-- What Decode answers. -/
def decR (c : St) (l : List Tok) : Except Int (List Itm × Dat) := if check c ≠ 0 then .error (check c) else decI c.cap l c.items []
def decP (own : Nat → Prop) (cp : Int) (r : Except Int (List Itm × Dat)) (v : Value) (w' : World) : Prop := match r with
  | .error e => v = .tuple #[.agg #[.int .i64 0, .slice none 0 0], .slice none 0 0, .int .i64 e]
  | .ok r => ∃ (a : Option Addr) (c : Nat) (a2 : Option Addr) (c2 : Nat), v = .tuple #[.agg #[.int .i64 cp, .slice a r.1.length c], .slice a2 r.2.length c2, .int .i64 0] ∧ ItR own r.1 a c w' ∧ Has own w' (RdF (Value.int .u8) a2 r.2.flatten) ∧ r.2.length ≤ c2 ∧ W8 r.2 ∧ ∀ s ∈ r.2, ∀ b ∈ s, 0 ≤ b ∧ b < 256
theorem rd_cells {own : Nat → Prop} {w : World} {α : Type} {enc : α → Value} {ad : Addr} {ys : List α} (h : Has own w (RdF enc (some ad) ys)) : ∀ (j : Nat) (u : Value), (ys.map enc)[j]? = some u → w.cell? (ad.add j) = some u := by
  intro j u hu
  rw [List.getElem?_map] at hu
  cases hy : ys[j]? with
  | none => rw [hy] at hu; cases hu
  | some y =>
    rw [hy] at hu
    injection hu with hu
    obtain ⟨b, off, e, hb, hc⟩ := h.get j y hy
    injection e with e
    subst e
    rw [add_lit, hc, hu]
theorem decI_cons (cap : Int) (t : Tok) (r : List Tok) (l : List Itm) (o : Dat) : decI cap (t :: r) l o = if !corT t then .error 3 else match (if t.r then findI l t.d else some t.x) with
    | none => .error 25
    | some x => decI cap r (addI cap l x) (o ++ x) := rfl
/-- What Decode keeps. -/
structure DecS (cp : Int) (its : List P) (iv : Value) (eI : Ent) (E : List TE) (o : Dat) (k : Nat) : Prop where
  it : Its (ims its)
  st : StI its iv eI E
  ln : (its.length : Int) ≤ cp
  o8 : W8 o
  ob : ∀ s ∈ o, ∀ b ∈ s, 0 ≤ b ∧ b < 256
  ol : o.length ≤ k * 4096
theorem Its.ch4 {its : List P} (h : Its (ims its)) : ∀ q ∈ its, q.1.x.length ≤ 4096 := by
  intro q hq
  have := h.ch q.1 (List.mem_map.2 ⟨q, hq, rfl⟩)
  unfold isCh at this
  rw [decide_eq_true_eq] at this
  exact this.2
end D29
section
variable (cp : Int) (ps : List P) (a0 : Option Addr) (c0 n : Nat) (hn : ps.length = n) (hlen : n ≤ 100000) (hDW : DatW ps) (hpx : ∀ p ∈ ps, p.1.x.length ≤ 100000) (own : Nat → Prop) (W : World) (hl : ∀ b, own b → b < W.heap.size) (h1 : Has own W (RdF id a0 (cellsP ps))) (h2 : Has own W (DatF ps))
include hn hlen hDW hpx hl h1 h2
set_option maxRecDepth 20000 in
set_option maxHeartbeats 4000000 in
theorem Decode29_c (ts : List TP) (hts : DatW (tP ts)) (al : Option Addr) (cl nl : Nat) (hnl : ts.length = nl) (hnl4 : nl ≤ 100000) (hx1 : Has own W (RdF id al (cellsT ts))) (hx2 : Has own W (DatF (tP ts))) :
    Calls Try.prog 10 ⟨[.agg #[.int .i64 cp, .slice a0 n c0], .slice al nl cl]⟩ W (Ret W (decP own cp (decR ⟨cp, ims ps⟩ (tms ts)))) := by
  have hM := ((((Mm.start hl).known hx2).known hx1).known h2).known h1
  subst hnl
  refine f_start Try.func10 rfl Try.ntmps10 rfl rfl ?_; intro a hF
  (repeat (first | (with_reducible refine w_seq ?_) | (with_reducible refine c_region ?_) | (with_reducible refine s_nil ?_) | (with_reducible refine q_then_n ?_) | ((with_reducible apply s_pure hF); exact rfl; exact rfl; exact rfl; (first | exact trivial | omega | exact ⟨Int.natCast_nonneg _, Int.ofNat_lt.2 (by assumption)⟩ | decide); clear hF a; intro a hF) | ((with_reducible apply s_load hF hM); exact rfl; exact rfl; (repeat (first | exact List.mem_cons_self | refine List.mem_cons_of_mem _ ?_)); exact rfl; exact rfl; clear hF a; intro a hF) | ((with_reducible apply s_alloc hF hM); exact rfl; exact rfl; exact rfl; clear hF hM a; intro b w a hM hF) | ((with_reducible apply s_box hF hM); exact rfl; exact rfl; exact rfl; exact rfl; clear hF hM a; intro b w a hM hF)))
  rename_i b2 _
  generalize b = b4 at *
  have hnb : ∀ f ∈ [RdF id al (cellsT ts), DatF (tP ts)], ∀ b, Nb b f := by
    intro f hf b
    simp only [List.mem_cons, List.not_mem_nil, or_false] at hf
    rcases hf with rfl | rfl
    · exact Nb.rd
    · exact Nb.dat
  by_cases hb : cp < 1 ∨ 4096 < cp ∨ cp < n
  · have hck := chk_bad (l := ims ps) (by rw [ims_len, hn]; exact hb)
    have he : decR ⟨cp, ims ps⟩ (tms ts) = .error (check ⟨cp, ims ps⟩) := if_pos hck
    rw [he]
    (((with_reducible apply s_callM (f := 31) hF); exact rfl; exact rfl; exact rfl; exact rfl; exact rfl; exact (open_bad cp ps a0 c0 n hn hlen hDW hpx hnb hM hb); clear hF hM a; rintro v w a ⟨rfl, hM⟩ hF))
    generalize check ⟨cp, ims ps⟩ = e at *
    (repeat' (first | (with_reducible refine w_seq ?_) | (with_reducible refine c_region ?_) | (with_reducible refine s_nil ?_) | (with_reducible refine q_then_n ?_) | ((with_reducible apply s_pure hF); exact rfl; exact rfl; exact rfl; (first | exact trivial | omega | exact ⟨Int.natCast_nonneg _, Int.ofNat_lt.2 (by assumption)⟩ | decide); clear hF a; intro a hF) | ((with_reducible apply s_store hF hM); exact rfl; exact rfl; exact rfl; exact rfl; (repeat (first | exact Upd.z | apply Upd.s)); exact rfl; exact rfl; exact rfl; clear hM; intro w hM) | (with_reducible refine w_ret ?_) | (with_reducible refine q_then_r ?_) | ((with_reducible apply c_dec hF); exact rfl; all_goals intro hc; all_goals (try (exfalso; omega)))))
    all_goals first | (exfalso; omega) | (apply f_ret Try.results10 hF hM; (repeat (first | exact RL.nil | (apply RL.tmp; exact rfl) | (apply RL.cell; exact rfl; (repeat (first | exact List.mem_cons_self | refine List.mem_cons_of_mem _ ?_)); exact rfl))); refine Ret.mk hM.since ?_; dsimp only [resV])
    all_goals exact rfl
  · have hck := chk_big (l := ims ps) (by rw [ims_len, hn]; exact hb)
    (((with_reducible apply s_callM (f := 31) hF); exact rfl; exact rfl; exact rfl; exact rfl; exact rfl; exact (open_c cp ps a0 c0 n hn hlen hDW hpx hnb hM (by omega) (by omega)); clear hF hM a; rintro v w a (⟨h0, rfl, hM⟩ | ⟨h0, sb, mb, its, iv, eI, E, rfl, him, hS, hmb, hM⟩) hF))
    · have he : decR ⟨cp, ims ps⟩ (tms ts) = .error (chkL [] (ims ps)) := by
        unfold decR
        rw [hck, if_pos h0]
      rw [he]
      generalize chkL [] (ims ps) = e at *
      (repeat' (first | (with_reducible refine w_seq ?_) | (with_reducible refine c_region ?_) | (with_reducible refine s_nil ?_) | (with_reducible refine q_then_n ?_) | ((with_reducible apply s_pure hF); exact rfl; exact rfl; exact rfl; (first | exact trivial | omega | exact ⟨Int.natCast_nonneg _, Int.ofNat_lt.2 (by assumption)⟩ | decide); clear hF a; intro a hF) | ((with_reducible apply s_store hF hM); exact rfl; exact rfl; exact rfl; exact rfl; (repeat (first | exact Upd.z | apply Upd.s)); exact rfl; exact rfl; exact rfl; clear hM; intro w hM) | (with_reducible refine w_ret ?_) | (with_reducible refine q_then_r ?_) | ((with_reducible apply c_dec hF); exact rfl; all_goals intro hc; all_goals (try (exfalso; omega)))))
      all_goals first | (exfalso; omega) | (apply f_ret Try.results10 hF hM; (repeat (first | exact RL.nil | (apply RL.tmp; exact rfl) | (apply RL.cell; exact rfl; (repeat (first | exact List.mem_cons_self | refine List.mem_cons_of_mem _ ?_)); exact rfl))); refine Ret.mk hM.since ?_; dsimp only [resV])
      all_goals exact rfl
    · have he : decR ⟨cp, ims ps⟩ (tms ts) = decI cp (tms ts) (ims ps) [] := by
        unfold decR
        rw [hck, if_neg (by simp [h0])]
      rw [he]
      (repeat' (first | (with_reducible refine w_seq ?_) | (with_reducible refine c_region ?_) | (with_reducible refine s_nil ?_) | (with_reducible refine q_then_n ?_) | ((with_reducible apply s_pure hF); exact rfl; exact rfl; exact rfl; (first | exact trivial | omega | exact ⟨Int.natCast_nonneg _, Int.ofNat_lt.2 (by assumption)⟩ | decide); clear hF a; intro a hF) | (with_reducible refine w_skip ?_) | (with_reducible refine w_block ?_) | ((with_reducible apply c_false2 hF); exact rfl; (first | with_reducible rfl | (refine congrArg Value.bool ?_; focus (simp; done))))))
      all_goals first | (exfalso; omega) | skip
      have hIt : Its (ims its) := by
        rw [him]
        obtain ⟨k1, k2, k3, -⟩ := chkL_ok.1 h0
        exact ⟨k1, k2, k3⟩
      have hil : its.length = n := by
        have := congrArg List.length him
        rw [ims_len, ims_len] at this
        omega
      have hrow := ((((hM.nilRow 83 8).permL (L' := eI :: ([⟨83, 8, .slice none 0 0, 0, []⟩] ++ rowsT E)) (.swap _ _ _))).sub (bs' := [stB sb mb cp iv, ⟨b4, ⟨[.int .i64 0, .slice none 0 0]⟩, 29⟩]) (Fs' := [MpE (Value.int .u64) mb (esE E), DatF its, RdF id al (cellsT ts), DatF (tP ts)]) (.cons_cons _ (.cons_cons _ (.cons _ .slnil))) (.refl _) (fun f hf => by simp only [List.mem_cons, List.not_mem_nil, or_false] at hf ⊢; rcases hf with h | h | h | h <;> simp [h]))
      refine c_loop (m := ts.length) (fun m a w' => ∃ (k : Nat) (its : List P) (E : List TE) (iv : Value) (eI : Ent) (o : Dat) (ov : Value), m + k = ts.length ∧ decI cp (tms ts) (ims ps) [] = decI cp ((tms ts).drop k) (ims its) o ∧ DecS cp its iv eI E o k ∧
        Fr 60 [] [(25, .int .i64 k), (24, .int .i64 ts.length), (23, .slice al ts.length cl), (9, ov), (7, .pointer (some ⟨sb, 0, none⟩)), (4, .pointer (some ⟨b4, 0, none⟩))] a ∧
        Mm own W [stB sb mb cp iv, ⟨b4, ⟨[.int .i64 0, .slice none 0 0]⟩, 29⟩] (eI :: ([⟨83, 8, ov, o.length, o.flatten.map (Value.int .u8)⟩] ++ rowsT E)) [MpE (Value.int .u64) mb (esE E), DatF its, RdF id al (cellsT ts), DatF (tP ts)] w')
        ⟨0, its, E, iv, eI, [], _, by omega, by rw [him]; rfl, ⟨hIt, hS, by omega, fun y hy => by simp at hy, fun y hy => by simp at hy, by simp⟩, hF.sub (by repeat (first | exact Sub.nil | refine Sub.cons rfl (by first | with_reducible rfl | (refine congrArg (Value.int _) ?_; omega) | exact rfl) ?_)), hrow⟩ ?_
      clear hF hM hrow a hS hIt him hil he
      rintro m a w' ⟨k, its, E, iv, eI, o, ov, hm, hdec, hDS, hF, hM⟩
      have hol := hDS.ol
      by_cases hk : k < ts.length
      · obtain ⟨t, ht⟩ := get_of_lt hk
        have htm := List.mem_of_getElem? ht
        have htd : (tms ts).drop k = t.1 :: (tms ts).drop (k + 1) := by
          rw [List.drop_eq_getElem_cons (by rw [tms_len]; exact hk)]
          congr 1
          unfold tms
          rw [List.getElem_map]
          congr 1
          exact (List.getElem?_eq_some_iff.1 ht).2
        rw [htd, decI_cons] at hdec
        have htw := hts ((⟨t.1.d, t.1.x⟩ : Itm), t.2) (List.mem_map.2 ⟨t, htm, rfl⟩)
        have htr := dat_one (hM.facts (DatF (tP ts)) (by (repeat (first | with_reducible exact List.mem_cons_self | refine List.mem_cons_of_mem _ ?_)))) (p := ((⟨t.1.d, t.1.x⟩ : Itm), t.2)) (List.mem_map.2 ⟨t, htm, rfl⟩)
        have hpe : (ts.map tkC)[k]? = some (tkC t) := by rw [List.getElem?_map, ht]; rfl
        obtain ⟨⟨r, d, x⟩, ax, cx⟩ := t
        obtain ⟨q, hxq⟩ : ∃ q, x.length = q := ⟨_, rfl⟩
        obtain ⟨hx8, hxc2, hxb⟩ := htw
        replace hx8 : W8 x := hx8
        replace hxb : ∀ s ∈ x, ∀ b ∈ s, 0 ≤ b ∧ b < 256 := hxb
        replace htr : Has _ _ (RdF (Value.int .u8) ax x.flatten) := htr
        replace hpe : (ts.map tkC)[k]? = some [.bool r, .int .u64 d, .slice ax q cx] := by rw [hpe, ← hxq]
        have hw3 := tkC_len ts
        obtain ⟨ad, rfl⟩ : ∃ ad, al = some ad := rd_some hM (enc := id) (a := al) (xs := cellsT ts) (by (repeat (first | exact List.mem_cons_self | refine List.mem_cons_of_mem _ ?_))) (flat_get (q := 0) hw3 hpe rfl)
        have hcf2 : ∀ f ∈ [RdF id (some ad) (cellsT ts), DatF (tP ts)], Nb mb f := by
          intro f hf
          simp only [List.mem_cons, List.not_mem_nil, or_false] at hf
          rcases hf with rfl | rfl
          · exact Nb.rd
          · exact Nb.dat
        unfold cellsT at hM hcf2
        cases hcor : corT ⟨r, d, x⟩ with
        | false =>
          rw [hcor] at hdec
          (repeat' (first | (with_reducible refine w_seq ?_) | (with_reducible refine c_region ?_) | (with_reducible refine s_nil ?_) | ((with_reducible apply s_call (f := 41) hF hM); exact rfl; exact rfl; exact rfl; exact rfl; exact rfl; exact (correct1_c r d x ax cx q hxq _ _ hM.lt); clear hF hM a; rintro v w a rfl - hM hF; rw [hcor] at hF) | ((with_reducible apply s_loadE hF hM); exact rfl; exact rfl; (repeat (first | exact List.mem_cons_self | refine List.mem_cons_of_mem _ ?_)); exact rfl; exact rfl; (first | with_reducible assumption | (simp only [Int.toNat_natCast]; with_reducible assumption)); (with_reducible assumption); clear hF a; intro a hF) | (with_reducible refine q_then_n ?_) | ((with_reducible apply s_pure hF); exact rfl; exact rfl; exact rfl; (first | exact trivial | omega | exact ⟨Int.natCast_nonneg _, Int.ofNat_lt.2 (by assumption)⟩ | decide); clear hF a; intro a hF) | ((with_reducible apply s_load hF hM); exact rfl; exact rfl; (repeat (first | exact List.mem_cons_self | refine List.mem_cons_of_mem _ ?_)); exact rfl; exact rfl; clear hF a; intro a hF) | ((with_reducible apply s_store hF hM); exact rfl; exact rfl; exact rfl; exact rfl; (repeat (first | exact Upd.z | apply Upd.s)); exact rfl; exact rfl; exact rfl; clear hM; intro w hM) | ((with_reducible apply s_alloc hF hM); exact rfl; exact rfl; exact rfl; clear hF hM a; intro b w a hM hF) | (with_reducible refine w_skip ?_) | (with_reducible refine w_block ?_) | (with_reducible refine w_ret ?_) | (with_reducible refine q_then_r ?_) | (with_reducible refine q_blk_r ?_) | ((with_reducible apply c_true2 hF); exact rfl; (first | with_reducible rfl | (refine congrArg Value.bool ?_; focus (simp; done)))) | ((with_reducible apply c_dec hF); exact rfl; all_goals intro hc; all_goals (try (exfalso; omega)))))
          (apply f_ret Try.results10 hF hM; (repeat (first | exact RL.nil | (apply RL.tmp; exact rfl) | (apply RL.cell; exact rfl; (repeat (first | exact List.mem_cons_self | refine List.mem_cons_of_mem _ ?_)); exact rfl))); refine Ret.mk hM.since ?_; dsimp only [resV])
          rw [hdec]
          rfl
        | true =>
          rw [hcor] at hdec
          have hbd : o.length + 4096 ≤ 500000000 := by omega
          have hdrop : (tms ts).drop (k + 1) = (tms ts).drop (k + 1) := rfl
          cases r with
          | false =>
            have hxc : isCh x = true := by
              unfold corT at hcor
              simp only [Bool.false_eq_true, if_false, Bool.and_eq_true] at hcor
              exact hcor.2
            have hx4 : x.length ≤ 4096 := by
              unfold isCh at hxc
              rw [decide_eq_true_eq] at hxc
              exact hxc.2
            simp only [Bool.not_true, Bool.false_eq_true, if_false] at hdec
            replace hM := hM.addFact htr
            (repeat' (first | (with_reducible refine w_seq ?_) | (with_reducible refine c_region ?_) | (with_reducible refine s_nil ?_) | ((with_reducible apply s_call (f := 41) hF hM); exact rfl; exact rfl; exact rfl; exact rfl; exact rfl; exact (correct1_c false d x ax cx q hxq _ _ hM.lt); clear hF hM a; rintro v w a rfl - hM hF; rw [hcor] at hF) | ((with_reducible apply s_loadE hF hM); exact rfl; exact rfl; (repeat (first | exact List.mem_cons_self | refine List.mem_cons_of_mem _ ?_)); exact rfl; exact rfl; (first | with_reducible assumption | (simp only [Int.toNat_natCast]; with_reducible assumption)); (with_reducible assumption); clear hF a; intro a hF) | (with_reducible refine q_then_n ?_) | ((with_reducible apply s_pure hF); exact rfl; exact rfl; exact rfl; (first | exact trivial | omega | exact ⟨Int.natCast_nonneg _, Int.ofNat_lt.2 (by assumption)⟩ | decide); clear hF a; intro a hF) | ((with_reducible apply s_load hF hM); exact rfl; exact rfl; (repeat (first | exact List.mem_cons_self | refine List.mem_cons_of_mem _ ?_)); exact rfl; exact rfl; clear hF a; intro a hF) | ((with_reducible apply s_store hF hM); exact rfl; exact rfl; exact rfl; exact rfl; (repeat (first | exact Upd.z | apply Upd.s)); exact rfl; exact rfl; exact rfl; clear hM; intro w hM) | ((with_reducible apply s_alloc hF hM); exact rfl; exact rfl; exact rfl; clear hF hM a; intro b w a hM hF) | (with_reducible refine w_skip ?_) | (with_reducible refine w_block ?_) | ((with_reducible apply c_false2 hF); exact rfl; (first | with_reducible rfl | (refine congrArg Value.bool ?_; focus (simp; done)))) | ((with_reducible apply c_dec hF); exact rfl; all_goals intro hc; all_goals (try (exfalso; omega)))))
            have hfl := flat_len hx8
            rw [hxq] at hfl
            (repeat' (first | (with_reducible refine c_region ?_) | (with_reducible refine s_nil ?_) | ((with_reducible apply s_appN hF hM); exact rfl; exact rfl; (repeat (first | exact List.mem_cons_self | refine List.mem_cons_of_mem _ ?_)); exact rfl; exact rfl; (with_reducible assumption); (repeat (first | exact Kth.z | apply Kth.s)); (intro _; exact rfl); exact rfl; omega; clear hF hM a; intro g cap w a hM hF; dsimp only [List.set] at hM) | (with_reducible refine q_then_n ?_) | ((with_reducible apply s_pure hF); exact rfl; exact rfl; exact rfl; (first | exact trivial | omega | exact ⟨Int.natCast_nonneg _, Int.ofNat_lt.2 (by assumption)⟩ | decide); clear hF a; intro a hF)))
            replace hM : Mm own W (stB sb mb cp iv :: _) (eI :: ([⟨83, 8, .slice g (o.length + q) cap, o.length + q, o.flatten.map (Value.int .u8) ++ x.flatten.map (Value.int .u8)⟩] ++ rowsT E)) (MpE (Value.int .u64) mb (esE E) :: RdF (Value.int .u8) ax x.flatten :: DatF its :: [RdF id (some ad) (ts.map tkC).flatten, DatF (tP ts)]) _ := (hM.perm (List.Perm.swap _ _ _)).sub (.refl _) (.refl _) (fun f hf => by simp only [List.mem_cons, List.not_mem_nil, or_false] at hf ⊢; rcases hf with h | h | h | h | h <;> simp [h])
            (((with_reducible apply s_callM (f := 37) hF); exact rfl; exact rfl; exact rfl; exact rfl; exact rfl; exact (add_c sb mb cp its iv eI E ⟨by omega, by omega⟩ hDS.ln hDS.st hmb hcf2 x hx8 hxb hx4 ax cx q hxq hM); clear hF hM a; rintro v w a ⟨its2, E2, iv2, eI2, him2, hS2, hM⟩ hF))
            (repeat' (first | (with_reducible refine c_region ?_) | (with_reducible refine s_nil ?_) | (with_reducible refine q_then_n ?_) | ((with_reducible apply s_pure hF); exact rfl; exact rfl; exact rfl; (first | exact trivial | omega | exact ⟨Int.natCast_nonneg _, Int.ofNat_lt.2 (by assumption)⟩ | decide); clear hF a; intro a hF) | (with_reducible refine q_blk_n ?_)))
            refine ⟨m - 1, by omega, k + 1, its2, E2, iv2, eI2, o ++ x, .slice g (o.length + q) cap, by omega, ?_, ⟨?_, hS2, ?_, ?_, ?_, ?_⟩, hF.sub (by repeat (first | exact Sub.nil | refine Sub.cons rfl (by first | with_reducible rfl | (refine congrArg (Value.int _) ?_; omega) | exact rfl) ?_)), ?_⟩
            · rw [hdec, him2]
            · rw [him2]
              exact hDS.it.add hxc cp
            · have := add_len (cap := cp) (l := ims its) (by rw [ims_len]; exact hDS.ln) x
              rw [← him2, ims_len] at this
              exact this
            · intro y hy
              rcases List.mem_append.1 hy with hy | hy
              · exact hDS.o8 y hy
              · exact hx8 y hy
            · intro y hy
              rcases List.mem_append.1 hy with hy | hy
              · exact hDS.ob y hy
              · exact hxb y hy
            · rw [List.length_append]
              omega
            · rw [List.length_append, hxq, List.flatten_append, List.map_append]
              exact hM.sub (.cons_cons _ (.cons _ (.refl _))) (.refl _) (fun f hf => by simp only [List.mem_cons, List.not_mem_nil, or_false] at hf ⊢; rcases hf with h | h | h | h <;> simp [h, cellsT])
          | true =>
            simp only [Bool.not_true, Bool.false_eq_true, if_false, if_true] at hdec
            have hfd := tab_find hDS.st.tab d
            have e1 := find_c E mb d own
            cases hh : (lookE d E).head? with
            | none =>
              rw [hh] at hfd e1
              rw [hfd] at hdec
              (repeat' (first | (with_reducible refine w_seq ?_) | (with_reducible refine c_region ?_) | (with_reducible refine s_nil ?_) | ((with_reducible apply s_call (f := 41) hF hM); exact rfl; exact rfl; exact rfl; exact rfl; exact rfl; exact (correct1_c true d x ax cx q hxq _ _ hM.lt); clear hF hM a; rintro v w a rfl - hM hF; rw [hcor] at hF) | ((with_reducible apply s_loadE hF hM); exact rfl; exact rfl; (repeat (first | exact List.mem_cons_self | refine List.mem_cons_of_mem _ ?_)); exact rfl; exact rfl; (first | with_reducible assumption | (simp only [Int.toNat_natCast]; with_reducible assumption)); (with_reducible assumption); clear hF a; intro a hF) | (with_reducible refine q_then_n ?_) | ((with_reducible apply s_pure hF); exact rfl; exact rfl; exact rfl; (first | exact trivial | omega | exact ⟨Int.natCast_nonneg _, Int.ofNat_lt.2 (by assumption)⟩ | decide); clear hF a; intro a hF) | ((with_reducible apply s_load hF hM); exact rfl; exact rfl; (repeat (first | exact List.mem_cons_self | refine List.mem_cons_of_mem _ ?_)); exact rfl; exact rfl; clear hF a; intro a hF) | ((with_reducible apply s_store hF hM); exact rfl; exact rfl; exact rfl; exact rfl; (repeat (first | exact Upd.z | apply Upd.s)); exact rfl; exact rfl; exact rfl; clear hM; intro w hM) | ((with_reducible apply s_alloc hF hM); exact rfl; exact rfl; exact rfl; clear hF hM a; intro b w a hM hF) | (with_reducible refine w_skip ?_) | (with_reducible refine w_block ?_) | ((with_reducible apply c_true2 hF); exact rfl; (first | with_reducible rfl | (refine congrArg Value.bool ?_; focus (simp; done)))) | ((with_reducible apply c_false2 hF); exact rfl; (first | with_reducible rfl | (refine congrArg Value.bool ?_; focus (simp; done)))) | ((with_reducible apply c_dec hF); exact rfl; all_goals intro hc; all_goals (try (exfalso; omega)))))
              refine c_draw (fun i => Nat.ble 12 i) hM ?_; clear hM; intro w hM
              (first | (refine t_pure (i := 0) hF rfl rfl rfl rfl (by kernel_rfl) hM.sm (fun _ _ _ h => h) ?_ ?_; (first | exact trivial | omega | decide); clear hF a; intro a hF))
              (first | (refine t_pure (i := 1) hF rfl rfl rfl rfl (by kernel_rfl) hM.sm (fun _ _ _ h => h) ?_ ?_; (first | exact trivial | omega | decide); clear hF a; intro a hF))
              (first | (refine t_pure (i := 2) hF rfl rfl rfl rfl (by kernel_rfl) hM.sm (fun _ _ _ h => h) ?_ ?_; (first | exact trivial | omega | decide); clear hF a; intro a hF))
              (first | (apply t_load (i := 3) hF rfl rfl rfl; (repeat (first | exact List.mem_cons_self | refine List.mem_cons_of_mem _ ?_)); exact rfl; exact rfl; kernel_rfl; exact hM.sm; exact (fun _ _ _ h => h); clear hF a; intro a hF))
              (first | (refine t_pure (i := 4) hF rfl rfl rfl rfl (by kernel_rfl) hM.sm (fun _ _ _ h => h) ?_ ?_; (first | exact trivial | omega | decide); clear hF a; intro a hF))
              (first | (apply t_load (i := 5) hF rfl rfl rfl; (repeat (first | exact List.mem_cons_self | refine List.mem_cons_of_mem _ ?_)); exact rfl; exact rfl; kernel_rfl; exact hM.sm; exact (fun _ _ _ h => h); clear hF a; intro a hF))
              refine t_one (i := 6) hF rfl (by kernel_rfl) rfl ?_
              intro K hK
              (apply x_call hF hM; exact rfl; exact rfl; exact rfl; exact rfl; exact (e1 _ (fun b h => hM.lt b (.inl h)) (hM.factOut (by (repeat (first | with_reducible exact List.mem_cons_self | refine List.mem_cons_of_mem _ ?_)))) (tabR_of (L1 := [_]) hM hDS.st.tE)); clear hF hM a; rintro v w a rfl - hM hF)
              refine hK _ _ (fun _ => hM.sm) ?_; clear hK
              (first | (refine t_pure (i := 7) hF rfl rfl rfl rfl (by kernel_rfl) hM.sm (fun _ _ _ h => h) ?_ ?_; (first | exact trivial | omega | decide); clear hF a; intro a hF))
              (first | (refine t_pure (i := 8) hF rfl rfl rfl rfl (by kernel_rfl) hM.sm (fun _ _ _ h => h) ?_ ?_; (first | exact trivial | omega | decide); clear hF a; intro a hF))
              (first | (refine t_pure (i := 9) hF rfl rfl rfl rfl (by kernel_rfl) hM.sm (fun _ _ _ h => h) ?_ ?_; (first | exact trivial | omega | decide); clear hF a; intro a hF))
              (first | (refine t_pure (i := 10) hF rfl rfl rfl rfl (by kernel_rfl) hM.sm (fun _ _ _ h => h) ?_ ?_; (first | exact trivial | omega | decide); clear hF a; intro a hF))
              (first | (refine t_pure (i := 11) hF rfl rfl rfl rfl (by kernel_rfl) hM.sm (fun _ _ _ h => h) ?_ ?_; (first | exact trivial | omega | decide); clear hF a; intro a hF))
              refine t_done (by kernel_rfl) ?_
              (repeat' (first | (with_reducible refine w_seq ?_) | (with_reducible refine c_region ?_) | (with_reducible refine s_nil ?_) | (with_reducible refine q_then_n ?_) | ((with_reducible apply s_pure hF); exact rfl; exact rfl; exact rfl; (first | exact trivial | omega | exact ⟨Int.natCast_nonneg _, Int.ofNat_lt.2 (by assumption)⟩ | decide); clear hF a; intro a hF) | ((with_reducible apply s_store hF hM); exact rfl; exact rfl; exact rfl; exact rfl; (repeat (first | exact Upd.z | apply Upd.s)); exact rfl; exact rfl; exact rfl; clear hM; intro w hM) | (with_reducible refine w_ret ?_) | (with_reducible refine q_then_r ?_) | (with_reducible refine q_blk_r ?_) | ((with_reducible apply c_true2 hF); exact rfl; (first | with_reducible rfl | (refine congrArg Value.bool ?_; focus (simp; done))))))
              (apply f_ret Try.results10 hF hM; (repeat (first | exact RL.nil | (apply RL.tmp; exact rfl) | (apply RL.cell; exact rfl; (repeat (first | exact List.mem_cons_self | refine List.mem_cons_of_mem _ ?_)); exact rfl))); refine Ret.mk hM.since ?_; dsimp only [resV])
              rw [hdec]
              rfl
            | some it =>
              rw [hh] at hfd e1
              rw [hfd] at hdec
              replace hdec : decI cp (tms ts) (ims ps) [] = decI cp ((tms ts).drop (k + 1)) (addI cp (ims its) it.1.x) (o ++ it.1.x) := hdec
              have hpi : it ∈ its := look_sub hDS.st.tab d it (List.mem_of_mem_head? hh)
              obtain ⟨hp8, hpc, hpb⟩ := hDS.st.dw it hpi
              have hp4 := hDS.it.ch4 it hpi
              have hpk : isCh it.1.x = true := hDS.it.ch it.1 (List.mem_map.2 ⟨it, hpi, rfl⟩)
              replace hM := hM.addFact (dat_one (hM.facts (DatF its) (by (repeat (first | with_reducible exact List.mem_cons_self | refine List.mem_cons_of_mem _ ?_)))) hpi)
              obtain ⟨⟨di, xi⟩, ai, ci⟩ := it
              obtain ⟨qi, hqi⟩ : ∃ qi, xi.length = qi := ⟨_, rfl⟩
              dsimp only at hM hp8 hpc hpb hp4 hpk hdec
              (repeat' (first | (with_reducible refine w_seq ?_) | (with_reducible refine c_region ?_) | (with_reducible refine s_nil ?_) | ((with_reducible apply s_call (f := 41) hF hM); exact rfl; exact rfl; exact rfl; exact rfl; exact rfl; exact (correct1_c true d x ax cx q hxq _ _ hM.lt); clear hF hM a; rintro v w a rfl - hM hF; rw [hcor] at hF) | ((with_reducible apply s_loadE hF hM); exact rfl; exact rfl; (repeat (first | exact List.mem_cons_self | refine List.mem_cons_of_mem _ ?_)); exact rfl; exact rfl; (first | with_reducible assumption | (simp only [Int.toNat_natCast]; with_reducible assumption)); (with_reducible assumption); clear hF a; intro a hF) | (with_reducible refine q_then_n ?_) | ((with_reducible apply s_pure hF); exact rfl; exact rfl; exact rfl; (first | exact trivial | omega | exact ⟨Int.natCast_nonneg _, Int.ofNat_lt.2 (by assumption)⟩ | decide); clear hF a; intro a hF) | ((with_reducible apply s_load hF hM); exact rfl; exact rfl; (repeat (first | exact List.mem_cons_self | refine List.mem_cons_of_mem _ ?_)); exact rfl; exact rfl; clear hF a; intro a hF) | ((with_reducible apply s_store hF hM); exact rfl; exact rfl; exact rfl; exact rfl; (repeat (first | exact Upd.z | apply Upd.s)); exact rfl; exact rfl; exact rfl; clear hM; intro w hM) | ((with_reducible apply s_alloc hF hM); exact rfl; exact rfl; exact rfl; clear hF hM a; intro b w a hM hF) | (with_reducible refine w_skip ?_) | (with_reducible refine w_block ?_) | ((with_reducible apply c_true2 hF); exact rfl; (first | with_reducible rfl | (refine congrArg Value.bool ?_; focus (simp; done)))) | ((with_reducible apply c_false2 hF); exact rfl; (first | with_reducible rfl | (refine congrArg Value.bool ?_; focus (simp; done)))) | ((with_reducible apply c_dec hF); exact rfl; all_goals intro hc; all_goals (try (exfalso; omega)))))
              refine c_draw (fun i => Nat.ble 12 i) hM ?_; clear hM; intro w hM
              (first | (refine t_pure (i := 0) hF rfl rfl rfl rfl (by kernel_rfl) hM.sm (fun _ _ _ h => h) ?_ ?_; (first | exact trivial | omega | decide); clear hF a; intro a hF))
              (first | (refine t_pure (i := 1) hF rfl rfl rfl rfl (by kernel_rfl) hM.sm (fun _ _ _ h => h) ?_ ?_; (first | exact trivial | omega | decide); clear hF a; intro a hF))
              (first | (refine t_pure (i := 2) hF rfl rfl rfl rfl (by kernel_rfl) hM.sm (fun _ _ _ h => h) ?_ ?_; (first | exact trivial | omega | decide); clear hF a; intro a hF))
              (first | (apply t_load (i := 3) hF rfl rfl rfl; (repeat (first | exact List.mem_cons_self | refine List.mem_cons_of_mem _ ?_)); exact rfl; exact rfl; kernel_rfl; exact hM.sm; exact (fun _ _ _ h => h); clear hF a; intro a hF))
              (first | (refine t_pure (i := 4) hF rfl rfl rfl rfl (by kernel_rfl) hM.sm (fun _ _ _ h => h) ?_ ?_; (first | exact trivial | omega | decide); clear hF a; intro a hF))
              (first | (apply t_load (i := 5) hF rfl rfl rfl; (repeat (first | exact List.mem_cons_self | refine List.mem_cons_of_mem _ ?_)); exact rfl; exact rfl; kernel_rfl; exact hM.sm; exact (fun _ _ _ h => h); clear hF a; intro a hF))
              refine t_one (i := 6) hF rfl (by kernel_rfl) rfl ?_
              intro K hK
              (apply x_call hF hM; exact rfl; exact rfl; exact rfl; exact rfl; exact (e1 _ (fun b h => hM.lt b (.inl h)) (hM.factOut (by (repeat (first | with_reducible exact List.mem_cons_self | refine List.mem_cons_of_mem _ ?_)))) (tabR_of (L1 := [_]) hM hDS.st.tE)); clear hF hM a; rintro v w a rfl - hM hF)
              dsimp only at hF; rw [hqi] at hF
              refine hK _ _ (fun _ => (hM.sm.sub (fun x hx => by repeat (first | exact hx | refine List.mem_cons_of_mem _ ?_)) (fun _ h => by repeat (first | exact h | refine List.mem_cons_of_mem _ ?_)))) ?_; clear hK
              (first | (refine t_pure (i := 7) hF rfl rfl rfl rfl (by kernel_rfl) (hM.sm.sub (fun x hx => by repeat (first | exact hx | refine List.mem_cons_of_mem _ ?_)) (fun _ h => by repeat (first | exact h | refine List.mem_cons_of_mem _ ?_))) (fun _ _ _ h => h) ?_ ?_; (first | exact trivial | omega | decide); clear hF a; intro a hF))
              (first | (refine t_pure (i := 8) hF rfl rfl rfl rfl (by kernel_rfl) (hM.sm.sub (fun x hx => by repeat (first | exact hx | refine List.mem_cons_of_mem _ ?_)) (fun _ h => by repeat (first | exact h | refine List.mem_cons_of_mem _ ?_))) (fun _ _ _ h => h) ?_ ?_; (first | exact trivial | omega | decide); clear hF a; intro a hF))
              (first | (refine t_pure (i := 9) hF rfl rfl rfl rfl (by kernel_rfl) (hM.sm.sub (fun x hx => by repeat (first | exact hx | refine List.mem_cons_of_mem _ ?_)) (fun _ h => by repeat (first | exact h | refine List.mem_cons_of_mem _ ?_))) (fun _ _ _ h => h) ?_ ?_; (first | exact trivial | omega | decide); clear hF a; intro a hF))
              (first | (refine t_pure (i := 10) hF rfl rfl rfl rfl (by kernel_rfl) (hM.sm.sub (fun x hx => by repeat (first | exact hx | refine List.mem_cons_of_mem _ ?_)) (fun _ h => by repeat (first | exact h | refine List.mem_cons_of_mem _ ?_))) (fun _ _ _ h => h) ?_ ?_; (first | exact trivial | omega | decide); clear hF a; intro a hF))
              (first | (refine t_pure (i := 11) hF rfl rfl rfl rfl (by kernel_rfl) (hM.sm.sub (fun x hx => by repeat (first | exact hx | refine List.mem_cons_of_mem _ ?_)) (fun _ h => by repeat (first | exact h | refine List.mem_cons_of_mem _ ?_))) (fun _ _ _ h => h) ?_ ?_; (first | exact trivial | omega | decide); clear hF a; intro a hF))
              refine t_done (by kernel_rfl) ?_
              have hfl := flat_len hp8
              rw [hqi] at hfl
              (repeat' (first | (with_reducible refine w_seq ?_) | (with_reducible refine c_region ?_) | (with_reducible refine s_nil ?_) | ((with_reducible apply s_appN hF hM); exact rfl; exact rfl; (repeat (first | exact List.mem_cons_self | refine List.mem_cons_of_mem _ ?_)); exact rfl; exact rfl; (with_reducible assumption); (repeat (first | exact Kth.z | apply Kth.s)); (intro _; exact rfl); exact rfl; omega; clear hF hM a; intro g cap w a hM hF; dsimp only [List.set] at hM) | (with_reducible refine q_then_n ?_) | ((with_reducible apply s_pure hF); exact rfl; exact rfl; exact rfl; (first | exact trivial | omega | exact ⟨Int.natCast_nonneg _, Int.ofNat_lt.2 (by assumption)⟩ | decide); clear hF a; intro a hF) | (with_reducible refine w_skip ?_) | ((with_reducible apply c_false2 hF); exact rfl; (first | with_reducible rfl | (refine congrArg Value.bool ?_; focus (simp; done))))))
              replace hM : Mm own W (stB sb mb cp iv :: _) (eI :: ([⟨83, 8, .slice g (o.length + qi) cap, o.length + qi, o.flatten.map (Value.int .u8) ++ xi.flatten.map (Value.int .u8)⟩] ++ rowsT E)) (MpE (Value.int .u64) mb (esE E) :: RdF (Value.int .u8) ai xi.flatten :: DatF its :: [RdF id (some ad) (ts.map tkC).flatten, DatF (tP ts)]) _ := (hM.perm (List.Perm.swap _ _ _)).sub (.refl _) (.refl _) (fun f hf => by simp only [List.mem_cons, List.not_mem_nil, or_false] at hf ⊢; rcases hf with h | h | h | h | h <;> simp [h])
              (((with_reducible apply s_callM (f := 37) hF); exact rfl; exact rfl; exact rfl; exact rfl; exact rfl; exact (add_c sb mb cp its iv eI E ⟨by omega, by omega⟩ hDS.ln hDS.st hmb hcf2 xi hp8 hpb hp4 ai ci qi hqi hM); clear hF hM a; rintro v w a ⟨its2, E2, iv2, eI2, him2, hS2, hM⟩ hF))
              (repeat' (first | (with_reducible refine c_region ?_) | (with_reducible refine s_nil ?_) | (with_reducible refine q_then_n ?_) | ((with_reducible apply s_pure hF); exact rfl; exact rfl; exact rfl; (first | exact trivial | omega | exact ⟨Int.natCast_nonneg _, Int.ofNat_lt.2 (by assumption)⟩ | decide); clear hF a; intro a hF) | (with_reducible refine q_blk_n ?_)))
              refine ⟨m - 1, by omega, k + 1, its2, E2, iv2, eI2, o ++ xi, .slice g (o.length + qi) cap, by omega, ?_, ⟨?_, hS2, ?_, ?_, ?_, ?_⟩, hF.sub (by repeat (first | exact Sub.nil | refine Sub.cons rfl (by first | with_reducible rfl | (refine congrArg (Value.int _) ?_; omega) | exact rfl) ?_)), ?_⟩
              · rw [hdec, him2]
              · rw [him2]
                exact hDS.it.add hpk cp
              · have := add_len (cap := cp) (l := ims its) (by rw [ims_len]; exact hDS.ln) xi
                rw [← him2, ims_len] at this
                exact this
              · intro y hy
                rcases List.mem_append.1 hy with hy | hy
                · exact hDS.o8 y hy
                · exact hp8 y hy
              · intro y hy
                rcases List.mem_append.1 hy with hy | hy
                · exact hDS.ob y hy
                · exact hpb y hy
              · rw [List.length_append]
                omega
              · rw [List.length_append, hqi, List.flatten_append, List.map_append]
                exact hM.sub (.cons_cons _ (.cons _ (.refl _))) (.refl _) (fun f hf => by simp only [List.mem_cons, List.not_mem_nil, or_false] at hf ⊢; rcases hf with h | h | h | h <;> simp [h, cellsT])
      · obtain rfl : k = ts.length := by omega
        have hdn : (tms ts).drop ts.length = [] := List.drop_of_length_le (by rw [tms_len]; exact Nat.le_refl _)
        rw [hdn] at hdec
        rw [hdec]
        (repeat' (first | (with_reducible refine w_seq ?_) | (with_reducible refine c_region ?_) | (with_reducible refine s_nil ?_) | (with_reducible refine q_then_n ?_) | ((with_reducible apply s_pure hF); exact rfl; exact rfl; exact rfl; (first | exact trivial | omega | exact ⟨Int.natCast_nonneg _, Int.ofNat_lt.2 (by assumption)⟩ | decide); clear hF a; intro a hF) | (with_reducible refine w_exit ?_) | (with_reducible refine q_then_x ?_) | (with_reducible refine q_blk_x ?_) | ((with_reducible apply c_false2 hF); exact rfl; (first | with_reducible rfl | (refine congrArg Value.bool ?_; focus (simp; done))))))
        have hch4 := hDS.it.ch4
        have hil2 : its.length ≤ 100000 := by
          have := hDS.ln
          omega
        (((with_reducible apply s_callM (f := 38) hF); exact rfl; exact rfl; exact rfl; exact rfl; exact rfl; exact (chunksM_c sb mb cp its iv eI E hil2 hDS.st hch4 hM (by (repeat (first | with_reducible exact List.mem_cons_self | refine List.mem_cons_of_mem _ ?_)))); clear hF hM a; rintro v w a ⟨a', c', ps', rfl, k4, k5, k6, hM⟩ hF))
        obtain ⟨av, cv, rfl, hcv, -⟩ := OffR.shape hM (k := 0) rfl (OffR.plain hM List.mem_cons_self)
        replace hM := Mm.freezeN hM
        (repeat' (first | (with_reducible refine s_nil ?_) | (with_reducible refine q_then_n ?_) | ((with_reducible apply s_pure hF); exact rfl; exact rfl; exact rfl; (first | exact trivial | omega | exact ⟨Int.natCast_nonneg _, Int.ofNat_lt.2 (by assumption)⟩ | decide); clear hF a; intro a hF) | ((with_reducible apply s_store hF hM); exact rfl; exact rfl; exact rfl; exact rfl; (repeat (first | exact Upd.z | apply Upd.s)); exact rfl; exact rfl; exact rfl; clear hM; intro w hM) | (with_reducible refine w_ret ?_)))
        (apply f_ret Try.results10 hF hM; (repeat (first | exact RL.nil | (apply RL.tmp; exact rfl) | (apply RL.cell; exact rfl; (repeat (first | exact List.mem_cons_self | refine List.mem_cons_of_mem _ ?_)); exact rfl))); refine Ret.mk hM.since ?_; dsimp only [resV])
        refine ⟨a', c', av, cv, ?_, itR_mk hM k4 k5 (by (repeat (first | with_reducible exact List.mem_cons_self | refine List.mem_cons_of_mem _ ?_))) (by (repeat (first | with_reducible exact List.mem_cons_self | refine List.mem_cons_of_mem _ ?_))) (by rw [ims_len]; exact k6), hM.factOut (by (repeat (first | with_reducible exact List.mem_cons_self | refine List.mem_cons_of_mem _ ?_))), hcv, hDS.o8, hDS.ob⟩
        rw [ims_len]
end
end Go.Proofs.Ytadfdpkhehdikaa


/- slices: searches with a function in tokens, chunks and lists of sectors; searches in words. -/
namespace Go.Proofs.Ytadfdpkhehdikaa
open Go.RowKit Go.Shelf D29
namespace D29
/-- The first place at which something holds; -1 if there is none. -/
def IdxOf {α : Type} (q : α → Bool) (l : List α) (i : Int) : Prop := (i = -1 ∧ ∀ x ∈ l, q x = false) ∨ ∃ (k : Nat) (x : α), i = k ∧ l[k]? = some x ∧ q x = true ∧ ∀ y ∈ l.take k, q y = false
theorem IdxOf.any {α : Type} {q : α → Bool} {l : List α} {i : Int} (h : IdxOf q l i) : decide (0 ≤ i) = l.any q := by
  rw [Bool.eq_iff_iff, decide_eq_true_eq, List.any_eq_true]
  rcases h with ⟨rfl, h⟩ | ⟨k, x, rfl, h1, h2, h3⟩
  · constructor
    · intro h; omega
    · rintro ⟨x, hx, e⟩; rw [h x hx] at e; cases e
  · exact ⟨fun _ => ⟨x, List.mem_of_getElem? h1, h2⟩, fun _ => by omega⟩
theorem IdxOf.none {α : Type} {q : α → Bool} {l : List α} (h : ∀ x ∈ l, q x = false) : IdxOf q l (-1) := .inl ⟨rfl, h⟩
theorem IdxOf.some {α : Type} {q : α → Bool} {l : List α} {k : Nat} {x : α} (h1 : l[k]? = some x) (h2 : q x = true) (h3 : ∀ y ∈ l.take k, q y = false) : IdxOf q l k := .inr ⟨k, x, rfl, h1, h2, h3⟩
end D29
end Go.Proofs.Ytadfdpkhehdikaa


/- Plain law of layer 29: what is missing, when it is supplied, lets the other side decode. -/
namespace Go.Proofs.Ytadfdpkhehdikaa
namespace D29
/-- The data that are supplied for a digest: those of the first chunk that is right. -/
def supF (f : List Itm) (d : Int) : Option Dat := (f.find? fun i => decide (i.d = d) && (isCh i.x && decide (dg i.x = i.d))).map (·.x)
/-- A token that stands for a chunk. -/
def Stands (t : Tok) (x : Dat) : Prop := isCh x = true ∧ ((t.r = true ∧ t.d = dg x ∧ t.x = []) ∨ (t.r = false ∧ t.d = 0 ∧ t.x = x))
theorem Stands.cor {t : Tok} {x : Dat} (h : Stands t x) : corT t = true := by
  obtain ⟨h0, ⟨h1, h2, h3⟩ | ⟨h1, h2, h3⟩⟩ := h
  · simp [corT, h1, h3]
  · simp [corT, h1, h2, h3, h0]
theorem tok_stands {l : List Itm} {x : Dat} (h : isCh x = true) : Stands (tokI l x) x := by
  unfold tokI
  split
  · exact ⟨h, .inl ⟨rfl, rfl, rfl⟩⟩
  · exact ⟨h, .inr ⟨rfl, rfl, rfl⟩⟩
/-- Tokens that stand for chunks. -/
inductive StL : List Tok → List Dat → Prop
  | nil : StL [] []
  | cons {t x ts xs} : Stands t x → StL ts xs → StL (t :: ts) (x :: xs)
theorem enc_stl {cap : Int} : ∀ {xs : List Dat} {l : List Itm}, (∀ x ∈ xs, isCh x = true) → StL (encI cap xs l).2 xs
  | [], _, _ => .nil
  | x :: r, l, h => .cons (tok_stands (h x List.mem_cons_self)) (enc_stl fun y hy => h y (List.mem_cons_of_mem _ hy))
end D29
end Go.Proofs.Ytadfdpkhehdikaa


/- dedup: the digests of tokens, Missing. -/
namespace Go.Proofs.Ytadfdpkhehdikaa
open Go.RowKit Go.Shelf D29
namespace D29
/-- What a round keeps for the sequence of digests. -/
def Kd (W0 A B : World) : Prop := Below W0.heap.size A B ∧ KT W0.heap.size 34 A B
theorem Kd.refl {W0 A : World} : Kd W0 A A := ⟨Below.refl _ _, KT.refl _ _ _⟩
theorem Kd.trans {W0 A B C : World} (h : Kd W0 A B) (k : Kd W0 B C) : Kd W0 A C := ⟨h.1.trans k.1, h.2.trans k.2⟩
end D29
end Go.Proofs.Ytadfdpkhehdikaa


/- dedup: Missing. -/
namespace Go.Proofs.Ytadfdpkhehdikaa
open Go.RowKit Go.Shelf D29
namespace D29
theorem _root_.Go.Proofs.Ytadfdpkhehdikaa.Mm.rowsEq {own : Nat → Prop} {w0 w : World} {bs : List BoxE} {L L' : List Ent} {Fs : List (World → Prop)} (hM : Mm own w0 bs L Fs w) (h : L = L') : Mm own w0 bs L' Fs w := h ▸ hM
end D29
end Go.Proofs.Ytadfdpkhehdikaa


/- dedup: Supply. -/
namespace Go.Proofs.Ytadfdpkhehdikaa
open Go.RowKit Go.Shelf D29
namespace D29
def fM (d : Int) (M : List P) : Option P := M.find? fun p => decide (p.1.d = d)
def SupM (M : List P) (l : List Itm) : Prop := ∀ d, (fM d M).map (·.1.x) = supF l d
theorem SupM.none {M : List P} {l : List Itm} (h : SupM M l) {d : Int} (hd : fM d M = none) : supF l d = none := by rw [← h d, hd]; rfl
theorem SupM.some {M : List P} {l : List Itm} (h : SupM M l) {d : Int} {p : P} (hd : fM d M = some p) : supF l d = some p.1.x := by rw [← h d, hd]; rfl
end D29
end Go.Proofs.Ytadfdpkhehdikaa


/- The reference of layer 29: digests, searches, copies. -/
namespace Go.Proofs.Ytadfdpkhehdikaa
open Go.RowKit Go.Shelf D29
namespace D29
theorem cells_get {ps : List P} {k : Nat} {p : P} (h : ps[k]? = some p) : (cellsP ps)[k * 2 + 0]? = some (.int .u64 p.1.d) ∧ (cellsP ps)[k * 2 + 1]? = some (.slice p.2.1 p.1.x.length p.2.2) := by
  have hpe : (ps.map itC)[k]? = some (itC p) := by rw [List.getElem?_map, h]; rfl
  exact ⟨flat_get (q := 0) (itC_len ps) hpe rfl, flat_get (q := 1) (itC_len ps) hpe rfl⟩
theorem take_snoc {α : Type} {l : List α} {k : Nat} {x : α} (h : l[k]? = some x) : l.take (k + 1) = l.take k ++ [x] := by rw [List.take_add_one, h]; rfl
theorem ims_app (l m : List P) : ims (l ++ m) = ims l ++ ims m := by simp [ims]
end D29
end Go.Proofs.Ytadfdpkhehdikaa


/- The reference of layer 29: Check, Add, Find. -/
namespace Go.Proofs.Ytadfdpkhehdikaa
open Go.RowKit Go.Shelf D29
namespace D29
theorem sadr_zero (a : Option Addr) (m s : Nat) : sadr a 0 m s = a := by
  unfold sadr
  split
  · rfl
  · cases a with
    | none => rfl
    | some a => rw [Nat.zero_mul]; rfl
end D29
section
variable (cp : Int) (ps : List P) (a0 : Option Addr) (c0 n : Nat) (hn : ps.length = n) (hlen : n ≤ 100000) (hDW : DatW ps) (hpx : ∀ p ∈ ps, p.1.x.length ≤ 100000) (hc0 : n ≤ c0)
  (own : Nat → Prop) (W : World) (hl : ∀ b, own b → b < W.heap.size) (h1 : Has own W (RdF id a0 (cellsP ps))) (h2 : Has own W (DatF ps))
include hn hlen hDW hpx hc0 hl h1 h2
end
end Go.Proofs.Ytadfdpkhehdikaa


/- wire: lists of numbers. -/
namespace Go.Proofs.Ytadfdpkhehdikaa
open Go.RowKit Go.Shelf
section
variable (xs : List Int) (hxb : ∀ x ∈ xs, 0 ≤ x ∧ x < 256) (hlen : xs.length ≤ 1000000) (a0 : Option Addr) (c0 : Nat) (hc0 : xs.length ≤ c0) {own : Nat → Prop} {w0 W : World} {bs : List BoxE} {L : List Ent} {Fs : List (World → Prop)} {b : Nat} {T : TypeId} (hM : Mm own w0 (⟨b, ⟨[.slice a0 xs.length c0]⟩, T⟩ :: bs) L (RdF (Value.int .u8) a0 xs :: Fs) W)
include hxb hlen hc0 hM
set_option maxRecDepth 20000 in
theorem length_m : Calls Try.prog 142 ⟨[.pointer (some ⟨b, 0, none⟩)]⟩ W (Rtn fun u w' => u = .tuple #[.int .i64 (rdNum xs).1, .int .i64 (if (rdNum xs).2.1 ≠ 0 then (rdNum xs).2.1 else if 65536 < (rdNum xs).1 then 5 else 0)] ∧ ∃ a' c', xs.length - (rdNum xs).2.2 ≤ c' ∧ Mm own w0 (⟨b, ⟨[.slice a' (xs.length - (rdNum xs).2.2) c']⟩, T⟩ :: bs) L (RdF (Value.int .u8) a' (xs.drop (rdNum xs).2.2) :: RdF (Value.int .u8) a0 xs :: Fs) w') := by
  obtain ⟨r, hr⟩ : ∃ r, rdNum xs = r := ⟨_, rfl⟩
  have hN := number_m xs hxb hlen a0 c0 hc0 hM
  rw [hr] at hN ⊢
  obtain ⟨n, e, u⟩ := r
  dsimp only at hN ⊢
  refine f_start Try.func142 rfl Try.ntmps142 rfl rfl ?_; intro a hF
  by_cases he : e = 0
  · by_cases hn : 65536 < n
    · (repeat' (first | (with_reducible refine w_seq ?_) | (with_reducible refine c_region ?_) | (with_reducible refine s_nil ?_) | ((with_reducible apply s_callM (f := 100) hF); exact rfl; exact rfl; exact rfl; exact rfl; exact rfl; exact (hN); clear hF hM a; rintro v w a ⟨rfl, a1, c1, hcq, hM⟩ hF) | (with_reducible refine q_then_n ?_) | ((with_reducible apply s_pure hF); exact rfl; exact rfl; exact rfl; (first | exact trivial | omega | exact ⟨Int.natCast_nonneg _, Int.ofNat_lt.2 (by assumption)⟩ | decide); clear hF a; intro a hF) | (with_reducible refine w_ret ?_) | ((fail_if_success ((with_reducible refine g_known true hF ?_ ?_); focus exact rfl)); (fail_if_success ((with_reducible refine g_known false hF ?_ ?_); focus exact rfl)); (with_reducible apply g_dec hF); exact rfl; exact rfl; all_goals (clear hF; intro hc hF); all_goals (try (exfalso; omega))) | ((with_reducible apply c_dec hF); exact rfl; all_goals intro hc; all_goals (try (exfalso; omega)))))
      (apply f_ret Try.results142 hF hM; (repeat (first | exact RL.nil | (apply RL.tmp; exact rfl) | (apply RL.cell; exact rfl; (repeat (first | exact List.mem_cons_self | refine List.mem_cons_of_mem _ ?_)); exact rfl))); refine Both.mk ?_; try dsimp only [resV])
      rw [if_neg (by omega), if_pos hn]
      exact ⟨rfl, a1, c1, hcq, hM⟩
    · (repeat' (first | (with_reducible refine w_seq ?_) | (with_reducible refine c_region ?_) | (with_reducible refine s_nil ?_) | ((with_reducible apply s_callM (f := 100) hF); exact rfl; exact rfl; exact rfl; exact rfl; exact rfl; exact (hN); clear hF hM a; rintro v w a ⟨rfl, a1, c1, hcq, hM⟩ hF) | (with_reducible refine q_then_n ?_) | ((with_reducible apply s_pure hF); exact rfl; exact rfl; exact rfl; (first | exact trivial | omega | exact ⟨Int.natCast_nonneg _, Int.ofNat_lt.2 (by assumption)⟩ | decide); clear hF a; intro a hF) | (with_reducible refine w_skip ?_) | (with_reducible refine w_ret ?_) | ((fail_if_success ((with_reducible refine g_known true hF ?_ ?_); focus exact rfl)); (fail_if_success ((with_reducible refine g_known false hF ?_ ?_); focus exact rfl)); (with_reducible apply g_dec hF); exact rfl; exact rfl; all_goals (clear hF; intro hc hF); all_goals (try (exfalso; omega))) | ((with_reducible apply c_dec hF); exact rfl; all_goals intro hc; all_goals (try (exfalso; omega)))))
      (apply f_ret Try.results142 hF hM; (repeat (first | exact RL.nil | (apply RL.tmp; exact rfl) | (apply RL.cell; exact rfl; (repeat (first | exact List.mem_cons_self | refine List.mem_cons_of_mem _ ?_)); exact rfl))); refine Both.mk ?_; try dsimp only [resV])
      rw [if_neg (by omega), if_neg hn, he]
      exact ⟨rfl, a1, c1, hcq, hM⟩
  · (repeat' (first | (with_reducible refine w_seq ?_) | (with_reducible refine c_region ?_) | (with_reducible refine s_nil ?_) | ((with_reducible apply s_callM (f := 100) hF); exact rfl; exact rfl; exact rfl; exact rfl; exact rfl; exact (hN); clear hF hM a; rintro v w a ⟨rfl, a1, c1, hcq, hM⟩ hF) | (with_reducible refine q_then_n ?_) | ((with_reducible apply s_pure hF); exact rfl; exact rfl; exact rfl; (first | exact trivial | omega | exact ⟨Int.natCast_nonneg _, Int.ofNat_lt.2 (by assumption)⟩ | decide); clear hF a; intro a hF) | (with_reducible refine w_skip ?_) | (with_reducible refine w_ret ?_) | ((with_reducible apply c_false2 hF); exact rfl; (first | with_reducible rfl | (refine congrArg Value.bool ?_; focus (simp; done)))) | ((with_reducible apply s_skip hF); exact rfl; exact rfl; clear hF a; intro a hF) | ((fail_if_success ((with_reducible refine g_known true hF ?_ ?_); focus exact rfl)); (fail_if_success ((with_reducible refine g_known false hF ?_ ?_); focus exact rfl)); (with_reducible apply g_dec hF); exact rfl; exact rfl; all_goals (clear hF; intro hc hF); all_goals (try (exfalso; omega)))))
    (apply f_ret Try.results142 hF hM; (repeat (first | exact RL.nil | (apply RL.tmp; exact rfl) | (apply RL.cell; exact rfl; (repeat (first | exact List.mem_cons_self | refine List.mem_cons_of_mem _ ?_)); exact rfl))); refine Both.mk ?_; try dsimp only [resV])
    rw [if_pos he]
    exact ⟨rfl, a1, c1, hcq, hM⟩
end
end Go.Proofs.Ytadfdpkhehdikaa


/- wire: PutInts, Ints. -/
namespace Go.Proofs.Ytadfdpkhehdikaa
open Go.RowKit Go.Shelf
/-- A row that was handed over, as a fact. -/
theorem Owns.fact {α : Type} {enc : α → Value} {own : Nat → Prop} {w : World} {base : Nat} {e : TypeId} {a : Option Addr} {n c : Nat} {xs : List α} (hO : Owns w base [⟨e, 1, .slice a n c, n, xs.map enc⟩]) (hl : ∀ b, own b → b < base) : Has own w (RdF enc a xs) ∧ n ≤ c := by
  have ho : w.ownsRow base e 1 (.slice a n c) n (xs.map enc) := hO.own _ List.mem_cons_self
  refine ⟨RdF.has (own_reads ho) ?_, ?_⟩
  · rintro ad rfl hn
    have h1 := (hO.lt List.mem_cons_self ad.block rfl).1
    have := hl _ hn
    omega
  · rcases ho.2 with ⟨h1, h2⟩ | ⟨g, cap, cur, h1, _, _, h3, _⟩
    · omega
    · injection h1 with _ _ h1
      omega
end Go.Proofs.Ytadfdpkhehdikaa


/- The reference's numbers. -/
namespace Go.Proofs.Ytadfdpkhehdikaa
open Go.RowKit Go.Shelf
theorem RdF.take {α : Type} {enc : α → Value} {own : Nat → Prop} {w : World} {a : Option Addr} {xs : List α} (h : Has own w (RdF enc a xs)) (k : Nat) : Has own w (RdF enc a (xs.take k)) := by
  refine h.imp fun w h j x hx => h j x ?_
  rw [List.getElem?_take] at hx
  split at hx
  · exact hx
  · cases hx
end Go.Proofs.Ytadfdpkhehdikaa


/- wire: sectors are put and read. -/
namespace Go.Proofs.Ytadfdpkhehdikaa
open Go.RowKit Go.Shelf D29
theorem rdNum_nnT {xs : List Int} (hb : ∀ x ∈ xs, 0 ≤ x ∧ x < 256) : 0 ≤ (rdNum xs).1 ∧ (rdNum xs).1 ≤ 9007199254740991 := by
  have key : ∀ (f i : Nat) (n : Int) (xs : List Int), (∀ x ∈ xs, 0 ≤ x ∧ x < 256) → 0 ≤ n → 0 ≤ (rdN xs f i n).1 ∧ (rdN xs f i n).1 ≤ 9007199254740991 := by
    intro f
    induction f with
    | zero => intro i n xs _ _; rw [rdN]; exact ⟨by decide, by decide⟩
    | succ f ih =>
      intro i n xs hb hn
      rw [rdN]
      split
      · exact ⟨by decide, by decide⟩
      · rename_i b hx
        have hbb := hb b (List.mem_of_getElem? hx)
        have hp : (0 : Int) ≤ b % 128 * 128 ^ i := Int.mul_nonneg (by omega) (Int.pow_nonneg (by decide))
        split
        · exact ih (i + 1) _ xs hb (by omega)
        · split
          · exact ⟨by decide, by decide⟩
          · rename_i h
            exact ⟨by show 0 ≤ n + _; omega, by show n + _ ≤ _; omega⟩
  exact key 8 0 0 xs hb (Int.le_refl _)
namespace D29
/-- Sectors that are read behind others. -/
def secPre (done : Dat) (r : Except Int (Dat × List Int)) : Except Int (Dat × List Int) := match r with
  | .error e => .error e
  | .ok (l, ys) => .ok (done ++ l, ys)
theorem secPre_nil (r : Except Int (Dat × List Int)) : secPre [] r = r := by cases r <;> rfl
theorem secPre_step {k : Nat} {xs : List Int} (h : ¬ xs.length < 8) (done : Dat) : secPre done (rdSec (k + 1) xs) = secPre (done ++ [xs.take 8]) (rdSec k (xs.drop 8)) := by
  rw [rdSec, if_neg h]
  cases rdSec k (xs.drop 8) with
  | error e => rfl
  | ok p => obtain ⟨l, ys⟩ := p; simp [secPre]
/-- What a reading of sectors answers. -/
def secP (own : Nat → Prop) (r : Except Int (Dat × List Int)) (v : Value) (w' : World) : Prop := match r with
  | .error e => v = .tuple #[.slice none 0 0, .slice none 0 0, .int .i64 e] ∧ e ≠ 0
  | .ok (l, ys) => ∃ a1 c1 a2 c2, v = .tuple #[.slice a1 l.length c1, .slice a2 ys.length c2, .int .i64 0] ∧ Has own w' (RdF (Value.int .u8) a1 l.flatten) ∧ Has own w' (RdF (Value.int .u8) a2 ys) ∧ l.length ≤ c1 ∧ ys.length ≤ c2 ∧ W8 l ∧ By8 l ∧ (∀ y ∈ ys, 0 ≤ y ∧ y < 256) ∧ ys.length + l.length * 8 ≤ 1000000
end D29
section
variable (xs : List Int) (hxb : ∀ x ∈ xs, 0 ≤ x ∧ x < 256) (hlen : xs.length ≤ 1000000) (a0 : Option Addr) (c0 n : Nat) (hn : xs.length = n) (hc0 : n ≤ c0) {own : Nat → Prop} {w0 W : World} {bs : List BoxE} {L : List Ent} {Fs : List (World → Prop)} {b : Nat} {T : TypeId} (hM : Mm own w0 (⟨b, ⟨[.slice a0 n c0]⟩, T⟩ :: bs) L (RdF (Value.int .u8) a0 xs :: Fs) W)
include hxb hlen hn hc0 hM
set_option maxRecDepth 20000 in
theorem bytes_bad (h8 : n < 8) : Calls Try.prog 147 ⟨[.pointer (some ⟨b, 0, none⟩), .int .i64 8]⟩ W (Rtn fun u w' => u = .tuple #[.slice none 0 0, .int .i64 10] ∧ Mm own w0 (⟨b, ⟨[.slice a0 n c0]⟩, T⟩ :: bs) L (RdF (Value.int .u8) a0 xs :: Fs) w') := by
  refine f_start Try.func147 rfl Try.ntmps147 rfl rfl ?_; intro a hF
  (repeat' (first | (with_reducible refine w_seq ?_) | (with_reducible refine c_region ?_) | (with_reducible refine s_nil ?_) | (with_reducible refine q_then_n ?_) | ((with_reducible apply s_pure hF); exact rfl; exact rfl; exact rfl; (first | exact trivial | omega | exact ⟨Int.natCast_nonneg _, Int.ofNat_lt.2 (by assumption)⟩ | decide); clear hF a; intro a hF) | ((with_reducible apply s_load hF hM); exact rfl; exact rfl; (repeat (first | exact List.mem_cons_self | refine List.mem_cons_of_mem _ ?_)); exact rfl; exact rfl; clear hF a; intro a hF) | (with_reducible refine w_ret ?_) | (with_reducible refine q_then_r ?_) | ((with_reducible apply c_dec hF); exact rfl; all_goals intro hc; all_goals (try (exfalso; omega)))))
  (apply f_ret Try.results147 hF hM; (repeat (first | exact RL.nil | (apply RL.tmp; exact rfl) | (apply RL.cell; exact rfl; (repeat (first | exact List.mem_cons_self | refine List.mem_cons_of_mem _ ?_)); exact rfl))); refine Both.mk ?_; try dsimp only [resV])
  exact ⟨rfl, hM⟩
set_option maxRecDepth 20000 in
theorem bytes_ok (h8 : 8 ≤ n) : Calls Try.prog 147 ⟨[.pointer (some ⟨b, 0, none⟩), .int .i64 8]⟩ W (Rtn fun u w' => u = .tuple #[.slice a0 8 c0, .int .i64 0] ∧ ∃ a', Mm own w0 (⟨b, ⟨[.slice a' (n - 8) (c0 - 8)]⟩, T⟩ :: bs) L (RdF (Value.int .u8) a' (xs.drop 8) :: RdF (Value.int .u8) a0 xs :: Fs) w') := by
  obtain ⟨x, hx⟩ := get_of_lt (l := xs) (i := 0) (by omega)
  obtain ⟨ad, rfl⟩ : ∃ ad, a0 = some ad := rd_some hM List.mem_cons_self hx
  have hs1 : Value.slice (sadr (some ad) (Int.toNat 0) c0 1) ((8 : Int).toNat - Int.toNat 0) (c0 - Int.toNat 0) = .slice (some ad) 8 c0 := by
    rw [show Int.toNat 0 = 0 from rfl, sadr_zero]
    rfl
  have hs2 : Value.slice (sadr (some ad) (8 : Int).toNat c0 1) ((n : Int).toNat - (8 : Int).toNat) (c0 - (8 : Int).toNat) = .slice (sadr (some ad) 8 c0 1) (n - 8) (c0 - 8) := by
    rw [Int.toNat_natCast]
    rfl
  have hdr := RdF.drop (hM.facts _ List.mem_cons_self) 8 c0 (by omega)
  replace hM := hM.addFact hdr
  refine f_start Try.func147 rfl Try.ntmps147 rfl rfl ?_; intro a hF
  (repeat' (first | (with_reducible refine w_seq ?_) | (with_reducible refine c_region ?_) | (with_reducible refine s_nil ?_) | (with_reducible refine q_then_n ?_) | ((with_reducible apply s_pure hF); exact rfl; exact rfl; exact rfl; (first | exact trivial | omega | exact ⟨Int.natCast_nonneg _, Int.ofNat_lt.2 (by assumption)⟩ | decide); clear hF a; intro a hF) | ((with_reducible apply s_load hF hM); exact rfl; exact rfl; (repeat (first | exact List.mem_cons_self | refine List.mem_cons_of_mem _ ?_)); exact rfl; exact rfl; clear hF a; intro a hF) | ((with_reducible apply s_store hF hM); exact rfl; exact rfl; exact rfl; exact rfl; (repeat (first | exact Upd.z | apply Upd.s)); exact rfl; exact rfl; exact rfl; clear hM; intro w hM) | (with_reducible refine w_skip ?_) | (with_reducible refine w_ret ?_) | ((with_reducible apply c_dec hF); exact rfl; all_goals intro hc; all_goals (try (exfalso; omega)))))
  rw [hs1] at hF
  (apply f_ret Try.results147 hF hM; (repeat (first | exact RL.nil | (apply RL.tmp; exact rfl) | (apply RL.cell; exact rfl; (repeat (first | exact List.mem_cons_self | refine List.mem_cons_of_mem _ ?_)); exact rfl))); refine Both.mk ?_; try dsimp only [resV])
  rw [hs2] at hM
  exact ⟨rfl, _, hM⟩
set_option maxRecDepth 20000 in
theorem sector_bad (h8 : n < 8) : Calls Try.prog 145 ⟨[.pointer (some ⟨b, 0, none⟩)]⟩ W (Rtn fun u w' => u = .tuple #[.agg #[.int .u8 0, .int .u8 0, .int .u8 0, .int .u8 0, .int .u8 0, .int .u8 0, .int .u8 0, .int .u8 0], .int .i64 10] ∧ Mm own w0 (⟨b, ⟨[.slice a0 n c0]⟩, T⟩ :: bs) L (RdF (Value.int .u8) a0 xs :: Fs) w') := by
  refine f_start Try.func145 rfl Try.ntmps145 rfl rfl ?_; intro a hF
  (repeat (first | (with_reducible refine w_seq ?_) | (with_reducible refine c_region ?_) | (with_reducible refine s_nil ?_) | (with_reducible refine q_then_n ?_) | ((with_reducible apply s_pure hF); exact rfl; exact rfl; exact rfl; (first | exact trivial | omega | exact ⟨Int.natCast_nonneg _, Int.ofNat_lt.2 (by assumption)⟩ | decide); clear hF a; intro a hF) | ((with_reducible apply s_alloc hF hM); exact rfl; exact rfl; exact rfl; clear hF hM a; intro b w a hM hF)))
  replace hM := hM.perm (List.Perm.swap _ _ _)
  (repeat' (first | (with_reducible refine w_seq ?_) | (with_reducible refine c_region ?_) | (with_reducible refine s_nil ?_) | ((with_reducible apply s_callM (f := 147) hF); exact rfl; exact rfl; exact rfl; exact rfl; exact rfl; exact (bytes_bad xs hxb hlen a0 c0 n hn hc0 hM h8); clear hF hM a; rintro v w a ⟨rfl, hM⟩ hF) | (with_reducible refine q_then_n ?_) | ((with_reducible apply s_pure hF); exact rfl; exact rfl; exact rfl; (first | exact trivial | omega | exact ⟨Int.natCast_nonneg _, Int.ofNat_lt.2 (by assumption)⟩ | decide); clear hF a; intro a hF) | ((with_reducible apply s_store hF hM); exact rfl; exact rfl; exact rfl; exact rfl; (repeat (first | exact Upd.z | apply Upd.s)); exact rfl; exact rfl; exact rfl; clear hM; intro w hM) | (with_reducible refine w_ret ?_) | (with_reducible refine q_then_r ?_) | ((with_reducible apply c_true2 hF); exact rfl; (first | with_reducible rfl | (refine congrArg Value.bool ?_; focus (simp; done))))))
  (apply f_ret Try.results145 hF hM; (repeat (first | exact RL.nil | (apply RL.tmp; exact rfl) | (apply RL.cell; exact rfl; (repeat (first | exact List.mem_cons_self | refine List.mem_cons_of_mem _ ?_)); exact rfl))); refine Both.mk ?_; try dsimp only [resV])
  exact ⟨rfl, hM.sub (.cons_cons _ (.cons _ (.refl _))) (.refl _) (fun _ h => h)⟩
set_option maxRecDepth 20000 in
theorem sector_ok (h8 : 8 ≤ n) {x0 x1 x2 x3 x4 x5 x6 x7 : Int} (ht : xs.take 8 = [x0, x1, x2, x3, x4, x5, x6, x7]) : Calls Try.prog 145 ⟨[.pointer (some ⟨b, 0, none⟩)]⟩ W (Rtn fun u w' => u = .tuple #[.agg #[.int .u8 x0, .int .u8 x1, .int .u8 x2, .int .u8 x3, .int .u8 x4, .int .u8 x5, .int .u8 x6, .int .u8 x7], .int .i64 0] ∧ ∃ a', Mm own w0 (⟨b, ⟨[.slice a' (n - 8) (c0 - 8)]⟩, T⟩ :: bs) L (RdF (Value.int .u8) a' (xs.drop 8) :: RdF (Value.int .u8) a0 xs :: Fs) w') := by
  obtain ⟨x, hx⟩ := get_of_lt (l := xs) (i := 0) (by omega)
  obtain ⟨ad, rfl⟩ : ∃ ad, a0 = some ad := rd_some hM List.mem_cons_self hx
  have hx8 : 8 ≤ xs.length := by omega
  refine f_start Try.func145 rfl Try.ntmps145 rfl rfl ?_; intro a hF
  (repeat (first | (with_reducible refine w_seq ?_) | (with_reducible refine c_region ?_) | (with_reducible refine s_nil ?_) | (with_reducible refine q_then_n ?_) | ((with_reducible apply s_pure hF); exact rfl; exact rfl; exact rfl; (first | exact trivial | omega | exact ⟨Int.natCast_nonneg _, Int.ofNat_lt.2 (by assumption)⟩ | decide); clear hF a; intro a hF) | ((with_reducible apply s_alloc hF hM); exact rfl; exact rfl; exact rfl; clear hF hM a; intro b w a hM hF)))
  replace hM := hM.perm (List.Perm.swap _ _ _)
  (repeat' (first | (with_reducible refine w_seq ?_) | (with_reducible refine c_region ?_) | (with_reducible refine s_nil ?_) | ((with_reducible apply s_callM (f := 147) hF); exact rfl; exact rfl; exact rfl; exact rfl; exact rfl; exact (bytes_ok xs hxb hlen (some ad) c0 n hn hc0 hM h8); clear hF hM a; rintro v w a ⟨rfl, a', hM⟩ hF) | ((with_reducible apply s_s2a hF); exact rfl; exact rfl; exact rfl; exact rfl; omega; clear hF a; intro a hF) | (with_reducible refine q_then_n ?_) | ((with_reducible apply s_pure hF); exact rfl; exact rfl; exact rfl; (first | exact trivial | omega | exact ⟨Int.natCast_nonneg _, Int.ofNat_lt.2 (by assumption)⟩ | decide); clear hF a; intro a hF) | (with_reducible refine w_skip ?_) | ((with_reducible apply c_false2 hF); exact rfl; (first | with_reducible rfl | (refine congrArg Value.bool ?_; focus (simp; done))))))
  apply s_loadA (k := .u8) (xs := xs) (ad := ad) hF hM
  · exact rfl
  · exact rfl
  · exact List.mem_cons_of_mem _ List.mem_cons_self
  · exact rfl
  · exact rfl
  · exact ht
  · exact hx8
  clear hF a
  intro a hF
  dsimp only [List.map] at hF
  replace hM := hM.perm (List.Perm.swap _ _ _)
  (repeat (first | (with_reducible refine s_nil ?_) | (with_reducible refine q_then_n ?_) | ((with_reducible apply s_pure hF); exact rfl; exact rfl; exact rfl; (first | exact trivial | omega | exact ⟨Int.natCast_nonneg _, Int.ofNat_lt.2 (by assumption)⟩ | decide); clear hF a; intro a hF) | ((with_reducible apply s_store hF hM); exact rfl; exact rfl; exact rfl; exact rfl; (repeat (first | exact Upd.z | apply Upd.s)); exact rfl; exact rfl; exact rfl; clear hM; intro w hM) | (with_reducible refine w_ret ?_)))
  (apply f_ret Try.results145 hF hM; (repeat (first | exact RL.nil | (apply RL.tmp; exact rfl) | (apply RL.cell; exact rfl; (repeat (first | exact List.mem_cons_self | refine List.mem_cons_of_mem _ ?_)); exact rfl))); refine Both.mk ?_; try dsimp only [resV])
  exact ⟨rfl, a', hM.sub (.cons _ (.refl _)) (.refl _) (fun _ h => h)⟩
end
end Go.Proofs.Ytadfdpkhehdikaa


/- wire: lists of sectors. -/
namespace Go.Proofs.Ytadfdpkhehdikaa
open Go.RowKit Go.Shelf D29
section
variable (xs : List Int) (hxb : ∀ x ∈ xs, 0 ≤ x ∧ x < 256) (hlen : xs.length ≤ 1000000) (a0 : Option Addr) (c0 : Nat) (hc0 : xs.length ≤ c0)
include hxb hlen hc0
section
variable {own : Nat → Prop} {w0 W : World} {bs : List BoxE} {L : List Ent} {Fs : List (World → Prop)} {b : Nat} {T : TypeId} (hM : Mm own w0 (⟨b, ⟨[.slice a0 xs.length c0]⟩, T⟩ :: bs) L (RdF (Value.int .u8) a0 xs :: Fs) W)
include hM
set_option maxRecDepth 20000 in
set_option maxHeartbeats 4000000 in
theorem listS_m : Calls Try.prog 144 ⟨[.pointer (some ⟨b, 0, none⟩), .func (.func 145) #[] #[]]⟩ W (Rtn fun u w' => match rdSecs xs with
    | .error e => u = .tuple #[.slice none 0 0, .int .i64 e] ∧ e ≠ 0 ∧ ∃ bs' L' Fs', Mm own w0 bs' L' Fs' w'
    | .ok (l, ys) => ∃ a1 c1 a2 c2, u = .tuple #[.slice a1 l.length c1, .int .i64 0] ∧ ys.length ≤ c2 ∧ W8 l ∧ By8 l ∧ (∀ y ∈ ys, 0 ≤ y ∧ y < 256) ∧ ys.length + l.length * 8 ≤ xs.length ∧ Mm own w0 (⟨b, ⟨[.slice a2 ys.length c2]⟩, T⟩ :: bs) (⟨83, 8, .slice a1 l.length c1, l.length, l.flatten.map (Value.int .u8)⟩ :: L) [RdF (Value.int .u8) a2 ys] w') := by
  refine f_start Try.func144 rfl Try.ntmps144 rfl rfl ?_; intro a hF
  obtain ⟨r, hr⟩ : ∃ r, rdNum xs = r := ⟨_, rfl⟩
  have hnn := rdNum_nnT hxb
  have hL := length_m xs hxb hlen a0 c0 hc0 hM
  unfold rdSecs
  rw [hr] at hL hnn ⊢
  obtain ⟨n, e, u⟩ := r
  dsimp only at hL hnn ⊢
  by_cases he : e = 0
  case neg =>
    rw [if_pos he]
    rw [if_pos he] at hL
    (repeat' (first | (with_reducible refine w_seq ?_) | (with_reducible refine c_region ?_) | (with_reducible refine s_nil ?_) | ((with_reducible apply s_callM (f := 142) hF); exact rfl; exact rfl; exact rfl; exact rfl; exact rfl; exact (hL); clear hF hM a; rintro v w a ⟨rfl, a1, c1, hcq, hM⟩ hF) | (with_reducible refine q_then_n ?_) | ((with_reducible apply s_pure hF); exact rfl; exact rfl; exact rfl; (first | exact trivial | omega | exact ⟨Int.natCast_nonneg _, Int.ofNat_lt.2 (by assumption)⟩ | decide); clear hF a; intro a hF) | (with_reducible refine w_ret ?_) | (with_reducible refine q_then_r ?_) | ((with_reducible apply c_dec hF); exact rfl; all_goals intro hc; all_goals (try (exfalso; omega)))))
    (apply f_ret Try.results144 hF hM; (repeat (first | exact RL.nil | (apply RL.tmp; exact rfl) | (apply RL.cell; exact rfl; (repeat (first | exact List.mem_cons_self | refine List.mem_cons_of_mem _ ?_)); exact rfl))); refine Both.mk ?_; try dsimp only [resV])
    exact ⟨rfl, he, _, _, _, hM⟩
  subst he
  rw [if_neg (by omega)]
  rw [if_neg (by omega)] at hL
  by_cases hn : 65536 < n
  case pos =>
    rw [if_pos hn]
    rw [if_pos hn] at hL
    (repeat' (first | (with_reducible refine w_seq ?_) | (with_reducible refine c_region ?_) | (with_reducible refine s_nil ?_) | ((with_reducible apply s_callM (f := 142) hF); exact rfl; exact rfl; exact rfl; exact rfl; exact rfl; exact (hL); clear hF hM a; rintro v w a ⟨rfl, a1, c1, hcq, hM⟩ hF) | (with_reducible refine q_then_n ?_) | ((with_reducible apply s_pure hF); exact rfl; exact rfl; exact rfl; (first | exact trivial | omega | exact ⟨Int.natCast_nonneg _, Int.ofNat_lt.2 (by assumption)⟩ | decide); clear hF a; intro a hF) | (with_reducible refine w_ret ?_) | (with_reducible refine q_then_r ?_) | ((with_reducible apply c_true2 hF); exact rfl; (first | with_reducible rfl | (refine congrArg Value.bool ?_; focus (simp; done))))))
    (apply f_ret Try.results144 hF hM; (repeat (first | exact RL.nil | (apply RL.tmp; exact rfl) | (apply RL.cell; exact rfl; (repeat (first | exact List.mem_cons_self | refine List.mem_cons_of_mem _ ?_)); exact rfl))); refine Both.mk ?_; try dsimp only [resV])
    exact ⟨rfl, by decide, _, _, _, hM⟩
  rw [if_neg hn]
  rw [if_neg hn] at hL
  obtain ⟨k, hk⟩ : ∃ k : Nat, n = k := ⟨n.toNat, by omega⟩
  subst hk
  rw [Int.toNat_natCast]
  (repeat' (first | (with_reducible refine w_seq ?_) | (with_reducible refine c_region ?_) | (with_reducible refine s_nil ?_) | ((with_reducible apply s_callM (f := 142) hF); exact rfl; exact rfl; exact rfl; exact rfl; exact rfl; exact (hL); clear hF hM a; rintro v w a ⟨rfl, a1, c1, hcq, hM⟩ hF) | (with_reducible refine q_then_n ?_) | ((with_reducible apply s_pure hF); exact rfl; exact rfl; exact rfl; (first | exact trivial | omega | exact ⟨Int.natCast_nonneg _, Int.ofNat_lt.2 (by assumption)⟩ | decide); clear hF a; intro a hF) | (with_reducible refine w_skip ?_) | (with_reducible refine w_block ?_) | ((with_reducible apply c_false2 hF); exact rfl; (first | with_reducible rfl | (refine congrArg Value.bool ?_; focus (simp; done))))))
  have hys0 : (xs.drop u).length = xs.length - u := List.length_drop
  rw [← hys0] at hM hcq
  replace hM := hM.nilRow 83 8
  have hyl0 : (xs.drop u).length ≤ xs.length := by omega
  have hyb0 : ∀ y ∈ xs.drop u, 0 ≤ y ∧ y < 256 := fun y hy => hxb y (List.mem_of_mem_drop hy)
  generalize xs.drop u = zs at *
  refine c_loop (m := k) (fun m a w' => ∃ (i : Nat) (ys : List Int) (done : Dat) (a2 : Option Addr) (c2 : Nat) (rv : Value), m + i = k ∧ rdSec k zs = secPre done (rdSec m ys) ∧ done.length = i ∧ W8 done ∧ By8 done ∧ ys.length ≤ c2 ∧ ys.length + i * 8 ≤ xs.length ∧ (∀ y ∈ ys, 0 ≤ y ∧ y < 256) ∧
    Fr 37 [] [(20, .int .i64 i), (19, .int .i64 k), (8, rv), (0, .pointer (some ⟨b, 0, none⟩)), (1, .func (.func 145) #[] #[])] a ∧
    Mm own w0 (⟨b, ⟨[.slice a2 ys.length c2]⟩, T⟩ :: bs) (⟨83, 8, rv, i, done.flatten.map (Value.int .u8)⟩ :: L) [RdF (Value.int .u8) a2 ys] w')
    ⟨0, zs, [], a1, c1, _, by omega, (secPre_nil _).symm, rfl, fun s hs => (List.not_mem_nil hs).elim, fun s hs => (List.not_mem_nil hs).elim, hcq, by omega, hyb0, hF.sub (by repeat (first | exact Sub.nil | refine Sub.cons rfl (by first | with_reducible rfl | (refine congrArg (Value.int _) ?_; omega) | exact rfl) ?_)), hM.sub (.refl _) (.refl _) (by intro f hf; simp only [List.mem_cons, List.not_mem_nil, or_false] at hf; (repeat (rcases hf with rfl | hf; · (repeat (first | exact List.mem_cons_self | refine List.mem_cons_of_mem _ ?_)))); first | (subst hf; (repeat (first | exact List.mem_cons_self | refine List.mem_cons_of_mem _ ?_)); done) | (repeat (first | exact hf | refine List.mem_cons_of_mem _ ?_)))⟩ ?_
  clear hF hM a
  rintro m a w' ⟨i, ys, done, a2, c2, rv, hm, hrd, hdl, hd8, hdb, hyc, hyl, hyb, hF, hM⟩
  by_cases hi : i < k
  · obtain ⟨m, rfl⟩ : ∃ q, m = q + 1 := ⟨m - 1, by omega⟩
    by_cases h8 : ys.length < 8
    · rw [show rdSec (m + 1) ys = .error 10 by rw [rdSec, if_pos h8]] at hrd
      rw [hrd]
      have hN := sector_bad ys hyb (by omega) a2 c2 ys.length rfl hyc hM h8
      (repeat' (first | (with_reducible refine w_seq ?_) | (with_reducible refine c_region ?_) | (with_reducible refine s_nil ?_) | ((with_reducible apply s_callcM (f := 145) hF); exact rfl; exact rfl; exact rfl; exact rfl; exact rfl; exact rfl; exact rfl; exact (hN); clear hF hM a; rintro v w a ⟨rfl, hM⟩ hF) | (with_reducible refine q_then_n ?_) | ((with_reducible apply s_pure hF); exact rfl; exact rfl; exact rfl; (first | exact trivial | omega | exact ⟨Int.natCast_nonneg _, Int.ofNat_lt.2 (by assumption)⟩ | decide); clear hF a; intro a hF) | ((with_reducible apply s_store hF hM); exact rfl; exact rfl; exact rfl; exact rfl; (repeat (first | exact Upd.z | apply Upd.s)); exact rfl; exact rfl; exact rfl; clear hM; intro w hM) | ((with_reducible apply s_alloc hF hM); exact rfl; exact rfl; exact rfl; clear hF hM a; intro b w a hM hF) | (with_reducible refine w_skip ?_) | (with_reducible refine w_block ?_) | (with_reducible refine w_ret ?_) | (with_reducible refine q_then_r ?_) | (with_reducible refine q_blk_r ?_) | ((with_reducible apply c_true2 hF); exact rfl; (first | with_reducible rfl | (refine congrArg Value.bool ?_; focus (simp; done)))) | ((with_reducible apply c_dec hF); exact rfl; all_goals intro hc; all_goals (try (exfalso; omega)))))
      (apply f_ret Try.results144 hF hM; (repeat (first | exact RL.nil | (apply RL.tmp; exact rfl) | (apply RL.cell; exact rfl; (repeat (first | exact List.mem_cons_self | refine List.mem_cons_of_mem _ ?_)); exact rfl))); refine Both.mk ?_; try dsimp only [resV])
      exact ⟨rfl, by decide, _, _, _, hM⟩
    · rw [secPre_step h8] at hrd
      obtain ⟨x0, x1, x2, x3, x4, x5, x6, x7, ht⟩ := len8 (show (ys.take 8).length = 8 by rw [List.length_take]; omega)
      have hN := sector_ok ys hyb (by omega) a2 c2 ys.length rfl hyc hM (by omega) ht
      have hdr : (ys.drop 8).length = ys.length - 8 := List.length_drop
      have hyb2 : ∀ y ∈ ys.drop 8, 0 ≤ y ∧ y < 256 := fun y hy => hyb y (List.mem_of_mem_drop hy)
      have hsb : ∀ s ∈ ys.take 8, 0 ≤ s ∧ s < 256 := fun y hy => hyb y (List.mem_of_mem_take hy)
      rw [← hdr] at hN
      rw [ht] at hrd hsb
      generalize ys.drop 8 = ys2 at *
      (repeat' (first | (with_reducible refine w_seq ?_) | (with_reducible refine c_region ?_) | (with_reducible refine s_nil ?_) | ((with_reducible apply s_callcM (f := 145) hF); exact rfl; exact rfl; exact rfl; exact rfl; exact rfl; exact rfl; exact rfl; exact (hN); clear hF hM a; rintro v w a ⟨rfl, a3, hM⟩ hF) | (with_reducible refine q_then_n ?_) | ((with_reducible apply s_pure hF); exact rfl; exact rfl; exact rfl; (first | exact trivial | omega | exact ⟨Int.natCast_nonneg _, Int.ofNat_lt.2 (by assumption)⟩ | decide); clear hF a; intro a hF) | ((with_reducible apply s_load hF hM); exact rfl; exact rfl; (repeat (first | exact List.mem_cons_self | refine List.mem_cons_of_mem _ ?_)); exact rfl; exact rfl; clear hF a; intro a hF) | ((with_reducible apply s_store hF hM); exact rfl; exact rfl; exact rfl; exact rfl; (repeat (first | exact Upd.z | apply Upd.s)); exact rfl; exact rfl; exact rfl; clear hM; intro w hM) | ((with_reducible apply s_alloc hF hM); exact rfl; exact rfl; exact rfl; clear hF hM a; intro b w a hM hF) | ((with_reducible apply s_lit hF hM); exact rfl; exact rfl; exact rfl; exact rfl; clear hF hM a; intro bl w a hM hF) | ((with_reducible apply s_app hF hM); exact rfl; exact rfl; exact rfl; exact rfl; (repeat (first | exact Kth.z | apply Kth.s)); exact rfl; exact rfl; exact rfl; exact rfl; omega; clear hF hM a; intro g cap w a hM hF; dsimp only [List.set] at hM) | (with_reducible refine w_skip ?_) | (with_reducible refine w_block ?_) | (with_reducible refine q_blk_n ?_) | ((with_reducible apply c_false2 hF); exact rfl; (first | with_reducible rfl | (refine congrArg Value.bool ?_; focus (simp; done)))) | ((with_reducible apply c_dec hF); exact rfl; all_goals intro hc; all_goals (try (exfalso; omega)))))
      have e1 : (done ++ [[x0, x1, x2, x3, x4, x5, x6, x7]]).flatten.map (Value.int .u8) = done.flatten.map (Value.int .u8) ++ [.int .u8 x0, .int .u8 x1, .int .u8 x2, .int .u8 x3, .int .u8 x4, .int .u8 x5, .int .u8 x6, .int .u8 x7] := by simp
      refine ⟨m, by omega, i + 1, ys2, done ++ [[x0, x1, x2, x3, x4, x5, x6, x7]], a3, c2 - 8, _, by omega, hrd, by simp [hdl], ?_, ?_, by omega, by omega, hyb2, hF.sub (by repeat (first | exact Sub.nil | refine Sub.cons rfl (by first | with_reducible rfl | (refine congrArg (Value.int _) ?_; omega) | exact rfl) ?_)), ?_⟩
      · intro s hs
        rcases List.mem_append.1 hs with hs | hs
        · exact hd8 s hs
        · rw [List.mem_singleton.1 hs]; rfl
      · intro s hs
        rcases List.mem_append.1 hs with hs | hs
        · exact hdb s hs
        · rw [List.mem_singleton.1 hs]; exact hsb
      rw [e1]
      exact hM.sub (.cons _ (.refl _)) (.refl _) (by intro f hf; simp only [List.mem_cons, List.not_mem_nil, or_false] at hf; (repeat (rcases hf with rfl | hf; · (repeat (first | exact List.mem_cons_self | refine List.mem_cons_of_mem _ ?_)))); first | (subst hf; (repeat (first | exact List.mem_cons_self | refine List.mem_cons_of_mem _ ?_)); done) | (repeat (first | exact hf | refine List.mem_cons_of_mem _ ?_)))
  · obtain rfl : i = k := by omega
    obtain rfl : m = 0 := by omega
    rw [hrd]
    obtain ⟨a', c', rfl, hcap, _⟩ := OffR.shape hM (k := 0) rfl (OffR.plain hM List.mem_cons_self)
    (repeat' (first | (with_reducible refine w_seq ?_) | (with_reducible refine c_region ?_) | (with_reducible refine s_nil ?_) | (with_reducible refine q_then_n ?_) | ((with_reducible apply s_pure hF); exact rfl; exact rfl; exact rfl; (first | exact trivial | omega | exact ⟨Int.natCast_nonneg _, Int.ofNat_lt.2 (by assumption)⟩ | decide); clear hF a; intro a hF) | (with_reducible refine w_exit ?_) | (with_reducible refine w_ret ?_) | (with_reducible refine q_then_x ?_) | (with_reducible refine q_blk_x ?_) | ((with_reducible apply c_false2 hF); exact rfl; (first | with_reducible rfl | (refine congrArg Value.bool ?_; focus (simp; done))))))
    (apply f_ret Try.results144 hF hM; (repeat (first | exact RL.nil | (apply RL.tmp; exact rfl) | (apply RL.cell; exact rfl; (repeat (first | exact List.mem_cons_self | refine List.mem_cons_of_mem _ ?_)); exact rfl))); refine Both.mk ?_; try dsimp only [resV])
    subst hdl
    refine ⟨a', c', a2, c2, ?_, hyc, ?_, ?_, hyb, ?_, ?_⟩
    · simp
    · simpa using hd8
    · simpa using hdb
    · simpa using hyl
    · simpa using hM
end
section
variable {own : Nat → Prop} {w0 W : World} {bs : List BoxE} {L : List Ent} {Fs : List (World → Prop)} {b : Nat} {T : TypeId} (hM : Mm own w0 (⟨b, ⟨[.slice a0 xs.length c0]⟩, T⟩ :: bs) L (RdF (Value.int .u8) a0 xs :: Fs) W)
include hM
set_option maxRecDepth 20000 in
theorem sectors_ok {l : Dat} {ys : List Int} (h : rdSecs xs = .ok (l, ys)) : Calls Try.prog 135 ⟨[.pointer (some ⟨b, 0, none⟩)]⟩ W (Rtn fun u w' => ∃ a1 c1 a2 c2, u = .tuple #[.slice a1 l.length c1, .int .i64 0] ∧ ys.length ≤ c2 ∧ W8 l ∧ By8 l ∧ (∀ y ∈ ys, 0 ≤ y ∧ y < 256) ∧ ys.length + l.length * 8 ≤ xs.length ∧ Mm own w0 (⟨b, ⟨[.slice a2 ys.length c2]⟩, T⟩ :: bs) (⟨83, 8, .slice a1 l.length c1, l.length, l.flatten.map (Value.int .u8)⟩ :: L) [RdF (Value.int .u8) a2 ys] w') := by
  have hL := listS_m xs hxb hlen a0 c0 hc0 hM
  rw [h] at hL
  refine f_start Try.func135 rfl Try.ntmps135 rfl rfl ?_; intro a hF
  (repeat' (first | (with_reducible refine w_seq ?_) | (with_reducible refine c_region ?_) | (with_reducible refine s_nil ?_) | ((with_reducible apply s_callM (f := 144) hF); exact rfl; exact rfl; exact rfl; exact rfl; exact rfl; exact (hL); clear hF hM a; rintro v w a ⟨a1, c1, a2, c2, rfl, h1, h2, h3, h4, h5, hM⟩ hF) | (with_reducible refine q_then_n ?_) | ((with_reducible apply s_pure hF); exact rfl; exact rfl; exact rfl; (first | exact trivial | omega | exact ⟨Int.natCast_nonneg _, Int.ofNat_lt.2 (by assumption)⟩ | decide); clear hF a; intro a hF) | (with_reducible refine w_ret ?_)))
  (apply f_ret Try.results135 hF hM; (repeat (first | exact RL.nil | (apply RL.tmp; exact rfl) | (apply RL.cell; exact rfl; (repeat (first | exact List.mem_cons_self | refine List.mem_cons_of_mem _ ?_)); exact rfl))); refine Both.mk ?_; try dsimp only [resV])
  exact ⟨a1, c1, a2, c2, rfl, h1, h2, h3, h4, h5, hM⟩
set_option maxRecDepth 20000 in
theorem sectors_err {e : Int} (h : rdSecs xs = .error e) : Calls Try.prog 135 ⟨[.pointer (some ⟨b, 0, none⟩)]⟩ W (Rtn fun u w' => u = .tuple #[.slice none 0 0, .int .i64 e] ∧ e ≠ 0 ∧ ∃ bs' L' Fs', Mm own w0 bs' L' Fs' w') := by
  have hL := listS_m xs hxb hlen a0 c0 hc0 hM
  rw [h] at hL
  refine f_start Try.func135 rfl Try.ntmps135 rfl rfl ?_; intro a hF
  (repeat' (first | (with_reducible refine w_seq ?_) | (with_reducible refine c_region ?_) | (with_reducible refine s_nil ?_) | ((with_reducible apply s_callM (f := 144) hF); exact rfl; exact rfl; exact rfl; exact rfl; exact rfl; exact (hL); clear hF hM a; rintro v w a ⟨rfl, h1, bs', L', Fs', hM⟩ hF) | (with_reducible refine q_then_n ?_) | ((with_reducible apply s_pure hF); exact rfl; exact rfl; exact rfl; (first | exact trivial | omega | exact ⟨Int.natCast_nonneg _, Int.ofNat_lt.2 (by assumption)⟩ | decide); clear hF a; intro a hF) | (with_reducible refine w_ret ?_)))
  (apply f_ret Try.results135 hF hM; (repeat (first | exact RL.nil | (apply RL.tmp; exact rfl) | (apply RL.cell; exact rfl; (repeat (first | exact List.mem_cons_self | refine List.mem_cons_of_mem _ ?_)); exact rfl))); refine Both.mk ?_; try dsimp only [resV])
  exact ⟨rfl, h1, bs', L', Fs', hM⟩
end
variable (own : Nat → Prop) (W : World) (hl : ∀ b, own b → b < W.heap.size) (hv : Has own W (RdF (Value.int .u8) a0 xs))
include hl hv
set_option maxRecDepth 20000 in
theorem SectorsW_c : Calls Try.prog 114 ⟨[.slice a0 xs.length c0]⟩ W (Ret W (secP own (rdSecs xs))) := by
  have hR : ∀ (own : Nat → Prop) (W : World) (_ : ∀ b, own b → b < W.heap.size) (_ : Has own W (RdF (Value.int .u8) a0 xs)), Calls Try.prog 134 ⟨[.slice a0 xs.length c0, .func (.func 135) #[] #[]]⟩ W (Ret W (secP own (rdSecs xs))) := by
    intro own W hl hv
    have hM := (Mm.start hl).known hv
    refine f_start Try.func134 rfl Try.ntmps134 rfl rfl ?_; intro a hF
    cases h : rdSecs xs with
    | error e =>
      (repeat (first | (with_reducible refine w_seq ?_) | (with_reducible refine c_region ?_) | (with_reducible refine s_nil ?_) | ((with_reducible apply s_callcM (f := 135) hF); exact rfl; exact rfl; exact rfl; exact rfl; exact rfl; exact rfl; exact rfl; exact (sectors_err xs hxb hlen a0 c0 hc0 hM h); clear hF hM a; rintro v w a ⟨rfl, h1, cs', L', Fs', hM⟩ hF) | (with_reducible refine q_then_n ?_) | ((with_reducible apply s_pure hF); exact rfl; exact rfl; exact rfl; (first | exact trivial | omega | exact ⟨Int.natCast_nonneg _, Int.ofNat_lt.2 (by assumption)⟩ | decide); clear hF a; intro a hF) | ((with_reducible apply s_box hF hM); exact rfl; exact rfl; exact rfl; exact rfl; clear hF hM a; intro b w a hM hF)))
      (repeat' (first | (with_reducible refine w_seq ?_) | (with_reducible refine c_region ?_) | (with_reducible refine s_nil ?_) | (with_reducible refine q_then_n ?_) | ((with_reducible apply s_pure hF); exact rfl; exact rfl; exact rfl; (first | exact trivial | omega | exact ⟨Int.natCast_nonneg _, Int.ofNat_lt.2 (by assumption)⟩ | decide); clear hF a; intro a hF) | (with_reducible refine w_ret ?_) | (with_reducible refine q_then_r ?_) | ((with_reducible apply c_dec hF); exact rfl; all_goals intro hc; all_goals (try (exfalso; omega)))))
      (apply f_ret Try.results134 hF hM; (repeat (first | exact RL.nil | (apply RL.tmp; exact rfl) | (apply RL.cell; exact rfl; (repeat (first | exact List.mem_cons_self | refine List.mem_cons_of_mem _ ?_)); exact rfl))); refine Ret.mk hM.since ?_; dsimp only [resV])
      exact ⟨rfl, h1⟩
    | ok p =>
      obtain ⟨l, ys⟩ := p
      (repeat' (first | (with_reducible refine w_seq ?_) | (with_reducible refine c_region ?_) | (with_reducible refine s_nil ?_) | ((with_reducible apply s_callcM (f := 135) hF); exact rfl; exact rfl; exact rfl; exact rfl; exact rfl; exact rfl; exact rfl; exact (sectors_ok xs hxb hlen a0 c0 hc0 hM h); clear hF hM a; rintro v w a ⟨a1, c1, a2, c2, rfl, h1, h2, h3, h4, h5, hM⟩ hF) | ((with_reducible apply s_callO (f := 68) hF); exact rfl; exact rfl; exact rfl; exact rfl; exact rfl; exact (cloneB_z a2 c2 ys _ rfl _ _ hM.lt (hM.facts _ (by (repeat (first | exact List.mem_cons_self | refine List.mem_cons_of_mem _ ?_)))) (by omega)); clear hF a; rintro v wn a ⟨a3, c3, rfl, hO⟩ hS hF; replace hM := hM.addRows hS hO; clear hS hO; dsimp only [List.cons_append, List.nil_append] at hM) | (with_reducible refine q_then_n ?_) | ((with_reducible apply s_pure hF); exact rfl; exact rfl; exact rfl; (first | exact trivial | omega | exact ⟨Int.natCast_nonneg _, Int.ofNat_lt.2 (by assumption)⟩ | decide); clear hF a; intro a hF) | ((with_reducible apply s_load hF hM); exact rfl; exact rfl; (repeat (first | exact List.mem_cons_self | refine List.mem_cons_of_mem _ ?_)); exact rfl; exact rfl; clear hF a; intro a hF) | ((with_reducible apply s_box hF hM); exact rfl; exact rfl; exact rfl; exact rfl; clear hF hM a; intro b w a hM hF) | (with_reducible refine w_skip ?_) | (with_reducible refine w_ret ?_) | ((with_reducible apply c_false2 hF); exact rfl; (first | with_reducible rfl | (refine congrArg Value.bool ?_; focus (simp; done))))))
      (apply f_ret Try.results134 hF hM; (repeat (first | exact RL.nil | (apply RL.tmp; exact rfl) | (apply RL.cell; exact rfl; (repeat (first | exact List.mem_cons_self | refine List.mem_cons_of_mem _ ?_)); exact rfl))); refine Ret.mk hM.since ?_; dsimp only [resV])
      obtain ⟨x1, y1, e1, g1, -⟩ := OffR.shape hM (k := 1) rfl (OffR.plain hM (List.mem_cons_of_mem _ List.mem_cons_self))
      obtain ⟨x2, y2, e2, g2, -⟩ := OffR.shape hM (k := 0) rfl (OffR.plain hM List.mem_cons_self)
      injection e1 with _ _ e1
      injection e2 with _ _ e2
      exact ⟨a1, c1, a3, c3, rfl, hM.rowFactN (List.mem_cons_of_mem _ List.mem_cons_self), hM.rowFactN List.mem_cons_self, by omega, by omega, h2, h3, h4, by omega⟩
  have hM := (Mm.start hl).known hv
  refine f_start Try.func114 rfl Try.ntmps114 rfl rfl ?_; intro a hF
  cases h : rdSecs xs with
  | error e =>
    rw [h] at hR
    (repeat' (first | (with_reducible refine w_seq ?_) | (with_reducible refine c_region ?_) | (with_reducible refine s_nil ?_) | ((with_reducible apply s_call (f := 134) hF hM); exact rfl; exact rfl; exact rfl; exact rfl; exact rfl; exact (hR _ _ hM.lt (hM.facts _ (by (repeat (first | exact List.mem_cons_self | refine List.mem_cons_of_mem _ ?_))))); clear hF hM a; rintro v w a ⟨rfl, h1⟩ - hM hF) | (with_reducible refine q_then_n ?_) | ((with_reducible apply s_pure hF); exact rfl; exact rfl; exact rfl; (first | exact trivial | omega | exact ⟨Int.natCast_nonneg _, Int.ofNat_lt.2 (by assumption)⟩ | decide); clear hF a; intro a hF) | (with_reducible refine w_ret ?_)))
    (apply f_ret Try.results114 hF hM; (repeat (first | exact RL.nil | (apply RL.tmp; exact rfl) | (apply RL.cell; exact rfl; (repeat (first | exact List.mem_cons_self | refine List.mem_cons_of_mem _ ?_)); exact rfl))); refine Ret.mk hM.since ?_; dsimp only [resV])
    exact ⟨rfl, h1⟩
  | ok p =>
    obtain ⟨l, ys⟩ := p
    rw [h] at hR
    (repeat' (first | (with_reducible refine w_seq ?_) | (with_reducible refine c_region ?_) | (with_reducible refine s_nil ?_) | ((with_reducible apply s_call (f := 134) hF hM); exact rfl; exact rfl; exact rfl; exact rfl; exact rfl; exact (hR _ _ hM.lt (hM.facts _ (by (repeat (first | exact List.mem_cons_self | refine List.mem_cons_of_mem _ ?_))))); clear hF hM a; rintro v w a ⟨a1, c1, a2, c2, rfl, h1, h2, h3⟩ - hM hF) | (with_reducible refine q_then_n ?_) | ((with_reducible apply s_pure hF); exact rfl; exact rfl; exact rfl; (first | exact trivial | omega | exact ⟨Int.natCast_nonneg _, Int.ofNat_lt.2 (by assumption)⟩ | decide); clear hF a; intro a hF) | (with_reducible refine w_ret ?_)))
    (apply f_ret Try.results114 hF hM; (repeat (first | exact RL.nil | (apply RL.tmp; exact rfl) | (apply RL.cell; exact rfl; (repeat (first | exact List.mem_cons_self | refine List.mem_cons_of_mem _ ?_)); exact rfl))); refine Ret.mk hM.since ?_; dsimp only [resV])
    exact ⟨a1, c1, a2, c2, rfl, h1.own_eq (fun _ h => .inl h), h2.own_eq (fun _ h => .inl h), h3⟩
end
end Go.Proofs.Ytadfdpkhehdikaa


/- wire: lists of sectors are put. -/
namespace Go.Proofs.Ytadfdpkhehdikaa
open Go.RowKit Go.Shelf D29
namespace D29
/-- The bytes of a list of sectors. -/
def putsS (l : Dat) : List Int := puts l.length ++ l.flatten
end D29
set_option maxRecDepth 20000 in
theorem putSector_m (x0 x1 x2 x3 x4 x5 x6 x7 : Int) {own : Nat → Prop} {w0 W : World} {bs : List BoxE} {L : List Ent} {Fs : List (World → Prop)} {m : Nat} {v : Value} {xs : List Value} (hM : Mm own w0 bs (⟨5, 1, v, m, xs⟩ :: L) Fs W) (hm : m ≤ 100000000000) :
    Calls Try.prog 113 ⟨[v, .agg #[.int .u8 x0, .int .u8 x1, .int .u8 x2, .int .u8 x3, .int .u8 x4, .int .u8 x5, .int .u8 x6, .int .u8 x7]]⟩ W (Rtn fun u w' => ∃ a' c', u = .slice a' (m + 8) c' ∧ Mm own w0 bs (⟨5, 1, .slice a' (m + 8) c', m + 8, xs ++ [x0, x1, x2, x3, x4, x5, x6, x7].map (Value.int .u8)⟩ :: L) Fs w') := by
  refine f_start Try.func113 rfl Try.ntmps113 rfl rfl ?_; intro a hF
  (repeat (first | (with_reducible refine w_seq ?_) | (with_reducible refine c_region ?_) | (with_reducible refine s_nil ?_) | ((with_reducible apply s_arrSl hF); exact rfl; exact rfl; exact rfl; exact rfl; clear hF a; intro a hF) | (with_reducible refine q_then_n ?_) | ((with_reducible apply s_pure hF); exact rfl; exact rfl; exact rfl; (first | exact trivial | omega | exact ⟨Int.natCast_nonneg _, Int.ofNat_lt.2 (by assumption)⟩ | decide); clear hF a; intro a hF) | ((with_reducible apply s_box hF hM); exact rfl; exact rfl; exact rfl; exact rfl; clear hF hM a; intro b w a hM hF) | ((with_reducible apply s_app hF hM); exact rfl; exact rfl; exact rfl; exact rfl; (repeat (first | exact Kth.z | apply Kth.s)); exact rfl; exact rfl; exact rfl; exact rfl; omega; clear hF hM a; intro g cap w a hM hF; dsimp only [List.set] at hM) | (with_reducible refine w_ret ?_)))
  (apply f_ret Try.results113 hF hM; (repeat (first | exact RL.nil | (apply RL.tmp; exact rfl) | (apply RL.cell; exact rfl; (repeat (first | exact List.mem_cons_self | refine List.mem_cons_of_mem _ ?_)); exact rfl))); refine Both.mk ?_; try dsimp only [resV])
  exact ⟨_, _, rfl, hM⟩
theorem flat_take8 {l : Dat} {k : Nat} {s : List Int} (h : l[k]? = some s) : (l.take (k + 1)).flatten = (l.take k).flatten ++ s := by
  rw [take_snoc h, List.flatten_append]
  simp
set_option maxRecDepth 20000 in
set_option maxHeartbeats 4000000 in
theorem PutSectors_c (l : Dat) (hl8 : W8 l) (hl6 : l.length ≤ 1000000) (ys : List Int) (hy : ys.length ≤ 1000000000) (a0 a1 : Option Addr) (m c0 c1 n : Nat) (hm : ys.length = m) (hn : l.length = n) (own : Nat → Prop) (W : World) (hl : ∀ b, own b → b < W.heap.size) (hv : Has own W (RdF (Value.int .u8) a0 ys)) (hu : Has own W (RdF (Value.int .u8) a1 l.flatten)) :
    Calls Try.prog 79 ⟨[.slice a0 m c0, .slice a1 n c1]⟩ W (Ret W fun v w' => ∃ a' c', v = .slice a' (m + (putsS l).length) c' ∧ Owns w' W.heap.size [⟨5, 1, .slice a' (m + (putsS l).length) c', m + (putsS l).length, (ys ++ putsS l).map (Value.int .u8)⟩]) := by
  subst hn
  have hP : ∀ {own : Nat → Prop} {w0 W : World} {L : List Ent} (v : Value) (_ : Mm own w0 [] (⟨5, 1, v, m, ys.map (Value.int .u8)⟩ :: L) [RdF (Value.int .u8) a1 l.flatten, RdF (Value.int .u8) a0 ys] W), Calls Try.prog 112 ⟨[v, .slice a1 l.length c1, .func (.func 113) #[] #[]]⟩ W (Rtn fun u w' => ∃ a' c', u = .slice a' (m + (putsS l).length) c' ∧ Mm own w0 [] (⟨5, 1, .slice a' (m + (putsS l).length) c', m + (putsS l).length, (ys ++ putsS l).map (Value.int .u8)⟩ :: L) [RdF (Value.int .u8) a1 l.flatten, RdF (Value.int .u8) a0 ys] w') := by
    clear hl hv hu own W
    intro own w0 W L v hM
    have hp0 : (puts l.length).length ≤ 8 := puts_len 7 l.length (by omega)
    refine f_start Try.func112 rfl Try.ntmps112 rfl rfl ?_; intro a hF
    (repeat' (first | (with_reducible refine w_seq ?_) | (with_reducible refine c_region ?_) | (with_reducible refine s_nil ?_) | ((with_reducible apply s_callM (f := 93) hF); exact rfl; exact rfl; exact rfl; exact rfl; exact rfl; exact (putInt_m l.length (by omega) hM .z (by omega)); clear hF hM a; rintro v w a ⟨a2, c2, rfl, hM⟩ hF; dsimp only [List.set] at hM) | (with_reducible refine q_then_n ?_) | ((with_reducible apply s_pure hF); exact rfl; exact rfl; exact rfl; (first | exact trivial | omega | exact ⟨Int.natCast_nonneg _, Int.ofNat_lt.2 (by assumption)⟩ | decide); clear hF a; intro a hF) | (with_reducible refine w_block ?_)))
    refine c_loop (m := l.length) (fun z a w' => ∃ (k : Nat) (q : Nat) (a2 : Option Addr) (c2 : Nat), z + k = l.length ∧ q = (puts l.length ++ (l.take k).flatten).length ∧ q ≤ 8 + 8 * k ∧
      Fr 25 [] [(15, .int .i64 k), (14, .int .i64 l.length), (13, .slice a1 l.length c1), (0, .slice a2 (m + q) c2), (2, .func (.func 113) #[] #[])] a ∧
      Mm own w0 [] (⟨5, 1, .slice a2 (m + q) c2, m + q, (ys ++ (puts l.length ++ (l.take k).flatten)).map (Value.int .u8)⟩ :: L) [RdF (Value.int .u8) a1 l.flatten, RdF (Value.int .u8) a0 ys] w')
      ⟨0, (puts l.length).length, a2, c2, by omega, by simp, by omega, hF.sub (by repeat (first | exact Sub.nil | refine Sub.cons rfl (by first | with_reducible rfl | (refine congrArg (Value.int _) ?_; omega) | exact rfl) ?_)), by simpa using hM⟩ ?_
    clear hF hM a
    rintro z a w' ⟨k, q, a2, c2, hz, hq, hq8, hF, hM⟩
    by_cases hk : k < l.length
    · obtain ⟨s, hs⟩ := get_of_lt hk
      have hs8 := hl8 s (List.mem_of_getElem? hs)
      have hw1 : ∀ y ∈ l, y.length = 8 := hl8
      obtain ⟨ad, rfl⟩ : ∃ ad, a1 = some ad := rd_some hM (enc := Value.int .u8) (a := a1) (xs := l.flatten) (by (repeat (first | exact List.mem_cons_self | refine List.mem_cons_of_mem _ ?_))) (flat_get (q := 0) hl8 hs (List.getElem?_eq_getElem (by omega)))
      have hst := flat_take8 hs
      obtain ⟨x0, x1, x2, x3, x4, x5, x6, x7, rfl⟩ := len8 hs8
      (repeat' (first | (with_reducible refine w_seq ?_) | (with_reducible refine c_region ?_) | (with_reducible refine s_nil ?_) | ((with_reducible apply s_callcM (f := 113) hF); exact rfl; exact rfl; exact rfl; exact rfl; exact rfl; exact rfl; exact rfl; exact (putSector_m x0 x1 x2 x3 x4 x5 x6 x7 hM (by omega)); clear hF hM a; rintro v w a ⟨a3, c3, rfl, hM⟩ hF) | ((with_reducible apply s_loadS hF hM); exact rfl; exact rfl; (repeat (first | exact List.mem_cons_self | refine List.mem_cons_of_mem _ ?_)); exact rfl; exact rfl; (first | with_reducible assumption | (simp only [Int.toNat_natCast]; with_reducible assumption)); (with_reducible assumption); clear hF a; intro a hF) | (with_reducible refine q_then_n ?_) | ((with_reducible apply s_pure hF); exact rfl; exact rfl; exact rfl; (first | exact trivial | omega | exact ⟨Int.natCast_nonneg _, Int.ofNat_lt.2 (by assumption)⟩ | decide); clear hF a; intro a hF) | ((with_reducible apply s_load hF hM); exact rfl; exact rfl; (repeat (first | exact List.mem_cons_self | refine List.mem_cons_of_mem _ ?_)); exact rfl; exact rfl; clear hF a; intro a hF) | ((with_reducible apply s_store hF hM); exact rfl; exact rfl; exact rfl; exact rfl; (repeat (first | exact Upd.z | apply Upd.s)); exact rfl; exact rfl; exact rfl; clear hM; intro w hM) | ((with_reducible apply s_alloc hF hM); exact rfl; exact rfl; exact rfl; clear hF hM a; intro b w a hM hF) | (with_reducible refine w_skip ?_) | (with_reducible refine w_block ?_) | (with_reducible refine q_blk_n ?_) | ((with_reducible apply c_dec hF); exact rfl; all_goals intro hc; all_goals (try (exfalso; omega)))))
      rw [Nat.add_assoc] at hF
      refine ⟨z - 1, by omega, k + 1, q + 8, a3, c3, by omega, ?_, by omega, hF.sub (by repeat (first | exact Sub.nil | refine Sub.cons rfl (by first | with_reducible rfl | (refine congrArg (Value.int _) ?_; omega) | exact rfl) ?_)), ?_⟩
      · rw [hst, hq]; simp; omega
      · rw [hst]
        rw [← List.map_append, Nat.add_assoc] at hM
        replace hM := hM.sub (.cons _ .slnil) (.refl _) (fun _ h => h)
        simpa using hM
    · obtain rfl : k = l.length := by omega
      (repeat' (first | (with_reducible refine w_seq ?_) | (with_reducible refine c_region ?_) | (with_reducible refine s_nil ?_) | (with_reducible refine q_then_n ?_) | ((with_reducible apply s_pure hF); exact rfl; exact rfl; exact rfl; (first | exact trivial | omega | exact ⟨Int.natCast_nonneg _, Int.ofNat_lt.2 (by assumption)⟩ | decide); clear hF a; intro a hF) | (with_reducible refine w_exit ?_) | (with_reducible refine w_ret ?_) | (with_reducible refine q_then_x ?_) | (with_reducible refine q_blk_x ?_) | ((with_reducible apply c_false2 hF); exact rfl; (first | with_reducible rfl | (refine congrArg Value.bool ?_; focus (simp; done))))))
      (apply f_ret Try.results112 hF hM; (repeat (first | exact RL.nil | (apply RL.tmp; exact rfl) | (apply RL.cell; exact rfl; (repeat (first | exact List.mem_cons_self | refine List.mem_cons_of_mem _ ?_)); exact rfl))); refine Both.mk ?_; try dsimp only [resV])
      rw [List.take_of_length_le (Nat.le_refl _)] at hq hM
      have e : puts l.length ++ l.flatten = putsS l := rfl
      rw [e] at hq hM
      subst hq
      exact ⟨a2, c2, rfl, hM⟩
  have hM := ((Mm.start hl).known hv).known hu
  refine f_start Try.func79 rfl Try.ntmps79 rfl rfl ?_; intro a hF
  (repeat' (first | (with_reducible refine w_seq ?_) | (with_reducible refine c_region ?_) | (with_reducible refine s_nil ?_) | ((with_reducible apply s_callO (f := 68) hF); exact rfl; exact rfl; exact rfl; exact rfl; exact rfl; exact (cloneB_z a0 c0 ys m hm _ _ hM.lt (hM.facts (RdF (Value.int .u8) a0 ys) (by (repeat (first | exact List.mem_cons_self | refine List.mem_cons_of_mem _ ?_)))) (by omega)); clear hF a; rintro v wn a ⟨a2, c2, rfl, hO⟩ hS hF; replace hM := hM.addRows hS hO; clear hS hO; dsimp only [List.cons_append, List.nil_append] at hM) | ((with_reducible apply s_callM (f := 112) hF); exact rfl; exact rfl; exact rfl; exact rfl; exact rfl; exact (hP _ hM); clear hF hM a; rintro v w a ⟨a3, c3, rfl, hM⟩ hF) | (with_reducible refine q_then_n ?_) | ((with_reducible apply s_pure hF); exact rfl; exact rfl; exact rfl; (first | exact trivial | omega | exact ⟨Int.natCast_nonneg _, Int.ofNat_lt.2 (by assumption)⟩ | decide); clear hF a; intro a hF) | (with_reducible refine w_ret ?_)))
  (apply f_ret Try.results79 hF hM; (repeat (first | exact RL.nil | (apply RL.tmp; exact rfl) | (apply RL.cell; exact rfl; (repeat (first | exact List.mem_cons_self | refine List.mem_cons_of_mem _ ?_)); exact rfl))); refine Ret.mk hM.since ?_; dsimp only [resV])
  exact ⟨a3, c3, rfl, hM.mem.own⟩
end Go.Proofs.Ytadfdpkhehdikaa


/- Words of bytes: shifts and unions. -/
namespace Go.Proofs.Ytadfdpkhehdikaa
open Go.RowKit Go.Shelf
section
variable {n : Nat} {ds : List Deferred} {l : List (Nat × Value)} {a : Act} {w w0 : World} {own : Nat → Prop} {bs : List BoxE} {L : List Ent} {Fs : List (World → Prop)}
variable {os rest : List Oper} {Q : Exit → Act → World → Prop}
variable {d : Nat} {ty : TypeId} {pos : String} {af : Array Edge} {g : Option (Nat × Bool)}
theorem wraps_u64 (n : Int) (h₀ : 0 ≤ n) (h₁ : n < 2 ^ 64) : IntKind.u64.wrap n = n := by rw [IntKind.wrap_u64]; omega
/-- A word shifted up by a number of places, if it fits. -/
theorem e_shlW {t t' : TypeId} {X Y : Operand} {yk : IntKind} {x y z : Int} (hF : Fr n ds l a) (hX : ev l X = some (.int .u64 x)) (hY : ev l Y = some (.int yk y)) (h : 0 ≤ y ∧ y ≤ 62 ∧ x * 2 ^ y.toNat = z ∧ 0 ≤ z ∧ z < 18446744073709551616) (w : World) {dst : Option Tmp} :
    (execOp a.eval ⟨dst, .binOp .shl t X Y t', ty, pos, af, g⟩).run Try.prog w = .ok (.value (.int .u64 z)) w := by
  obtain ⟨h1, h2, rfl, h3, h4⟩ := h
  simp only [execOp, hF.eval hX, hF.eval hY, Sem.run_bind, eqGuard_int, Result.andThen]
  have hb : min y.toNat IntKind.u64.bits = y.toNat := by simp [IntKind.bits]; omega
  have hw : IntKind.u64.wrap (x * 2 ^ y.toNat) = x * 2 ^ y.toNat := wraps_u64 _ h3 (by omega)
  simp [binOp, Op.shift, hb, hw, Result.andThen, show ¬ y < 0 by omega]
/-- A word shifted down. -/
theorem e_shrW {t t' : TypeId} {X Y : Operand} {yk : IntKind} {x y : Int} (hF : Fr n ds l a) (hX : ev l X = some (.int .u64 x)) (hY : ev l Y = some (.int yk y)) (h : 0 ≤ y ∧ y ≤ 62) (w : World) {dst : Option Tmp} :
    (execOp a.eval ⟨dst, .binOp .shr t X Y t', ty, pos, af, g⟩).run Try.prog w = .ok (.value (.int .u64 (x / 2 ^ y.toNat))) w := by
  simp only [execOp, hF.eval hX, hF.eval hY, Sem.run_bind, eqGuard_int, Result.andThen]
  have hb : min y.toNat IntKind.u64.bits = y.toNat := by simp [IntKind.bits]; omega
  simp [binOp, Op.shift, hb, Result.andThen, show ¬ y < 0 by omega, Int.fdiv_eq_ediv, Int.le_of_lt (show (0 : Int) < 2 ^ y.toNat from Int.pow_pos (by decide))]
theorem or_joinW {x y : Int} {i : Nat} (hi : i ≤ 64) (x0 : 0 ≤ x) (x1 : x < 2 ^ i) (y0 : 0 ≤ y) (y1 : y < 2 ^ 64) (y2 : y % 2 ^ i = 0) : bits .or .u64 x y = x + y := by
  have hp : (2 : Int) ^ i ≤ 2 ^ 64 := by
    have : (2 : Nat) ^ i ≤ 2 ^ 64 := Nat.pow_le_pow_right (by decide) (by omega)
    exact_mod_cast this
  have h1 := bits_join .u64 64 (by decide) wraps_u64 i y x y0 y2 y1 x0 x1 (by omega)
  have h2 : bits .or .u64 x y = bits .or .u64 y x := by simp [bits, BitVec.or_comm]
  rw [h2, h1]
  omega
theorem s_shrW {t t' : TypeId} {X Y : Operand} {yk : IntKind} {x y : Int} (hF : Fr n ds l a) (hg : wantO os l g = some true) (hX : ev l X = some (.int .u64 x)) (hY : ev l Y = some (.int yk y)) (hd : Nat.blt d n = true) (h : 0 ≤ y ∧ y ≤ 62)
    (kk : ∀ a, Fr n ds ((d, .int .u64 (x / 2 ^ y.toNat)) :: l) a → wl ⟨os⟩ Q rest a w) : wl ⟨os⟩ Q (⟨some d, .binOp .shr t X Y t', ty, pos, af, g⟩ :: rest) a w :=
  s_op hF hg fun _ hK => upon_value (e_shrW hF hX hY h w) (hK _ _ (kk _ (hF.put hd _)))
end
end Go.Proofs.Ytadfdpkhehdikaa


/- dedup: tokens are put. -/
namespace Go.Proofs.Ytadfdpkhehdikaa
open Go.RowKit Go.Shelf D29
namespace D29
theorem le_get : ∀ {n k : Nat} {d : Int}, k < n → (le n d)[k]? = some (d / 256 ^ k % 256)
  | n + 1, 0, d, _ => by simp [le]
  | n + 1, k + 1, d, h => by
    rw [le, List.getElem?_cons_succ, le_get (by omega), Int.ediv_ediv_of_nonneg (by decide), Int.pow_succ, Int.mul_comm]
theorem pow8 (k : Nat) : (2 : Int) ^ (8 * (k : Int)).toNat = 256 ^ k := by
  rw [show (8 * (k : Int)).toNat = 8 * k by omega, Int.pow_mul]
  rfl
theorem putTok_len {t : Tok} (h8 : W8 t.x) (hx : t.x.length ≤ 4096) : (putTok t).length ≤ 32777 := by
  have hp0 : (puts t.x.length).length ≤ 8 := puts_len 7 t.x.length (by omega)
  have hfl := flat_len h8
  unfold putTok
  split
  · rw [List.length_cons, le_len]; omega
  · rw [List.length_cons, List.length_append]; omega
theorem u8s_snoc (xs : List Int) (x : Int) : xs.map (Value.int .u8) ++ Value.int .u8 x :: ([] : List Value).append (zerosL [Value.int .u8 0] 0) = (xs ++ [x]).map (Value.int .u8) := by
  rw [List.map_append]
  rfl
end D29
set_option maxRecDepth 20000 in
set_option maxHeartbeats 4000000 in
theorem PutTokens_c (ts : List TP) (hts : DatW (tP ts)) (hx4 : ∀ t ∈ ts, t.1.x.length ≤ 4096) (hn4 : ts.length ≤ 10000) (ys : List Int) (hy : ys.length ≤ 1000000) (a0 al : Option Addr) (m c0 n cl : Nat) (hm : ys.length = m) (hn : ts.length = n) (own : Nat → Prop) (W : World) (hl : ∀ b, own b → b < W.heap.size) (hv : Has own W (RdF (Value.int .u8) a0 ys)) (h1 : Has own W (RdF id al (cellsT ts))) (h2 : Has own W (DatF (tP ts))) :
    Calls Try.prog 39 ⟨[.slice a0 m c0, .slice al n cl]⟩ W (Ret W fun v w' => ∃ a' c', v = .slice a' (m + (putToks (tms ts)).length) c' ∧ Owns w' W.heap.size [⟨5, 1, .slice a' (m + (putToks (tms ts)).length) c', m + (putToks (tms ts)).length, (ys ++ putToks (tms ts)).map (Value.int .u8)⟩]) := by
  subst hn
  have hM := (((Mm.start hl).known h2).known h1).known hv
  have hp0 : (puts ts.length).length ≤ 8 := puts_len 7 ts.length (by omega)
  refine f_start Try.func39 rfl Try.ntmps39 rfl rfl ?_; intro a hF
  (repeat (first | (with_reducible refine w_seq ?_) | (with_reducible refine c_region ?_) | (with_reducible refine s_nil ?_) | ((with_reducible apply s_callO (f := 55) hF); exact rfl; exact rfl; exact rfl; exact rfl; exact rfl; exact (PutInt_z ts.length _ rfl (by omega) a0 c0 ys m hm _ _ hM.lt (hM.facts (RdF (Value.int .u8) a0 ys) (by (repeat (first | with_reducible exact List.mem_cons_self | refine List.mem_cons_of_mem _ ?_)))) (by omega)); clear hF a; rintro v wn a ⟨a2, c2, rfl, hO⟩ hS hF; replace hM := hM.addRows hS hO; clear hS hO; dsimp only [List.cons_append, List.nil_append] at hM) | (with_reducible refine q_then_n ?_) | ((with_reducible apply s_pure hF); exact rfl; exact rfl; exact rfl; (first | exact trivial | omega | exact ⟨Int.natCast_nonneg _, Int.ofNat_lt.2 (by assumption)⟩ | decide); clear hF a; intro a hF) | (with_reducible refine w_block ?_)))
  obtain ⟨B, hB⟩ : ∃ B, B = ys ++ puts ts.length := ⟨_, rfl⟩
  obtain ⟨p, hp⟩ : ∃ p, m + (puts ts.length).length = p := ⟨_, rfl⟩
  have hBl : B.length = p := by rw [hB, List.length_append]; omega
  rw [← hB, hp] at hM
  rw [hp] at hF
  refine c_loop (m := ts.length) (fun z a w' => ∃ (k : Nat) (T : List Int) (q : Nat) (ov : Value), z + k = ts.length ∧ T = ((tms (ts.take k)).map putTok).flatten ∧ T.length = q ∧ q ≤ k * 32777 ∧
    Fr 46 [] [(15, .int .i64 k), (14, .int .i64 ts.length), (13, .slice al ts.length cl), (5, ov)] a ∧
    Mm own W [] [⟨5, 1, ov, p + q, (B ++ T).map (Value.int .u8)⟩] [RdF id al (ts.map tkC).flatten, DatF (tP ts)] w')
    ⟨0, [], 0, _, by omega, rfl, rfl, by omega, hF.sub (by repeat (first | exact Sub.nil | refine Sub.cons rfl (by first | with_reducible rfl | (refine congrArg (Value.int _) ?_; omega) | exact rfl) ?_)), (hM.sub (.refl _) (.refl _) (by intro f hf; simp only [List.mem_cons, List.not_mem_nil, or_false] at hf; (repeat (rcases hf with rfl | hf; · (repeat (first | exact List.mem_cons_self | refine List.mem_cons_of_mem _ ?_)))); first | (subst hf; (repeat (first | exact List.mem_cons_self | refine List.mem_cons_of_mem _ ?_)); done) | (repeat (first | exact hf | refine List.mem_cons_of_mem _ ?_)))).rowsEq (by simp)⟩ ?_
  clear hF hM a
  rintro z a w' ⟨k, T, q, ov, hz, hT, hTl, hq, hF, hM⟩
  by_cases hk : k < ts.length
  · obtain ⟨t, ht⟩ := get_of_lt hk
    have htm := List.mem_of_getElem? ht
    obtain ⟨ht8, htc, htb⟩ := hts ((⟨t.1.d, t.1.x⟩ : Itm), t.2) (List.mem_map.2 ⟨t, htm, rfl⟩)
    have hxl := hx4 t htm
    have htr := dat_one (hM.facts (DatF (tP ts)) (by (repeat (first | with_reducible exact List.mem_cons_self | refine List.mem_cons_of_mem _ ?_)))) (p := ((⟨t.1.d, t.1.x⟩ : Itm), t.2)) (List.mem_map.2 ⟨t, htm, rfl⟩)
    have htk : ((tms (ts.take (k + 1))).map putTok).flatten = T ++ putTok t.1 := by
      rw [take_snoc ht, hT]
      simp [tms]
    have hpl := putTok_len ht8 hxl
    have hpe : (ts.map tkC)[k]? = some (tkC t) := by rw [List.getElem?_map, ht]; rfl
    obtain ⟨⟨r, d, x⟩, ax, cx⟩ := t
    dsimp only at ht8 htc htb hxl htr
    obtain ⟨xl, hxq⟩ : ∃ q, x.length = q := ⟨_, rfl⟩
    replace hpe : (ts.map tkC)[k]? = some [.bool r, .int .u64 d, .slice ax xl cx] := by rw [hpe, ← hxq]
    have hw3 := tkC_len ts
    obtain ⟨ad, rfl⟩ : ∃ ad, al = some ad := rd_some hM (enc := id) (a := al) (xs := (ts.map tkC).flatten) (by (repeat (first | exact List.mem_cons_self | refine List.mem_cons_of_mem _ ?_))) (flat_get (q := 0) hw3 hpe rfl)
    replace hM := hM.addFact htr
    obtain ⟨C, hC⟩ : ∃ C, C = B ++ T := ⟨_, rfl⟩
    rw [← hC] at hM
    have hCl : C.length = p + q := by rw [hC, List.length_append]; omega
    have hfin : ∀ (P : List Int), P = putTok ⟨r, d, x⟩ → C ++ P = B ++ (T ++ putTok ⟨r, d, x⟩) := fun P h => by rw [hC, h, List.append_assoc]
    cases r with
    | false =>
      (repeat' (first | (with_reducible refine w_seq ?_) | (with_reducible refine c_region ?_) | (with_reducible refine s_nil ?_) | ((with_reducible apply s_loadE hF hM); exact rfl; exact rfl; (repeat (first | exact List.mem_cons_self | refine List.mem_cons_of_mem _ ?_)); exact rfl; exact rfl; (first | with_reducible assumption | (simp only [Int.toNat_natCast]; with_reducible assumption)); (with_reducible assumption); clear hF a; intro a hF) | (with_reducible refine q_then_n ?_) | ((with_reducible apply s_pure hF); exact rfl; exact rfl; exact rfl; (first | exact trivial | omega | exact ⟨Int.natCast_nonneg _, Int.ofNat_lt.2 (by assumption)⟩ | decide); clear hF a; intro a hF) | ((with_reducible apply s_load hF hM); exact rfl; exact rfl; (repeat (first | exact List.mem_cons_self | refine List.mem_cons_of_mem _ ?_)); exact rfl; exact rfl; clear hF a; intro a hF) | ((with_reducible apply s_store hF hM); exact rfl; exact rfl; exact rfl; exact rfl; (repeat (first | exact Upd.z | apply Upd.s)); exact rfl; exact rfl; exact rfl; clear hM; intro w hM) | ((with_reducible apply s_alloc hF hM); exact rfl; exact rfl; exact rfl; clear hF hM a; intro b w a hM hF) | (with_reducible refine w_skip ?_) | (with_reducible refine w_block ?_) | ((with_reducible apply c_true2 hF); exact rfl; (first | with_reducible rfl | (refine congrArg Value.bool ?_; focus (simp; done)))) | ((with_reducible apply c_dec hF); exact rfl; all_goals intro hc; all_goals (try (exfalso; omega)))))
      refine c_draw (fun i => Nat.ble 7 i) hM ?_; clear hM; intro w hM
      (first | (refine t_pure (i := 0) hF rfl rfl rfl rfl (by kernel_rfl) hM.sm (fun _ _ _ h => h) ?_ ?_; (first | exact trivial | omega | decide); clear hF a; intro a hF))
      (first | (refine t_pure (i := 3) hF rfl rfl rfl rfl (by kernel_rfl) hM.sm (fun _ _ _ h => h) ?_ ?_; (first | exact trivial | omega | decide); clear hF a; intro a hF))
      (first | (apply t_load (i := 4) hF rfl rfl rfl; (repeat (first | exact List.mem_cons_self | refine List.mem_cons_of_mem _ ?_)); exact rfl; exact rfl; kernel_rfl; exact hM.sm; exact (fun _ _ _ h => h); clear hF a; intro a hF))
      refine t_one (i := 1) hF rfl (by kernel_rfl) rfl ?_
      intro K hK
      (refine x_lit hF hM rfl rfl rfl ?_; clear hF hM a; intro bl w a hM hF)
      refine hK _ _ (fun _ => (hM.sm.sub (fun x hx => by repeat (first | exact hx | refine List.mem_cons_of_mem _ ?_)) (fun _ h => by repeat (first | exact h | refine List.mem_cons_of_mem _ ?_)))) ?_; clear hK
      refine t_one (i := 2) hF rfl (by kernel_rfl) rfl ?_
      intro K hK
      (apply x_app hF hM rfl rfl rfl; (repeat (first | exact List.mem_cons_self | refine List.mem_cons_of_mem _ ?_)); (repeat (first | exact Kth.z | apply Kth.s)); exact rfl; exact rfl; exact rfl; exact rfl; omega; clear hF hM a; intro g cap w a hM hF; dsimp only [List.set] at hM)
      rw [u8s_snoc] at hM; replace hM := hM.freezeN
      refine hK _ _ (fun _ => (hM.sm.sub (fun x hx => by repeat (first | exact hx | refine List.mem_cons_of_mem _ ?_)) (fun _ h => by repeat (first | exact h | refine List.mem_cons_of_mem _ ?_)))) ?_; clear hK
      refine t_one (i := 5) hF rfl (by kernel_rfl) rfl ?_
      intro K hK
      (apply x_callO hF; exact rfl; exact rfl; exact rfl; exact rfl; exact (PutSectors_c x ht8 (by omega) (C ++ [0]) (by rw [List.length_append, List.length_singleton]; omega) _ ax _ _ cx xl (by rw [List.length_append, List.length_singleton]; omega) hxq _ _ hM.lt (hM.facts (RdF (Value.int .u8) _ (C ++ [0])) (by (repeat (first | with_reducible exact List.mem_cons_self | refine List.mem_cons_of_mem _ ?_)))) (hM.facts (RdF (Value.int .u8) ax x.flatten) (by (repeat (first | with_reducible exact List.mem_cons_self | refine List.mem_cons_of_mem _ ?_))))); clear hF a; rintro v wn a ⟨a3, c3, rfl, hO⟩ hS hF; replace hM := hM.addRows hS hO; clear hS hO; dsimp only [List.cons_append, List.nil_append] at hM)
      refine hK _ _ (fun _ => (hM.sm.sub (fun x hx => by repeat (first | exact hx | refine List.mem_cons_of_mem _ ?_)) (fun _ h => by repeat (first | exact h | refine List.mem_cons_of_mem _ ?_)))) ?_; clear hK
      (first | (refine t_pure (i := 6) hF rfl rfl rfl rfl (by kernel_rfl) (hM.sm.sub (fun x hx => by repeat (first | exact hx | refine List.mem_cons_of_mem _ ?_)) (fun _ h => by repeat (first | exact h | refine List.mem_cons_of_mem _ ?_))) (fun _ _ _ h => h) ?_ ?_; (first | exact trivial | omega | decide); clear hF a; intro a hF))
      refine t_done (by kernel_rfl) ?_
      (repeat' (first | (with_reducible refine c_region ?_) | (with_reducible refine s_nil ?_) | (with_reducible refine q_then_n ?_) | ((with_reducible apply s_pure hF); exact rfl; exact rfl; exact rfl; (first | exact trivial | omega | exact ⟨Int.natCast_nonneg _, Int.ofNat_lt.2 (by assumption)⟩ | decide); clear hF a; intro a hF) | (with_reducible refine w_exit ?_) | (with_reducible refine q_then_x ?_) | (with_reducible refine q_blk_x ?_)))
      have hpt : putTok ⟨false, d, x⟩ = 0 :: putsS x := by unfold putTok putsS; rfl
      refine ⟨z - 1, by omega, k + 1, T ++ putTok ⟨false, d, x⟩, q + (1 + (putsS x).length), _, by omega, htk.symm, by rw [List.length_append, hpt, List.length_cons]; omega, by rw [hpt, List.length_cons] at hpl; omega, hF.sub (by repeat (first | exact Sub.nil | refine Sub.cons rfl (by first | with_reducible rfl | (refine congrArg (Value.int _) ?_; omega) | exact rfl) ?_)), ?_⟩
      rw [← hfin _ hpt.symm]
      rw [List.append_assoc] at hM
      rw [show p + (q + (1 + (putsS x).length)) = p + q + 1 + (putsS x).length by omega]
      exact hM.sub (List.nil_sublist _) (.refl _) (by intro f hf; simp only [List.mem_cons, List.not_mem_nil, or_false] at hf; (repeat (rcases hf with rfl | hf; · (repeat (first | exact List.mem_cons_self | refine List.mem_cons_of_mem _ ?_)))); first | (subst hf; (repeat (first | exact List.mem_cons_self | refine List.mem_cons_of_mem _ ?_)); done) | (repeat (first | exact hf | refine List.mem_cons_of_mem _ ?_)))
    | true =>
      (repeat' (first | (with_reducible refine w_seq ?_) | (with_reducible refine c_region ?_) | (with_reducible refine s_nil ?_) | ((with_reducible apply s_loadE hF hM); exact rfl; exact rfl; (repeat (first | exact List.mem_cons_self | refine List.mem_cons_of_mem _ ?_)); exact rfl; exact rfl; (first | with_reducible assumption | (simp only [Int.toNat_natCast]; with_reducible assumption)); (with_reducible assumption); clear hF a; intro a hF) | (with_reducible refine q_then_n ?_) | ((with_reducible apply s_pure hF); exact rfl; exact rfl; exact rfl; (first | exact trivial | omega | exact ⟨Int.natCast_nonneg _, Int.ofNat_lt.2 (by assumption)⟩ | decide); clear hF a; intro a hF) | ((with_reducible apply s_load hF hM); exact rfl; exact rfl; (repeat (first | exact List.mem_cons_self | refine List.mem_cons_of_mem _ ?_)); exact rfl; exact rfl; clear hF a; intro a hF) | ((with_reducible apply s_store hF hM); exact rfl; exact rfl; exact rfl; exact rfl; (repeat (first | exact Upd.z | apply Upd.s)); exact rfl; exact rfl; exact rfl; clear hM; intro w hM) | ((with_reducible apply s_alloc hF hM); exact rfl; exact rfl; exact rfl; clear hF hM a; intro b w a hM hF) | ((with_reducible apply s_lit hF hM); exact rfl; exact rfl; exact rfl; exact rfl; clear hF hM a; intro bl w a hM hF) | ((with_reducible apply s_app hF hM); exact rfl; exact rfl; exact rfl; exact rfl; (repeat (first | exact Kth.z | apply Kth.s)); exact rfl; exact rfl; exact rfl; exact rfl; omega; clear hF hM a; intro g cap w a hM hF; dsimp only [List.set] at hM) | (with_reducible refine w_skip ?_) | (with_reducible refine w_block ?_) | ((with_reducible apply c_false2 hF); exact rfl; (first | with_reducible rfl | (refine congrArg Value.bool ?_; focus (simp; done)))) | ((with_reducible apply c_dec hF); exact rfl; all_goals intro hc; all_goals (try (exfalso; omega)))))
      rw [u8s_snoc] at hM
      refine c_loop (m := 8) (fun mj a w' => ∃ (j : Nat) (v : Value), mj + j = 8 ∧
        Fr 46 [] [(31, .int .i64 j), (7, .pointer (some ⟨b, 0, none⟩)), (15, .int .i64 k), (14, .int .i64 ts.length), (13, .slice (some ad) ts.length cl), (5, v)] a ∧
        Mm own W [⟨b, ⟨[.bool true, .int .u64 d, .slice ax xl cx]⟩, 93⟩] [⟨5, 1, v, p + q + 1 + j, (C ++ [1] ++ (le 8 d).take j).map (Value.int .u8)⟩] [RdF id (some ad) (ts.map tkC).flatten, DatF (tP ts)] w') ⟨0, _, by omega, hF.sub (by repeat (first | exact Sub.nil | refine Sub.cons rfl (by first | with_reducible rfl | (refine congrArg (Value.int _) ?_; omega) | exact rfl) ?_)), ?_⟩ ?_
      · rw [show C ++ [1] ++ (le 8 d).take 0 = C ++ [1] by simp]
        exact hM.sub (by first | exact .refl _ | exact .cons _ (.refl _)) (.refl _) (by intro f hf; simp only [List.mem_cons, List.not_mem_nil, or_false] at hf; (repeat (rcases hf with rfl | hf; · (repeat (first | exact List.mem_cons_self | refine List.mem_cons_of_mem _ ?_)))); first | (subst hf; (repeat (first | exact List.mem_cons_self | refine List.mem_cons_of_mem _ ?_)); done) | (repeat (first | exact hf | refine List.mem_cons_of_mem _ ?_)))
      clear hF hM a
      rintro mj a w' ⟨j, v, hmj, hF, hM⟩
      by_cases hj : j < 8
      · have hge : (le 8 d)[j]? = some (d / 2 ^ (8 * (j : Int)).toNat % 256) := by rw [le_get hj, pow8]
        have htk2 := take_snoc hge
        (repeat' (first | (with_reducible refine w_seq ?_) | (with_reducible refine c_region ?_) | (with_reducible refine s_nil ?_) | ((with_reducible apply s_shrW hF); exact rfl; exact rfl; exact rfl; exact rfl; (first | assumption | omega); clear hF a; intro a hF) | (with_reducible refine q_then_n ?_) | ((with_reducible apply s_pure hF); exact rfl; exact rfl; exact rfl; (first | exact trivial | omega | exact ⟨Int.natCast_nonneg _, Int.ofNat_lt.2 (by assumption)⟩ | decide); clear hF a; intro a hF) | ((with_reducible apply s_load hF hM); exact rfl; exact rfl; (repeat (first | exact List.mem_cons_self | refine List.mem_cons_of_mem _ ?_)); exact rfl; exact rfl; clear hF a; intro a hF) | ((with_reducible apply s_lit hF hM); exact rfl; exact rfl; exact rfl; exact rfl; clear hF hM a; intro bl w a hM hF) | ((with_reducible apply s_app hF hM); exact rfl; exact rfl; exact rfl; exact rfl; (repeat (first | exact Kth.z | apply Kth.s)); exact rfl; exact rfl; exact rfl; exact rfl; omega; clear hF hM a; intro g cap w a hM hF; dsimp only [List.set] at hM) | (with_reducible refine w_skip ?_) | (with_reducible refine w_block ?_) | (with_reducible refine q_blk_n ?_) | ((with_reducible apply c_dec hF); exact rfl; all_goals intro hc; all_goals (try (exfalso; omega)))))
        refine ⟨mj - 1, by omega, j + 1, _, by omega, hF.sub (by repeat (first | exact Sub.nil | refine Sub.cons rfl (by first | with_reducible rfl | (refine congrArg (Value.int _) ?_; omega) | exact rfl) ?_)), ?_⟩
        rw [htk2, ← List.append_assoc, ← u8s_snoc, show p + q + 1 + (j + 1) = p + q + 1 + j + 1 by omega]
        exact hM.sub (by first | exact .refl _ | exact .cons _ (.refl _)) (.refl _) (by intro f hf; simp only [List.mem_cons, List.not_mem_nil, or_false] at hf; (repeat (rcases hf with rfl | hf; · (repeat (first | exact List.mem_cons_self | refine List.mem_cons_of_mem _ ?_)))); first | (subst hf; (repeat (first | exact List.mem_cons_self | refine List.mem_cons_of_mem _ ?_)); done) | (repeat (first | exact hf | refine List.mem_cons_of_mem _ ?_)))
      · obtain rfl : j = 8 := by omega
        rw [List.take_of_length_le (by rw [le_len]; omega)] at hM
        (repeat' (first | (with_reducible refine w_seq ?_) | (with_reducible refine c_region ?_) | (with_reducible refine s_nil ?_) | (with_reducible refine q_then_n ?_) | ((with_reducible apply s_pure hF); exact rfl; exact rfl; exact rfl; (first | exact trivial | omega | exact ⟨Int.natCast_nonneg _, Int.ofNat_lt.2 (by assumption)⟩ | decide); clear hF a; intro a hF) | (with_reducible refine w_exit ?_) | (with_reducible refine q_then_x ?_) | (with_reducible refine q_blk_n ?_) | (with_reducible refine q_blk_x ?_) | ((with_reducible apply c_false2 hF); exact rfl; (first | with_reducible rfl | (refine congrArg Value.bool ?_; focus (simp; done))))))
        have hpt : putTok ⟨true, d, x⟩ = 1 :: le 8 d := by unfold putTok; rfl
        refine ⟨z - 1, by omega, k + 1, T ++ putTok ⟨true, d, x⟩, q + 9, v, by omega, htk.symm, by rw [List.length_append, hpt, List.length_cons, le_len]; omega, by omega, hF.sub (by repeat (first | exact Sub.nil | refine Sub.cons rfl (by first | with_reducible rfl | (refine congrArg (Value.int _) ?_; omega) | exact rfl) ?_)), ?_⟩
        rw [← hfin _ hpt.symm, show p + (q + 9) = p + q + 1 + 8 by omega]
        rw [List.append_assoc] at hM
        exact hM.sub (List.nil_sublist _) (.refl _) (by intro f hf; simp only [List.mem_cons, List.not_mem_nil, or_false] at hf; (repeat (rcases hf with rfl | hf; · (repeat (first | exact List.mem_cons_self | refine List.mem_cons_of_mem _ ?_)))); first | (subst hf; (repeat (first | exact List.mem_cons_self | refine List.mem_cons_of_mem _ ?_)); done) | (repeat (first | exact hf | refine List.mem_cons_of_mem _ ?_)))
  · obtain rfl : k = ts.length := by omega
    rw [List.take_of_length_le (Nat.le_refl _)] at hT
    (repeat' (first | (with_reducible refine w_seq ?_) | (with_reducible refine c_region ?_) | (with_reducible refine s_nil ?_) | (with_reducible refine q_then_n ?_) | ((with_reducible apply s_pure hF); exact rfl; exact rfl; exact rfl; (first | exact trivial | omega | exact ⟨Int.natCast_nonneg _, Int.ofNat_lt.2 (by assumption)⟩ | decide); clear hF a; intro a hF) | (with_reducible refine w_exit ?_) | (with_reducible refine w_ret ?_) | (with_reducible refine q_then_x ?_) | (with_reducible refine q_blk_x ?_) | ((with_reducible apply c_false2 hF); exact rfl; (first | with_reducible rfl | (refine congrArg Value.bool ?_; focus (simp; done))))))
    (apply f_ret Try.results39 hF hM; (repeat (first | exact RL.nil | (apply RL.tmp; exact rfl) | (apply RL.cell; exact rfl; (repeat (first | exact List.mem_cons_self | refine List.mem_cons_of_mem _ ?_)); exact rfl))); refine Ret.mk hM.since ?_; dsimp only [resV])
    have e1 : putToks (tms ts) = puts ts.length ++ T := by unfold putToks; rw [hT, tms_len]
    have e2 : ys ++ putToks (tms ts) = B ++ T := by rw [e1, hB, List.append_assoc]
    have e3 : m + (putToks (tms ts)).length = p + q := by rw [e1, List.length_append]; omega
    rw [e2, e3]
    obtain ⟨av, cv, rfl, -, -⟩ := OffR.shape hM (k := 0) rfl (OffR.plain hM List.mem_cons_self)
    exact ⟨av, cv, rfl, hM.mem.own⟩
end Go.Proofs.Ytadfdpkhehdikaa


/- dedup: tokens are read. -/
namespace Go.Proofs.Ytadfdpkhehdikaa
open Go.RowKit Go.Shelf D29
namespace D29
theorem un_snoc : ∀ (l : List Int) (x : Int), un (l ++ [x]) = un l + x * 256 ^ l.length
  | [], x => by simp [un]
  | y :: l, x => by
    rw [List.cons_append, un, un_snoc l x, un, List.length_cons, Int.pow_succ, Int.mul_add, ← Int.add_assoc, Int.mul_left_comm 256 x, Int.mul_comm 256 (256 ^ _)]
/-- A further byte of a word. -/
theorem un_step {r : List Int} (hb : ∀ y ∈ r, 0 ≤ y ∧ y < 256) {j : Nat} (hj : j < 8) {x : Int} (hx : r[j]? = some x) :
    ∃ z : Int, x * 2 ^ (8 * (j : Int)).toNat = z ∧ 0 ≤ z ∧ z < 18446744073709551616 ∧ un (r.take (j + 1)) = un (r.take j) + z ∧ un (r.take j) + z < 18446744073709551616 ∧ bits .or .u64 (un (r.take j)) z = un (r.take j) + z := by
  have hxb := hb x (List.mem_of_getElem? hx)
  obtain ⟨u0, u1⟩ := un_bd (r.take j) fun y hy => hb y (List.mem_of_mem_take hy)
  have hlt : j < r.length := by
    apply Classical.byContradiction
    intro h
    rw [List.getElem?_eq_none (by omega)] at hx
    cases hx
  have hl : (r.take j).length = j := by rw [List.length_take]; omega
  rw [hl] at u1
  have hs := un_snoc (r.take j) x
  rw [← take_snoc hx, hl] at hs
  have hP : ∀ j : Fin 8, (0 : Int) < 256 ^ j.val ∧ (256 : Int) ^ j.val * 256 ≤ 18446744073709551616 := by decide
  obtain ⟨p0, p1⟩ := hP ⟨j, hj⟩
  dsimp only at p0 p1
  have hor := fun y0 y1 y2 => or_joinW (x := un (r.take j)) (y := x * 256 ^ j) (i := 8 * j) (by omega) u0 (by rw [Int.pow_mul]; exact u1) y0 y1 y2
  rw [show (2 : Int) ^ (8 * j) = 256 ^ j by rw [Int.pow_mul]; rfl] at hor
  refine ⟨x * 256 ^ j, by rw [pow8], Int.mul_nonneg hxb.1 (by omega), ?_, hs, ?_, hor (Int.mul_nonneg hxb.1 (by omega)) ?_ (Int.mul_emod_left _ _)⟩
  all_goals
    have : x * 256 ^ j ≤ 255 * 256 ^ j := Int.mul_le_mul_of_nonneg_right (by omega) (by omega)
    generalize x * 256 ^ j = z at *
    generalize (256 : Int) ^ j = P at *
    omega
/-- What a reading of a token answers. -/
def tokP (own : Nat → Prop) (r : Except Int (Tok × List Int)) (v : Value) (w' : World) : Prop := match r with
  | .error e => ∃ (b : Bool) (d : Int) (a : Option Addr) (n c : Nat) (a2 : Option Addr) (n2 c2 : Nat), v = .tuple #[.agg #[.bool b, .int .u64 d, .slice a n c], .slice a2 n2 c2, .int .i64 e] ∧ e ≠ 0
  | .ok (t, ys) => ∃ a1 c1 a2 c2, v = .tuple #[.agg #[.bool t.r, .int .u64 t.d, .slice a1 t.x.length c1], .slice a2 ys.length c2, .int .i64 0] ∧ Has own w' (RdF (Value.int .u8) a1 t.x.flatten) ∧ Has own w' (RdF (Value.int .u8) a2 ys) ∧ t.x.length ≤ c1 ∧ ys.length ≤ c2 ∧ W8 t.x ∧ By8 t.x
end D29
section
variable (xs : List Int) (hxb : ∀ x ∈ xs, 0 ≤ x ∧ x < 256) (hlen : xs.length ≤ 1000000) (a0 : Option Addr) (c0 : Nat) (hc0 : xs.length ≤ c0) (own : Nat → Prop) (W : World) (hl : ∀ b, own b → b < W.heap.size) (hv : Has own W (RdF (Value.int .u8) a0 xs))
include hxb hlen hc0 hl hv
set_option maxRecDepth 20000 in
set_option maxHeartbeats 4000000 in
theorem token_c : Calls Try.prog 80 ⟨[.slice a0 xs.length c0]⟩ W (Ret W (tokP own (rdTok xs))) := by
  have hM := (Mm.start hl).known hv
  match hxs : xs with
  | [] =>
    refine f_start Try.func80 rfl Try.ntmps80 rfl rfl ?_; intro a hF
    (repeat' (first | (with_reducible refine w_seq ?_) | (with_reducible refine c_region ?_) | (with_reducible refine s_nil ?_) | (with_reducible refine q_then_n ?_) | ((with_reducible apply s_pure hF); exact rfl; exact rfl; exact rfl; (first | exact trivial | omega | exact ⟨Int.natCast_nonneg _, Int.ofNat_lt.2 (by assumption)⟩ | decide); clear hF a; intro a hF) | ((with_reducible apply s_store hF hM); exact rfl; exact rfl; exact rfl; exact rfl; (repeat (first | exact Upd.z | apply Upd.s)); exact rfl; exact rfl; exact rfl; clear hM; intro w hM) | ((with_reducible apply s_alloc hF hM); exact rfl; exact rfl; exact rfl; clear hF hM a; intro b w a hM hF) | (with_reducible refine w_ret ?_) | (with_reducible refine q_then_r ?_) | ((with_reducible apply c_true2 hF); exact rfl; (first | with_reducible rfl | (refine congrArg Value.bool ?_; focus (simp; done))))))
    (apply f_ret Try.results80 hF hM; (repeat (first | exact RL.nil | (apply RL.tmp; exact rfl) | (apply RL.cell; exact rfl; (repeat (first | exact List.mem_cons_self | refine List.mem_cons_of_mem _ ?_)); exact rfl))); refine Ret.mk hM.since ?_; dsimp only [resV])
    exact ⟨false, 0, none, 0, 0, none, 0, 0, rfl, by decide⟩
  | mk :: r =>
  have hmk := hxb mk List.mem_cons_self
  have hbr : ∀ y ∈ r, 0 ≤ y ∧ y < 256 := fun z hz => hxb z (List.mem_cons_of_mem _ hz)
  have hlx : (mk :: r).length = r.length + 1 := List.length_cons
  have hx0 : (mk :: r)[((0 : Int)).toNat]? = some mk := rfl
  obtain ⟨ad, rfl⟩ : ∃ ad, a0 = some ad := rd_some hM (by (repeat (first | exact List.mem_cons_self | refine List.mem_cons_of_mem _ ?_))) (k := 0) (x := mk) rfl
  have hbf := RdF.drop (hM.facts (RdF (Value.int .u8) (some ad) (mk :: r)) (by (repeat (first | exact List.mem_cons_self | refine List.mem_cons_of_mem _ ?_)))) 1 c0 hc0
  rw [show (mk :: r).drop 1 = r from rfl] at hbf
  have hcr : r.length ≤ c0 - 1 := by omega
  have hrl : r.length ≤ 1000000 := by omega
  have hsl : ∀ a1, Value.slice (sadr (some ad) (1 : Int).toNat c0 1) ((((mk :: r).length : Nat) : Int).toNat - (1 : Int).toNat) (c0 - (1 : Int).toNat) = .slice a1 r.length (c0 - 1) ↔ sadr (some ad) 1 c0 1 = a1 := fun a1 => by
    rw [show (1 : Int).toNat = 1 from rfl, Int.toNat_natCast, hlx, Nat.add_sub_cancel]
    constructor
    · intro h; injection h
    · intro h; rw [h]
  obtain ⟨a1, ha1⟩ : ∃ a1, sadr (some ad) 1 c0 1 = a1 := ⟨_, rfl⟩
  have hsl1 := (hsl a1).2 ha1
  clear hsl
  rw [ha1] at hbf
  replace hM := hM.addFact hbf
  rw [rdTok]
  refine f_start Try.func80 rfl Try.ntmps80 rfl rfl ?_; intro a hF
  (repeat' (first | (with_reducible refine w_seq ?_) | (with_reducible refine c_region ?_) | (with_reducible refine s_nil ?_) | (with_reducible refine q_then_n ?_) | ((with_reducible apply s_pure hF); exact rfl; exact rfl; exact rfl; (first | exact trivial | omega | exact ⟨Int.natCast_nonneg _, Int.ofNat_lt.2 (by assumption)⟩ | decide); clear hF a; intro a hF) | ((with_reducible apply s_alloc hF hM); exact rfl; exact rfl; exact rfl; clear hF hM a; intro b w a hM hF) | (with_reducible refine w_skip ?_) | ((with_reducible apply c_dec hF); exact rfl; all_goals intro hc; all_goals (try (exfalso; omega)))))
  generalize b = b2 at *
  refine c_draw (fun i => Nat.ble 7 i) hM ?_; clear hM; intro w hM
  (first | (refine t_pure (i := 0) hF rfl rfl rfl rfl (by kernel_rfl) hM.sm (fun _ _ _ h => h) ?_ ?_; (first | exact trivial | omega | decide); clear hF a; intro a hF))
  (first | (refine t_pure (i := 1) hF rfl rfl rfl rfl (by kernel_rfl) hM.sm (fun _ _ _ h => h) ?_ ?_; (first | exact trivial | omega | decide); clear hF a; intro a hF))
  (first | (apply t_loadF (i := 2) hF rfl rfl rfl; (repeat (first | exact List.mem_cons_self | refine List.mem_cons_of_mem _ ?_)); (first | with_reducible assumption | (simp only [Int.toNat_natCast]; with_reducible assumption)); exact rfl; exact rfl; kernel_rfl; exact hM.sm; exact (fun _ _ _ h => h); clear hF a; intro a hF))
  (first | (refine t_pure (i := 3) hF rfl rfl rfl rfl (by kernel_rfl) hM.sm (fun _ _ _ h => h) ?_ ?_; (first | exact trivial | omega | decide); clear hF a; intro a hF))
  (first | (refine t_pure (i := 4) hF rfl rfl rfl rfl (by kernel_rfl) hM.sm (fun _ _ _ h => h) ?_ ?_; (first | exact trivial | omega | decide); clear hF a; intro a hF))
  rw [hsl1] at hF
  (first | (refine t_pure (i := 5) hF rfl rfl rfl rfl (by kernel_rfl) (hM.sm.sub (fun x hx => by repeat (first | exact hx | refine List.mem_cons_of_mem _ ?_)) (fun _ h => by repeat (first | exact h | refine List.mem_cons_of_mem _ ?_))) (fun _ _ _ h => h) ?_ ?_; (first | exact trivial | omega | decide); clear hF a; intro a hF))
  (first | (refine t_pure (i := 6) hF rfl rfl rfl rfl (by kernel_rfl) (hM.sm.sub (fun x hx => by repeat (first | exact hx | refine List.mem_cons_of_mem _ ?_)) (fun _ h => by repeat (first | exact h | refine List.mem_cons_of_mem _ ?_))) (fun _ _ _ h => h) ?_ ?_; (first | exact trivial | omega | decide); clear hF a; intro a hF))
  refine t_done (by kernel_rfl) ?_
  by_cases h0 : mk = 0
  · subst h0
    rw [if_pos rfl]
    have hS := fun {own W} hl hv => SectorsW_c r hbr hrl a1 (c0 - 1) hcr own W hl hv
    cases hs : rdSecs r with
    | error e =>
      rw [hs] at hS
      (repeat' (first | (with_reducible refine w_seq ?_) | (with_reducible refine c_region ?_) | (with_reducible refine s_nil ?_) | ((with_reducible apply s_call (f := 114) hF hM); exact rfl; exact rfl; exact rfl; exact rfl; exact rfl; exact (hS hM.lt (hM.facts (RdF (Value.int .u8) a1 r) (by (repeat (first | with_reducible exact List.mem_cons_self | refine List.mem_cons_of_mem _ ?_))))); clear hF hM a; rintro v w a ⟨rfl, he⟩ - hM hF) | (with_reducible refine q_then_n ?_) | ((with_reducible apply s_pure hF); exact rfl; exact rfl; exact rfl; (first | exact trivial | omega | exact ⟨Int.natCast_nonneg _, Int.ofNat_lt.2 (by assumption)⟩ | decide); clear hF a; intro a hF) | ((with_reducible apply s_store hF hM); exact rfl; exact rfl; exact rfl; exact rfl; (repeat (first | exact Upd.z | apply Upd.s)); exact rfl; exact rfl; exact rfl; clear hM; intro w hM) | (with_reducible refine w_skip ?_) | (with_reducible refine w_block ?_) | (with_reducible refine w_ret ?_) | (with_reducible refine q_then_r ?_) | (with_reducible refine q_blk_r ?_) | ((with_reducible apply c_true2 hF); exact rfl; (first | with_reducible rfl | (refine congrArg Value.bool ?_; focus (simp; done)))) | ((with_reducible apply c_false2 hF); exact rfl; (first | with_reducible rfl | (refine congrArg Value.bool ?_; focus (simp; done)))) | ((with_reducible apply s_skip hF); exact rfl; exact rfl; clear hF a; intro a hF) | ((fail_if_success ((with_reducible refine g_known true hF ?_ ?_); focus exact rfl)); (fail_if_success ((with_reducible refine g_known false hF ?_ ?_); focus exact rfl)); (with_reducible apply g_dec hF); exact rfl; exact rfl; all_goals (clear hF; intro hc hF); all_goals (try (exfalso; omega)))))
      (apply f_ret Try.results80 hF hM; (repeat (first | exact RL.nil | (apply RL.tmp; exact rfl) | (apply RL.cell; exact rfl; (repeat (first | exact List.mem_cons_self | refine List.mem_cons_of_mem _ ?_)); exact rfl))); refine Ret.mk hM.since ?_; dsimp only [resV])
      exact ⟨false, 0, none, 0, 0, none, 0, 0, rfl, he⟩
    | ok pr =>
      obtain ⟨x, ys⟩ := pr
      rw [hs] at hS
      dsimp only
      (repeat (first | (with_reducible refine w_seq ?_) | (with_reducible refine c_region ?_) | (with_reducible refine s_nil ?_) | ((with_reducible apply s_call (f := 114) hF hM); exact rfl; exact rfl; exact rfl; exact rfl; exact rfl; exact (hS hM.lt (hM.facts (RdF (Value.int .u8) a1 r) (by (repeat (first | with_reducible exact List.mem_cons_self | refine List.mem_cons_of_mem _ ?_))))); clear hF hM a; rintro v w a ⟨a2, c2, a3, c3, rfl, k1, k2, k3, k4, k5, k6, k7, k8⟩ - hM hF; replace hM := (hM.addFact k1).addFact k2) | (with_reducible refine q_then_n ?_) | ((with_reducible apply s_pure hF); exact rfl; exact rfl; exact rfl; (first | exact trivial | omega | exact ⟨Int.natCast_nonneg _, Int.ofNat_lt.2 (by assumption)⟩ | decide); clear hF a; intro a hF) | (with_reducible refine w_block ?_) | ((with_reducible apply c_true2 hF); exact rfl; (first | with_reducible rfl | (refine congrArg Value.bool ?_; focus (simp; done))))))
      obtain ⟨q, hq⟩ : ∃ q, x.length = q := ⟨_, rfl⟩
      rw [hq] at hF
      cases hch : isCh x with
      | true =>
        rw [if_pos rfl]
        (repeat' (first | (with_reducible refine w_seq ?_) | (with_reducible refine c_region ?_) | (with_reducible refine s_nil ?_) | ((with_reducible apply s_call (f := 48) hF hM); exact rfl; exact rfl; exact rfl; exact rfl; exact rfl; exact (isChunk_c x a2 c2 q hq _ _ hM.lt); clear hF hM a; rintro v w a rfl - hM hF; rw [hch] at hF) | (with_reducible refine q_then_n ?_) | ((with_reducible apply s_pure hF); exact rfl; exact rfl; exact rfl; (first | exact trivial | omega | exact ⟨Int.natCast_nonneg _, Int.ofNat_lt.2 (by assumption)⟩ | decide); clear hF a; intro a hF) | ((with_reducible apply s_store hF hM); exact rfl; exact rfl; exact rfl; exact rfl; (repeat (first | exact Upd.z | apply Upd.s)); exact rfl; exact rfl; exact rfl; clear hM; intro w hM) | (with_reducible refine w_skip ?_) | (with_reducible refine w_ret ?_) | (with_reducible refine q_then_r ?_) | (with_reducible refine q_blk_r ?_) | ((with_reducible apply c_false2 hF); exact rfl; (first | with_reducible rfl | (refine congrArg Value.bool ?_; focus (simp; done))))))
        (apply f_ret Try.results80 hF hM; (repeat (first | exact RL.nil | (apply RL.tmp; exact rfl) | (apply RL.cell; exact rfl; (repeat (first | exact List.mem_cons_self | refine List.mem_cons_of_mem _ ?_)); exact rfl))); refine Ret.mk hM.since ?_; dsimp only [resV])
        exact ⟨a2, c2, a3, c3, by rw [hq], hM.factOut (f := RdF (Value.int .u8) a2 x.flatten) (by (repeat (first | with_reducible exact List.mem_cons_self | refine List.mem_cons_of_mem _ ?_))), hM.factOut (f := RdF (Value.int .u8) a3 ys) (by (repeat (first | with_reducible exact List.mem_cons_self | refine List.mem_cons_of_mem _ ?_))), k3, k4, k5, k6⟩
      | false =>
        rw [if_neg (by decide)]
        (repeat' (first | (with_reducible refine w_seq ?_) | (with_reducible refine c_region ?_) | (with_reducible refine s_nil ?_) | ((with_reducible apply s_call (f := 48) hF hM); exact rfl; exact rfl; exact rfl; exact rfl; exact rfl; exact (isChunk_c x a2 c2 q hq _ _ hM.lt); clear hF hM a; rintro v w a rfl - hM hF; rw [hch] at hF) | (with_reducible refine q_then_n ?_) | ((with_reducible apply s_pure hF); exact rfl; exact rfl; exact rfl; (first | exact trivial | omega | exact ⟨Int.natCast_nonneg _, Int.ofNat_lt.2 (by assumption)⟩ | decide); clear hF a; intro a hF) | ((with_reducible apply s_store hF hM); exact rfl; exact rfl; exact rfl; exact rfl; (repeat (first | exact Upd.z | apply Upd.s)); exact rfl; exact rfl; exact rfl; clear hM; intro w hM) | (with_reducible refine w_ret ?_) | (with_reducible refine q_then_r ?_) | (with_reducible refine q_blk_r ?_) | ((with_reducible apply c_true2 hF); exact rfl; (first | with_reducible rfl | (refine congrArg Value.bool ?_; focus (simp; done))))))
        (apply f_ret Try.results80 hF hM; (repeat (first | exact RL.nil | (apply RL.tmp; exact rfl) | (apply RL.cell; exact rfl; (repeat (first | exact List.mem_cons_self | refine List.mem_cons_of_mem _ ?_)); exact rfl))); refine Ret.mk hM.since ?_; dsimp only [resV])
        exact ⟨false, 0, a2, q, c2, a3, ys.length, c3, rfl, by decide⟩
  rw [if_neg h0]
  by_cases h1 : mk = 1
  case neg =>
    rw [if_neg h1]
    (repeat' (first | (with_reducible refine w_seq ?_) | (with_reducible refine c_region ?_) | (with_reducible refine s_nil ?_) | (with_reducible refine q_then_n ?_) | ((with_reducible apply s_pure hF); exact rfl; exact rfl; exact rfl; (first | exact trivial | omega | exact ⟨Int.natCast_nonneg _, Int.ofNat_lt.2 (by assumption)⟩ | decide); clear hF a; intro a hF) | ((with_reducible apply s_store hF hM); exact rfl; exact rfl; exact rfl; exact rfl; (repeat (first | exact Upd.z | apply Upd.s)); exact rfl; exact rfl; exact rfl; clear hM; intro w hM) | (with_reducible refine w_skip ?_) | (with_reducible refine w_block ?_) | (with_reducible refine w_ret ?_) | (with_reducible refine q_blk_n ?_) | ((with_reducible apply c_dec hF); exact rfl; all_goals intro hc; all_goals (try (exfalso; omega)))))
    (apply f_ret Try.results80 hF hM; (repeat (first | exact RL.nil | (apply RL.tmp; exact rfl) | (apply RL.cell; exact rfl; (repeat (first | exact List.mem_cons_self | refine List.mem_cons_of_mem _ ?_)); exact rfl))); refine Ret.mk hM.since ?_; dsimp only [resV])
    exact ⟨false, 0, none, 0, 0, none, 0, 0, rfl, by decide⟩
  subst h1
  rw [if_pos rfl]
  by_cases h8 : r.length < 8
  · rw [if_pos h8]
    (repeat' (first | (with_reducible refine w_seq ?_) | (with_reducible refine c_region ?_) | (with_reducible refine s_nil ?_) | (with_reducible refine q_then_n ?_) | ((with_reducible apply s_pure hF); exact rfl; exact rfl; exact rfl; (first | exact trivial | omega | exact ⟨Int.natCast_nonneg _, Int.ofNat_lt.2 (by assumption)⟩ | decide); clear hF a; intro a hF) | ((with_reducible apply s_store hF hM); exact rfl; exact rfl; exact rfl; exact rfl; (repeat (first | exact Upd.z | apply Upd.s)); exact rfl; exact rfl; exact rfl; clear hM; intro w hM) | (with_reducible refine w_block ?_) | (with_reducible refine w_ret ?_) | (with_reducible refine q_then_r ?_) | (with_reducible refine q_blk_r ?_) | ((with_reducible apply c_true2 hF); exact rfl; (first | with_reducible rfl | (refine congrArg Value.bool ?_; focus (simp; done)))) | ((with_reducible apply c_false2 hF); exact rfl; (first | with_reducible rfl | (refine congrArg Value.bool ?_; focus (simp; done)))) | ((with_reducible apply c_dec hF); exact rfl; all_goals intro hc; all_goals (try (exfalso; omega)))))
    (apply f_ret Try.results80 hF hM; (repeat (first | exact RL.nil | (apply RL.tmp; exact rfl) | (apply RL.cell; exact rfl; (repeat (first | exact List.mem_cons_self | refine List.mem_cons_of_mem _ ?_)); exact rfl))); refine Ret.mk hM.since ?_; dsimp only [resV])
    exact ⟨false, 0, none, 0, 0, none, 0, 0, rfl, by decide⟩
  rw [if_neg h8]
  obtain ⟨ad2, rfl⟩ : ∃ ad2, a1 = some ad2 := by rw [← ha1]; unfold sadr; split <;> exact ⟨_, rfl⟩
  (repeat' (first | (with_reducible refine w_seq ?_) | (with_reducible refine c_region ?_) | (with_reducible refine s_nil ?_) | (with_reducible refine q_then_n ?_) | ((with_reducible apply s_pure hF); exact rfl; exact rfl; exact rfl; (first | exact trivial | omega | exact ⟨Int.natCast_nonneg _, Int.ofNat_lt.2 (by assumption)⟩ | decide); clear hF a; intro a hF) | ((with_reducible apply s_store hF hM); exact rfl; exact rfl; exact rfl; exact rfl; (repeat (first | exact Upd.z | apply Upd.s)); exact rfl; exact rfl; exact rfl; clear hM; intro w hM) | ((with_reducible apply s_alloc hF hM); exact rfl; exact rfl; exact rfl; clear hF hM a; intro b w a hM hF) | (with_reducible refine w_skip ?_) | (with_reducible refine w_block ?_) | ((with_reducible apply c_true2 hF); exact rfl; (first | with_reducible rfl | (refine congrArg Value.bool ?_; focus (simp; done)))) | ((with_reducible apply c_false2 hF); exact rfl; (first | with_reducible rfl | (refine congrArg Value.bool ?_; focus (simp; done)))) | ((with_reducible apply c_dec hF); exact rfl; all_goals intro hc; all_goals (try (exfalso; omega)))))
  rw [show Value.slice (sadr (some ad2) (Int.toNat 0) (c0 - 1) 1) ((8 : Int).toNat - Int.toNat 0) (c0 - 1 - Int.toNat 0) = .slice (some ad2) 8 (c0 - 1) from by rw [show Int.toNat 0 = 0 from rfl, sadr_zero]; rfl] at hF
  refine c_loop (m := 8) (fun mj a w' => ∃ j : Nat, mj + j = 8 ∧
    Fr 70 [] [(51, .int .i64 j), (50, .int .i64 8), (49, .slice (some ad2) 8 (c0 - 1)), (0, .slice (some ad2) r.length (c0 - 1)), (9, .pointer (some ⟨b, 0, none⟩)), (2, .pointer (some ⟨b2, 0, none⟩))] a ∧
    Mm own W [⟨b, ⟨[.bool true, .int .u64 (un (r.take j)), .slice none 0 0]⟩, 93⟩, ⟨b2, ⟨[.bool false, .int .u64 0, .slice none 0 0]⟩, 93⟩] [] [RdF (Value.int .u8) (some ad2) r] w') ⟨0, by omega, hF.sub (by repeat (first | exact Sub.nil | refine Sub.cons rfl (by first | with_reducible rfl | (refine congrArg (Value.int _) ?_; omega) | exact rfl) ?_)), hM.sub (.refl _) (.refl _) (by intro f hf; simp only [List.mem_cons, List.not_mem_nil, or_false] at hf; (repeat (rcases hf with rfl | hf; · (repeat (first | exact List.mem_cons_self | refine List.mem_cons_of_mem _ ?_)))); first | (subst hf; (repeat (first | exact List.mem_cons_self | refine List.mem_cons_of_mem _ ?_)); done) | (repeat (first | exact hf | refine List.mem_cons_of_mem _ ?_)))⟩ ?_
  clear hF hM a
  rintro mj a w' ⟨j, hmj, hF, hM⟩
  by_cases hj : j < 8
  · obtain ⟨x, hx⟩ := get_of_lt (l := r) (i := j) (by omega)
    have hxb := hbr x (List.mem_of_getElem? hx)
    obtain ⟨z, z1, z2, z3, z4, z5, z6⟩ := un_step hbr hj hx
    (repeat' (first | (with_reducible refine w_seq ?_) | (with_reducible refine c_region ?_) | (with_reducible refine s_nil ?_) | (with_reducible refine q_then_n ?_) | ((with_reducible apply s_pure hF); exact rfl; exact rfl; exact rfl; (first | exact trivial | omega | exact ⟨Int.natCast_nonneg _, Int.ofNat_lt.2 (by assumption)⟩ | decide); clear hF a; intro a hF) | ((with_reducible apply s_loadF hF hM); exact rfl; exact rfl; (repeat (first | exact List.mem_cons_self | refine List.mem_cons_of_mem _ ?_)); exact rfl; exact rfl; (first | with_reducible assumption | (simp only [Int.toNat_natCast]; with_reducible assumption)); clear hF a; intro a hF) | (with_reducible refine w_skip ?_) | (with_reducible refine w_block ?_) | ((with_reducible apply c_dec hF); exact rfl; all_goals intro hc; all_goals (try (exfalso; omega)))))
    refine c_draw (fun i => Nat.ble 9 i) hM ?_; clear hM; intro w hM
    (first | (refine t_pure (i := 0) hF rfl rfl rfl rfl (by kernel_rfl) hM.sm (fun _ _ _ h => h) ?_ ?_; (first | exact trivial | omega | decide); clear hF a; intro a hF))
    (first | (apply t_load (i := 1) hF rfl rfl rfl; (repeat (first | exact List.mem_cons_self | refine List.mem_cons_of_mem _ ?_)); exact rfl; exact rfl; kernel_rfl; exact hM.sm; exact (fun _ _ _ h => h); clear hF a; intro a hF))
    (first | (refine t_pure (i := 2) hF rfl rfl rfl rfl (by kernel_rfl) hM.sm (fun _ _ _ h => h) ?_ ?_; (first | exact trivial | omega | decide); clear hF a; intro a hF))
    (first | (refine t_pure (i := 3) hF rfl rfl rfl rfl (by kernel_rfl) hM.sm (fun _ _ _ h => h) ?_ ?_; (first | exact trivial | omega | decide); clear hF a; intro a hF))
    rw [show x % 18446744073709551616 = x by omega] at hF
    (first | (refine t_pure (i := 4) hF rfl rfl rfl rfl (by kernel_rfl) (hM.sm.sub (fun x hx => by repeat (first | exact hx | refine List.mem_cons_of_mem _ ?_)) (fun _ h => by repeat (first | exact h | refine List.mem_cons_of_mem _ ?_))) (fun _ _ _ h => h) ?_ ?_; (first | exact trivial | omega | decide); clear hF a; intro a hF))
    (first | (refine t_pure (i := 5) hF rfl rfl rfl rfl (by kernel_rfl) (hM.sm.sub (fun x hx => by repeat (first | exact hx | refine List.mem_cons_of_mem _ ?_)) (fun _ h => by repeat (first | exact h | refine List.mem_cons_of_mem _ ?_))) (fun _ _ _ h => h) ?_ ?_; (first | exact trivial | omega | decide); clear hF a; intro a hF))
    refine t_one (i := 6) hF rfl (by kernel_rfl) rfl ?_
    intro K hK
    refine upon_value (e_shlW (z := z) hF rfl rfl ⟨by omega, by omega, z1, by omega, by omega⟩ w) ?_; replace hF := hF.put (d := 62) rfl (.int .u64 z); generalize a.put (some 62) _ = a at *
    refine hK _ _ (fun _ => (hM.sm.sub (fun x hx => by repeat (first | exact hx | refine List.mem_cons_of_mem _ ?_)) (fun _ h => by repeat (first | exact h | refine List.mem_cons_of_mem _ ?_)))) ?_; clear hK
    refine t_one (i := 7) hF rfl (by kernel_rfl) rfl ?_
    intro K hK
    refine upon_value (e_bits (z := un (r.take j) + z) hF rfl rfl (.inr rfl) z6 w) ?_; replace hF := hF.put (d := 63) rfl (.int .u64 (un (r.take j) + z)); generalize a.put (some 63) _ = a at *
    refine hK _ _ (fun _ => (hM.sm.sub (fun x hx => by repeat (first | exact hx | refine List.mem_cons_of_mem _ ?_)) (fun _ h => by repeat (first | exact h | refine List.mem_cons_of_mem _ ?_)))) ?_; clear hK
    (first | (refine t_pure (i := 8) hF rfl rfl rfl rfl (by kernel_rfl) (hM.sm.sub (fun x hx => by repeat (first | exact hx | refine List.mem_cons_of_mem _ ?_)) (fun _ h => by repeat (first | exact h | refine List.mem_cons_of_mem _ ?_))) (fun _ _ _ h => h) ?_ ?_; (first | exact trivial | omega | decide); clear hF a; intro a hF))
    refine t_one (i := 9) hF rfl (by kernel_rfl) rfl ?_
    intro K hK
    (apply x_store hF hM rfl rfl rfl; (repeat (first | exact Upd.z | apply Upd.s)); exact rfl; exact rfl; exact rfl; clear hF hM a; intro w a hM hF)
    refine hK _ _ (fun h => by cases h) ?_; clear hK
    refine t_done (by kernel_rfl) ?_
    rw [← z4] at hM
    (repeat' (first | (with_reducible refine c_region ?_) | (with_reducible refine s_nil ?_) | (with_reducible refine q_then_n ?_) | ((with_reducible apply s_pure hF); exact rfl; exact rfl; exact rfl; (first | exact trivial | omega | exact ⟨Int.natCast_nonneg _, Int.ofNat_lt.2 (by assumption)⟩ | decide); clear hF a; intro a hF) | (with_reducible refine q_blk_n ?_)))
    exact ⟨mj - 1, by omega, j + 1, by omega, hF.sub (by repeat (first | exact Sub.nil | refine Sub.cons rfl (by first | with_reducible rfl | (refine congrArg (Value.int _) ?_; omega) | exact rfl) ?_)), hM⟩
  · obtain rfl : j = 8 := by omega
    have hd8 := RdF.drop (hM.facts (RdF (Value.int .u8) (some ad2) r) (by (repeat (first | exact List.mem_cons_self | refine List.mem_cons_of_mem _ ?_)))) 8 (c0 - 1) hcr
    have hdl : (r.drop 8).length = r.length - 8 := List.length_drop
    have hs2 : Value.slice (sadr (some ad2) (8 : Int).toNat (c0 - 1) 1) (((r.length : Nat) : Int).toNat - (8 : Int).toNat) (c0 - 1 - (8 : Int).toNat) = .slice (sadr (some ad2) 8 (c0 - 1) 1) (r.drop 8).length (c0 - 1 - 8) := by
      rw [Int.toNat_natCast, hdl]
      rfl
    replace hM := hM.addFact hd8
    (repeat' (first | (with_reducible refine w_seq ?_) | (with_reducible refine c_region ?_) | (with_reducible refine s_nil ?_) | (with_reducible refine q_then_n ?_) | ((with_reducible apply s_pure hF); exact rfl; exact rfl; exact rfl; (first | exact trivial | omega | exact ⟨Int.natCast_nonneg _, Int.ofNat_lt.2 (by assumption)⟩ | decide); clear hF a; intro a hF) | (with_reducible refine w_exit ?_) | (with_reducible refine q_then_x ?_) | (with_reducible refine q_blk_x ?_) | ((with_reducible apply c_false2 hF); exact rfl; (first | with_reducible rfl | (refine congrArg Value.bool ?_; focus (simp; done))))))
    replace hM := hM.perm (List.Perm.swap _ _ _)
    refine c_drawS (fun i => Nat.ble 4 i) (fun x hx => List.mem_cons_of_mem _ (hx)) hM ?_; clear hM; intro w hM
    (first | (apply t_load (i := 0) hF rfl rfl rfl; (repeat (first | exact List.mem_cons_self | refine List.mem_cons_of_mem _ ?_)); exact rfl; exact rfl; kernel_rfl; exact (hM.sm.sub (fun x hx => by repeat (first | exact hx | refine List.mem_cons_of_mem _ ?_)) (fun _ h => by repeat (first | exact h | refine List.mem_cons_of_mem _ ?_))); exact (fun _ _ _ h => h); clear hF a; intro a hF))
    (first | (refine t_pure (i := 1) hF rfl rfl rfl rfl (by kernel_rfl) (hM.sm.sub (fun x hx => by repeat (first | exact hx | refine List.mem_cons_of_mem _ ?_)) (fun _ h => by repeat (first | exact h | refine List.mem_cons_of_mem _ ?_))) (fun _ _ _ h => h) ?_ ?_; (first | exact trivial | omega | decide); clear hF a; intro a hF))
    (first | (refine t_pure (i := 2) hF rfl rfl rfl rfl (by kernel_rfl) (hM.sm.sub (fun x hx => by repeat (first | exact hx | refine List.mem_cons_of_mem _ ?_)) (fun _ h => by repeat (first | exact h | refine List.mem_cons_of_mem _ ?_))) (fun _ _ _ h => h) ?_ ?_; (first | exact trivial | omega | decide); clear hF a; intro a hF))
    rw [hs2] at hF
    refine t_one (i := 3) hF rfl (by kernel_rfl) rfl ?_
    intro K hK
    (apply x_store hF hM rfl rfl rfl; (repeat (first | exact Upd.z | apply Upd.s)); exact rfl; exact rfl; exact rfl; clear hF hM a; intro w a hM hF)
    refine hK _ _ (fun _ => (hM.sm.sub (fun x hx => by repeat (first | exact hx | refine List.mem_cons_of_mem _ ?_)) (fun _ h => by repeat (first | exact h | refine List.mem_cons_of_mem _ ?_)))) ?_; clear hK
    refine t_one (i := 4) hF rfl (by kernel_rfl) rfl ?_
    intro K hK
    (first | (refine x_pure hF hM rfl rfl ?_ ?_; (first | exact trivial | omega | decide); clear hF a; intro a hF) | (apply x_load hF hM rfl; (repeat (first | exact List.mem_cons_self | refine List.mem_cons_of_mem _ ?_)); exact rfl; exact rfl; clear hF a; intro a hF))
    refine hK _ _ (fun h => by cases h) ?_; clear hK
    refine t_one (i := 5) hF rfl (by kernel_rfl) rfl ?_
    intro K hK
    (first | (refine x_pure hF hM rfl rfl ?_ ?_; (first | exact trivial | omega | decide); clear hF a; intro a hF) | (apply x_load hF hM rfl; (repeat (first | exact List.mem_cons_self | refine List.mem_cons_of_mem _ ?_)); exact rfl; exact rfl; clear hF a; intro a hF))
    refine hK _ _ (fun h => by cases h) ?_; clear hK
    refine t_done (by kernel_rfl) ?_
    (repeat' (first | (with_reducible refine q_then_n ?_) | (with_reducible refine w_ret ?_) | (with_reducible refine q_then_r ?_) | (with_reducible refine q_blk_r ?_)))
    (apply f_ret Try.results80 hF hM; (repeat (first | exact RL.nil | (apply RL.tmp; exact rfl) | (apply RL.cell; exact rfl; (repeat (first | exact List.mem_cons_self | refine List.mem_cons_of_mem _ ?_)); exact rfl))); refine Ret.mk hM.since ?_; dsimp only [resV])
    exact ⟨none, 0, _, _, rfl, RdF.nil, hM.factOut (f := RdF (Value.int .u8) _ (r.drop 8)) (by (repeat (first | with_reducible exact List.mem_cons_self | refine List.mem_cons_of_mem _ ?_))), Nat.le_refl _, by omega, fun s hs => (List.not_mem_nil hs).elim, fun s hs => (List.not_mem_nil hs).elim⟩
end
end Go.Proofs.Ytadfdpkhehdikaa


/- dedup: lists of tokens are read. -/
namespace Go.Proofs.Ytadfdpkhehdikaa
open Go.RowKit Go.Shelf D29
namespace D29
/-- Tokens that are read behind others. -/
def tokPre (done : List Tok) (r : Except Int (List Tok × List Int)) : Except Int (List Tok × List Int) := match r with
  | .error e => .error e
  | .ok (l, ys) => .ok (done ++ l, ys)
theorem tokPre_nil (r : Except Int (List Tok × List Int)) : tokPre [] r = r := by cases r <;> rfl
theorem tokPre_step {k : Nat} {xs ys : List Int} {t : Tok} (h : rdTok xs = .ok (t, ys)) (done : List Tok) : tokPre done (rdToks (k + 1) xs) = tokPre (done ++ [t]) (rdToks k ys) := by
  rw [rdToks, h]
  dsimp only
  cases rdToks k ys with
  | error e => rfl
  | ok p => obtain ⟨l, zs⟩ := p; simp [tokPre]
theorem tokPre_err {k : Nat} {xs : List Int} {e : Int} (h : rdTok xs = .error e) (done : List Tok) : tokPre done (rdToks (k + 1) xs) = .error e := by
  rw [rdToks, h]
  rfl
/-- What a reading of tokens answers. -/
def toksP (own : Nat → Prop) (r : Except Int (List Tok × List Int)) (v : Value) (w' : World) : Prop := match r with
  | .error e => v = .tuple #[.slice none 0 0, .slice none 0 0, .int .i64 e] ∧ e ≠ 0
  | .ok (l, ys) => ∃ a1 c1 a2 c2, v = .tuple #[.slice a1 l.length c1, .slice a2 ys.length c2, .int .i64 0] ∧ TkR own l a1 c1 w' ∧ Has own w' (RdF (Value.int .u8) a2 ys) ∧ ys.length ≤ c2
theorem rdTok_rest {xs : List Int} (hb : ∀ x ∈ xs, 0 ≤ x ∧ x < 256) {t : Tok} {ys : List Int} (h : rdTok xs = .ok (t, ys)) : (∀ y ∈ ys, 0 ≤ y ∧ y < 256) ∧ ys.length ≤ xs.length := by
  have e := rdTok_can hb h
  exact ⟨fun y hy => hb y (by rw [e]; exact List.mem_append_right _ hy), by rw [e, List.length_append]; omega⟩
end D29
section
variable (xs : List Int) (hxb : ∀ x ∈ xs, 0 ≤ x ∧ x < 256) (hlen : xs.length ≤ 1000000) (a0 : Option Addr) (c0 : Nat) (hc0 : xs.length ≤ c0) (own : Nat → Prop) (W : World) (hl : ∀ b, own b → b < W.heap.size) (hv : Has own W (RdF (Value.int .u8) a0 xs))
include hxb hlen hc0 hl hv
set_option maxRecDepth 20000 in
set_option maxHeartbeats 4000000 in
theorem Tokens_c : Calls Try.prog 40 ⟨[.slice a0 xs.length c0]⟩ W (Ret W (toksP own (rdTokens xs))) := by
  have hM := (Mm.start hl).known hv
  have hnn := rdNum_nnT hxb
  unfold rdTokens
  refine f_start Try.func40 rfl Try.ntmps40 rfl rfl ?_; intro a hF
  by_cases he : (rdNum xs).2.1 ≠ 0
  · rw [if_pos he]
    have hI := fun {own W} hl hv => Int_err xs hxb (by omega) a0 c0 hc0 own W hl hv he
    generalize (rdNum xs).2.1 = e at *
    (repeat' (first | (with_reducible refine w_seq ?_) | (with_reducible refine c_region ?_) | (with_reducible refine s_nil ?_) | ((with_reducible apply s_call (f := 64) hF hM); exact rfl; exact rfl; exact rfl; exact rfl; exact rfl; exact (hI hM.lt (hM.facts (RdF (Value.int .u8) a0 xs) (by (repeat (first | exact List.mem_cons_self | refine List.mem_cons_of_mem _ ?_))))); clear hF hM a; rintro v w a rfl - hM hF) | (with_reducible refine q_then_n ?_) | ((with_reducible apply s_pure hF); exact rfl; exact rfl; exact rfl; (first | exact trivial | omega | exact ⟨Int.natCast_nonneg _, Int.ofNat_lt.2 (by assumption)⟩ | decide); clear hF a; intro a hF) | (with_reducible refine w_skip ?_) | (with_reducible refine w_ret ?_) | (with_reducible refine q_then_r ?_) | ((with_reducible apply c_false2 hF); exact rfl; (first | with_reducible rfl | (refine congrArg Value.bool ?_; focus (simp; done)))) | ((with_reducible apply s_skip hF); exact rfl; exact rfl; clear hF a; intro a hF) | ((fail_if_success ((with_reducible refine g_known true hF ?_ ?_); focus exact rfl)); (fail_if_success ((with_reducible refine g_known false hF ?_ ?_); focus exact rfl)); (with_reducible apply g_dec hF); exact rfl; exact rfl; all_goals (clear hF; intro hc hF); all_goals (try (exfalso; omega))) | ((with_reducible apply c_dec hF); exact rfl; all_goals intro hc; all_goals (try (exfalso; omega)))))
    (apply f_ret Try.results40 hF hM; (repeat (first | exact RL.nil | (apply RL.tmp; exact rfl) | (apply RL.cell; exact rfl; (repeat (first | exact List.mem_cons_self | refine List.mem_cons_of_mem _ ?_)); exact rfl))); refine Ret.mk hM.since ?_; dsimp only [resV])
    exact ⟨rfl, he⟩
  rw [if_neg he]
  have hI := fun {own W} hl hv => Int_ok xs hxb (by omega) a0 c0 hc0 own W hl hv (by omega)
  by_cases hn : 65536 < (rdNum xs).1
  · rw [if_pos hn]
    generalize (rdNum xs).1 = n at *
    (repeat' (first | (with_reducible refine w_seq ?_) | (with_reducible refine c_region ?_) | (with_reducible refine s_nil ?_) | ((with_reducible apply s_callO (f := 64) hF); exact rfl; exact rfl; exact rfl; exact rfl; exact rfl; exact (hI hM.lt (hM.facts (RdF (Value.int .u8) a0 xs) (by (repeat (first | exact List.mem_cons_self | refine List.mem_cons_of_mem _ ?_))))); clear hF a; rintro v wn a ⟨a1, c1, rfl, hO⟩ hS hF; replace hM := hM.addRows hS hO; clear hS hO; dsimp only [List.cons_append, List.nil_append] at hM) | (with_reducible refine q_then_n ?_) | ((with_reducible apply s_pure hF); exact rfl; exact rfl; exact rfl; (first | exact trivial | omega | exact ⟨Int.natCast_nonneg _, Int.ofNat_lt.2 (by assumption)⟩ | decide); clear hF a; intro a hF) | (with_reducible refine w_ret ?_) | (with_reducible refine q_then_r ?_) | ((with_reducible apply c_true2 hF); exact rfl; (first | with_reducible rfl | (refine congrArg Value.bool ?_; focus (simp; done)))) | ((with_reducible apply c_dec hF); exact rfl; all_goals intro hc; all_goals (try (exfalso; omega)))))
    (apply f_ret Try.results40 hF hM; (repeat (first | exact RL.nil | (apply RL.tmp; exact rfl) | (apply RL.cell; exact rfl; (repeat (first | exact List.mem_cons_self | refine List.mem_cons_of_mem _ ?_)); exact rfl))); refine Ret.mk hM.since ?_; dsimp only [resV])
    exact ⟨rfl, by decide⟩
  rw [if_neg hn]
  obtain ⟨k, hk⟩ : ∃ k : Nat, (rdNum xs).1 = k := ⟨(rdNum xs).1.toNat, by omega⟩
  rw [hk] at hI hnn hn ⊢
  rw [Int.toNat_natCast]
  have hzb : ∀ y ∈ xs.drop (rdNum xs).2.2, 0 ≤ y ∧ y < 256 := fun y hy => hxb y (List.mem_of_mem_drop hy)
  have hzl : (xs.drop (rdNum xs).2.2).length ≤ 1000000 := by rw [List.length_drop]; omega
  generalize xs.drop (rdNum xs).2.2 = zs at *
  (repeat' (first | (with_reducible refine w_seq ?_) | (with_reducible refine c_region ?_) | (with_reducible refine s_nil ?_) | ((with_reducible apply s_callO (f := 64) hF); exact rfl; exact rfl; exact rfl; exact rfl; exact rfl; exact (hI hM.lt (hM.facts (RdF (Value.int .u8) a0 xs) (by (repeat (first | exact List.mem_cons_self | refine List.mem_cons_of_mem _ ?_))))); clear hF a; rintro v wn a ⟨a1, c1, rfl, hO⟩ hS hF; replace hM := hM.addRows hS hO; clear hS hO; dsimp only [List.cons_append, List.nil_append] at hM) | (with_reducible refine q_then_n ?_) | ((with_reducible apply s_pure hF); exact rfl; exact rfl; exact rfl; (first | exact trivial | omega | exact ⟨Int.natCast_nonneg _, Int.ofNat_lt.2 (by assumption)⟩ | decide); clear hF a; intro a hF) | (with_reducible refine w_skip ?_) | (with_reducible refine w_block ?_) | ((with_reducible apply c_false2 hF); exact rfl; (first | with_reducible rfl | (refine congrArg Value.bool ?_; focus (simp; done)))) | ((with_reducible apply c_dec hF); exact rfl; all_goals intro hc; all_goals (try (exfalso; omega)))))
  obtain ⟨xa, ya, ea, ga, -⟩ := OffR.shape hM (k := 0) rfl (OffR.plain hM List.mem_cons_self)
  injection ea with _ _ ea
  replace hM := hM.freezeN
  have hrow := (hM.nilRow 93 3).addFact (f := DatF (tP [])) (Has.pure fun _ p hp => by simp [tP] at hp)
  refine c_loop (m := k) (fun m a w' => ∃ (i : Nat) (ys : List Int) (outs : List TP) (a2 : Option Addr) (c2 : Nat) (ov : Value), m + i = k ∧ rdToks k zs = tokPre (tms outs) (rdToks m ys) ∧ outs.length = i ∧ DatW (tP outs) ∧ ys.length ≤ c2 ∧ ys.length ≤ 1000000 ∧ (∀ y ∈ ys, 0 ≤ y ∧ y < 256) ∧
    Fr 47 [] [(28, .int .i64 i), (27, .int .i64 k), (8, ov), (6, .slice a2 ys.length c2)] a ∧
    Mm own W [] [⟨93, 3, ov, i, cellsT outs⟩] [DatF (tP outs), RdF (Value.int .u8) a2 ys] w')
    ⟨0, zs, [], a1, c1, _, by omega, (tokPre_nil _).symm, rfl, fun p hp => by simp [tP] at hp, by omega, hzl, hzb, hF.sub (by repeat (first | exact Sub.nil | refine Sub.cons rfl (by first | with_reducible rfl | (refine congrArg (Value.int _) ?_; omega) | exact rfl) ?_)), hrow.sub (.refl _) (.refl _) (by intro f hf; simp only [List.mem_cons, List.not_mem_nil, or_false] at hf; (repeat (rcases hf with rfl | hf; · (repeat (first | exact List.mem_cons_self | refine List.mem_cons_of_mem _ ?_)))); first | (subst hf; (repeat (first | exact List.mem_cons_self | refine List.mem_cons_of_mem _ ?_)); done) | (repeat (first | exact hf | refine List.mem_cons_of_mem _ ?_)))⟩ ?_
  clear hF hM hrow a
  rintro m a w' ⟨i, ys, outs, a2, c2, ov, hm, hrd, hol, how, hyc, hyl, hyb, hF, hM⟩
  by_cases hi : i < k
  · obtain ⟨m, rfl⟩ : ∃ q, m = q + 1 := ⟨m - 1, by omega⟩
    have hT := fun {own W} hl hv => token_c ys hyb hyl a2 c2 hyc own W hl hv
    cases htk : rdTok ys with
    | error e =>
      rw [htk] at hT
      rw [tokPre_err htk] at hrd
      rw [hrd]
      (repeat' (first | (with_reducible refine w_seq ?_) | (with_reducible refine c_region ?_) | (with_reducible refine s_nil ?_) | ((with_reducible apply s_call (f := 80) hF hM); exact rfl; exact rfl; exact rfl; exact rfl; exact rfl; exact (hT hM.lt (hM.facts (RdF (Value.int .u8) a2 ys) (by (repeat (first | exact List.mem_cons_self | refine List.mem_cons_of_mem _ ?_))))); clear hF hM a; rintro v w a ⟨bb, dd, aa, nn, cc, a3, n3, c3, rfl, he⟩ - hM hF) | (with_reducible refine q_then_n ?_) | ((with_reducible apply s_pure hF); exact rfl; exact rfl; exact rfl; (first | exact trivial | omega | exact ⟨Int.natCast_nonneg _, Int.ofNat_lt.2 (by assumption)⟩ | decide); clear hF a; intro a hF) | ((with_reducible apply s_store hF hM); exact rfl; exact rfl; exact rfl; exact rfl; (repeat (first | exact Upd.z | apply Upd.s)); exact rfl; exact rfl; exact rfl; clear hM; intro w hM) | ((with_reducible apply s_alloc hF hM); exact rfl; exact rfl; exact rfl; clear hF hM a; intro b w a hM hF) | (with_reducible refine w_skip ?_) | (with_reducible refine w_block ?_) | (with_reducible refine w_ret ?_) | (with_reducible refine q_then_r ?_) | (with_reducible refine q_blk_r ?_) | ((with_reducible apply c_dec hF); exact rfl; all_goals intro hc; all_goals (try (exfalso; omega)))))
      (apply f_ret Try.results40 hF hM; (repeat (first | exact RL.nil | (apply RL.tmp; exact rfl) | (apply RL.cell; exact rfl; (repeat (first | exact List.mem_cons_self | refine List.mem_cons_of_mem _ ?_)); exact rfl))); refine Ret.mk hM.since ?_; dsimp only [resV])
      exact ⟨rfl, he⟩
    | ok pr =>
      obtain ⟨t, ys2⟩ := pr
      rw [htk] at hT
      rw [tokPre_step htk] at hrd
      obtain ⟨hyb2, hyl2⟩ := rdTok_rest hyb htk
      obtain ⟨r, d, x⟩ := t
      obtain ⟨q, hq⟩ : ∃ q, x.length = q := ⟨_, rfl⟩
      (repeat' (first | (with_reducible refine w_seq ?_) | (with_reducible refine c_region ?_) | (with_reducible refine s_nil ?_) | ((with_reducible apply s_call (f := 80) hF hM); exact rfl; exact rfl; exact rfl; exact rfl; exact rfl; exact (hT hM.lt (hM.facts (RdF (Value.int .u8) a2 ys) (by (repeat (first | exact List.mem_cons_self | refine List.mem_cons_of_mem _ ?_))))); clear hF hM a; rintro v w a ⟨aa, cc, a3, c3, rfl, k1, k2, k3, k4, k5, k6⟩ - hM hF; replace hM := (hM.addFact k1).addFact k2; dsimp only at hF hM k3 k5 k6; rw [hq] at hF k3) | (with_reducible refine q_then_n ?_) | ((with_reducible apply s_pure hF); exact rfl; exact rfl; exact rfl; (first | exact trivial | omega | exact ⟨Int.natCast_nonneg _, Int.ofNat_lt.2 (by assumption)⟩ | decide); clear hF a; intro a hF) | ((with_reducible apply s_load hF hM); exact rfl; exact rfl; (repeat (first | exact List.mem_cons_self | refine List.mem_cons_of_mem _ ?_)); exact rfl; exact rfl; clear hF a; intro a hF) | ((with_reducible apply s_store hF hM); exact rfl; exact rfl; exact rfl; exact rfl; (repeat (first | exact Upd.z | apply Upd.s)); exact rfl; exact rfl; exact rfl; clear hM; intro w hM) | ((with_reducible apply s_alloc hF hM); exact rfl; exact rfl; exact rfl; clear hF hM a; intro b w a hM hF) | ((with_reducible apply s_lit hF hM); exact rfl; exact rfl; exact rfl; exact rfl; clear hF hM a; intro bl w a hM hF) | ((with_reducible apply s_app hF hM); exact rfl; exact rfl; exact rfl; exact rfl; (repeat (first | exact Kth.z | apply Kth.s)); exact rfl; exact rfl; exact rfl; exact rfl; omega; clear hF hM a; intro g cap w a hM hF; dsimp only [List.set] at hM) | (with_reducible refine w_skip ?_) | (with_reducible refine w_block ?_) | (with_reducible refine q_blk_n ?_) | ((with_reducible apply c_false2 hF); exact rfl; (first | with_reducible rfl | (refine congrArg Value.bool ?_; focus (simp; done)))) | ((with_reducible apply c_dec hF); exact rfl; all_goals intro hc; all_goals (try (exfalso; omega)))))
      have hD := DatF.snoc (p := ((⟨d, x⟩ : Itm), aa, cc)) (hM.facts (DatF (tP outs)) (by (repeat (first | with_reducible exact List.mem_cons_self | refine List.mem_cons_of_mem _ ?_)))) (hM.facts (RdF (Value.int .u8) aa x.flatten) (by (repeat (first | with_reducible exact List.mem_cons_self | refine List.mem_cons_of_mem _ ?_))))
      refine ⟨m, by omega, i + 1, ys2, outs ++ [((⟨r, d, x⟩ : Tok), aa, cc)], a3, c3, .slice (some ⟨g, 0, none⟩) (i + 1) cap, by omega, ?_, by simp; omega, ?_, k4, by omega, hyb2, hF.sub (by repeat (first | exact Sub.nil | refine Sub.cons rfl (by first | with_reducible rfl | (refine congrArg (Value.int _) ?_; omega) | exact rfl) ?_)), ?_⟩
      · rw [hrd, tms_app]
        rfl
      · rw [tP_app]
        exact how.snoc ⟨k5, by show x.length ≤ cc; omega, k6⟩
      · have hce : cellsT (outs ++ [((⟨r, d, x⟩ : Tok), aa, cc)]) = cellsT outs ++ [.bool r, .int .u64 d, .slice aa q cc] := by rw [cellsT_app, ← hq]; rfl
        rw [hce, tP_app]
        exact (hM.addFact hD).sub (List.nil_sublist _) (.refl _) (fun f hf => by simp only [List.mem_cons, List.not_mem_nil, or_false] at hf ⊢; rcases hf with h | h <;> simp [h, tP])
  · obtain rfl : i = k := by omega
    obtain rfl : m = 0 := by omega
    rw [hrd]
    obtain ⟨av, cv, rfl, hcv, -⟩ := OffR.shape hM (k := 0) rfl (OffR.plain hM List.mem_cons_self)
    replace hM := Mm.freezeN (enc := id) (xs := cellsT outs) (by rw [List.map_id]; exact hM)
    (repeat' (first | (with_reducible refine w_seq ?_) | (with_reducible refine c_region ?_) | (with_reducible refine s_nil ?_) | (with_reducible refine q_then_n ?_) | ((with_reducible apply s_pure hF); exact rfl; exact rfl; exact rfl; (first | exact trivial | omega | exact ⟨Int.natCast_nonneg _, Int.ofNat_lt.2 (by assumption)⟩ | decide); clear hF a; intro a hF) | (with_reducible refine w_exit ?_) | (with_reducible refine w_ret ?_) | (with_reducible refine q_then_x ?_) | (with_reducible refine q_blk_x ?_) | ((with_reducible apply c_false2 hF); exact rfl; (first | with_reducible rfl | (refine congrArg Value.bool ?_; focus (simp; done))))))
    (apply f_ret Try.results40 hF hM; (repeat (first | exact RL.nil | (apply RL.tmp; exact rfl) | (apply RL.cell; exact rfl; (repeat (first | exact List.mem_cons_self | refine List.mem_cons_of_mem _ ?_)); exact rfl))); refine Ret.mk hM.since ?_; dsimp only [resV])
    subst hol
    show toksP own (.ok (tms outs ++ [], ys)) _ _
    rw [List.append_nil]
    exact ⟨av, cv, a2, c2, by rw [tms_len], ⟨outs, rfl, how, hM.factOut (by (repeat (first | with_reducible exact List.mem_cons_self | refine List.mem_cons_of_mem _ ?_))), hM.factOut (by (repeat (first | with_reducible exact List.mem_cons_self | refine List.mem_cons_of_mem _ ?_))), by rw [tms_len]; exact hcv⟩, hM.factOut (f := RdF (Value.int .u8) a2 ys) (by (repeat (first | with_reducible exact List.mem_cons_self | refine List.mem_cons_of_mem _ ?_))), hyc⟩
end
end Go.Proofs.Ytadfdpkhehdikaa


/- The reference of layer 29: Same, SameTokens, Few, FewTokens. -/
namespace Go.Proofs.Ytadfdpkhehdikaa
open Go.RowKit Go.Shelf D29
namespace D29
instance tokDec : DecidableEq Tok := fun a b => if h : a.r = b.r ∧ a.d = b.d ∧ a.x = b.x then isTrue (by
  obtain ⟨r, d, x⟩ := a
  obtain ⟨r', d', x'⟩ := b
  obtain ⟨h1, h2, h3⟩ := h
  dsimp only at h1 h2 h3
  rw [h1, h2, h3]) else isFalse fun e => h (by rw [e]; exact ⟨rfl, rfl, rfl⟩)
end D29
end Go.Proofs.Ytadfdpkhehdikaa


/- The example of layer 29, in plain terms. -/
namespace Go.Proofs.Ytadfdpkhehdikaa
open Go.RowKit Go.Shelf D29
namespace D29
def sz : List Int := [3, 0, 0, 0, 0, 0, 0, 0]
end D29
end Go.Proofs.Ytadfdpkhehdikaa


/- Layer 29: bounds of what is answered; the laws of Encode and Decode. -/
namespace Go.Proofs.Ytadfdpkhehdikaa
open Go.RowKit Go.Shelf D29
namespace D29
theorem enc_toks {cap : Int} : ∀ {xs : List Dat} {l : List Itm} {t : Tok}, t ∈ (encI cap xs l).2 → t.x = [] ∨ t.x ∈ xs
  | [], _, _, h => by simp [encI] at h
  | x :: r, l, t, h => by
    rw [encI] at h
    rcases List.mem_cons.1 h with rfl | h
    · unfold tokI
      split
      · exact .inl rfl
      · exact .inr List.mem_cons_self
    · rcases enc_toks h with h | h
      · exact .inl h
      · exact .inr (List.mem_cons_of_mem _ h)
theorem ch_len {x : Dat} (h : isCh x = true) : x.length ≤ 4096 := by
  unfold isCh at h
  rw [decide_eq_true_eq] at h
  exact h.2
theorem enc_bd {c : St} {l : Dat} {chunk : Int} {r : List Itm × List Tok} (h : encR c l chunk = .ok r) : SOk ⟨c.cap, r.1⟩ ∧ (∀ t ∈ r.2, t.x.length ≤ 4096) ∧ r.2.length ≤ l.length + 4096 := by
  unfold encR at h
  split at h
  · cases h
  · rename_i hc
    split at h
    · cases h
    · rename_i hk
      injection h with h
      subst h
      have h1 : SOk c := check_ok.1 (by simpa using hc)
      have hch := parts_ch (n := chunk.toNat) (l := l) (by omega) (by omega)
      refine ⟨enc_sok hch h1, ?_, ?_⟩
      · intro t ht
        rcases enc_toks ht with h | h
        · rw [h]; simp
        · exact ch_len (hch _ h)
      · rw [encI_len, parts_num]
        have := Nat.div_le_self (l.length + chunk.toNat - 1) chunk.toNat
        omega
theorem sok_ps {cap : Int} {l : List Itm} {qs : List P} (h : SOk ⟨cap, l⟩) (hq : ims qs = l) : ∀ p ∈ qs, p.1.x.length ≤ 100000 := fun p hp => Nat.le_trans (ch_len (h.its.ch p.1 (by rw [show (⟨cap, l⟩ : St).items = l from rfl, ← hq]; exact List.mem_map.2 ⟨p, hp, rfl⟩))) (by omega)
theorem sok_len {cap : Int} {l : List Itm} (h : SOk ⟨cap, l⟩) : l.length ≤ 4096 := by
  have h1 := h.cap
  have h2 := h.len
  dsimp only at h1 h2
  omega
end D29
end Go.Proofs.Ytadfdpkhehdikaa


/- Layer 29: the law of the bytes of tokens (Wires). -/
namespace Go.Proofs.Ytadfdpkhehdikaa
open Go.RowKit Go.Shelf D29
namespace D29
theorem puts_byT (n : Nat) : ∀ x ∈ puts n, (0 : Int) ≤ x ∧ x < 256 := by
  induction n using Nat.strongRecOn with
  | _ n ih =>
    by_cases h : n < 128
    · rw [puts_lt h]
      intro x hx
      simp at hx
      omega
    · rw [puts_ge h]
      intro x hx
      rcases List.mem_cons.1 hx with rfl | hx
      · omega
      · exact ih (n / 128) (by omega) x hx
theorem le_by : ∀ (k : Nat) (d : Int), ∀ x ∈ le k d, (0 : Int) ≤ x ∧ x < 256
  | 0, _, x, h => (List.not_mem_nil h).elim
  | k + 1, d, x, h => by
    rw [le] at h
    rcases List.mem_cons.1 h with rfl | h
    · omega
    · exact le_by k _ x h
theorem putTok_by {t : Tok} (h : By8 t.x) : ∀ x ∈ putTok t, (0 : Int) ≤ x ∧ x < 256 := by
  intro x hx
  unfold putTok at hx
  split at hx
  · rcases List.mem_cons.1 hx with rfl | hx
    · omega
    · exact le_by _ _ x hx
  · rcases List.mem_cons.1 hx with rfl | hx
    · omega
    · rcases List.mem_append.1 hx with hx | hx
      · exact puts_byT _ x hx
      · obtain ⟨s, hs, hx⟩ := List.mem_flatten.1 hx
        exact h s hs x hx
theorem putToks_by {l : List Tok} (h : ∀ t ∈ l, By8 t.x) : ∀ x ∈ putToks l, (0 : Int) ≤ x ∧ x < 256 := by
  intro x hx
  unfold putToks at hx
  rcases List.mem_append.1 hx with hx | hx
  · exact puts_byT _ x hx
  · obtain ⟨s, hs, hx⟩ := List.mem_flatten.1 hx
    obtain ⟨t, ht, rfl⟩ := List.mem_map.1 hs
    exact putTok_by (h t ht) x hx
theorem datw_by {ts : List TP} (h : DatW (tP ts)) : ∀ t ∈ tms ts, By8 t.x := by
  intro t ht
  obtain ⟨q, hq, rfl⟩ := List.mem_map.1 ht
  exact (h ((⟨q.1.d, q.1.x⟩ : Itm), q.2) (List.mem_map.2 ⟨q, hq, rfl⟩)).2.2
end D29
end Go.Proofs.Ytadfdpkhehdikaa

