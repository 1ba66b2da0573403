/- Texts of this seat, one behind the other: W3 J4 Jl Jm J3 Jn Jo Jp Jq Jr Js Jt Kc Kd Km. -/
import Derived.Test.YtadfdpkhehdikaaQVBc
set_option linter.unusedSimpArgs false
set_option linter.unusedVariables false
set_option linter.unusedSectionVars false
set_option maxRecDepth 3000
/- wire: numbers that are read. -/
namespace Go.Proofs.Ytadfdpkhehdikaa
open Go.RowKit Go.Shelf
theorem rdN_none {xs : List Int} {f i : Nat} {n : Int} (h : xs[i]? = none) : rdN xs (f + 1) i n = (0, 10, 0) := by rw [rdN, h]
theorem rdN_some {xs : List Int} {f i : Nat} {n b : Int} (h : xs[i]? = some b) : rdN xs (f + 1) i n = if 128 ≤ b then rdN xs f (i + 1) (n + b % 128 * 128 ^ i) else if (b = 0 ∧ 0 < i) ∨ 9007199254740991 < n + b % 128 * 128 ^ i then (0, 3, 0) else (n + b % 128 * 128 ^ i, 0, i + 1) := by rw [rdN, h]
/-- The rest of a slice. -/
theorem RdF.drop {α : Type} {enc : α → Value} {own : Nat → Prop} {w : World} {ad : Addr} {xs : List α} (h : Has own w (RdF enc (some ad) xs)) (k m : Nat) (hm : xs.length ≤ m) : Has own w (RdF enc (sadr (some ad) k m 1) (xs.drop k)) := by
  refine h.imp fun w h j x hx => ?_
  rw [List.getElem?_drop] at hx
  have hlt := (List.getElem?_eq_some_iff.1 hx).1
  obtain ⟨b, off, e, hb, hc⟩ := h (k + j) x hx
  injection e with e
  subst e
  refine ⟨b, off + k, ?_, hb, ?_⟩
  · unfold sadr
    rw [if_neg (by omega)]
    simp [add_lit]
  · rw [Nat.add_assoc]
    exact hc
theorem dup0 {own : Nat → Prop} {w w0 : World} {bs : List BoxE} {L : List Ent} {Fs : List (World → Prop)} {f : World → Prop} (hM : Mm own w0 bs L (f :: Fs) w) : Mm own w0 bs L (f :: f :: Fs) w :=
  hM.sub (.refl _) (.refl _) fun g hg => by
    rcases List.mem_cons.1 hg with rfl | hg
    · exact List.mem_cons_self
    · exact hg
theorem mul_bdP {x y a b : Int} (hx : 0 ≤ x ∧ x ≤ a) (hy : 0 ≤ y ∧ y ≤ b) : 0 ≤ x * y ∧ x * y ≤ a * b :=
  ⟨Int.mul_nonneg hx.1 hy.1, Int.mul_le_mul hx.2 hy.2 hy.1 (by omega)⟩
set_option maxRecDepth 20000 in
theorem number_m (xs : List Int) (hxb : ∀ x ∈ xs, 0 ≤ x ∧ x < 256) (hlen : xs.length ≤ 1000000) (a0 : Option Addr) (c0 : Nat) (hc0 : xs.length ≤ c0) {own : Nat → Prop} {w0 W : World} {bs : List BoxE} {L : List Ent} {Fs : List (World → Prop)} {b : Nat} {T : TypeId} (hM : Mm own w0 (⟨b, ⟨[.slice a0 xs.length c0]⟩, T⟩ :: bs) L (RdF (Value.int .u8) a0 xs :: Fs) W) :
    Calls Try.prog 100 ⟨[.pointer (some ⟨b, 0, none⟩)]⟩ W (Rtn fun u w' => u = .tuple #[.int .i64 (rdNum xs).1, .int .i64 (rdNum xs).2.1] ∧ ∃ a' c', xs.length - (rdNum xs).2.2 ≤ c' ∧ Mm own w0 (⟨b, ⟨[.slice a' (xs.length - (rdNum xs).2.2) c']⟩, T⟩ :: bs) L (RdF (Value.int .u8) a' (xs.drop (rdNum xs).2.2) :: RdF (Value.int .u8) a0 xs :: Fs) w') := by
  refine f_start Try.func100 rfl Try.ntmps100 rfl rfl ?_; intro a hF
  (repeat' (first | (with_reducible refine w_seq ?_) | (with_reducible refine c_region ?_) | (with_reducible refine s_nil ?_) | (with_reducible refine q_then_n ?_) | ((with_reducible apply s_pure hF); exact rfl; exact rfl; exact rfl; (first | exact trivial | omega | exact ⟨Int.natCast_nonneg _, Int.ofNat_lt.2 (by assumption)⟩ | decide); clear hF a; intro a hF) | (with_reducible refine w_block ?_)))
  refine c_loop (m := 8) (fun m a w' => ∃ (i : Nat) (n : Int), m + i = 8 ∧ rdNum xs = rdN xs m i n ∧ 0 ≤ n ∧ n < 128 ^ i ∧
    Fr 57 [] [(7, .int .i64 i), (4, .int .i64 n), (0, .pointer (some ⟨b, 0, none⟩))] a ∧
    Mm own w0 (⟨b, ⟨[.slice a0 xs.length c0]⟩, T⟩ :: bs) L (RdF (Value.int .u8) a0 xs :: Fs) w') ⟨0, 0, by omega, rfl, by omega, by simp, hF.sub (by repeat (first | exact Sub.nil | refine Sub.cons rfl (by first | with_reducible rfl | (refine congrArg (Value.int _) ?_; omega) | exact rfl) ?_)), hM⟩ ?_
  clear hF hM a
  rintro m a w' ⟨i, n, hmi, hrd, hn0, hn1, hF, hM⟩
  by_cases hi : i < 8
  case neg =>
    obtain rfl : m = 0 := by omega
    have hr : rdNum xs = (0, 3, 0) := hrd
    rw [hr]
    (repeat' (first | (with_reducible refine w_seq ?_) | (with_reducible refine c_region ?_) | (with_reducible refine s_nil ?_) | (with_reducible refine q_then_n ?_) | ((with_reducible apply s_pure hF); exact rfl; exact rfl; exact rfl; (first | exact trivial | omega | exact ⟨Int.natCast_nonneg _, Int.ofNat_lt.2 (by assumption)⟩ | decide); clear hF a; intro a hF) | (with_reducible refine w_exit ?_) | (with_reducible refine w_ret ?_) | (with_reducible refine q_then_x ?_) | (with_reducible refine q_blk_x ?_) | ((with_reducible apply c_dec hF); exact rfl; all_goals intro hc; all_goals (try (exfalso; omega)))))
    (apply f_ret Try.results100 hF hM; (repeat (first | exact RL.nil | (apply RL.tmp; exact rfl) | (apply RL.cell; exact rfl; (repeat (first | exact List.mem_cons_self | refine List.mem_cons_of_mem _ ?_)); exact rfl))); refine Both.mk ?_; try dsimp only [resV])
    refine ⟨rfl, a0, c0, by simp only [Nat.sub_zero]; exact hc0, ?_⟩
    simp only [List.drop_zero, Nat.sub_zero]
    exact dup0 hM
  obtain ⟨m, rfl⟩ : ∃ k, m = k + 1 := ⟨m - 1, by omega⟩
  obtain ⟨p1, p2, p3⟩ := pow7 ⟨i, hi⟩
  have p4 := pow7s ⟨i, hi⟩
  simp only at p1 p2 p3 p4
  by_cases hin : i < xs.length
  case neg =>
    have hr : rdNum xs = (0, 10, 0) := by rw [hrd]; exact rdN_none (List.getElem?_eq_none (by omega))
    rw [hr]
    (repeat' (first | (with_reducible refine w_seq ?_) | (with_reducible refine c_region ?_) | (with_reducible refine s_nil ?_) | (with_reducible refine q_then_n ?_) | ((with_reducible apply s_pure hF); exact rfl; exact rfl; exact rfl; (first | exact trivial | omega | exact ⟨Int.natCast_nonneg _, Int.ofNat_lt.2 (by assumption)⟩ | decide); clear hF a; intro a hF) | ((with_reducible apply s_load hF hM); exact rfl; exact rfl; (repeat (first | exact List.mem_cons_self | refine List.mem_cons_of_mem _ ?_)); exact rfl; exact rfl; clear hF a; intro a hF) | (with_reducible refine w_skip ?_) | (with_reducible refine w_block ?_) | (with_reducible refine w_ret ?_) | (with_reducible refine q_then_r ?_) | (with_reducible refine q_blk_r ?_) | ((with_reducible apply c_dec hF); exact rfl; all_goals intro hc; all_goals (try (exfalso; omega)))))
    (apply f_ret Try.results100 hF hM; (repeat (first | exact RL.nil | (apply RL.tmp; exact rfl) | (apply RL.cell; exact rfl; (repeat (first | exact List.mem_cons_self | refine List.mem_cons_of_mem _ ?_)); exact rfl))); refine Both.mk ?_; try dsimp only [resV])
    refine ⟨rfl, a0, c0, by simp only [Nat.sub_zero]; exact hc0, ?_⟩
    simp only [List.drop_zero, Nat.sub_zero]
    exact dup0 hM
  obtain ⟨y, hy⟩ := get_of_lt hin
  obtain ⟨ad, rfl⟩ := rd_some hM (by (repeat (first | exact List.mem_cons_self | refine List.mem_cons_of_mem _ ?_))) hy
  have hyb := hxb y (List.mem_of_getElem? hy)
  have hr := hrd.trans (rdN_some hy)
  obtain ⟨P, hP⟩ : ∃ P, (128 : Int) ^ i = P := ⟨_, rfl⟩
  rw [hP] at p1 p2 p3 p4 hn1 hr
  have hmb := mul_bdP (show 0 ≤ y % 128 ∧ y % 128 ≤ 127 by omega) (show 0 ≤ P ∧ P ≤ 562949953421312 by omega)
  have hsh : 0 ≤ 7 * (i : Int) ∧ 7 * (i : Int) ≤ 62 ∧ y % 128 * 2 ^ (7 * (i : Int)).toNat = y % 128 * P ∧ 0 ≤ y % 128 * P ∧ y % 128 * P < 9223372036854775808 := by
    refine ⟨by omega, by omega, ?_, hmb.1, by omega⟩
    rw [show (7 * (i : Int)).toNat = 7 * i by omega, p1]
  have hj : Join n (y % 128 * P) := by
    refine ⟨7 * i, by omega, hn0, by rw [p1]; exact hn1, hmb.1, ?_, by omega⟩
    rw [p1, Int.mul_emod_left]
  obtain ⟨Z, hZ⟩ : ∃ Z, y % 128 * P = Z := ⟨_, rfl⟩
  rw [hZ] at hr hmb hsh hj
  by_cases hbig : 128 ≤ y
  · rw [if_pos hbig] at hr
    have hbd : n + Z < 128 ^ (i + 1) := by
      rw [p4, ← hZ]
      have : y % 128 * P ≤ 127 * P := Int.mul_le_mul_of_nonneg_right (by omega) (by omega)
      omega
    (repeat' (first | (with_reducible refine w_seq ?_) | (with_reducible refine c_region ?_) | (with_reducible refine s_nil ?_) | ((with_reducible apply s_and127 hF); exact rfl; exact rfl; exact rfl; exact rfl; omega; clear hF a; intro a hF) | ((with_reducible apply s_and128 hF); exact rfl; exact rfl; exact rfl; exact rfl; omega; clear hF a; intro a hF) | ((with_reducible apply s_join hF); exact rfl; exact rfl; exact rfl; exact rfl; (with_reducible assumption); clear hF a; intro a hF) | ((with_reducible apply s_shl hF); exact rfl; exact rfl; exact rfl; exact rfl; (with_reducible assumption); clear hF a; intro a hF) | (with_reducible refine q_then_n ?_) | ((with_reducible apply s_pure hF); exact rfl; exact rfl; exact rfl; (first | exact trivial | omega | exact ⟨Int.natCast_nonneg _, Int.ofNat_lt.2 (by assumption)⟩ | decide); clear hF a; intro a hF) | ((with_reducible apply s_load hF hM); exact rfl; exact rfl; (repeat (first | exact List.mem_cons_self | refine List.mem_cons_of_mem _ ?_)); exact rfl; exact rfl; clear hF a; intro a hF) | ((with_reducible apply s_loadF hF hM); exact rfl; exact rfl; (repeat (first | exact List.mem_cons_self | refine List.mem_cons_of_mem _ ?_)); exact rfl; exact rfl; (first | with_reducible assumption | (simp only [Int.toNat_natCast]; with_reducible assumption)); clear hF a; intro a hF) | (with_reducible refine w_skip ?_) | (with_reducible refine w_block ?_) | (with_reducible refine w_exit ?_) | (with_reducible refine q_then_x ?_) | (with_reducible refine q_blk_x ?_) | ((with_reducible apply c_dec hF); exact rfl; all_goals intro hc; all_goals (try (exfalso; omega)))))
    exact ⟨m, by omega, i + 1, n + Z, by omega, hr, by omega, hbd, hF.sub (by repeat (first | exact Sub.nil | refine Sub.cons rfl (by first | with_reducible rfl | (refine congrArg (Value.int _) ?_; omega) | exact rfl) ?_)), hM⟩
  rw [if_neg hbig] at hr
  by_cases hbad : (y = 0 ∧ 0 < i) ∨ 9007199254740991 < n + Z
  · rw [if_pos hbad] at hr
    rw [hr]
    (repeat' (first | (with_reducible refine w_seq ?_) | (with_reducible refine c_region ?_) | (with_reducible refine s_nil ?_) | ((with_reducible apply s_and127 hF); exact rfl; exact rfl; exact rfl; exact rfl; omega; clear hF a; intro a hF) | ((with_reducible apply s_and128 hF); exact rfl; exact rfl; exact rfl; exact rfl; omega; clear hF a; intro a hF) | ((with_reducible apply s_join hF); exact rfl; exact rfl; exact rfl; exact rfl; (with_reducible assumption); clear hF a; intro a hF) | ((with_reducible apply s_shl hF); exact rfl; exact rfl; exact rfl; exact rfl; (with_reducible assumption); clear hF a; intro a hF) | (with_reducible refine q_then_n ?_) | ((with_reducible apply s_pure hF); exact rfl; exact rfl; exact rfl; (first | exact trivial | omega | exact ⟨Int.natCast_nonneg _, Int.ofNat_lt.2 (by assumption)⟩ | decide); clear hF a; intro a hF) | ((with_reducible apply s_load hF hM); exact rfl; exact rfl; (repeat (first | exact List.mem_cons_self | refine List.mem_cons_of_mem _ ?_)); exact rfl; exact rfl; clear hF a; intro a hF) | ((with_reducible apply s_loadF hF hM); exact rfl; exact rfl; (repeat (first | exact List.mem_cons_self | refine List.mem_cons_of_mem _ ?_)); exact rfl; exact rfl; (first | with_reducible assumption | (simp only [Int.toNat_natCast]; with_reducible assumption)); clear hF a; intro a hF) | (with_reducible refine w_skip ?_) | (with_reducible refine w_block ?_) | (with_reducible refine w_ret ?_) | (with_reducible refine q_then_r ?_) | (with_reducible refine q_blk_r ?_) | ((with_reducible apply c_true2 hF); exact rfl; (first | with_reducible rfl | (refine congrArg Value.bool ?_; focus (simp; done)))) | ((with_reducible apply s_skip hF); exact rfl; exact rfl; clear hF a; intro a hF) | ((fail_if_success ((with_reducible refine g_known true hF ?_ ?_); focus exact rfl)); (fail_if_success ((with_reducible refine g_known false hF ?_ ?_); focus exact rfl)); (with_reducible apply g_dec hF); exact rfl; exact rfl; all_goals (clear hF; intro hc hF); all_goals (try (exfalso; omega))) | ((with_reducible apply c_dec hF); exact rfl; all_goals intro hc; all_goals (try (exfalso; omega)))))
    all_goals
      (apply f_ret Try.results100 hF hM; (repeat (first | exact RL.nil | (apply RL.tmp; exact rfl) | (apply RL.cell; exact rfl; (repeat (first | exact List.mem_cons_self | refine List.mem_cons_of_mem _ ?_)); exact rfl))); refine Both.mk ?_; try dsimp only [resV])
      refine ⟨rfl, some ad, c0, by simp only [Nat.sub_zero]; exact hc0, ?_⟩
      simp only [List.drop_zero, Nat.sub_zero]
      exact dup0 hM
  · rw [if_neg hbad] at hr
    rw [hr]
    (repeat' (first | (with_reducible refine w_seq ?_) | (with_reducible refine c_region ?_) | (with_reducible refine s_nil ?_) | ((with_reducible apply s_and127 hF); exact rfl; exact rfl; exact rfl; exact rfl; omega; clear hF a; intro a hF) | ((with_reducible apply s_and128 hF); exact rfl; exact rfl; exact rfl; exact rfl; omega; clear hF a; intro a hF) | ((with_reducible apply s_join hF); exact rfl; exact rfl; exact rfl; exact rfl; (with_reducible assumption); clear hF a; intro a hF) | ((with_reducible apply s_shl hF); exact rfl; exact rfl; exact rfl; exact rfl; (with_reducible assumption); clear hF a; intro a hF) | (with_reducible refine q_then_n ?_) | ((with_reducible apply s_pure hF); exact rfl; exact rfl; exact rfl; (first | exact trivial | omega | exact ⟨Int.natCast_nonneg _, Int.ofNat_lt.2 (by assumption)⟩ | decide); clear hF a; intro a hF) | ((with_reducible apply s_load hF hM); exact rfl; exact rfl; (repeat (first | exact List.mem_cons_self | refine List.mem_cons_of_mem _ ?_)); exact rfl; exact rfl; clear hF a; intro a hF) | ((with_reducible apply s_loadF hF hM); exact rfl; exact rfl; (repeat (first | exact List.mem_cons_self | refine List.mem_cons_of_mem _ ?_)); exact rfl; exact rfl; (first | with_reducible assumption | (simp only [Int.toNat_natCast]; with_reducible assumption)); clear hF a; intro a hF) | ((with_reducible apply s_store hF hM); exact rfl; exact rfl; exact rfl; exact rfl; (repeat (first | exact Upd.z | apply Upd.s)); exact rfl; exact rfl; exact rfl; clear hM; intro w hM) | (with_reducible refine w_skip ?_) | (with_reducible refine w_block ?_) | (with_reducible refine w_ret ?_) | (with_reducible refine q_then_r ?_) | (with_reducible refine q_blk_r ?_) | ((with_reducible apply s_skip hF); exact rfl; exact rfl; clear hF a; intro a hF) | ((fail_if_success ((with_reducible refine g_known true hF ?_ ?_); focus exact rfl)); (fail_if_success ((with_reducible refine g_known false hF ?_ ?_); focus exact rfl)); (with_reducible apply g_dec hF); exact rfl; exact rfl; all_goals (clear hF; intro hc hF); all_goals (try (exfalso; omega))) | ((with_reducible apply c_dec hF); exact rfl; all_goals intro hc; all_goals (try (exfalso; omega)))))
    all_goals
      rw [show ((i : Int) + 1).toNat = i + 1 by omega, Int.toNat_natCast] at hM
      (apply f_ret Try.results100 hF hM; (repeat (first | exact RL.nil | (apply RL.tmp; exact rfl) | (apply RL.cell; exact rfl; (repeat (first | exact List.mem_cons_self | refine List.mem_cons_of_mem _ ?_)); exact rfl))); refine Both.mk ?_; try dsimp only [resV])
      exact ⟨rfl, sadr (some ad) (i + 1) c0 1, c0 - (i + 1), (by show xs.length - (i + 1) ≤ c0 - (i + 1); omega), hM.addFact (RdF.drop (hM.facts (RdF (Value.int .u8) (some ad) xs) List.mem_cons_self) (i + 1) c0 hc0)⟩
theorem rdN_err : ∀ (f i : Nat) (n : Int) (xs : List Int), (rdN xs f i n).2.1 ≠ 0 → (rdN xs f i n).1 = 0 ∧ (rdN xs f i n).2.2 = 0
  | 0, _, _, _, _ => ⟨rfl, rfl⟩
  | f + 1, i, n, xs, h => by
    rw [rdN] at h ⊢
    split
    · exact ⟨rfl, rfl⟩
    · rename_i b hb
      rw [hb] at h
      simp only at h
      split at h
      · rename_i h1
        rw [if_pos h1]
        exact rdN_err f (i + 1) _ xs h
      · rename_i h1
        rw [if_neg h1]
        split at h
        · rename_i h2
          rw [if_pos h2]
          exact ⟨rfl, rfl⟩
        · exact absurd rfl h
theorem cloneB_z (a0 : Option Addr) (c0 : Nat) (xs : List Int) (n : Nat) (hn : xs.length = n) (own : Nat → Prop) (W : World) (hl : ∀ b, own b → b < W.heap.size) (hv : Has own W (RdF (Value.int .u8) a0 xs)) (hb : xs.length ≤ 10000000000) :
    Calls Try.prog 68 ⟨[.slice a0 n c0]⟩ W (Ret W fun v w' => ∃ a' c', v = .slice a' n c' ∧ Owns w' W.heap.size [⟨5, 1, .slice a' n c', n, xs.map (Value.int .u8)⟩]) := by
  subst hn
  exact cloneB_c a0 c0 xs own W hl hv hb
/-- What Int answers: the number, a copy of the rest, the error. -/
def IntR (own : Nat → Prop) (xs : List Int) (b0 : Nat) (v : Value) (w : World) : Prop := ∃ a' n' c', v = .tuple #[.int .i64 (rdNum xs).1, .slice a' n' c', .int .i64 (rdNum xs).2.1] ∧
  (((rdNum xs).2.1 ≠ 0 ∧ a' = none ∧ n' = 0 ∧ c' = 0) ∨ ((rdNum xs).2.1 = 0 ∧ n' = (xs.drop (rdNum xs).2.2).length ∧ Owns w b0 [⟨5, 1, .slice a' n' c', n', (xs.drop (rdNum xs).2.2).map (Value.int .u8)⟩]))
set_option maxRecDepth 20000 in
theorem read_c (xs : List Int) (hxb : ∀ x ∈ xs, 0 ≤ x ∧ x < 256) (hlen : xs.length ≤ 1000000) (a0 : Option Addr) (c0 : Nat) (hc0 : xs.length ≤ c0) (own : Nat → Prop) (W : World) (hl : ∀ b, own b → b < W.heap.size) (hv : Has own W (RdF (Value.int .u8) a0 xs)) :
    Calls Try.prog 99 ⟨[.slice a0 xs.length c0, .func (.func 100) #[] #[]]⟩ W (Ret W (IntR own xs W.heap.size)) := by
  have hM := (Mm.start hl).known hv
  refine f_start Try.func99 rfl Try.ntmps99 rfl rfl ?_; intro a hF
  have hbl : (xs.drop (rdNum xs).2.2).length ≤ 10000000000 := by simp; omega
  by_cases he : (rdNum xs).2.1 = 0
  · (repeat' (first | (with_reducible refine w_seq ?_) | (with_reducible refine c_region ?_) | (with_reducible refine s_nil ?_) | ((with_reducible apply s_callM (f := 100) hF); exact rfl; exact rfl; exact rfl; exact rfl; exact rfl; exact (number_m xs hxb hlen a0 c0 hc0 hM); clear hF hM a; rintro v w a ⟨rfl, a1, c1, hcq, hM⟩ hF) | ((with_reducible apply s_callO (f := 68) hF); exact rfl; exact rfl; exact rfl; exact rfl; exact rfl; exact (cloneB_z a1 c1 (xs.drop (rdNum xs).2.2) _ (by simp) _ _ hM.lt (hM.facts _ (by (repeat (first | exact List.mem_cons_self | refine List.mem_cons_of_mem _ ?_)))) hbl); clear hF a; rintro v wn a ⟨a2, c2, rfl, hO⟩ hS hF; replace hM := hM.addRows hS hO; clear hS hO; dsimp only [List.cons_append, List.nil_append] at hM) | (with_reducible refine q_then_n ?_) | ((with_reducible apply s_pure hF); exact rfl; exact rfl; exact rfl; (first | exact trivial | omega | exact ⟨Int.natCast_nonneg _, Int.ofNat_lt.2 (by assumption)⟩ | decide); clear hF a; intro a hF) | ((with_reducible apply s_load hF hM); exact rfl; exact rfl; (repeat (first | exact List.mem_cons_self | refine List.mem_cons_of_mem _ ?_)); exact rfl; exact rfl; clear hF a; intro a hF) | ((with_reducible apply s_box hF hM); exact rfl; exact rfl; exact rfl; exact rfl; clear hF hM a; intro b w a hM hF) | (with_reducible refine w_skip ?_) | (with_reducible refine w_ret ?_) | ((with_reducible apply c_dec hF); exact rfl; all_goals intro hc; all_goals (try (exfalso; omega)))))
    (apply f_ret Try.results99 hF hM; (repeat (first | exact RL.nil | (apply RL.tmp; exact rfl) | (apply RL.cell; exact rfl; (repeat (first | exact List.mem_cons_self | refine List.mem_cons_of_mem _ ?_)); exact rfl))); refine Ret.mk hM.since ?_; dsimp only [resV])
    have hO2 := hM.mem.own
    refine ⟨a2, _, c2, by rw [he], .inr ⟨he, by simp, ?_⟩⟩
    exact hO2
  · (repeat' (first | (with_reducible refine w_seq ?_) | (with_reducible refine c_region ?_) | (with_reducible refine s_nil ?_) | ((with_reducible apply s_callM (f := 100) hF); exact rfl; exact rfl; exact rfl; exact rfl; exact rfl; exact (number_m xs hxb hlen a0 c0 hc0 hM); clear hF hM a; rintro v w a ⟨rfl, a1, c1, hcq, hM⟩ hF) | (with_reducible refine q_then_n ?_) | ((with_reducible apply s_pure hF); exact rfl; exact rfl; exact rfl; (first | exact trivial | omega | exact ⟨Int.natCast_nonneg _, Int.ofNat_lt.2 (by assumption)⟩ | decide); clear hF a; intro a hF) | ((with_reducible apply s_box hF hM); exact rfl; exact rfl; exact rfl; exact rfl; clear hF hM a; intro b w a hM hF) | (with_reducible refine w_ret ?_) | (with_reducible refine q_then_r ?_) | ((with_reducible apply c_dec hF); exact rfl; all_goals intro hc; all_goals (try (exfalso; omega)))))
    (apply f_ret Try.results99 hF hM; (repeat (first | exact RL.nil | (apply RL.tmp; exact rfl) | (apply RL.cell; exact rfl; (repeat (first | exact List.mem_cons_self | refine List.mem_cons_of_mem _ ?_)); exact rfl))); refine Ret.mk hM.since ?_; dsimp only [resV])
    exact ⟨none, 0, 0, by rw [show (rdNum xs).1 = 0 from (rdN_err 8 0 0 xs he).1], .inl ⟨he, rfl, rfl, rfl⟩⟩
section
variable (xs : List Int) (hxb : ∀ x ∈ xs, 0 ≤ x ∧ x < 256) (hlen : xs.length ≤ 1000000) (a0 : Option Addr) (c0 : Nat) (hc0 : xs.length ≤ c0) (own : Nat → Prop) (W : World) (hl : ∀ b, own b → b < W.heap.size) (hv : Has own W (RdF (Value.int .u8) a0 xs))
include hxb hlen hc0 hl hv
theorem read_ok (he : (rdNum xs).2.1 = 0) : Calls Try.prog 99 ⟨[.slice a0 xs.length c0, .func (.func 100) #[] #[]]⟩ W (Ret W fun v w' => ∃ a' c', v = .tuple #[.int .i64 (rdNum xs).1, .slice a' (xs.drop (rdNum xs).2.2).length c', .int .i64 0] ∧ Owns w' W.heap.size [⟨5, 1, .slice a' (xs.drop (rdNum xs).2.2).length c', (xs.drop (rdNum xs).2.2).length, (xs.drop (rdNum xs).2.2).map (Value.int .u8)⟩]) := by
  refine (read_c xs hxb hlen a0 c0 hc0 own W hl hv).mono ?_
  rintro e w' ⟨v, rfl, hs, a', n', c', rfl, h⟩
  rcases h with ⟨h, _⟩ | ⟨_, rfl, hO⟩
  · exact absurd he h
  · exact ⟨_, rfl, hs, a', c', by rw [he], hO⟩
theorem read_err (he : (rdNum xs).2.1 ≠ 0) : Calls Try.prog 99 ⟨[.slice a0 xs.length c0, .func (.func 100) #[] #[]]⟩ W (Ret W fun v _ => v = .tuple #[.int .i64 0, .slice none 0 0, .int .i64 (rdNum xs).2.1]) := by
  refine (read_c xs hxb hlen a0 c0 hc0 own W hl hv).mono ?_
  rintro e w' ⟨v, rfl, hs, a', n', c', rfl, h⟩
  rcases h with ⟨_, rfl, rfl, rfl⟩ | ⟨h, _⟩
  · exact ⟨_, rfl, hs, by rw [show (rdNum xs).1 = 0 from (rdN_err 8 0 0 xs he).1]⟩
  · exact absurd h he
theorem Int_ok (he : (rdNum xs).2.1 = 0) : Calls Try.prog 64 ⟨[.slice a0 xs.length c0]⟩ W (Ret W fun v w' => ∃ a' c', v = .tuple #[.int .i64 (rdNum xs).1, .slice a' (xs.drop (rdNum xs).2.2).length c', .int .i64 0] ∧ Owns w' W.heap.size [⟨5, 1, .slice a' (xs.drop (rdNum xs).2.2).length c', (xs.drop (rdNum xs).2.2).length, (xs.drop (rdNum xs).2.2).map (Value.int .u8)⟩]) := by
  have hM := (Mm.start hl).known hv
  refine f_start Try.func64 rfl Try.ntmps64 rfl rfl ?_; intro a hF
  (repeat (first | (with_reducible refine w_seq ?_) | (with_reducible refine c_region ?_) | (with_reducible refine s_nil ?_) | ((with_reducible apply s_callO (f := 99) hF); exact rfl; exact rfl; exact rfl; exact rfl; exact rfl; exact (read_ok xs hxb hlen a0 c0 hc0 _ _ hM.lt (hM.facts _ (by (repeat (first | exact List.mem_cons_self | refine List.mem_cons_of_mem _ ?_)))) he); clear hF a; rintro v wn a ⟨a1, c1, rfl, hO⟩ hS hF; replace hM := hM.addRows hS hO; clear hS hO; dsimp only [List.cons_append, List.nil_append] at hM) | (with_reducible refine q_then_n ?_) | ((with_reducible apply s_pure hF); exact rfl; exact rfl; exact rfl; (first | exact trivial | omega | exact ⟨Int.natCast_nonneg _, Int.ofNat_lt.2 (by assumption)⟩ | decide); clear hF a; intro a hF) | (with_reducible refine w_ret ?_)))
  (apply f_ret Try.results64 hF hM; (repeat (first | exact RL.nil | (apply RL.tmp; exact rfl) | (apply RL.cell; exact rfl; (repeat (first | exact List.mem_cons_self | refine List.mem_cons_of_mem _ ?_)); exact rfl))); refine Ret.mk hM.since ?_; dsimp only [resV])
  exact ⟨a1, c1, rfl, hM.mem.own⟩
theorem Int_err (he : (rdNum xs).2.1 ≠ 0) : Calls Try.prog 64 ⟨[.slice a0 xs.length c0]⟩ W (Ret W fun v _ => v = .tuple #[.int .i64 0, .slice none 0 0, .int .i64 (rdNum xs).2.1]) := by
  have hM := (Mm.start hl).known hv
  refine f_start Try.func64 rfl Try.ntmps64 rfl rfl ?_; intro a hF
  (repeat (first | (with_reducible refine w_seq ?_) | (with_reducible refine c_region ?_) | (with_reducible refine s_nil ?_) | ((with_reducible apply s_call (f := 99) hF hM); exact rfl; exact rfl; exact rfl; exact rfl; exact rfl; exact (read_err xs hxb hlen a0 c0 hc0 _ _ hM.lt (hM.facts _ (by (repeat (first | exact List.mem_cons_self | refine List.mem_cons_of_mem _ ?_)))) he); clear hF hM a; rintro v w a rfl - hM hF) | (with_reducible refine q_then_n ?_) | ((with_reducible apply s_pure hF); exact rfl; exact rfl; exact rfl; (first | exact trivial | omega | exact ⟨Int.natCast_nonneg _, Int.ofNat_lt.2 (by assumption)⟩ | decide); clear hF a; intro a hF) | (with_reducible refine w_ret ?_)))
  (apply f_ret Try.results64 hF hM; (repeat (first | exact RL.nil | (apply RL.tmp; exact rfl) | (apply RL.cell; exact rfl; (repeat (first | exact List.mem_cons_self | refine List.mem_cons_of_mem _ ?_)); exact rfl))); refine Ret.mk hM.since ?_; dsimp only [resV])
end
end Go.Proofs.Ytadfdpkhehdikaa


/- Plain laws of layer 29: tokens in bytes. -/
namespace Go.Proofs.Ytadfdpkhehdikaa
namespace D29
/-- Numbers that are put are read. -/
theorem rdN_puts (n : Nat) : ∀ (i f : Nat) (acc : Int) (xs ys : List Int), xs.drop i = puts n ++ ys → (puts n).length ≤ f → 0 ≤ acc → acc + n * 128 ^ i ≤ 9007199254740991 → (n = 0 → i = 0) → rdN xs f i acc = (acc + n * 128 ^ i, 0, i + (puts n).length) := by
  induction n using Nat.strongRecOn with
  | _ n ih =>
    intro i f acc xs ys hd hf ha hb h0
    have get0 : ∀ (b : Int) (r : List Int), puts n = b :: r → xs[i]? = some b := by
      intro b r e
      have : (xs.drop i)[0]? = some b := by rw [hd, e]; rfl
      rw [List.getElem?_drop] at this
      exact this
    by_cases h : n < 128
    · have e := puts_lt h
      rw [e] at hf ⊢
      simp only [List.length_cons, List.length_nil] at hf ⊢
      obtain ⟨f, rfl⟩ : ∃ k, f = k + 1 := ⟨f - 1, by omega⟩
      rw [rdN_some (get0 _ _ e), if_neg (by omega), if_neg]
      · rw [show ((n : Int)) % 128 = n by omega]
      · rw [show ((n : Int)) % 128 = n by omega]
        rintro (⟨h1, h2⟩ | h1)
        · have := h0 (by omega); omega
        · omega
    · have e := puts_ge h
      rw [e] at hf ⊢
      simp only [List.length_cons] at hf ⊢
      obtain ⟨f, rfl⟩ : ∃ k, f = k + 1 := ⟨f - 1, by omega⟩
      rw [rdN_some (get0 _ _ e), if_pos (by omega)]
      have hm : ((n % 128 + 128 : Nat) : Int) % 128 = ((n % 128 : Nat) : Int) := by omega
      rw [hm]
      have hp : (0 : Int) ≤ 128 ^ i := Int.pow_nonneg (by decide)
      have hq : ((n % 128 : Nat) : Int) * 128 ^ i + ((n / 128 : Nat) : Int) * 128 ^ (i + 1) = (n : Int) * 128 ^ i := by
        rw [Int.pow_succ, Int.mul_comm (128 ^ i) 128, ← Int.mul_assoc, ← Int.add_mul]
        congr 1
        omega
      have := ih (n / 128) (by omega) (i + 1) f (acc + ((n % 128 : Nat) : Int) * 128 ^ i) xs ys (by
        have h2 : xs.drop (i + 1) = (xs.drop i).drop 1 := by rw [List.drop_drop]
        rw [h2, hd, e]
        rfl) (by omega) (Int.add_nonneg ha (Int.mul_nonneg (by omega) hp)) (by rw [Int.add_assoc, hq]; exact hb) (fun h => by omega)
      rw [this, Int.add_assoc, hq]
      congr 2
      omega
theorem rdNum_puts {n : Nat} (hn : n ≤ 9007199254740991) (ys : List Int) : rdNum (puts n ++ ys) = ((n : Int), 0, (puts n).length) := by
  have := rdN_puts n 0 8 0 (puts n ++ ys) ys (by simp) (puts_len 7 n (by omega)) (by omega) (by omega) (fun _ => rfl)
  unfold rdNum
  rw [this]
  simp
/-- Numbers that are read have these bytes. -/
theorem rdN_can : ∀ (f i : Nat) (acc : Int) (xs : List Int), (∀ x ∈ xs, 0 ≤ x ∧ x < 256) → (rdN xs f i acc).2.1 = 0 → ∃ m : Nat, (rdN xs f i acc).1 = acc + m * 128 ^ i ∧ xs.drop i = puts m ++ xs.drop (rdN xs f i acc).2.2 ∧ (m = 0 → i = 0)
  | 0, i, acc, xs, hb, h => by rw [rdN] at h; exact absurd h (by decide)
  | f + 1, i, acc, xs, hb, h => by
    cases hx : xs[i]? with
    | none => rw [rdN_none hx] at h; exact absurd h (by decide)
    | some b =>
      have hbb := hb b (List.mem_of_getElem? hx)
      have hd : xs.drop i = b :: xs.drop (i + 1) := by
        obtain ⟨hi, e⟩ := List.getElem?_eq_some_iff.1 hx
        rw [List.drop_eq_getElem_cons hi, e]
      rw [rdN_some hx] at h ⊢
      split at h
      · rename_i h1
        rw [if_pos h1]
        obtain ⟨m, e1, e2, e3⟩ := rdN_can f (i + 1) _ xs hb h
        refine ⟨m * 128 + (b % 128).toNat, ?_, ?_, fun e => by have := e3 (by omega); omega⟩
        · rw [e1, Int.add_assoc, Int.pow_succ, Int.mul_comm (128 ^ i) 128, ← Int.mul_assoc, ← Int.add_mul]
          congr 2
          omega
        · have hm : m ≠ 0 := fun e => by have := e3 e; omega
          rw [hd, e2, puts_ge (n := m * 128 + (b % 128).toNat) (by omega), List.cons_append, show (m * 128 + (b % 128).toNat) / 128 = m by omega]
          congr 1
          omega
      · rename_i h1
        rw [if_neg h1]
        split at h
        · exact absurd h (by decide)
        · rename_i h2
          rw [if_neg h2]
          refine ⟨b.toNat, ?_, ?_, fun e => ?_⟩
          · show acc + b % 128 * 128 ^ i = _
            rw [show b % 128 = ((b.toNat : Nat) : Int) by omega]
          · rw [hd, puts_lt (by omega), show ((b.toNat : Nat) : Int) = b by omega]
            rfl
          · apply Classical.byContradiction
            intro hi
            exact h2 (.inl ⟨by omega, by omega⟩)
theorem rdNum_can {xs : List Int} (hb : ∀ x ∈ xs, 0 ≤ x ∧ x < 256) (h : (rdNum xs).2.1 = 0) : ∃ m : Nat, (rdNum xs).1 = m ∧ xs = puts m ++ xs.drop (rdNum xs).2.2 := by
  obtain ⟨m, e1, e2, -⟩ := rdN_can 8 0 0 xs hb h
  exact ⟨m, by unfold rdNum; rw [e1]; simp, by unfold rdNum; simpa using e2⟩
/-- Sectors that are read. -/
def rdSec : Nat → List Int → Except Int (Dat × List Int)
  | 0, xs => .ok ([], xs)
  | k + 1, xs => if xs.length < 8 then .error 10 else match rdSec k (xs.drop 8) with
    | .error e => .error e
    | .ok (l, ys) => .ok (xs.take 8 :: l, ys)
def rdSecs (xs : List Int) : Except Int (Dat × List Int) := if (rdNum xs).2.1 ≠ 0 then .error (rdNum xs).2.1 else if 65536 < (rdNum xs).1 then .error 5 else rdSec (rdNum xs).1.toNat (xs.drop (rdNum xs).2.2)
/-- The bytes of a word, the least one first. -/
def le : Nat → Int → List Int
  | 0, _ => []
  | k + 1, d => d % 256 :: le k (d / 256)
def un : List Int → Int
  | [] => 0
  | x :: r => x + 256 * un r
def rdTok : List Int → Except Int (Tok × List Int)
  | [] => .error 10
  | m :: r => if m = 0 then match rdSecs r with
      | .error e => .error e
      | .ok (x, ys) => if isCh x = true then .ok (⟨false, 0, x⟩, ys) else .error 3
    else if m = 1 then if r.length < 8 then .error 10 else .ok (⟨true, un (r.take 8), []⟩, r.drop 8) else .error 3
def rdToks : Nat → List Int → Except Int (List Tok × List Int)
  | 0, xs => .ok ([], xs)
  | k + 1, xs => match rdTok xs with
    | .error e => .error e
    | .ok (t, ys) => match rdToks k ys with
      | .error e => .error e
      | .ok (l, zs) => .ok (t :: l, zs)
def rdTokens (xs : List Int) : Except Int (List Tok × List Int) := if (rdNum xs).2.1 ≠ 0 then .error (rdNum xs).2.1 else if 65536 < (rdNum xs).1 then .error 5 else rdToks (rdNum xs).1.toNat (xs.drop (rdNum xs).2.2)
def putTok (t : Tok) : List Int := if t.r then 1 :: le 8 t.d else 0 :: (puts t.x.length ++ t.x.flatten)
def putToks (l : List Tok) : List Int := puts l.length ++ (l.map putTok).flatten
theorem le_len : ∀ (k : Nat) (d : Int), (le k d).length = k
  | 0, _ => rfl
  | k + 1, d => by rw [le, List.length_cons, le_len k]
theorem un_le : ∀ (k : Nat) (d : Int), 0 ≤ d → d < 256 ^ k → un (le k d) = d
  | 0, d, h0, h1 => by simp at h1; simp [le, un]; omega
  | k + 1, d, h0, h1 => by
    rw [le, un, un_le k (d / 256) (by omega) (Int.ediv_lt_of_lt_mul (by decide) (by rw [Int.pow_succ] at h1; exact h1))]
    omega
theorem le_un : ∀ (xs : List Int), (∀ x ∈ xs, 0 ≤ x ∧ x < 256) → le xs.length (un xs) = xs
  | [], _ => rfl
  | x :: r, h => by
    have hx := h x List.mem_cons_self
    rw [un, List.length_cons, le, show (x + 256 * un r) % 256 = x by omega, show (x + 256 * un r) / 256 = un r by omega, le_un r fun y hy => h y (List.mem_cons_of_mem _ hy)]
theorem un_bd : ∀ (xs : List Int), (∀ x ∈ xs, 0 ≤ x ∧ x < 256) → 0 ≤ un xs ∧ un xs < 256 ^ xs.length
  | [], _ => by simp [un]
  | x :: r, h => by
    have hx := h x List.mem_cons_self
    have := un_bd r fun y hy => h y (List.mem_cons_of_mem _ hy)
    rw [un, List.length_cons, Int.pow_succ]
    omega
theorem rdSec_flat : ∀ {x : Dat} (_ : ∀ s ∈ x, s.length = 8) (ys : List Int), rdSec x.length (x.flatten ++ ys) = .ok (x, ys)
  | [], _, ys => rfl
  | s :: r, h, ys => by
    have hs := h s List.mem_cons_self
    rw [List.length_cons, rdSec, List.flatten_cons, List.append_assoc]
    rw [if_neg (by rw [List.length_append]; omega), List.drop_left' hs, List.take_left' hs, rdSec_flat (fun y hy => h y (List.mem_cons_of_mem _ hy))]
theorem rdSec_can : ∀ {k : Nat} {xs : List Int} {x : Dat} {ys : List Int}, rdSec k xs = .ok (x, ys) → xs = x.flatten ++ ys ∧ x.length = k ∧ ∀ s ∈ x, s.length = 8
  | 0, xs, x, ys, h => by
    injection h with h
    injection h with h1 h2
    subst h1 h2
    simp
  | k + 1, xs, x, ys, h => by
    rw [rdSec] at h
    split at h
    · cases h
    · rename_i hl
      cases hr : rdSec k (xs.drop 8) with
      | error e => rw [hr] at h; cases h
      | ok p =>
        obtain ⟨l, zs⟩ := p
        rw [hr] at h
        injection h with h
        injection h with h1 h2
        subst h1 h2
        obtain ⟨q1, q2, q3⟩ := rdSec_can hr
        refine ⟨?_, by rw [List.length_cons, q2], ?_⟩
        · rw [List.flatten_cons, List.append_assoc, ← q1, List.take_append_drop]
        · intro s hs
          rcases List.mem_cons.1 hs with rfl | hs
          · rw [List.length_take]; omega
          · exact q3 s hs
theorem rdSecs_put {x : Dat} (h : ∀ s ∈ x, s.length = 8) (hl : x.length ≤ 65536) (ys : List Int) : rdSecs (puts x.length ++ (x.flatten ++ ys)) = .ok (x, ys) := by
  have e := rdNum_puts (n := x.length) (by omega) (x.flatten ++ ys)
  unfold rdSecs
  rw [e]
  simp only [ne_eq, not_true_eq_false, if_false]
  rw [if_neg (by omega), Int.toNat_natCast, List.drop_left]
  exact rdSec_flat h ys
theorem rdSecs_can {xs : List Int} (hb : ∀ x ∈ xs, 0 ≤ x ∧ x < 256) {x : Dat} {ys : List Int} (h : rdSecs xs = .ok (x, ys)) : xs = puts x.length ++ (x.flatten ++ ys) ∧ ∀ s ∈ x, s.length = 8 := by
  unfold rdSecs at h
  split at h
  · cases h
  · rename_i h0
    split at h
    · cases h
    · obtain ⟨m, e1, e2⟩ := rdNum_can hb (by simpa using h0)
      rw [e1, Int.toNat_natCast] at h
      obtain ⟨q1, q2, q3⟩ := rdSec_can h
      refine ⟨?_, q3⟩
      rw [← q1, q2]
      exact e2
/-- A token whose sectors have their length, and whose digest is a word. -/
def TokW (t : Tok) : Prop := (∀ s ∈ t.x, s.length = 8) ∧ 0 ≤ t.d ∧ t.d < 18446744073709551616
theorem rdTok_put {t : Tok} (h : TokW t) (hc : corT t = true) (ys : List Int) : rdTok (putTok t ++ ys) = .ok (t, ys) := by
  obtain ⟨r, d, x⟩ := t
  obtain ⟨h1, h2, h3⟩ := h
  unfold putTok
  cases r with
  | true =>
    have hx : x = [] := by simpa [corT] using hc
    subst hx
    have hl := le_len 8 d
    simp only [if_true]
    show rdTok (1 :: (le 8 d ++ ys)) = _
    rw [rdTok, if_neg (by decide), if_pos rfl, if_neg (by rw [List.length_append]; omega), List.take_left' hl, List.drop_left' hl, un_le 8 d h2 (by simpa using h3)]
  | false =>
    have hx : d = 0 ∧ isCh x = true := by simpa [corT] using hc
    obtain ⟨rfl, hx⟩ := hx
    have hlen : x.length ≤ 4096 := by
      unfold isCh at hx
      rw [decide_eq_true_eq] at hx
      exact hx.2
    simp only [Bool.false_eq_true, if_false]
    show rdTok (0 :: (puts x.length ++ x.flatten ++ ys)) = _
    rw [rdTok, if_pos rfl, List.append_assoc, rdSecs_put (x := x) h1 (by omega)]
    simp only [hx, if_true]
theorem rdTok_can {xs : List Int} (hb : ∀ x ∈ xs, 0 ≤ x ∧ x < 256) {t : Tok} {ys : List Int} (h : rdTok xs = .ok (t, ys)) : xs = putTok t ++ ys := by
  cases xs with
  | nil => cases h
  | cons m r =>
    have hbr : ∀ x ∈ r, 0 ≤ x ∧ x < 256 := fun x hx => hb x (List.mem_cons_of_mem _ hx)
    rw [rdTok] at h
    split at h
    · rename_i hm
      cases hs : rdSecs r with
      | error e => rw [hs] at h; cases h
      | ok p =>
        obtain ⟨x, zs⟩ := p
        rw [hs] at h
        simp only at h
        split at h
        · injection h with h
          injection h with h1 h2
          subst h1 h2
          obtain ⟨q1, -⟩ := rdSecs_can hbr hs
          rw [hm, q1]
          simp [putTok]
        · cases h
    · split at h
      · rename_i hm
        split at h
        · cases h
        · rename_i hl
          injection h with h
          injection h with h1 h2
          subst h1 h2
          have e := le_un (r.take 8) fun x hx => hbr x (List.mem_of_mem_take hx)
          rw [List.length_take, show min 8 r.length = 8 by omega] at e
          rw [hm]
          unfold putTok
          simp only [if_true]
          rw [e, List.cons_append, List.take_append_drop]
      · cases h
theorem rdToks_put : ∀ {l : List Tok} (_ : ∀ t ∈ l, TokW t ∧ corT t = true) (ys : List Int), rdToks l.length ((l.map putTok).flatten ++ ys) = .ok (l, ys)
  | [], _, _ => rfl
  | t :: r, h, ys => by
    have ht := h t List.mem_cons_self
    rw [List.length_cons, rdToks, List.map_cons, List.flatten_cons, List.append_assoc, rdTok_put ht.1 ht.2]
    simp only
    rw [rdToks_put fun s hs => h s (List.mem_cons_of_mem _ hs)]
theorem tokens_put {l : List Tok} (h : ∀ t ∈ l, TokW t ∧ corT t = true) (hl : l.length ≤ 65536) (ys : List Int) : rdTokens (putToks l ++ ys) = .ok (l, ys) := by
  unfold putToks
  rw [List.append_assoc]
  have e := rdNum_puts (n := l.length) (by omega) ((l.map putTok).flatten ++ ys)
  unfold rdTokens
  rw [e]
  simp only [ne_eq, not_true_eq_false, if_false]
  rw [if_neg (by omega), Int.toNat_natCast, List.drop_left]
  exact rdToks_put h ys
end D29
end Go.Proofs.Ytadfdpkhehdikaa


/- dedup: correct, Decode. -/
namespace Go.Proofs.Ytadfdpkhehdikaa
open Go.RowKit Go.Shelf D29
theorem correct1_c (r : Bool) (d : Int) (x : Dat) (ax : Option Addr) (cx q : Nat) (hq : x.length = q) (own : Nat → Prop) (W : World) (hl : ∀ b, own b → b < W.heap.size) :
    Calls Try.prog 41 ⟨[.agg ⟨[.bool r, .int .u64 d, .slice ax q cx]⟩]⟩ W (Ret W fun v _ => v = .bool (corT ⟨r, d, x⟩)) := by
  have hM := Mm.start hl
  unfold corT
  dsimp only
  have h0 : (x = []) ↔ (q : Int) = 0 := by rw [← List.length_eq_zero_iff, hq]; omega
  rw [show decide (x = []) = decide ((q : Int) = 0) from decide_eq_decide.2 h0]
  refine f_start Try.func41 rfl Try.ntmps41 rfl rfl ?_; intro a hF
  cases r with
  | true =>
    (repeat' (first | (with_reducible refine w_seq ?_) | (with_reducible refine c_region ?_) | (with_reducible refine s_nil ?_) | (with_reducible refine q_then_n ?_) | ((with_reducible apply s_pure hF); exact rfl; exact rfl; exact rfl; (first | exact trivial | omega | exact ⟨Int.natCast_nonneg _, Int.ofNat_lt.2 (by assumption)⟩ | decide); clear hF a; intro a hF) | ((with_reducible apply s_load hF hM); exact rfl; exact rfl; (repeat (first | exact List.mem_cons_self | refine List.mem_cons_of_mem _ ?_)); exact rfl; exact rfl; clear hF a; intro a hF) | ((with_reducible apply s_box hF hM); exact rfl; exact rfl; exact rfl; exact rfl; clear hF hM a; intro b w a hM hF) | (with_reducible refine w_ret ?_) | (with_reducible refine q_then_r ?_) | ((with_reducible apply c_true2 hF); exact rfl; (first | with_reducible rfl | (refine congrArg Value.bool ?_; focus (simp; done))))))
    all_goals (apply f_ret Try.results41 hF hM; (repeat (first | exact RL.nil | (apply RL.tmp; exact rfl) | (apply RL.cell; exact rfl; (repeat (first | exact List.mem_cons_self | refine List.mem_cons_of_mem _ ?_)); exact rfl))); refine Ret.mk hM.since ?_; dsimp only [resV])
    all_goals rfl
  | false =>
    by_cases hd : d = 0
    · rw [decide_eq_true hd]
      (repeat' (first | (with_reducible refine w_seq ?_) | (with_reducible refine c_region ?_) | (with_reducible refine s_nil ?_) | ((with_reducible apply s_call (f := 48) hF hM); exact rfl; exact rfl; exact rfl; exact rfl; exact rfl; exact (isChunk_c x ax cx q hq _ _ hM.lt); clear hF hM a; rintro v w a rfl - hM hF) | (with_reducible refine q_then_n ?_) | ((with_reducible apply s_pure hF); exact rfl; exact rfl; exact rfl; (first | exact trivial | omega | exact ⟨Int.natCast_nonneg _, Int.ofNat_lt.2 (by assumption)⟩ | decide); clear hF a; intro a hF) | ((with_reducible apply s_load hF hM); exact rfl; exact rfl; (repeat (first | exact List.mem_cons_self | refine List.mem_cons_of_mem _ ?_)); exact rfl; exact rfl; clear hF a; intro a hF) | ((with_reducible apply s_box hF hM); exact rfl; exact rfl; exact rfl; exact rfl; clear hF hM a; intro b w a hM hF) | (with_reducible refine w_skip ?_) | (with_reducible refine w_ret ?_) | ((with_reducible apply c_false2 hF); exact rfl; (first | with_reducible rfl | (refine congrArg Value.bool ?_; focus (simp; done)))) | ((fail_if_success ((with_reducible refine g_known true hF ?_ ?_); focus exact rfl)); (fail_if_success ((with_reducible refine g_known false hF ?_ ?_); focus exact rfl)); (with_reducible apply g_dec hF); exact rfl; exact rfl; all_goals (clear hF; intro hc hF); all_goals (try (exfalso; omega)))))
      all_goals (apply f_ret Try.results41 hF hM; (repeat (first | exact RL.nil | (apply RL.tmp; exact rfl) | (apply RL.cell; exact rfl; (repeat (first | exact List.mem_cons_self | refine List.mem_cons_of_mem _ ?_)); exact rfl))); refine Ret.mk hM.since ?_; dsimp only [resV])
      all_goals rfl
    · rw [decide_eq_false hd]
      (repeat' (first | (with_reducible refine w_seq ?_) | (with_reducible refine c_region ?_) | (with_reducible refine s_nil ?_) | (with_reducible refine q_then_n ?_) | ((with_reducible apply s_pure hF); exact rfl; exact rfl; exact rfl; (first | exact trivial | omega | exact ⟨Int.natCast_nonneg _, Int.ofNat_lt.2 (by assumption)⟩ | decide); clear hF a; intro a hF) | ((with_reducible apply s_load hF hM); exact rfl; exact rfl; (repeat (first | exact List.mem_cons_self | refine List.mem_cons_of_mem _ ?_)); exact rfl; exact rfl; clear hF a; intro a hF) | ((with_reducible apply s_box hF hM); exact rfl; exact rfl; exact rfl; exact rfl; clear hF hM a; intro b w a hM hF) | (with_reducible refine w_skip ?_) | (with_reducible refine w_ret ?_) | ((with_reducible apply c_false2 hF); exact rfl; (first | with_reducible rfl | (refine congrArg Value.bool ?_; focus (simp; done)))) | ((with_reducible apply s_skip hF); exact rfl; exact rfl; clear hF a; intro a hF) | ((fail_if_success ((with_reducible refine g_known true hF ?_ ?_); focus exact rfl)); (fail_if_success ((with_reducible refine g_known false hF ?_ ?_); focus exact rfl)); (with_reducible apply g_dec hF); exact rfl; exact rfl; all_goals (clear hF; intro hc hF); all_goals (try (exfalso; omega)))))
      all_goals (apply f_ret Try.results41 hF hM; (repeat (first | exact RL.nil | (apply RL.tmp; exact rfl) | (apply RL.cell; exact rfl; (repeat (first | exact List.mem_cons_self | refine List.mem_cons_of_mem _ ?_)); exact rfl))); refine Ret.mk hM.since ?_; dsimp only [resV])
      all_goals rfl
theorem correct_c (t : TP) (own : Nat → Prop) (W : World) (hl : ∀ b, own b → b < W.heap.size) :
    Calls Try.prog 41 ⟨[.agg ⟨tkC t⟩]⟩ W (Ret W fun v _ => v = .bool (corT t.1)) := correct1_c t.1.r t.1.d t.1.x t.2.1 t.2.2 _ rfl own W hl
namespace D29
/-- What Decode answers. -/
def decR (c : St) (l : List Tok) : Except Int (List Itm × Dat) := if check c ≠ 0 then .error (check c) else decI c.cap l c.items []
def decP (own : Nat → Prop) (cp : Int) (r : Except Int (List Itm × Dat)) (v : Value) (w' : World) : Prop := match r with
  | .error e => v = .tuple #[.agg #[.int .i64 0, .slice none 0 0], .slice none 0 0, .int .i64 e]
  | .ok r => ∃ (a : Option Addr) (c : Nat) (a2 : Option Addr) (c2 : Nat), v = .tuple #[.agg #[.int .i64 cp, .slice a r.1.length c], .slice a2 r.2.length c2, .int .i64 0] ∧ ItR own r.1 a c w' ∧ Has own w' (RdF (Value.int .u8) a2 r.2.flatten) ∧ r.2.length ≤ c2 ∧ W8 r.2 ∧ ∀ s ∈ r.2, ∀ b ∈ s, 0 ≤ b ∧ b < 256
theorem rd_cells {own : Nat → Prop} {w : World} {α : Type} {enc : α → Value} {ad : Addr} {ys : List α} (h : Has own w (RdF enc (some ad) ys)) : ∀ (j : Nat) (u : Value), (ys.map enc)[j]? = some u → w.cell? (ad.add j) = some u := by
  intro j u hu
  rw [List.getElem?_map] at hu
  cases hy : ys[j]? with
  | none => rw [hy] at hu; cases hu
  | some y =>
    rw [hy] at hu
    injection hu with hu
    obtain ⟨b, off, e, hb, hc⟩ := h.get j y hy
    injection e with e
    subst e
    rw [add_lit, hc, hu]
theorem decI_cons (cap : Int) (t : Tok) (r : List Tok) (l : List Itm) (o : Dat) : decI cap (t :: r) l o = if !corT t then .error 3 else match (if t.r then findI l t.d else some t.x) with
    | none => .error 25
    | some x => decI cap r (addI cap l x) (o ++ x) := rfl
/-- What Decode keeps. -/
structure DecS (cp : Int) (its : List P) (iv : Value) (eI : Ent) (E : List TE) (o : Dat) (k : Nat) : Prop where
  it : Its (ims its)
  st : StI its iv eI E
  ln : (its.length : Int) ≤ cp
  o8 : W8 o
  ob : ∀ s ∈ o, ∀ b ∈ s, 0 ≤ b ∧ b < 256
  ol : o.length ≤ k * 4096
theorem Its.ch4 {its : List P} (h : Its (ims its)) : ∀ q ∈ its, q.1.x.length ≤ 4096 := by
  intro q hq
  have := h.ch q.1 (List.mem_map.2 ⟨q, hq, rfl⟩)
  unfold isCh at this
  rw [decide_eq_true_eq] at this
  exact this.2
end D29
section
variable (cp : Int) (ps : List P) (a0 : Option Addr) (c0 n : Nat) (hn : ps.length = n) (hlen : n ≤ 100000) (hDW : DatW ps) (hpx : ∀ p ∈ ps, p.1.x.length ≤ 100000) (own : Nat → Prop) (W : World) (hl : ∀ b, own b → b < W.heap.size) (h1 : Has own W (RdF id a0 (cellsP ps))) (h2 : Has own W (DatF ps))
include hn hlen hDW hpx hl h1 h2
set_option maxRecDepth 20000 in
set_option maxHeartbeats 4000000 in
theorem Decode29_c (ts : List TP) (hts : DatW (tP ts)) (al : Option Addr) (cl nl : Nat) (hnl : ts.length = nl) (hnl4 : nl ≤ 100000) (hx1 : Has own W (RdF id al (cellsT ts))) (hx2 : Has own W (DatF (tP ts))) :
    Calls Try.prog 10 ⟨[.agg #[.int .i64 cp, .slice a0 n c0], .slice al nl cl]⟩ W (Ret W (decP own cp (decR ⟨cp, ims ps⟩ (tms ts)))) := by
  have hM := ((((Mm.start hl).known hx2).known hx1).known h2).known h1
  subst hnl
  refine f_start Try.func10 rfl Try.ntmps10 rfl rfl ?_; intro a hF
  (repeat (first | (with_reducible refine w_seq ?_) | (with_reducible refine c_region ?_) | (with_reducible refine s_nil ?_) | (with_reducible refine q_then_n ?_) | ((with_reducible apply s_pure hF); exact rfl; exact rfl; exact rfl; (first | exact trivial | omega | exact ⟨Int.natCast_nonneg _, Int.ofNat_lt.2 (by assumption)⟩ | decide); clear hF a; intro a hF) | ((with_reducible apply s_load hF hM); exact rfl; exact rfl; (repeat (first | exact List.mem_cons_self | refine List.mem_cons_of_mem _ ?_)); exact rfl; exact rfl; clear hF a; intro a hF) | ((with_reducible apply s_alloc hF hM); exact rfl; exact rfl; exact rfl; clear hF hM a; intro b w a hM hF) | ((with_reducible apply s_box hF hM); exact rfl; exact rfl; exact rfl; exact rfl; clear hF hM a; intro b w a hM hF)))
  rename_i b2 _
  generalize b = b4 at *
  have hnb : ∀ f ∈ [RdF id al (cellsT ts), DatF (tP ts)], ∀ b, Nb b f := by
    intro f hf b
    simp only [List.mem_cons, List.not_mem_nil, or_false] at hf
    rcases hf with rfl | rfl
    · exact Nb.rd
    · exact Nb.dat
  by_cases hb : cp < 1 ∨ 4096 < cp ∨ cp < n
  · have hck := chk_bad (l := ims ps) (by rw [ims_len, hn]; exact hb)
    have he : decR ⟨cp, ims ps⟩ (tms ts) = .error (check ⟨cp, ims ps⟩) := if_pos hck
    rw [he]
    (((with_reducible apply s_callM (f := 31) hF); exact rfl; exact rfl; exact rfl; exact rfl; exact rfl; exact (open_bad cp ps a0 c0 n hn hlen hDW hpx hnb hM hb); clear hF hM a; rintro v w a ⟨rfl, hM⟩ hF))
    generalize check ⟨cp, ims ps⟩ = e at *
    (repeat' (first | (with_reducible refine w_seq ?_) | (with_reducible refine c_region ?_) | (with_reducible refine s_nil ?_) | (with_reducible refine q_then_n ?_) | ((with_reducible apply s_pure hF); exact rfl; exact rfl; exact rfl; (first | exact trivial | omega | exact ⟨Int.natCast_nonneg _, Int.ofNat_lt.2 (by assumption)⟩ | decide); clear hF a; intro a hF) | ((with_reducible apply s_store hF hM); exact rfl; exact rfl; exact rfl; exact rfl; (repeat (first | exact Upd.z | apply Upd.s)); exact rfl; exact rfl; exact rfl; clear hM; intro w hM) | (with_reducible refine w_ret ?_) | (with_reducible refine q_then_r ?_) | ((with_reducible apply c_dec hF); exact rfl; all_goals intro hc; all_goals (try (exfalso; omega)))))
    all_goals first | (exfalso; omega) | (apply f_ret Try.results10 hF hM; (repeat (first | exact RL.nil | (apply RL.tmp; exact rfl) | (apply RL.cell; exact rfl; (repeat (first | exact List.mem_cons_self | refine List.mem_cons_of_mem _ ?_)); exact rfl))); refine Ret.mk hM.since ?_; dsimp only [resV])
    all_goals exact rfl
  · have hck := chk_big (l := ims ps) (by rw [ims_len, hn]; exact hb)
    (((with_reducible apply s_callM (f := 31) hF); exact rfl; exact rfl; exact rfl; exact rfl; exact rfl; exact (open_c cp ps a0 c0 n hn hlen hDW hpx hnb hM (by omega) (by omega)); clear hF hM a; rintro v w a (⟨h0, rfl, hM⟩ | ⟨h0, sb, mb, its, iv, eI, E, rfl, him, hS, hmb, hM⟩) hF))
    · have he : decR ⟨cp, ims ps⟩ (tms ts) = .error (chkL [] (ims ps)) := by
        unfold decR
        rw [hck, if_pos h0]
      rw [he]
      generalize chkL [] (ims ps) = e at *
      (repeat' (first | (with_reducible refine w_seq ?_) | (with_reducible refine c_region ?_) | (with_reducible refine s_nil ?_) | (with_reducible refine q_then_n ?_) | ((with_reducible apply s_pure hF); exact rfl; exact rfl; exact rfl; (first | exact trivial | omega | exact ⟨Int.natCast_nonneg _, Int.ofNat_lt.2 (by assumption)⟩ | decide); clear hF a; intro a hF) | ((with_reducible apply s_store hF hM); exact rfl; exact rfl; exact rfl; exact rfl; (repeat (first | exact Upd.z | apply Upd.s)); exact rfl; exact rfl; exact rfl; clear hM; intro w hM) | (with_reducible refine w_ret ?_) | (with_reducible refine q_then_r ?_) | ((with_reducible apply c_dec hF); exact rfl; all_goals intro hc; all_goals (try (exfalso; omega)))))
      all_goals first | (exfalso; omega) | (apply f_ret Try.results10 hF hM; (repeat (first | exact RL.nil | (apply RL.tmp; exact rfl) | (apply RL.cell; exact rfl; (repeat (first | exact List.mem_cons_self | refine List.mem_cons_of_mem _ ?_)); exact rfl))); refine Ret.mk hM.since ?_; dsimp only [resV])
      all_goals exact rfl
    · have he : decR ⟨cp, ims ps⟩ (tms ts) = decI cp (tms ts) (ims ps) [] := by
        unfold decR
        rw [hck, if_neg (by simp [h0])]
      rw [he]
      (repeat' (first | (with_reducible refine w_seq ?_) | (with_reducible refine c_region ?_) | (with_reducible refine s_nil ?_) | (with_reducible refine q_then_n ?_) | ((with_reducible apply s_pure hF); exact rfl; exact rfl; exact rfl; (first | exact trivial | omega | exact ⟨Int.natCast_nonneg _, Int.ofNat_lt.2 (by assumption)⟩ | decide); clear hF a; intro a hF) | (with_reducible refine w_skip ?_) | (with_reducible refine w_block ?_) | ((with_reducible apply c_false2 hF); exact rfl; (first | with_reducible rfl | (refine congrArg Value.bool ?_; focus (simp; done))))))
      all_goals first | (exfalso; omega) | skip
      have hIt : Its (ims its) := by
        rw [him]
        obtain ⟨k1, k2, k3, -⟩ := chkL_ok.1 h0
        exact ⟨k1, k2, k3⟩
      have hil : its.length = n := by
        have := congrArg List.length him
        rw [ims_len, ims_len] at this
        omega
      have hrow := ((((hM.nilRow 83 8).permL (L' := eI :: ([⟨83, 8, .slice none 0 0, 0, []⟩] ++ rowsT E)) (.swap _ _ _))).sub (bs' := [stB sb mb cp iv, ⟨b4, ⟨[.int .i64 0, .slice none 0 0]⟩, 29⟩]) (Fs' := [MpE (Value.int .u64) mb (esE E), DatF its, RdF id al (cellsT ts), DatF (tP ts)]) (.cons_cons _ (.cons_cons _ (.cons _ .slnil))) (.refl _) (fun f hf => by simp only [List.mem_cons, List.not_mem_nil, or_false] at hf ⊢; rcases hf with h | h | h | h <;> simp [h]))
      refine c_loop (m := ts.length) (fun m a w' => ∃ (k : Nat) (its : List P) (E : List TE) (iv : Value) (eI : Ent) (o : Dat) (ov : Value), m + k = ts.length ∧ decI cp (tms ts) (ims ps) [] = decI cp ((tms ts).drop k) (ims its) o ∧ DecS cp its iv eI E o k ∧
        Fr 60 [] [(25, .int .i64 k), (24, .int .i64 ts.length), (23, .slice al ts.length cl), (9, ov), (7, .pointer (some ⟨sb, 0, none⟩)), (4, .pointer (some ⟨b4, 0, none⟩))] a ∧
        Mm own W [stB sb mb cp iv, ⟨b4, ⟨[.int .i64 0, .slice none 0 0]⟩, 29⟩] (eI :: ([⟨83, 8, ov, o.length, o.flatten.map (Value.int .u8)⟩] ++ rowsT E)) [MpE (Value.int .u64) mb (esE E), DatF its, RdF id al (cellsT ts), DatF (tP ts)] w')
        ⟨0, its, E, iv, eI, [], _, by omega, by rw [him]; rfl, ⟨hIt, hS, by omega, fun y hy => by simp at hy, fun y hy => by simp at hy, by simp⟩, hF.sub (by repeat (first | exact Sub.nil | refine Sub.cons rfl (by first | with_reducible rfl | (refine congrArg (Value.int _) ?_; omega) | exact rfl) ?_)), hrow⟩ ?_
      clear hF hM hrow a hS hIt him hil he
      rintro m a w' ⟨k, its, E, iv, eI, o, ov, hm, hdec, hDS, hF, hM⟩
      have hol := hDS.ol
      by_cases hk : k < ts.length
      · obtain ⟨t, ht⟩ := get_of_lt hk
        have htm := List.mem_of_getElem? ht
        have htd : (tms ts).drop k = t.1 :: (tms ts).drop (k + 1) := by
          rw [List.drop_eq_getElem_cons (by rw [tms_len]; exact hk)]
          congr 1
          unfold tms
          rw [List.getElem_map]
          congr 1
          exact (List.getElem?_eq_some_iff.1 ht).2
        rw [htd, decI_cons] at hdec
        have htw := hts ((⟨t.1.d, t.1.x⟩ : Itm), t.2) (List.mem_map.2 ⟨t, htm, rfl⟩)
        have htr := dat_one (hM.facts (DatF (tP ts)) (by (repeat (first | with_reducible exact List.mem_cons_self | refine List.mem_cons_of_mem _ ?_)))) (p := ((⟨t.1.d, t.1.x⟩ : Itm), t.2)) (List.mem_map.2 ⟨t, htm, rfl⟩)
        have hpe : (ts.map tkC)[k]? = some (tkC t) := by rw [List.getElem?_map, ht]; rfl
        obtain ⟨⟨r, d, x⟩, ax, cx⟩ := t
        obtain ⟨q, hxq⟩ : ∃ q, x.length = q := ⟨_, rfl⟩
        obtain ⟨hx8, hxc2, hxb⟩ := htw
        replace hx8 : W8 x := hx8
        replace hxb : ∀ s ∈ x, ∀ b ∈ s, 0 ≤ b ∧ b < 256 := hxb
        replace htr : Has _ _ (RdF (Value.int .u8) ax x.flatten) := htr
        replace hpe : (ts.map tkC)[k]? = some [.bool r, .int .u64 d, .slice ax q cx] := by rw [hpe, ← hxq]
        have hw3 := tkC_len ts
        obtain ⟨ad, rfl⟩ : ∃ ad, al = some ad := rd_some hM (enc := id) (a := al) (xs := cellsT ts) (by (repeat (first | exact List.mem_cons_self | refine List.mem_cons_of_mem _ ?_))) (flat_get (q := 0) hw3 hpe rfl)
        have hcf2 : ∀ f ∈ [RdF id (some ad) (cellsT ts), DatF (tP ts)], Nb mb f := by
          intro f hf
          simp only [List.mem_cons, List.not_mem_nil, or_false] at hf
          rcases hf with rfl | rfl
          · exact Nb.rd
          · exact Nb.dat
        unfold cellsT at hM hcf2
        cases hcor : corT ⟨r, d, x⟩ with
        | false =>
          rw [hcor] at hdec
          (repeat' (first | (with_reducible refine w_seq ?_) | (with_reducible refine c_region ?_) | (with_reducible refine s_nil ?_) | ((with_reducible apply s_call (f := 41) hF hM); exact rfl; exact rfl; exact rfl; exact rfl; exact rfl; exact (correct1_c r d x ax cx q hxq _ _ hM.lt); clear hF hM a; rintro v w a rfl - hM hF; rw [hcor] at hF) | ((with_reducible apply s_loadE hF hM); exact rfl; exact rfl; (repeat (first | exact List.mem_cons_self | refine List.mem_cons_of_mem _ ?_)); exact rfl; exact rfl; (first | with_reducible assumption | (simp only [Int.toNat_natCast]; with_reducible assumption)); (with_reducible assumption); clear hF a; intro a hF) | (with_reducible refine q_then_n ?_) | ((with_reducible apply s_pure hF); exact rfl; exact rfl; exact rfl; (first | exact trivial | omega | exact ⟨Int.natCast_nonneg _, Int.ofNat_lt.2 (by assumption)⟩ | decide); clear hF a; intro a hF) | ((with_reducible apply s_load hF hM); exact rfl; exact rfl; (repeat (first | exact List.mem_cons_self | refine List.mem_cons_of_mem _ ?_)); exact rfl; exact rfl; clear hF a; intro a hF) | ((with_reducible apply s_store hF hM); exact rfl; exact rfl; exact rfl; exact rfl; (repeat (first | exact Upd.z | apply Upd.s)); exact rfl; exact rfl; exact rfl; clear hM; intro w hM) | ((with_reducible apply s_alloc hF hM); exact rfl; exact rfl; exact rfl; clear hF hM a; intro b w a hM hF) | (with_reducible refine w_skip ?_) | (with_reducible refine w_block ?_) | (with_reducible refine w_ret ?_) | (with_reducible refine q_then_r ?_) | (with_reducible refine q_blk_r ?_) | ((with_reducible apply c_true2 hF); exact rfl; (first | with_reducible rfl | (refine congrArg Value.bool ?_; focus (simp; done)))) | ((with_reducible apply c_dec hF); exact rfl; all_goals intro hc; all_goals (try (exfalso; omega)))))
          (apply f_ret Try.results10 hF hM; (repeat (first | exact RL.nil | (apply RL.tmp; exact rfl) | (apply RL.cell; exact rfl; (repeat (first | exact List.mem_cons_self | refine List.mem_cons_of_mem _ ?_)); exact rfl))); refine Ret.mk hM.since ?_; dsimp only [resV])
          rw [hdec]
          rfl
        | true =>
          rw [hcor] at hdec
          have hbd : o.length + 4096 ≤ 500000000 := by omega
          have hdrop : (tms ts).drop (k + 1) = (tms ts).drop (k + 1) := rfl
          cases r with
          | false =>
            have hxc : isCh x = true := by
              unfold corT at hcor
              simp only [Bool.false_eq_true, if_false, Bool.and_eq_true] at hcor
              exact hcor.2
            have hx4 : x.length ≤ 4096 := by
              unfold isCh at hxc
              rw [decide_eq_true_eq] at hxc
              exact hxc.2
            simp only [Bool.not_true, Bool.false_eq_true, if_false] at hdec
            replace hM := hM.addFact htr
            (repeat' (first | (with_reducible refine w_seq ?_) | (with_reducible refine c_region ?_) | (with_reducible refine s_nil ?_) | ((with_reducible apply s_call (f := 41) hF hM); exact rfl; exact rfl; exact rfl; exact rfl; exact rfl; exact (correct1_c false d x ax cx q hxq _ _ hM.lt); clear hF hM a; rintro v w a rfl - hM hF; rw [hcor] at hF) | ((with_reducible apply s_loadE hF hM); exact rfl; exact rfl; (repeat (first | exact List.mem_cons_self | refine List.mem_cons_of_mem _ ?_)); exact rfl; exact rfl; (first | with_reducible assumption | (simp only [Int.toNat_natCast]; with_reducible assumption)); (with_reducible assumption); clear hF a; intro a hF) | (with_reducible refine q_then_n ?_) | ((with_reducible apply s_pure hF); exact rfl; exact rfl; exact rfl; (first | exact trivial | omega | exact ⟨Int.natCast_nonneg _, Int.ofNat_lt.2 (by assumption)⟩ | decide); clear hF a; intro a hF) | ((with_reducible apply s_load hF hM); exact rfl; exact rfl; (repeat (first | exact List.mem_cons_self | refine List.mem_cons_of_mem _ ?_)); exact rfl; exact rfl; clear hF a; intro a hF) | ((with_reducible apply s_store hF hM); exact rfl; exact rfl; exact rfl; exact rfl; (repeat (first | exact Upd.z | apply Upd.s)); exact rfl; exact rfl; exact rfl; clear hM; intro w hM) | ((with_reducible apply s_alloc hF hM); exact rfl; exact rfl; exact rfl; clear hF hM a; intro b w a hM hF) | (with_reducible refine w_skip ?_) | (with_reducible refine w_block ?_) | ((with_reducible apply c_false2 hF); exact rfl; (first | with_reducible rfl | (refine congrArg Value.bool ?_; focus (simp; done)))) | ((with_reducible apply c_dec hF); exact rfl; all_goals intro hc; all_goals (try (exfalso; omega)))))
            have hfl := flat_len hx8
            rw [hxq] at hfl
            (repeat' (first | (with_reducible refine c_region ?_) | (with_reducible refine s_nil ?_) | ((with_reducible apply s_appN hF hM); exact rfl; exact rfl; (repeat (first | exact List.mem_cons_self | refine List.mem_cons_of_mem _ ?_)); exact rfl; exact rfl; (with_reducible assumption); (repeat (first | exact Kth.z | apply Kth.s)); (intro _; exact rfl); exact rfl; omega; clear hF hM a; intro g cap w a hM hF; dsimp only [List.set] at hM) | (with_reducible refine q_then_n ?_) | ((with_reducible apply s_pure hF); exact rfl; exact rfl; exact rfl; (first | exact trivial | omega | exact ⟨Int.natCast_nonneg _, Int.ofNat_lt.2 (by assumption)⟩ | decide); clear hF a; intro a hF)))
            replace hM : Mm own W (stB sb mb cp iv :: _) (eI :: ([⟨83, 8, .slice g (o.length + q) cap, o.length + q, o.flatten.map (Value.int .u8) ++ x.flatten.map (Value.int .u8)⟩] ++ rowsT E)) (MpE (Value.int .u64) mb (esE E) :: RdF (Value.int .u8) ax x.flatten :: DatF its :: [RdF id (some ad) (ts.map tkC).flatten, DatF (tP ts)]) _ := (hM.perm (List.Perm.swap _ _ _)).sub (.refl _) (.refl _) (fun f hf => by simp only [List.mem_cons, List.not_mem_nil, or_false] at hf ⊢; rcases hf with h | h | h | h | h <;> simp [h])
            (((with_reducible apply s_callM (f := 37) hF); exact rfl; exact rfl; exact rfl; exact rfl; exact rfl; exact (add_c sb mb cp its iv eI E ⟨by omega, by omega⟩ hDS.ln hDS.st hmb hcf2 x hx8 hxb hx4 ax cx q hxq hM); clear hF hM a; rintro v w a ⟨its2, E2, iv2, eI2, him2, hS2, hM⟩ hF))
            (repeat' (first | (with_reducible refine c_region ?_) | (with_reducible refine s_nil ?_) | (with_reducible refine q_then_n ?_) | ((with_reducible apply s_pure hF); exact rfl; exact rfl; exact rfl; (first | exact trivial | omega | exact ⟨Int.natCast_nonneg _, Int.ofNat_lt.2 (by assumption)⟩ | decide); clear hF a; intro a hF) | (with_reducible refine q_blk_n ?_)))
            refine ⟨m - 1, by omega, k + 1, its2, E2, iv2, eI2, o ++ x, .slice g (o.length + q) cap, by omega, ?_, ⟨?_, hS2, ?_, ?_, ?_, ?_⟩, hF.sub (by repeat (first | exact Sub.nil | refine Sub.cons rfl (by first | with_reducible rfl | (refine congrArg (Value.int _) ?_; omega) | exact rfl) ?_)), ?_⟩
            · rw [hdec, him2]
            · rw [him2]
              exact hDS.it.add hxc cp
            · have := add_len (cap := cp) (l := ims its) (by rw [ims_len]; exact hDS.ln) x
              rw [← him2, ims_len] at this
              exact this
            · intro y hy
              rcases List.mem_append.1 hy with hy | hy
              · exact hDS.o8 y hy
              · exact hx8 y hy
            · intro y hy
              rcases List.mem_append.1 hy with hy | hy
              · exact hDS.ob y hy
              · exact hxb y hy
            · rw [List.length_append]
              omega
            · rw [List.length_append, hxq, List.flatten_append, List.map_append]
              exact hM.sub (.cons_cons _ (.cons _ (.refl _))) (.refl _) (fun f hf => by simp only [List.mem_cons, List.not_mem_nil, or_false] at hf ⊢; rcases hf with h | h | h | h <;> simp [h, cellsT])
          | true =>
            simp only [Bool.not_true, Bool.false_eq_true, if_false, if_true] at hdec
            have hfd := tab_find hDS.st.tab d
            have e1 := find_c E mb d own
            cases hh : (lookE d E).head? with
            | none =>
              rw [hh] at hfd e1
              rw [hfd] at hdec
              (repeat' (first | (with_reducible refine w_seq ?_) | (with_reducible refine c_region ?_) | (with_reducible refine s_nil ?_) | ((with_reducible apply s_call (f := 41) hF hM); exact rfl; exact rfl; exact rfl; exact rfl; exact rfl; exact (correct1_c true d x ax cx q hxq _ _ hM.lt); clear hF hM a; rintro v w a rfl - hM hF; rw [hcor] at hF) | ((with_reducible apply s_loadE hF hM); exact rfl; exact rfl; (repeat (first | exact List.mem_cons_self | refine List.mem_cons_of_mem _ ?_)); exact rfl; exact rfl; (first | with_reducible assumption | (simp only [Int.toNat_natCast]; with_reducible assumption)); (with_reducible assumption); clear hF a; intro a hF) | (with_reducible refine q_then_n ?_) | ((with_reducible apply s_pure hF); exact rfl; exact rfl; exact rfl; (first | exact trivial | omega | exact ⟨Int.natCast_nonneg _, Int.ofNat_lt.2 (by assumption)⟩ | decide); clear hF a; intro a hF) | ((with_reducible apply s_load hF hM); exact rfl; exact rfl; (repeat (first | exact List.mem_cons_self | refine List.mem_cons_of_mem _ ?_)); exact rfl; exact rfl; clear hF a; intro a hF) | ((with_reducible apply s_store hF hM); exact rfl; exact rfl; exact rfl; exact rfl; (repeat (first | exact Upd.z | apply Upd.s)); exact rfl; exact rfl; exact rfl; clear hM; intro w hM) | ((with_reducible apply s_alloc hF hM); exact rfl; exact rfl; exact rfl; clear hF hM a; intro b w a hM hF) | (with_reducible refine w_skip ?_) | (with_reducible refine w_block ?_) | ((with_reducible apply c_true2 hF); exact rfl; (first | with_reducible rfl | (refine congrArg Value.bool ?_; focus (simp; done)))) | ((with_reducible apply c_false2 hF); exact rfl; (first | with_reducible rfl | (refine congrArg Value.bool ?_; focus (simp; done)))) | ((with_reducible apply c_dec hF); exact rfl; all_goals intro hc; all_goals (try (exfalso; omega)))))
              refine c_draw (fun i => Nat.ble 12 i) hM ?_; clear hM; intro w hM
              (first | (refine t_pure (i := 0) hF rfl rfl rfl rfl (by kernel_rfl) hM.sm (fun _ _ _ h => h) ?_ ?_; (first | exact trivial | omega | decide); clear hF a; intro a hF))
              (first | (refine t_pure (i := 1) hF rfl rfl rfl rfl (by kernel_rfl) hM.sm (fun _ _ _ h => h) ?_ ?_; (first | exact trivial | omega | decide); clear hF a; intro a hF))
              (first | (refine t_pure (i := 2) hF rfl rfl rfl rfl (by kernel_rfl) hM.sm (fun _ _ _ h => h) ?_ ?_; (first | exact trivial | omega | decide); clear hF a; intro a hF))
              (first | (apply t_load (i := 3) hF rfl rfl rfl; (repeat (first | exact List.mem_cons_self | refine List.mem_cons_of_mem _ ?_)); exact rfl; exact rfl; kernel_rfl; exact hM.sm; exact (fun _ _ _ h => h); clear hF a; intro a hF))
              (first | (refine t_pure (i := 4) hF rfl rfl rfl rfl (by kernel_rfl) hM.sm (fun _ _ _ h => h) ?_ ?_; (first | exact trivial | omega | decide); clear hF a; intro a hF))
              (first | (apply t_load (i := 5) hF rfl rfl rfl; (repeat (first | exact List.mem_cons_self | refine List.mem_cons_of_mem _ ?_)); exact rfl; exact rfl; kernel_rfl; exact hM.sm; exact (fun _ _ _ h => h); clear hF a; intro a hF))
              refine t_one (i := 6) hF rfl (by kernel_rfl) rfl ?_
              intro K hK
              (apply x_call hF hM; exact rfl; exact rfl; exact rfl; exact rfl; exact (e1 _ (fun b h => hM.lt b (.inl h)) (hM.factOut (by (repeat (first | with_reducible exact List.mem_cons_self | refine List.mem_cons_of_mem _ ?_)))) (tabR_of (L1 := [_]) hM hDS.st.tE)); clear hF hM a; rintro v w a rfl - hM hF)
              refine hK _ _ (fun _ => hM.sm) ?_; clear hK
              (first | (refine t_pure (i := 7) hF rfl rfl rfl rfl (by kernel_rfl) hM.sm (fun _ _ _ h => h) ?_ ?_; (first | exact trivial | omega | decide); clear hF a; intro a hF))
              (first | (refine t_pure (i := 8) hF rfl rfl rfl rfl (by kernel_rfl) hM.sm (fun _ _ _ h => h) ?_ ?_; (first | exact trivial | omega | decide); clear hF a; intro a hF))
              (first | (refine t_pure (i := 9) hF rfl rfl rfl rfl (by kernel_rfl) hM.sm (fun _ _ _ h => h) ?_ ?_; (first | exact trivial | omega | decide); clear hF a; intro a hF))
              (first | (refine t_pure (i := 10) hF rfl rfl rfl rfl (by kernel_rfl) hM.sm (fun _ _ _ h => h) ?_ ?_; (first | exact trivial | omega | decide); clear hF a; intro a hF))
              (first | (refine t_pure (i := 11) hF rfl rfl rfl rfl (by kernel_rfl) hM.sm (fun _ _ _ h => h) ?_ ?_; (first | exact trivial | omega | decide); clear hF a; intro a hF))
              refine t_done (by kernel_rfl) ?_
              (repeat' (first | (with_reducible refine w_seq ?_) | (with_reducible refine c_region ?_) | (with_reducible refine s_nil ?_) | (with_reducible refine q_then_n ?_) | ((with_reducible apply s_pure hF); exact rfl; exact rfl; exact rfl; (first | exact trivial | omega | exact ⟨Int.natCast_nonneg _, Int.ofNat_lt.2 (by assumption)⟩ | decide); clear hF a; intro a hF) | ((with_reducible apply s_store hF hM); exact rfl; exact rfl; exact rfl; exact rfl; (repeat (first | exact Upd.z | apply Upd.s)); exact rfl; exact rfl; exact rfl; clear hM; intro w hM) | (with_reducible refine w_ret ?_) | (with_reducible refine q_then_r ?_) | (with_reducible refine q_blk_r ?_) | ((with_reducible apply c_true2 hF); exact rfl; (first | with_reducible rfl | (refine congrArg Value.bool ?_; focus (simp; done))))))
              (apply f_ret Try.results10 hF hM; (repeat (first | exact RL.nil | (apply RL.tmp; exact rfl) | (apply RL.cell; exact rfl; (repeat (first | exact List.mem_cons_self | refine List.mem_cons_of_mem _ ?_)); exact rfl))); refine Ret.mk hM.since ?_; dsimp only [resV])
              rw [hdec]
              rfl
            | some it =>
              rw [hh] at hfd e1
              rw [hfd] at hdec
              replace hdec : decI cp (tms ts) (ims ps) [] = decI cp ((tms ts).drop (k + 1)) (addI cp (ims its) it.1.x) (o ++ it.1.x) := hdec
              have hpi : it ∈ its := look_sub hDS.st.tab d it (List.mem_of_mem_head? hh)
              obtain ⟨hp8, hpc, hpb⟩ := hDS.st.dw it hpi
              have hp4 := hDS.it.ch4 it hpi
              have hpk : isCh it.1.x = true := hDS.it.ch it.1 (List.mem_map.2 ⟨it, hpi, rfl⟩)
              replace hM := hM.addFact (dat_one (hM.facts (DatF its) (by (repeat (first | with_reducible exact List.mem_cons_self | refine List.mem_cons_of_mem _ ?_)))) hpi)
              obtain ⟨⟨di, xi⟩, ai, ci⟩ := it
              obtain ⟨qi, hqi⟩ : ∃ qi, xi.length = qi := ⟨_, rfl⟩
              dsimp only at hM hp8 hpc hpb hp4 hpk hdec
              (repeat' (first | (with_reducible refine w_seq ?_) | (with_reducible refine c_region ?_) | (with_reducible refine s_nil ?_) | ((with_reducible apply s_call (f := 41) hF hM); exact rfl; exact rfl; exact rfl; exact rfl; exact rfl; exact (correct1_c true d x ax cx q hxq _ _ hM.lt); clear hF hM a; rintro v w a rfl - hM hF; rw [hcor] at hF) | ((with_reducible apply s_loadE hF hM); exact rfl; exact rfl; (repeat (first | exact List.mem_cons_self | refine List.mem_cons_of_mem _ ?_)); exact rfl; exact rfl; (first | with_reducible assumption | (simp only [Int.toNat_natCast]; with_reducible assumption)); (with_reducible assumption); clear hF a; intro a hF) | (with_reducible refine q_then_n ?_) | ((with_reducible apply s_pure hF); exact rfl; exact rfl; exact rfl; (first | exact trivial | omega | exact ⟨Int.natCast_nonneg _, Int.ofNat_lt.2 (by assumption)⟩ | decide); clear hF a; intro a hF) | ((with_reducible apply s_load hF hM); exact rfl; exact rfl; (repeat (first | exact List.mem_cons_self | refine List.mem_cons_of_mem _ ?_)); exact rfl; exact rfl; clear hF a; intro a hF) | ((with_reducible apply s_store hF hM); exact rfl; exact rfl; exact rfl; exact rfl; (repeat (first | exact Upd.z | apply Upd.s)); exact rfl; exact rfl; exact rfl; clear hM; intro w hM) | ((with_reducible apply s_alloc hF hM); exact rfl; exact rfl; exact rfl; clear hF hM a; intro b w a hM hF) | (with_reducible refine w_skip ?_) | (with_reducible refine w_block ?_) | ((with_reducible apply c_true2 hF); exact rfl; (first | with_reducible rfl | (refine congrArg Value.bool ?_; focus (simp; done)))) | ((with_reducible apply c_false2 hF); exact rfl; (first | with_reducible rfl | (refine congrArg Value.bool ?_; focus (simp; done)))) | ((with_reducible apply c_dec hF); exact rfl; all_goals intro hc; all_goals (try (exfalso; omega)))))
              refine c_draw (fun i => Nat.ble 12 i) hM ?_; clear hM; intro w hM
              (first | (refine t_pure (i := 0) hF rfl rfl rfl rfl (by kernel_rfl) hM.sm (fun _ _ _ h => h) ?_ ?_; (first | exact trivial | omega | decide); clear hF a; intro a hF))
              (first | (refine t_pure (i := 1) hF rfl rfl rfl rfl (by kernel_rfl) hM.sm (fun _ _ _ h => h) ?_ ?_; (first | exact trivial | omega | decide); clear hF a; intro a hF))
              (first | (refine t_pure (i := 2) hF rfl rfl rfl rfl (by kernel_rfl) hM.sm (fun _ _ _ h => h) ?_ ?_; (first | exact trivial | omega | decide); clear hF a; intro a hF))
              (first | (apply t_load (i := 3) hF rfl rfl rfl; (repeat (first | exact List.mem_cons_self | refine List.mem_cons_of_mem _ ?_)); exact rfl; exact rfl; kernel_rfl; exact hM.sm; exact (fun _ _ _ h => h); clear hF a; intro a hF))
              (first | (refine t_pure (i := 4) hF rfl rfl rfl rfl (by kernel_rfl) hM.sm (fun _ _ _ h => h) ?_ ?_; (first | exact trivial | omega | decide); clear hF a; intro a hF))
              (first | (apply t_load (i := 5) hF rfl rfl rfl; (repeat (first | exact List.mem_cons_self | refine List.mem_cons_of_mem _ ?_)); exact rfl; exact rfl; kernel_rfl; exact hM.sm; exact (fun _ _ _ h => h); clear hF a; intro a hF))
              refine t_one (i := 6) hF rfl (by kernel_rfl) rfl ?_
              intro K hK
              (apply x_call hF hM; exact rfl; exact rfl; exact rfl; exact rfl; exact (e1 _ (fun b h => hM.lt b (.inl h)) (hM.factOut (by (repeat (first | with_reducible exact List.mem_cons_self | refine List.mem_cons_of_mem _ ?_)))) (tabR_of (L1 := [_]) hM hDS.st.tE)); clear hF hM a; rintro v w a rfl - hM hF)
              dsimp only at hF; rw [hqi] at hF
              refine hK _ _ (fun _ => (hM.sm.sub (fun x hx => by repeat (first | exact hx | refine List.mem_cons_of_mem _ ?_)) (fun _ h => by repeat (first | exact h | refine List.mem_cons_of_mem _ ?_)))) ?_; clear hK
              (first | (refine t_pure (i := 7) hF rfl rfl rfl rfl (by kernel_rfl) (hM.sm.sub (fun x hx => by repeat (first | exact hx | refine List.mem_cons_of_mem _ ?_)) (fun _ h => by repeat (first | exact h | refine List.mem_cons_of_mem _ ?_))) (fun _ _ _ h => h) ?_ ?_; (first | exact trivial | omega | decide); clear hF a; intro a hF))
              (first | (refine t_pure (i := 8) hF rfl rfl rfl rfl (by kernel_rfl) (hM.sm.sub (fun x hx => by repeat (first | exact hx | refine List.mem_cons_of_mem _ ?_)) (fun _ h => by repeat (first | exact h | refine List.mem_cons_of_mem _ ?_))) (fun _ _ _ h => h) ?_ ?_; (first | exact trivial | omega | decide); clear hF a; intro a hF))
              (first | (refine t_pure (i := 9) hF rfl rfl rfl rfl (by kernel_rfl) (hM.sm.sub (fun x hx => by repeat (first | exact hx | refine List.mem_cons_of_mem _ ?_)) (fun _ h => by repeat (first | exact h | refine List.mem_cons_of_mem _ ?_))) (fun _ _ _ h => h) ?_ ?_; (first | exact trivial | omega | decide); clear hF a; intro a hF))
              (first | (refine t_pure (i := 10) hF rfl rfl rfl rfl (by kernel_rfl) (hM.sm.sub (fun x hx => by repeat (first | exact hx | refine List.mem_cons_of_mem _ ?_)) (fun _ h => by repeat (first | exact h | refine List.mem_cons_of_mem _ ?_))) (fun _ _ _ h => h) ?_ ?_; (first | exact trivial | omega | decide); clear hF a; intro a hF))
              (first | (refine t_pure (i := 11) hF rfl rfl rfl rfl (by kernel_rfl) (hM.sm.sub (fun x hx => by repeat (first | exact hx | refine List.mem_cons_of_mem _ ?_)) (fun _ h => by repeat (first | exact h | refine List.mem_cons_of_mem _ ?_))) (fun _ _ _ h => h) ?_ ?_; (first | exact trivial | omega | decide); clear hF a; intro a hF))
              refine t_done (by kernel_rfl) ?_
              have hfl := flat_len hp8
              rw [hqi] at hfl
              (repeat' (first | (with_reducible refine w_seq ?_) | (with_reducible refine c_region ?_) | (with_reducible refine s_nil ?_) | ((with_reducible apply s_appN hF hM); exact rfl; exact rfl; (repeat (first | exact List.mem_cons_self | refine List.mem_cons_of_mem _ ?_)); exact rfl; exact rfl; (with_reducible assumption); (repeat (first | exact Kth.z | apply Kth.s)); (intro _; exact rfl); exact rfl; omega; clear hF hM a; intro g cap w a hM hF; dsimp only [List.set] at hM) | (with_reducible refine q_then_n ?_) | ((with_reducible apply s_pure hF); exact rfl; exact rfl; exact rfl; (first | exact trivial | omega | exact ⟨Int.natCast_nonneg _, Int.ofNat_lt.2 (by assumption)⟩ | decide); clear hF a; intro a hF) | (with_reducible refine w_skip ?_) | ((with_reducible apply c_false2 hF); exact rfl; (first | with_reducible rfl | (refine congrArg Value.bool ?_; focus (simp; done))))))
              replace hM : Mm own W (stB sb mb cp iv :: _) (eI :: ([⟨83, 8, .slice g (o.length + qi) cap, o.length + qi, o.flatten.map (Value.int .u8) ++ xi.flatten.map (Value.int .u8)⟩] ++ rowsT E)) (MpE (Value.int .u64) mb (esE E) :: RdF (Value.int .u8) ai xi.flatten :: DatF its :: [RdF id (some ad) (ts.map tkC).flatten, DatF (tP ts)]) _ := (hM.perm (List.Perm.swap _ _ _)).sub (.refl _) (.refl _) (fun f hf => by simp only [List.mem_cons, List.not_mem_nil, or_false] at hf ⊢; rcases hf with h | h | h | h | h <;> simp [h])
              (((with_reducible apply s_callM (f := 37) hF); exact rfl; exact rfl; exact rfl; exact rfl; exact rfl; exact (add_c sb mb cp its iv eI E ⟨by omega, by omega⟩ hDS.ln hDS.st hmb hcf2 xi hp8 hpb hp4 ai ci qi hqi hM); clear hF hM a; rintro v w a ⟨its2, E2, iv2, eI2, him2, hS2, hM⟩ hF))
              (repeat' (first | (with_reducible refine c_region ?_) | (with_reducible refine s_nil ?_) | (with_reducible refine q_then_n ?_) | ((with_reducible apply s_pure hF); exact rfl; exact rfl; exact rfl; (first | exact trivial | omega | exact ⟨Int.natCast_nonneg _, Int.ofNat_lt.2 (by assumption)⟩ | decide); clear hF a; intro a hF) | (with_reducible refine q_blk_n ?_)))
              refine ⟨m - 1, by omega, k + 1, its2, E2, iv2, eI2, o ++ xi, .slice g (o.length + qi) cap, by omega, ?_, ⟨?_, hS2, ?_, ?_, ?_, ?_⟩, hF.sub (by repeat (first | exact Sub.nil | refine Sub.cons rfl (by first | with_reducible rfl | (refine congrArg (Value.int _) ?_; omega) | exact rfl) ?_)), ?_⟩
              · rw [hdec, him2]
              · rw [him2]
                exact hDS.it.add hpk cp
              · have := add_len (cap := cp) (l := ims its) (by rw [ims_len]; exact hDS.ln) xi
                rw [← him2, ims_len] at this
                exact this
              · intro y hy
                rcases List.mem_append.1 hy with hy | hy
                · exact hDS.o8 y hy
                · exact hp8 y hy
              · intro y hy
                rcases List.mem_append.1 hy with hy | hy
                · exact hDS.ob y hy
                · exact hpb y hy
              · rw [List.length_append]
                omega
              · rw [List.length_append, hqi, List.flatten_append, List.map_append]
                exact hM.sub (.cons_cons _ (.cons _ (.refl _))) (.refl _) (fun f hf => by simp only [List.mem_cons, List.not_mem_nil, or_false] at hf ⊢; rcases hf with h | h | h | h <;> simp [h, cellsT])
      · obtain rfl : k = ts.length := by omega
        have hdn : (tms ts).drop ts.length = [] := List.drop_of_length_le (by rw [tms_len]; exact Nat.le_refl _)
        rw [hdn] at hdec
        rw [hdec]
        (repeat' (first | (with_reducible refine w_seq ?_) | (with_reducible refine c_region ?_) | (with_reducible refine s_nil ?_) | (with_reducible refine q_then_n ?_) | ((with_reducible apply s_pure hF); exact rfl; exact rfl; exact rfl; (first | exact trivial | omega | exact ⟨Int.natCast_nonneg _, Int.ofNat_lt.2 (by assumption)⟩ | decide); clear hF a; intro a hF) | (with_reducible refine w_exit ?_) | (with_reducible refine q_then_x ?_) | (with_reducible refine q_blk_x ?_) | ((with_reducible apply c_false2 hF); exact rfl; (first | with_reducible rfl | (refine congrArg Value.bool ?_; focus (simp; done))))))
        have hch4 := hDS.it.ch4
        have hil2 : its.length ≤ 100000 := by
          have := hDS.ln
          omega
        (((with_reducible apply s_callM (f := 38) hF); exact rfl; exact rfl; exact rfl; exact rfl; exact rfl; exact (chunksM_c sb mb cp its iv eI E hil2 hDS.st hch4 hM (by (repeat (first | with_reducible exact List.mem_cons_self | refine List.mem_cons_of_mem _ ?_)))); clear hF hM a; rintro v w a ⟨a', c', ps', rfl, k4, k5, k6, hM⟩ hF))
        obtain ⟨av, cv, rfl, hcv, -⟩ := OffR.shape hM (k := 0) rfl (OffR.plain hM List.mem_cons_self)
        replace hM := Mm.freezeN hM
        (repeat' (first | (with_reducible refine s_nil ?_) | (with_reducible refine q_then_n ?_) | ((with_reducible apply s_pure hF); exact rfl; exact rfl; exact rfl; (first | exact trivial | omega | exact ⟨Int.natCast_nonneg _, Int.ofNat_lt.2 (by assumption)⟩ | decide); clear hF a; intro a hF) | ((with_reducible apply s_store hF hM); exact rfl; exact rfl; exact rfl; exact rfl; (repeat (first | exact Upd.z | apply Upd.s)); exact rfl; exact rfl; exact rfl; clear hM; intro w hM) | (with_reducible refine w_ret ?_)))
        (apply f_ret Try.results10 hF hM; (repeat (first | exact RL.nil | (apply RL.tmp; exact rfl) | (apply RL.cell; exact rfl; (repeat (first | exact List.mem_cons_self | refine List.mem_cons_of_mem _ ?_)); exact rfl))); refine Ret.mk hM.since ?_; dsimp only [resV])
        refine ⟨a', c', av, cv, ?_, itR_mk hM k4 k5 (by (repeat (first | with_reducible exact List.mem_cons_self | refine List.mem_cons_of_mem _ ?_))) (by (repeat (first | with_reducible exact List.mem_cons_self | refine List.mem_cons_of_mem _ ?_))) (by rw [ims_len]; exact k6), hM.factOut (by (repeat (first | with_reducible exact List.mem_cons_self | refine List.mem_cons_of_mem _ ?_))), hcv, hDS.o8, hDS.ob⟩
        rw [ims_len]
end
end Go.Proofs.Ytadfdpkhehdikaa


/- slices: searches with a function in tokens, chunks and lists of sectors; searches in words. -/
namespace Go.Proofs.Ytadfdpkhehdikaa
open Go.RowKit Go.Shelf D29
namespace D29
/-- The first place at which something holds; -1 if there is none. -/
def IdxOf {α : Type} (q : α → Bool) (l : List α) (i : Int) : Prop := (i = -1 ∧ ∀ x ∈ l, q x = false) ∨ ∃ (k : Nat) (x : α), i = k ∧ l[k]? = some x ∧ q x = true ∧ ∀ y ∈ l.take k, q y = false
theorem IdxOf.any {α : Type} {q : α → Bool} {l : List α} {i : Int} (h : IdxOf q l i) : decide (0 ≤ i) = l.any q := by
  rw [Bool.eq_iff_iff, decide_eq_true_eq, List.any_eq_true]
  rcases h with ⟨rfl, h⟩ | ⟨k, x, rfl, h1, h2, h3⟩
  · constructor
    · intro h; omega
    · rintro ⟨x, hx, e⟩; rw [h x hx] at e; cases e
  · exact ⟨fun _ => ⟨x, List.mem_of_getElem? h1, h2⟩, fun _ => by omega⟩
theorem IdxOf.none {α : Type} {q : α → Bool} {l : List α} (h : ∀ x ∈ l, q x = false) : IdxOf q l (-1) := .inl ⟨rfl, h⟩
theorem IdxOf.some {α : Type} {q : α → Bool} {l : List α} {k : Nat} {x : α} (h1 : l[k]? = some x) (h2 : q x = true) (h3 : ∀ y ∈ l.take k, q y = false) : IdxOf q l k := .inr ⟨k, x, rfl, h1, h2, h3⟩
theorem pre_succ {α : Type} {q : α → Bool} {l : List α} {k : Nat} {x : α} (h : ∀ y ∈ l.take k, q y = false) (h1 : l[k]? = some x) (h2 : q x = false) : ∀ y ∈ l.take (k + 1), q y = false := by
  intro y hy
  rw [List.take_add_one, h1] at hy
  rcases List.mem_append.1 hy with hy | hy
  · exact h y hy
  · simp at hy; rw [hy]; exact h2
theorem tms_get {l : List TP} {k : Nat} {t : TP} (h : l[k]? = some t) : (tms l)[k]? = some t.1 := by unfold tms; rw [List.getElem?_map, h]; rfl
def sms (l : List SP) : List Dat := l.map (·.1)
end D29
set_option maxRecDepth 20000 in
set_option maxHeartbeats 1000000 in
theorem idxT_c (f : FuncId) (cap : List Value) (q : Tok → Bool) (Kf : World → Prop) (he : memB entL f = true) (ts : List TP) (n : Nat) (hn : ts.length = n) (htl : n ≤ 1000000) (hf : ∀ t ∈ ts, ∀ (own : Nat → Prop) (W : World), (∀ b, own b → b < W.heap.size) → Has own W Kf → Calls Try.prog f ⟨.agg ⟨tkC t⟩ :: cap⟩ W (Ret W fun v _ => v = .bool (q t.1))) (a0 : Option Addr) (c0 : Nat) (own : Nat → Prop) (W : World) (hl : ∀ b, own b → b < W.heap.size) (hk : Has own W Kf) (h3 : Has own W (RdF id a0 (cellsT ts))) :
    Calls Try.prog 82 ⟨[.slice a0 n c0, .func (.func f) #[] ⟨cap⟩]⟩ W (Ret W fun v _ => ∃ i : Int, v = .int .i64 i ∧ IdxOf q (tms ts) i) := by
  subst hn
  have hM := ((Mm.start hl).known hk).known h3
  refine f_start Try.func82 rfl Try.ntmps82 rfl rfl ?_; intro a hF
  (repeat (first | (with_reducible refine w_seq ?_) | (with_reducible refine c_region ?_) | (with_reducible refine s_nil ?_) | (with_reducible refine q_then_n ?_) | ((with_reducible apply s_pure hF); exact rfl; exact rfl; exact rfl; (first | exact trivial | omega | exact ⟨Int.natCast_nonneg _, Int.ofNat_lt.2 (by assumption)⟩ | decide); clear hF a; intro a hF) | (with_reducible refine w_block ?_)))
  refine c_loop (m := ts.length) (fun m a w' => ∃ k : Nat, m + k = ts.length ∧ (∀ y ∈ (tms ts).take k, q y = false) ∧
    Fr 19 [] [(8, .int .i64 k), (7, .int .i64 ts.length), (0, .slice a0 ts.length c0), (1, .func (.func f) #[] ⟨cap⟩)] a ∧
    Mm own W [] [] [RdF id a0 (cellsT ts), Kf] w') ⟨0, by omega, by simp, hF.sub (by repeat (first | exact Sub.nil | refine Sub.cons rfl (by first | with_reducible rfl | (refine congrArg (Value.int _) ?_; omega) | exact rfl) ?_)), hM⟩ ?_
  clear hF hM a
  rintro m a w' ⟨k, hm, hno, hF, hM⟩
  by_cases hk : k < ts.length
  · obtain ⟨t, ht⟩ := get_of_lt hk
    have htm := List.mem_of_getElem? ht
    have hmt := tms_get ht
    have hfc := hf t htm
    have hpc : (ts.map tkC)[k]? = some [.bool t.1.r, .int .u64 t.1.d, .slice t.2.1 t.1.x.length t.2.2] := by rw [List.getElem?_map, ht]; rfl
    have hw := tkC_len ts
    obtain ⟨ad, rfl⟩ : ∃ ad, a0 = some ad := rd_some hM (enc := id) (a := a0) (xs := cellsT ts) (by (repeat (first | exact List.mem_cons_self | refine List.mem_cons_of_mem _ ?_))) (flat_get (q := 0) hw hpc rfl)
    unfold cellsT at hM
    (repeat' (first | (with_reducible refine w_seq ?_) | (with_reducible refine c_region ?_) | (with_reducible refine s_nil ?_) | ((with_reducible apply s_loadE hF hM); exact rfl; exact rfl; (repeat (first | exact List.mem_cons_self | refine List.mem_cons_of_mem _ ?_)); exact rfl; exact rfl; (first | with_reducible assumption | (simp only [Int.toNat_natCast]; with_reducible assumption)); (with_reducible assumption); clear hF a; intro a hF) | (with_reducible refine q_then_n ?_) | ((with_reducible apply s_pure hF); exact rfl; exact rfl; exact rfl; (first | exact trivial | omega | exact ⟨Int.natCast_nonneg _, Int.ofNat_lt.2 (by assumption)⟩ | decide); clear hF a; intro a hF) | (with_reducible refine w_skip ?_) | (with_reducible refine w_block ?_) | ((with_reducible apply c_dec hF); exact rfl; all_goals intro hc; all_goals (try (exfalso; omega)))))
    (((with_reducible apply s_callc (f := f) hF hM); exact rfl; exact rfl; exact rfl; exact rfl; exact rfl; (with_reducible assumption); exact rfl; exact (hfc _ _ hM.lt (hM.facts Kf (by (repeat (first | exact List.mem_cons_self | refine List.mem_cons_of_mem _ ?_))))); clear hF hM a; rintro v w a rfl - hM hF))
    cases hq : q t.1 with
    | true =>
      rw [hq] at hF
      (repeat' (first | (with_reducible refine w_seq ?_) | (with_reducible refine c_region ?_) | (with_reducible refine s_nil ?_) | (with_reducible refine q_then_n ?_) | ((with_reducible apply s_pure hF); exact rfl; exact rfl; exact rfl; (first | exact trivial | omega | exact ⟨Int.natCast_nonneg _, Int.ofNat_lt.2 (by assumption)⟩ | decide); clear hF a; intro a hF) | (with_reducible refine w_ret ?_) | (with_reducible refine q_then_r ?_) | (with_reducible refine q_blk_r ?_) | ((with_reducible apply c_true2 hF); exact rfl; (first | with_reducible rfl | (refine congrArg Value.bool ?_; focus (simp; done))))))
      (apply f_ret Try.results82 hF hM; (repeat (first | exact RL.nil | (apply RL.tmp; exact rfl) | (apply RL.cell; exact rfl; (repeat (first | exact List.mem_cons_self | refine List.mem_cons_of_mem _ ?_)); exact rfl))); refine Ret.mk hM.since ?_; dsimp only [resV])
      exact ⟨_, rfl, IdxOf.some hmt hq hno⟩
    | false =>
      rw [hq] at hF
      (repeat' (first | (with_reducible refine c_region ?_) | (with_reducible refine s_nil ?_) | (with_reducible refine q_then_n ?_) | ((with_reducible apply s_pure hF); exact rfl; exact rfl; exact rfl; (first | exact trivial | omega | exact ⟨Int.natCast_nonneg _, Int.ofNat_lt.2 (by assumption)⟩ | decide); clear hF a; intro a hF) | (with_reducible refine w_skip ?_) | (with_reducible refine q_blk_n ?_) | ((with_reducible apply c_false2 hF); exact rfl; (first | with_reducible rfl | (refine congrArg Value.bool ?_; focus (simp; done))))))
      exact ⟨m - 1, by omega, k + 1, by omega, pre_succ hno hmt hq, hF.sub (by repeat (first | exact Sub.nil | refine Sub.cons rfl (by first | with_reducible rfl | (refine congrArg (Value.int _) ?_; omega) | exact rfl) ?_)), hM⟩
  · rw [List.take_of_length_le (by simp [tms]; omega)] at hno
    (repeat' (first | (with_reducible refine w_seq ?_) | (with_reducible refine c_region ?_) | (with_reducible refine s_nil ?_) | (with_reducible refine q_then_n ?_) | ((with_reducible apply s_pure hF); exact rfl; exact rfl; exact rfl; (first | exact trivial | omega | exact ⟨Int.natCast_nonneg _, Int.ofNat_lt.2 (by assumption)⟩ | decide); clear hF a; intro a hF) | (with_reducible refine w_exit ?_) | (with_reducible refine w_ret ?_) | (with_reducible refine q_then_x ?_) | (with_reducible refine q_blk_x ?_) | ((with_reducible apply c_dec hF); exact rfl; all_goals intro hc; all_goals (try (exfalso; omega)))))
    (apply f_ret Try.results82 hF hM; (repeat (first | exact RL.nil | (apply RL.tmp; exact rfl) | (apply RL.cell; exact rfl; (repeat (first | exact List.mem_cons_self | refine List.mem_cons_of_mem _ ?_)); exact rfl))); refine Ret.mk hM.since ?_; dsimp only [resV])
    exact ⟨_, rfl, IdxOf.none hno⟩
theorem conT_c (f : FuncId) (cap : List Value) (q : Tok → Bool) (Kf : World → Prop) (he : memB entL f = true) (ts : List TP) (n : Nat) (hn : ts.length = n) (htl : n ≤ 1000000) (hf : ∀ t ∈ ts, ∀ (own : Nat → Prop) (W : World), (∀ b, own b → b < W.heap.size) → Has own W Kf → Calls Try.prog f ⟨.agg ⟨tkC t⟩ :: cap⟩ W (Ret W fun v _ => v = .bool (q t.1))) (a0 : Option Addr) (c0 : Nat) (own : Nat → Prop) (W : World) (hl : ∀ b, own b → b < W.heap.size) (hk : Has own W Kf) (h3 : Has own W (RdF id a0 (cellsT ts))) :
    Calls Try.prog 44 ⟨[.slice a0 n c0, .func (.func f) #[] ⟨cap⟩]⟩ W (Ret W fun v _ => v = .bool ((tms ts).any q)) := by
  have hM := ((Mm.start hl).known hk).known h3
  refine f_start Try.func44 rfl Try.ntmps44 rfl rfl ?_; intro a hF
  (repeat (first | (with_reducible refine w_seq ?_) | (with_reducible refine c_region ?_) | (with_reducible refine s_nil ?_) | (with_reducible refine q_then_n ?_) | ((with_reducible apply s_pure hF); exact rfl; exact rfl; exact rfl; (first | exact trivial | omega | exact ⟨Int.natCast_nonneg _, Int.ofNat_lt.2 (by assumption)⟩ | decide); clear hF a; intro a hF)))
  (((with_reducible apply s_call (f := 82) hF hM); exact rfl; exact rfl; exact rfl; exact rfl; exact rfl; exact (idxT_c f cap q Kf he ts n hn htl hf a0 c0 _ _ hM.lt (hM.facts Kf (by (repeat (first | exact List.mem_cons_self | refine List.mem_cons_of_mem _ ?_)))) (hM.facts (RdF id a0 (cellsT ts)) (by (repeat (first | exact List.mem_cons_self | refine List.mem_cons_of_mem _ ?_))))); clear hF hM a; rintro v w a ⟨i, rfl, hi⟩ - hM hF))
  (repeat (first | (with_reducible refine s_nil ?_) | (with_reducible refine q_then_n ?_) | ((with_reducible apply s_pure hF); exact rfl; exact rfl; exact rfl; (first | exact trivial | omega | exact ⟨Int.natCast_nonneg _, Int.ofNat_lt.2 (by assumption)⟩ | decide); clear hF a; intro a hF) | (with_reducible refine w_ret ?_)))
  (apply f_ret Try.results44 hF hM; (repeat (first | exact RL.nil | (apply RL.tmp; exact rfl) | (apply RL.cell; exact rfl; (repeat (first | exact List.mem_cons_self | refine List.mem_cons_of_mem _ ?_)); exact rfl))); refine Ret.mk hM.since ?_; dsimp only [resV])
  rw [← hi.any]
theorem mem_take {l : List Int} {k : Nat} {y x : Int} (h : l[k]? = some y) : (x ∈ l.take (k + 1)) ↔ (x ∈ l.take k ∨ x = y) := by
  rw [List.take_add_one, h]
  simp
set_option maxRecDepth 20000 in
set_option maxHeartbeats 2000000 in
theorem idxU_c (xs : List Int) (d : Int) (a0 : Option Addr) (c0 n : Nat) (hn : xs.length = n) (hb : n ≤ 1000000) (own : Nat → Prop) (W : World) (hl : ∀ b, own b → b < W.heap.size) (hv : Has own W (RdF (Value.int .u64) a0 xs)) :
    Calls Try.prog 84 ⟨[.slice a0 n c0, .int .u64 d]⟩ W (Ret W fun v _ => ∃ i : Int, v = .int .i64 i ∧ (0 ≤ i ↔ d ∈ xs)) := by
  subst hn
  have hM := (Mm.start hl).known hv
  refine f_start Try.func84 rfl Try.ntmps84 rfl rfl ?_; intro a hF
  (repeat (first | (with_reducible refine w_seq ?_) | (with_reducible refine c_region ?_) | (with_reducible refine s_nil ?_) | (with_reducible refine q_then_n ?_) | ((with_reducible apply s_pure hF); exact rfl; exact rfl; exact rfl; (first | exact trivial | omega | exact ⟨Int.natCast_nonneg _, Int.ofNat_lt.2 (by assumption)⟩ | decide); clear hF a; intro a hF) | (with_reducible refine w_block ?_)))
  refine c_loop (m := xs.length) (fun m a w' => ∃ k : Nat, m + k = xs.length ∧ d ∉ xs.take k ∧
    Fr 19 [] [(8, .int .i64 k), (7, .int .i64 xs.length), (0, .slice a0 xs.length c0), (1, .int .u64 d)] a ∧
    Mm own W [] [] [RdF (Value.int .u64) a0 xs] w') ⟨0, by omega, by simp, hF.sub (by repeat (first | exact Sub.nil | refine Sub.cons rfl (by first | with_reducible rfl | (refine congrArg (Value.int _) ?_; omega) | exact rfl) ?_)), hM⟩ ?_
  clear hF hM a
  rintro m a w' ⟨k, hm, hno, hF, hM⟩
  by_cases hk : k < xs.length
  · obtain ⟨y, hy⟩ := get_of_lt hk
    obtain ⟨ad, rfl⟩ : ∃ ad, a0 = some ad := rd_some hM (by (repeat (first | exact List.mem_cons_self | refine List.mem_cons_of_mem _ ?_))) hy
    have hmt := mem_take (x := d) hy
    by_cases hd : d = y
    · (repeat' (first | (with_reducible refine w_seq ?_) | (with_reducible refine c_region ?_) | (with_reducible refine s_nil ?_) | (with_reducible refine q_then_n ?_) | ((with_reducible apply s_pure hF); exact rfl; exact rfl; exact rfl; (first | exact trivial | omega | exact ⟨Int.natCast_nonneg _, Int.ofNat_lt.2 (by assumption)⟩ | decide); clear hF a; intro a hF) | ((with_reducible apply s_loadF hF hM); exact rfl; exact rfl; (repeat (first | exact List.mem_cons_self | refine List.mem_cons_of_mem _ ?_)); exact rfl; exact rfl; (first | with_reducible assumption | (simp only [Int.toNat_natCast]; with_reducible assumption)); clear hF a; intro a hF) | (with_reducible refine w_skip ?_) | (with_reducible refine w_block ?_) | (with_reducible refine w_ret ?_) | (with_reducible refine q_then_r ?_) | (with_reducible refine q_blk_r ?_) | ((with_reducible apply c_dec hF); exact rfl; all_goals intro hc; all_goals (try (exfalso; omega)))))
      · (apply f_ret Try.results84 hF hM; (repeat (first | exact RL.nil | (apply RL.tmp; exact rfl) | (apply RL.cell; exact rfl; (repeat (first | exact List.mem_cons_self | refine List.mem_cons_of_mem _ ?_)); exact rfl))); refine Ret.mk hM.since ?_; dsimp only [resV])
        exact ⟨_, rfl, fun _ => by rw [hd]; exact List.mem_of_getElem? hy, fun _ => by omega⟩
    · (repeat' (first | (with_reducible refine w_seq ?_) | (with_reducible refine c_region ?_) | (with_reducible refine s_nil ?_) | (with_reducible refine q_then_n ?_) | ((with_reducible apply s_pure hF); exact rfl; exact rfl; exact rfl; (first | exact trivial | omega | exact ⟨Int.natCast_nonneg _, Int.ofNat_lt.2 (by assumption)⟩ | decide); clear hF a; intro a hF) | ((with_reducible apply s_loadF hF hM); exact rfl; exact rfl; (repeat (first | exact List.mem_cons_self | refine List.mem_cons_of_mem _ ?_)); exact rfl; exact rfl; (first | with_reducible assumption | (simp only [Int.toNat_natCast]; with_reducible assumption)); clear hF a; intro a hF) | (with_reducible refine w_skip ?_) | (with_reducible refine w_block ?_) | (with_reducible refine q_blk_n ?_) | ((with_reducible apply c_dec hF); exact rfl; all_goals intro hc; all_goals (try (exfalso; omega)))))
      · exact ⟨m - 1, by omega, k + 1, by omega, fun h => (hmt.1 h).elim hno hd, hF.sub (by repeat (first | exact Sub.nil | refine Sub.cons rfl (by first | with_reducible rfl | (refine congrArg (Value.int _) ?_; omega) | exact rfl) ?_)), hM⟩
  · rw [List.take_of_length_le (by omega)] at hno
    (repeat' (first | (with_reducible refine w_seq ?_) | (with_reducible refine c_region ?_) | (with_reducible refine s_nil ?_) | (with_reducible refine q_then_n ?_) | ((with_reducible apply s_pure hF); exact rfl; exact rfl; exact rfl; (first | exact trivial | omega | exact ⟨Int.natCast_nonneg _, Int.ofNat_lt.2 (by assumption)⟩ | decide); clear hF a; intro a hF) | (with_reducible refine w_exit ?_) | (with_reducible refine w_ret ?_) | (with_reducible refine q_then_x ?_) | (with_reducible refine q_blk_x ?_) | ((with_reducible apply c_dec hF); exact rfl; all_goals intro hc; all_goals (try (exfalso; omega)))))
    (apply f_ret Try.results84 hF hM; (repeat (first | exact RL.nil | (apply RL.tmp; exact rfl) | (apply RL.cell; exact rfl; (repeat (first | exact List.mem_cons_self | refine List.mem_cons_of_mem _ ?_)); exact rfl))); refine Ret.mk hM.since ?_; dsimp only [resV])
    exact ⟨_, rfl, fun h => by omega, fun h => absurd h hno⟩
set_option maxHeartbeats 1000000 in
theorem conU_c (xs : List Int) (d : Int) (a0 : Option Addr) (c0 n : Nat) (hn : xs.length = n) (hb : n ≤ 1000000) (own : Nat → Prop) (W : World) (hl : ∀ b, own b → b < W.heap.size) (hv : Has own W (RdF (Value.int .u64) a0 xs)) :
    Calls Try.prog 47 ⟨[.slice a0 n c0, .int .u64 d]⟩ W (Ret W fun v _ => v = .bool (decide (d ∈ xs))) := by
  have hM := (Mm.start hl).known hv
  refine f_start Try.func47 rfl Try.ntmps47 rfl rfl ?_; intro a hF
  (repeat (first | (with_reducible refine w_seq ?_) | (with_reducible refine c_region ?_) | (with_reducible refine s_nil ?_) | (with_reducible refine q_then_n ?_) | ((with_reducible apply s_pure hF); exact rfl; exact rfl; exact rfl; (first | exact trivial | omega | exact ⟨Int.natCast_nonneg _, Int.ofNat_lt.2 (by assumption)⟩ | decide); clear hF a; intro a hF)))
  (((with_reducible apply s_call (f := 84) hF hM); exact rfl; exact rfl; exact rfl; exact rfl; exact rfl; exact (idxU_c xs d a0 c0 n hn hb _ _ hM.lt (hM.facts (RdF (Value.int .u64) a0 xs) (by (repeat (first | exact List.mem_cons_self | refine List.mem_cons_of_mem _ ?_))))); clear hF hM a; rintro v w a ⟨i, rfl, hi⟩ - hM hF))
  (repeat (first | (with_reducible refine s_nil ?_) | (with_reducible refine q_then_n ?_) | ((with_reducible apply s_pure hF); exact rfl; exact rfl; exact rfl; (first | exact trivial | omega | exact ⟨Int.natCast_nonneg _, Int.ofNat_lt.2 (by assumption)⟩ | decide); clear hF a; intro a hF) | (with_reducible refine w_ret ?_)))
  (apply f_ret Try.results47 hF hM; (repeat (first | exact RL.nil | (apply RL.tmp; exact rfl) | (apply RL.cell; exact rfl; (repeat (first | exact List.mem_cons_self | refine List.mem_cons_of_mem _ ?_)); exact rfl))); refine Ret.mk hM.since ?_; dsimp only [resV])
  rw [decide_eq_decide.2 hi]
end Go.Proofs.Ytadfdpkhehdikaa


/- Plain law of layer 29: what is missing, when it is supplied, lets the other side decode. -/
namespace Go.Proofs.Ytadfdpkhehdikaa
namespace D29
def tokD (t : Tok) : Int := if t.r then t.d else dg t.x
def knw (cap : Int) (k : List Int) (d : Int) : List Int := if d ∈ k then k else if cap < (k ++ [d]).length then (k ++ [d]).drop 1 else k ++ [d]
/-- The digests that are missing, behind others. -/
def misI (cap : Int) : List Tok → List Int → List Int → List Int
  | [], _, o => o
  | t :: r, k, o => if tokD t ∈ k then misI cap r k o else misI cap r (knw cap k (tokD t)) (if t.r = true ∧ tokD t ∉ o then o ++ [tokD t] else o)
/-- The data that are supplied for a digest: those of the first chunk that is right. -/
def supF (f : List Itm) (d : Int) : Option Dat := (f.find? fun i => decide (i.d = d) && (isCh i.x && decide (dg i.x = i.d))).map (·.x)
def supT (f : List Itm) (t : Tok) : Tok := if t.r = true ∧ corT t = true then match supF f t.d with
  | some x => ⟨false, 0, x⟩
  | none => t
  else t
theorem mis_ge {cap : Int} : ∀ {ts : List Tok} {k o : List Int} {d : Int}, d ∈ o → d ∈ misI cap ts k o
  | [], _, _, _, h => h
  | t :: r, k, o, d, h => by
    rw [misI]
    split
    · exact mis_ge h
    · refine mis_ge ?_
      split
      · exact List.mem_append_left _ h
      · exact h
theorem mis_ref {cap : Int} : ∀ {ts : List Tok} {k o : List Int} {d : Int}, d ∈ misI cap ts k o → d ∈ o ∨ ∃ t ∈ ts, t.r = true ∧ t.d = d
  | [], _, _, _, h => .inl h
  | t :: r, k, o, d, h => by
    rw [misI] at h
    split at h
    · rcases mis_ref h with h | ⟨s, hs, e⟩
      · exact .inl h
      · exact .inr ⟨s, List.mem_cons_of_mem _ hs, e⟩
    · rcases mis_ref h with h | ⟨s, hs, e⟩
      · split at h
        · rename_i hr
          rcases List.mem_append.1 h with h | h
          · exact .inl h
          · rw [List.mem_singleton] at h
            refine .inr ⟨t, List.mem_cons_self, hr.1, ?_⟩
            rw [h]
            unfold tokD
            rw [if_pos hr.1]
        · exact .inl h
      · exact .inr ⟨s, List.mem_cons_of_mem _ hs, e⟩
/-- No two different chunks of these have the same digest. -/
def NoC (P : Dat → Prop) : Prop := ∀ x y, P x → P y → dg x = dg y → x = y
theorem has_knw {P : Dat → Prop} (hn : NoC P) {l : List Itm} (hl : ∀ i ∈ l, i.d = dg i.x ∧ P i.x) {x : Dat} (hx : P x) : hasD l x = true ↔ dg x ∈ l.map (·.d) := by
  rw [hasD_iff, List.mem_map]
  constructor
  · rintro ⟨i, hi, rfl⟩
    exact ⟨i, hi, (hl i hi).1⟩
  · rintro ⟨i, hi, e⟩
    exact ⟨i, hi, hn _ _ (hl i hi).2 hx (by rw [← (hl i hi).1, e])⟩
theorem add_knw {P : Dat → Prop} (hn : NoC P) {cap : Int} {l : List Itm} (hl : ∀ i ∈ l, i.d = dg i.x ∧ P i.x) {x : Dat} (hx : P x) : (addI cap l x).map (·.d) = knw cap (l.map (·.d)) (dg x) ∧ ∀ i ∈ addI cap l x, i.d = dg i.x ∧ P i.x := by
  have h := has_knw hn hl hx
  unfold addI knw
  by_cases hh : hasD l x = true
  · rw [if_pos hh, if_pos (h.1 hh)]
    exact ⟨rfl, hl⟩
  · rw [if_neg hh, if_neg (fun q => hh (h.2 q))]
    have hall : ∀ i ∈ l ++ [(⟨dg x, x⟩ : Itm)], i.d = dg i.x ∧ P i.x := by
      intro i hi
      rcases List.mem_append.1 hi with hi | hi
      · exact hl i hi
      · rw [List.mem_singleton] at hi
        rw [hi]
        exact ⟨rfl, hx⟩
    have e : (l ++ [(⟨dg x, x⟩ : Itm)]).map (·.d) = l.map (·.d) ++ [dg x] := by simp
    have e2 : (l ++ [(⟨dg x, x⟩ : Itm)]).length = (l.map (·.d) ++ [dg x]).length := by simp
    rw [e2]
    split
    · rw [List.map_drop, e]
      exact ⟨rfl, fun i hi => hall i (List.mem_of_mem_drop hi)⟩
    · rw [e]
      exact ⟨rfl, hall⟩
/-- A token that stands for a chunk. -/
def Stands (t : Tok) (x : Dat) : Prop := isCh x = true ∧ ((t.r = true ∧ t.d = dg x ∧ t.x = []) ∨ (t.r = false ∧ t.d = 0 ∧ t.x = x))
theorem Stands.cor {t : Tok} {x : Dat} (h : Stands t x) : corT t = true := by
  obtain ⟨h0, ⟨h1, h2, h3⟩ | ⟨h1, h2, h3⟩⟩ := h
  · simp [corT, h1, h3]
  · simp [corT, h1, h2, h3, h0]
theorem Stands.dig {t : Tok} {x : Dat} (h : Stands t x) : tokD t = dg x := by
  obtain ⟨h0, ⟨h1, h2, h3⟩ | ⟨h1, h2, h3⟩⟩ := h
  · simp [tokD, h1, h2]
  · simp [tokD, h1, h3]
theorem tok_stands {l : List Itm} {x : Dat} (h : isCh x = true) : Stands (tokI l x) x := by
  unfold tokI
  split
  · exact ⟨h, .inl ⟨rfl, rfl, rfl⟩⟩
  · exact ⟨h, .inr ⟨rfl, rfl, rfl⟩⟩
/-- Tokens that stand for chunks. -/
inductive StL : List Tok → List Dat → Prop
  | nil : StL [] []
  | cons {t x ts xs} : Stands t x → StL ts xs → StL (t :: ts) (x :: xs)
theorem enc_stl {cap : Int} : ∀ {xs : List Dat} {l : List Itm}, (∀ x ∈ xs, isCh x = true) → StL (encI cap xs l).2 xs
  | [], _, _ => .nil
  | x :: r, l, h => .cons (tok_stands (h x List.mem_cons_self)) (enc_stl fun y hy => h y (List.mem_cons_of_mem _ hy))
theorem findI_knw {P : Dat → Prop} (hn : NoC P) {l : List Itm} (hl : ∀ i ∈ l, i.d = dg i.x ∧ P i.x) {x : Dat} (hx : P x) : findI l (dg x) = if dg x ∈ l.map (·.d) then some x else none := by
  cases h : findI l (dg x) with
  | none =>
    rw [if_neg]
    rw [List.mem_map]
    rintro ⟨i, hi, e⟩
    exact findI_none h i hi e
  | some y =>
    obtain ⟨i, hi, e1, e2⟩ := findI_some h
    rw [if_pos (List.mem_map.2 ⟨i, hi, e1⟩), ← e2, hn _ _ (hl i hi).2 hx (by rw [← (hl i hi).1, e1])]
/-- Without a supply: an error just where something is missing. -/
theorem dec_raw {P : Dat → Prop} (hn : NoC P) {cap : Int} {ts : List Tok} {xs : List Dat} (hs : StL ts xs) : ∀ {l : List Itm} {o : Dat}, (∀ x ∈ xs, P x) → (∀ i ∈ l, i.d = dg i.x ∧ P i.x) →
    (misI cap ts (l.map (·.d)) [] = [] → ∃ l', decI cap ts l o = .ok (l', o ++ xs.flatten)) ∧ (misI cap ts (l.map (·.d)) [] ≠ [] → decI cap ts l o = .error 25) := by
  induction hs with
  | nil => intro l o _ _; exact ⟨fun _ => ⟨l, by simp [decI]⟩, fun h => absurd rfl h⟩
  | @cons t x ts xs ht hr ih =>
    intro l o hp hl
    have hx := hp x List.mem_cons_self
    obtain ⟨k1, k2⟩ := add_knw hn (cap := cap) hl hx
    have hf := findI_knw hn hl hx
    have ih2 := ih (l := addI cap l x) (o := o ++ x) (fun y hy => hp y (List.mem_cons_of_mem _ hy)) k2
    rw [k1] at ih2
    rw [misI, ht.dig, decI, ht.cor]
    simp only [Bool.not_true, Bool.false_eq_true, if_false, List.flatten_cons, ← List.append_assoc]
    by_cases hk : dg x ∈ l.map (·.d)
    · have e : knw cap (l.map (·.d)) (dg x) = l.map (·.d) := by unfold knw; rw [if_pos hk]
      rw [e] at ih2
      rw [if_pos hk]
      have ev : (if t.r = true then findI l t.d else some t.x) = some x := by
        obtain ⟨_, ⟨h1, h2, h3⟩ | ⟨h1, h2, h3⟩⟩ := ht
        · rw [if_pos h1, h2, hf, if_pos hk]
        · rw [h1, h3]; simp
      rw [ev]
      exact ih2
    · rw [if_neg hk]
      obtain ⟨_, ⟨h1, h2, h3⟩ | ⟨h1, h2, h3⟩⟩ := ht
      · rw [if_pos ⟨h1, by simp⟩, if_pos h1, h2, hf, if_neg hk]
        refine ⟨fun h => ?_, fun _ => rfl⟩
        have : dg x ∈ misI cap ts (knw cap (l.map (·.d)) (dg x)) ([] ++ [dg x]) := mis_ge (by simp)
        rw [h] at this
        simp at this
      · rw [if_neg (by rw [h1]; simp), h1, h3]
        simp only [Bool.false_eq_true, if_false]
        exact ih2
/-- With a supply of all that is missing. -/
theorem dec_sup {P : Dat → Prop} (hn : NoC P) {cap : Int} {f : List Itm} (hf : ∀ i ∈ f, P i.x) {ts : List Tok} {xs : List Dat} (hs : StL ts xs) : ∀ {l : List Itm} {o : Dat} {m : List Int}, (∀ x ∈ xs, P x) → (∀ i ∈ l, i.d = dg i.x ∧ P i.x) →
    (∀ x ∈ xs, dg x ∈ misI cap ts (l.map (·.d)) m → ∃ i ∈ f, i.d = dg x ∧ isCh i.x = true ∧ dg i.x = i.d) → ∃ l', decI cap (ts.map (supT f)) l o = .ok (l', o ++ xs.flatten) := by
  induction hs with
  | nil => intro l o m _ _ _; exact ⟨l, by simp [decI]⟩
  | @cons t x ts xs ht hr ih =>
    intro l o m hp hl hsup
    have hx := hp x List.mem_cons_self
    obtain ⟨k1, k2⟩ := add_knw hn (cap := cap) hl hx
    have hfi := findI_knw hn hl hx
    rw [misI, ht.dig] at hsup
    rw [List.map_cons, decI]
    -- the token, supplied or not, gives the chunk
    have key : corT (supT f t) = true ∧ (if (supT f t).r = true then findI l (supT f t).d else some (supT f t).x) = some x := by
      have hc := ht.cor
      have ht2 := ht
      obtain ⟨h0, ⟨h1, h2, h3⟩ | ⟨h1, h2, h3⟩⟩ := ht2
      · cases hq : supF f t.d with
        | some y =>
          have e : supT f t = ⟨false, 0, y⟩ := by
            unfold supT
            rw [if_pos ⟨h1, hc⟩, hq]
          have hy : isCh y = true ∧ y = x := by
            unfold supF at hq
            cases hg : f.find? fun i => decide (i.d = t.d) && (isCh i.x && decide (dg i.x = i.d)) with
            | none => rw [hg] at hq; cases hq
            | some i =>
              rw [hg] at hq
              injection hq with hq
              have g1 := List.mem_of_find?_eq_some hg
              have g2 := List.find?_some hg
              simp only [Bool.and_eq_true, decide_eq_true_eq] at g2
              have hq' : i.x = y := hq
              rw [← hq']
              exact ⟨g2.2.1, hn _ _ (hf i g1) hx (by rw [g2.2.2, g2.1, h2])⟩
          rw [e]
          refine ⟨by simp [corT, hy.1], by simp [hy.2]⟩
        | none =>
          have e : supT f t = t := by
            unfold supT
            rw [if_pos ⟨h1, hc⟩, hq]
          rw [e]
          refine ⟨hc, ?_⟩
          rw [if_pos h1, h2, hfi, if_pos]
          apply Classical.byContradiction
          intro hk
          rw [if_neg hk] at hsup
          have hm : dg x ∈ misI cap ts (knw cap (l.map (·.d)) (dg x)) (if t.r = true ∧ dg x ∉ m then m ++ [dg x] else m) := by
            refine mis_ge ?_
            by_cases hmm : dg x ∈ m
            · rw [if_neg (fun q => q.2 hmm)]; exact hmm
            · rw [if_pos ⟨h1, hmm⟩]; simp
          obtain ⟨i, g1, g2, g3, g4⟩ := hsup x List.mem_cons_self hm
          unfold supF at hq
          rw [Option.map_eq_none_iff, List.find?_eq_none] at hq
          have := hq i g1
          simp [g2, h2, g3] at this
          omega
      · have e : supT f t = t := by
          unfold supT
          rw [if_neg (by rw [h1]; simp)]
        rw [e]
        exact ⟨hc, by rw [h1, h3]; simp⟩
    rw [key.1, key.2]
    simp only [Bool.not_true, Bool.false_eq_true, if_false, List.flatten_cons, ← List.append_assoc]
    by_cases hk : dg x ∈ l.map (·.d)
    · rw [if_pos hk] at hsup
      have e : knw cap (l.map (·.d)) (dg x) = l.map (·.d) := by unfold knw; rw [if_pos hk]
      rw [e] at k1
      exact ih (m := m) (fun y hy => hp y (List.mem_cons_of_mem _ hy)) k2 (fun y hy h => hsup y (List.mem_cons_of_mem _ hy) (by rw [k1] at h; exact h))
    · rw [if_neg hk] at hsup
      exact ih (m := if t.r = true ∧ dg x ∉ m then m ++ [dg x] else m) (fun y hy => hp y (List.mem_cons_of_mem _ hy)) k2 (fun y hy h => hsup y (List.mem_cons_of_mem _ hy) (by rw [k1] at h; exact h))
end D29
end Go.Proofs.Ytadfdpkhehdikaa


/- dedup: the digests of tokens, Missing. -/
namespace Go.Proofs.Ytadfdpkhehdikaa
open Go.RowKit Go.Shelf D29
section
variable {n : Nat} {ds : List Deferred} {l : List (Nat × Value)} {a : Act} {w w0 : World}
variable {Q : Exit → Act → World → Prop}
/-- A range over a function, of two variables, whose body never leaves it. -/
theorem c_range3 {α : Type} {g : Operand} {p p2 : Tmp} {assign body : Code} {m gf : Nat} {lb : Array Value} {va vb : α → Value} {la : α → List (Nat × Value)} {Kp : World → World → Prop} {S Sp : List α → Prop} {N : Nat} {wq : World}
    (hF : Fr n [] l a) (hg : ev l g = some (.func (.func gf) #[] lb)) (he : memB entL gf = true) (hp : Nat.blt p n = true) (hp2 : Nat.blt p2 n = true)
    (hseq : SeqStopsK Fence.wide m Try.prog gf lb (fun x => #[va x, vb x]) Kp S Sp N wq) (hm : 1 ≤ m) (hKr : ∀ W, Kp W W) (hKt : ∀ {A B C : World}, Kp A B → Kp B C → Kp A C) (hKb : ∀ (W : World) (l : Nat) (o o' : Obj), w.heap.size ≤ l → W.heap[l]? = some o → o.isCells = false → o.isWalk = false → Kp W (W.putObj l o')) (hb0 : Below wq.heap.size wq w)
    (I : List α → World → Prop) (hI : OwnFrom w.heap.size I) (h0 : I [] w)
    (hassign : ∀ (l0 k : Nat) (x : α) (a : Act) (W : World), Fr n [] ((p2, vb x) :: (p, va x) :: l) a → Wk (some (l0, k)) assign (Cut fun a' W' => W' = W ∧ Fr n [] (la x) a') a W)
    (hbody : ∀ (l0 k : Nat) (pre : List α) (x : α) (a : Act) (W : World), I pre W → Fr n [] (la x) a → pre.length < N → Wk (some (l0, k)) body (ownPostG w.heap.size Kp I (fun _ _ _ => False) (pre ++ [x]) W) a W)
    (hdone : ∀ (D : Nat) (xs : List α) (a : Act) (W : World), w.heap.size ≤ D → S xs → I xs W → W.heap[D]? = some (.deferred (some [])) → Fr n (markL D) l a → Q .normal a W) :
    Wk none (Code.rangeFunc g #[p, p2] assign body) Q a w := by
  refine (wpIn_wide (n := m + 1)).1 (wpIn_rangeFunc_ownH (F := Fence.wide) (n := m + 1) rfl (by omega) (hF.eval hg) trivial (entL_ok (memB_ok he)) (Kp := Kp) hseq (fun h k => hKt h k) hKb hb0 (fun x => rfl) I (fun _ _ _ => False) hI (fun _ _ _ _ _ h _ _ => h) h0
    (fun x a' _ => Fr n [] (la x) a') (fun _ _ _ _ _ _ h _ _ => h) ?_ ?_ ?_ ?_)
  · intro l0 pre x W K hIp hK
    have hr : Fr n [] ((p2, vb x) :: (p, va x) :: l) { tmps := (#[p, p2].zip #[va x, vb x]).foldl (fun t (p, v) => t.setIfInBounds p v) a.tmps, defers := [] } := by
      have := (hF.put hp (va x)).put hp2 (vb x)
      have e : ((a.put (some p) (va x)).put (some p2) (vb x)) = { tmps := (#[p, p2].zip #[va x, vb x]).foldl (fun t (p, v) => t.setIfInBounds p v) a.tmps, defers := [] } := by
        simp [Act.put, hF.defs]
      rw [e] at this
      exact this
    refine wpIn_mono (hassign l0 _ x _ W hr) ?_
    intro e a' W' h
    cases e <;> first | exact h.elim | skip
    obtain ⟨rfl, h2⟩ := h
    exact hK a' W' (KeepsFrom.refl _ _) (hKr _) hIp h2
  · intro l0 pre x a' W _ _ hIp hA hlt
    exact hbody l0 _ pre x a' W hIp hA hlt
  · intro D xs W hD hS hIx hK
    refine hdone D xs _ W hD hS hIx hK ⟨hF.size, ?_, hF.get⟩
    show _ :: a.defers = _
    rw [hF.defs]; rfl
  · intro D c pre W _ _ h _
    exact h.elim
end
namespace D29
/-- What a round keeps for the sequence of digests. -/
def Kd (W0 A B : World) : Prop := Below W0.heap.size A B ∧ KT W0.heap.size 34 A B
theorem Kd.refl {W0 A : World} : Kd W0 A A := ⟨Below.refl _ _, KT.refl _ _ _⟩
theorem Kd.trans {W0 A B C : World} (h : Kd W0 A B) (k : Kd W0 B C) : Kd W0 A C := ⟨h.1.trans k.1, h.2.trans k.2⟩
end D29
theorem digests_c (a0 : Option Addr) (n c0 : Nat) (B : Nat) (own : Nat → Prop) (W : World) (hl : ∀ b, own b → b < W.heap.size) (hB : B ≤ W.heap.size) :
    Calls Try.prog 46 ⟨[.slice a0 n c0]⟩ W (Ret W fun v w' => ∃ b1, B ≤ b1 ∧ v = .func (.func 83) #[] #[.pointer (some ⟨b1, 0, none⟩)] ∧ Box w' b1 ⟨[.slice a0 n c0]⟩ 34) := by
  have hM := Mm.start hl
  refine f_start Try.func46 rfl Try.ntmps46 rfl rfl ?_; intro a hF
  (repeat' (first | (with_reducible refine w_seq ?_) | (with_reducible refine c_region ?_) | (with_reducible refine s_nil ?_) | (with_reducible refine q_then_n ?_) | ((with_reducible apply s_pure hF); exact rfl; exact rfl; exact rfl; (first | exact trivial | omega | exact ⟨Int.natCast_nonneg _, Int.ofNat_lt.2 (by assumption)⟩ | decide); clear hF a; intro a hF) | ((with_reducible apply s_box hF hM); exact rfl; exact rfl; exact rfl; exact rfl; clear hF hM a; intro b w a hM hF) | (with_reducible refine w_ret ?_)))
  (apply f_ret Try.results46 hF hM; (repeat (first | exact RL.nil | (apply RL.tmp; exact rfl) | (apply RL.cell; exact rfl; (repeat (first | exact List.mem_cons_self | refine List.mem_cons_of_mem _ ?_)); exact rfl))); refine Ret.mk hM.since ?_; dsimp only [resV])
  exact ⟨_, Nat.le_trans hB (hM.mem.new _ List.mem_cons_self), rfl, hM.bx List.mem_cons_self⟩
set_option maxRecDepth 20000 in
set_option maxHeartbeats 2000000 in
theorem digs_stops (ts : List TP) (n : Nat) (hn : ts.length = n) (hlen : n ≤ 100000) (htw : DatW (tP ts)) (hx4 : ∀ t ∈ ts, t.1.x.length ≤ 100000) (al : Option Addr) (cl b1 : Nat) (W0 w : World) (hr : Has (fun _ => False) W0 (RdF id al (cellsT ts))) (hd : Has (fun _ => False) W0 (DatF (tP ts))) (hs : Since W0 w) (h1 : W0.heap.size ≤ b1) (hb1 : Box w b1 ⟨[.slice al n cl]⟩ 34) :
    SeqStopsK Fence.wide 8 Try.prog 83 #[.pointer (some ⟨b1, 0, none⟩)] (fun t : Tok => #[.int .u64 (tokD t), .bool t.r]) (Kd W0) (fun ys => ys = tms ts) (fun pre => ∃ k, pre = (tms ts).take k) n w := by
  subst hn
  intro lp J Jx W hW hJ hJx hY h0
  refine callsIn_wide.2 ?_
  show Calls Try.prog _ ⟨[.func (.yield lp) #[] #[], .pointer (some ⟨b1, 0, none⟩)]⟩ W _
  have hsW : Since W0 W := hs.trans hW
  have hM : Mm (fun _ => False) W [] [] [RdF id al (cellsT ts), DatF (tP ts), BxF b1 [.slice al ts.length cl] 34] W :=
    (((Mm.start (fun _ h => h.elim)).known (BxF.has (hb1.of_block (hW.block _ hb1.lt)))).known (hd.since hsW)).known (hr.since hsW)
  refine f_start Try.func83 rfl Try.ntmps83 rfl rfl ?_; intro a hF
  (repeat (first | (with_reducible refine w_seq ?_) | (with_reducible refine c_region ?_) | (with_reducible refine s_nil ?_) | (with_reducible refine q_then_n ?_) | ((with_reducible apply s_pure hF); exact rfl; exact rfl; exact rfl; (first | exact trivial | omega | exact ⟨Int.natCast_nonneg _, Int.ofNat_lt.2 (by assumption)⟩ | decide); clear hF a; intro a hF) | ((with_reducible apply s_loadK hF hM); exact rfl; exact rfl; (repeat (first | exact List.mem_cons_self | refine List.mem_cons_of_mem _ ?_)); exact rfl; exact rfl; clear hF a; intro a hF) | (with_reducible refine w_block ?_)))
  refine c_loop (m := ts.length) (fun m a w' => ∃ (k : Nat), m + k = ts.length ∧ J ((tms ts).take k) w' ∧ Since W0 w' ∧
    Fr 27 [] [(8, .int .i64 k), (7, .int .i64 ts.length), (6, .slice al ts.length cl), (0, .func (.yield lp) #[] #[])] a) ⟨0, by omega, h0, hsW.trans hM.since, hF.sub (by repeat (first | exact Sub.nil | refine Sub.cons rfl (by first | with_reducible rfl | (refine congrArg (Value.int _) ?_; omega) | exact rfl) ?_))⟩ ?_
  clear hF hM a
  rintro m a w' ⟨k, hm, hJp, hsp, hF⟩
  have hM : Mm (fun _ => False) w' [] [] [RdF id al (cellsT ts), DatF (tP ts)] w' :=
    ((Mm.start (fun _ h => h.elim)).known (hd.since hsp)).known (hr.since hsp)
  by_cases hk : k < ts.length
  · obtain ⟨t, ht⟩ := get_of_lt hk
    have htm := List.mem_of_getElem? ht
    have hmt := tms_get ht
    have htk : (tms ts).take (k + 1) = (tms ts).take k ++ [t.1] := by rw [List.take_add_one, hmt]; rfl
    have hYk := hY ((tms ts).take k) t.1
    have hpc : (ts.map tkC)[k]? = some [.bool t.1.r, .int .u64 t.1.d, .slice t.2.1 t.1.x.length t.2.2] := by rw [List.getElem?_map, ht]; rfl
    have hw := tkC_len ts
    obtain ⟨ad, rfl⟩ : ∃ ad, al = some ad := rd_some hM (enc := id) (a := al) (xs := cellsT ts) (by (repeat (first | exact List.mem_cons_self | refine List.mem_cons_of_mem _ ?_))) (flat_get (q := 0) hw hpc rfl)
    have htw8 := (htw ((⟨t.1.d, t.1.x⟩ : Itm), t.2) (List.mem_map.2 ⟨t, htm, rfl⟩)).1
    have htr := dat_one (hM.facts (DatF (tP ts)) (by (repeat (first | with_reducible exact List.mem_cons_self | refine List.mem_cons_of_mem _ ?_)))) (p := ((⟨t.1.d, t.1.x⟩ : Itm), t.2)) (List.mem_map.2 ⟨t, htm, rfl⟩)
    have htx := hx4 t htm
    obtain ⟨⟨r, d, x⟩, ax, cx⟩ := t
    dsimp only at htw8 htr htx hpc hYk htk
    obtain ⟨q, hxq⟩ : ∃ q, x.length = q := ⟨_, rfl⟩
    rw [hxq] at hpc
    replace hM := hM.addFact htr
    unfold cellsT at hM
    (repeat (first | (with_reducible refine w_seq ?_) | (with_reducible refine c_region ?_) | (with_reducible refine s_nil ?_) | (with_reducible refine q_then_n ?_) | ((with_reducible apply s_pure hF); exact rfl; exact rfl; exact rfl; (first | exact trivial | omega | exact ⟨Int.natCast_nonneg _, Int.ofNat_lt.2 (by assumption)⟩ | decide); clear hF a; intro a hF)))
    with_reducible apply c_dec hF
    exact rfl
    all_goals intro hc
    all_goals (try (exfalso; omega))
    (repeat (first | (with_reducible refine w_seq ?_) | (with_reducible refine c_region ?_) | (with_reducible refine s_nil ?_) | ((with_reducible apply s_loadE hF hM); exact rfl; exact rfl; (repeat (first | exact List.mem_cons_self | refine List.mem_cons_of_mem _ ?_)); exact rfl; exact rfl; (first | with_reducible assumption | (simp only [Int.toNat_natCast]; with_reducible assumption)); (with_reducible assumption); clear hF a; intro a hF) | (with_reducible refine q_then_n ?_) | ((with_reducible apply s_pure hF); exact rfl; exact rfl; exact rfl; (first | exact trivial | omega | exact ⟨Int.natCast_nonneg _, Int.ofNat_lt.2 (by assumption)⟩ | decide); clear hF a; intro a hF) | ((with_reducible apply s_load hF hM); exact rfl; exact rfl; (repeat (first | exact List.mem_cons_self | refine List.mem_cons_of_mem _ ?_)); exact rfl; exact rfl; clear hF a; intro a hF) | ((with_reducible apply s_store hF hM); exact rfl; exact rfl; exact rfl; exact rfl; (repeat (first | exact Upd.z | apply Upd.s)); exact rfl; exact rfl; exact rfl; clear hM; intro w hM) | ((with_reducible apply s_alloc hF hM); exact rfl; exact rfl; exact rfl; clear hF hM a; intro b w a hM hF) | (with_reducible refine w_skip ?_) | (with_reducible refine w_block ?_)))
    refine c_cut (fun a' w2 => Fr 27 [] [(5, .int .u64 (tokD ⟨r, d, x⟩)), (4, .pointer (some ⟨b, 0, none⟩)), (8, .int .i64 k), (7, .int .i64 ts.length), (6, .slice (some ad) ts.length cl), (0, .func (.yield lp) #[] #[])] a' ∧
      Mm (fun _ => False) w' [⟨b, ⟨[.bool r, .int .u64 d, .slice ax q cx]⟩, 93⟩] [] [] w2) ?_ ?_
    · cases r with
      | true =>
        (repeat' (first | (with_reducible refine w_skip ?_) | ((with_reducible apply c_false2 hF); exact rfl; (first | with_reducible rfl | (refine congrArg Value.bool ?_; focus (simp; done))))))
        exact q_cut ⟨hF.sub (by repeat (first | exact Sub.nil | refine Sub.cons rfl (by first | with_reducible rfl | (refine congrArg (Value.int _) ?_; omega) | exact rfl) ?_)), hM.sub (.refl _) (.refl _) (by simp)⟩
      | false =>
        (repeat' (first | (with_reducible refine c_region ?_) | (with_reducible refine s_nil ?_) | ((with_reducible apply s_call (f := 33) hF hM); exact rfl; exact rfl; exact rfl; exact rfl; exact rfl; exact (sectors_c x htw8 (by omega) ax cx q hxq _ _ hM.lt (hM.facts (RdF (Value.int .u8) ax x.flatten) (by (repeat (first | exact List.mem_cons_self | refine List.mem_cons_of_mem _ ?_))))); clear hF hM a; rintro v w a rfl - hM hF) | ((with_reducible apply s_pure hF); exact rfl; exact rfl; exact rfl; (first | exact trivial | omega | exact ⟨Int.natCast_nonneg _, Int.ofNat_lt.2 (by assumption)⟩ | decide); clear hF a; intro a hF) | ((with_reducible apply s_load hF hM); exact rfl; exact rfl; (repeat (first | exact List.mem_cons_self | refine List.mem_cons_of_mem _ ?_)); exact rfl; exact rfl; clear hF a; intro a hF) | ((with_reducible apply c_true2 hF); exact rfl; (first | with_reducible rfl | (refine congrArg Value.bool ?_; focus (simp; done))))))
        exact q_cut ⟨hF.sub (by repeat (first | exact Sub.nil | refine Sub.cons rfl (by first | with_reducible rfl | (refine congrArg (Value.int _) ?_; omega) | exact rfl) ?_)), hM.sub (.refl _) (.refl _) (by simp)⟩
    clear hF hM a
    rintro a w2 ⟨hF, hM⟩
    have hs2 : Since W0 w2 := hsp.trans hM.since
    have hJ2 : J ((tms ts).take k) w2 := hJ _ w' w2 none hJp hM.since.grows (fun r e => by cases e)
    with_reducible refine w_seq ?_
    apply c_yield (n := 27) (ds := []) 4 7
    · exact rfl
    · exact rfl
    show wl _ _ [_, _, _, _] _ _
    (repeat (first | (with_reducible refine s_nil ?_) | (with_reducible refine q_then_n ?_) | ((with_reducible apply s_pure hF); exact rfl; exact rfl; exact rfl; (first | exact trivial | omega | exact ⟨Int.natCast_nonneg _, Int.ofNat_lt.2 (by assumption)⟩ | decide); clear hF a; intro a hF) | ((with_reducible apply s_load hF hM); exact rfl; exact rfl; (repeat (first | exact List.mem_cons_self | refine List.mem_cons_of_mem _ ?_)); exact rfl; exact rfl; clear hF a; intro a hF)))
    refine ⟨_, [.int .u64 (tokD ⟨r, d, x⟩), .bool r], lp, _, hF, rfl, rfl, hYk _ hJ2 (by rw [List.length_take, tms_len]; omega), ?_⟩
    rintro e w3 (⟨rfl, hJ3, k1, k2⟩ | ⟨rfl, hJx3⟩)
    · refine ⟨_, rfl, fun a hF => ?_⟩
      have hs3 : Since W0 w3 := since_below hs2 k1
      clear hM
      have hM : Mm (fun _ => False) w3 [] [] [] w3 := Mm.start (fun _ h => h.elim)
      (repeat' (first | (with_reducible refine c_region ?_) | (with_reducible refine s_nil ?_) | (with_reducible refine q_then_n ?_) | ((with_reducible apply s_pure hF); exact rfl; exact rfl; exact rfl; (first | exact trivial | omega | exact ⟨Int.natCast_nonneg _, Int.ofNat_lt.2 (by assumption)⟩ | decide); clear hF a; intro a hF) | (with_reducible refine w_skip ?_) | (with_reducible refine q_blk_n ?_) | ((with_reducible apply c_false2 hF); exact rfl; (first | with_reducible rfl | (refine congrArg Value.bool ?_; focus (simp; done))))))
      exact ⟨m - 1, by omega, k + 1, by omega, by rw [htk]; exact hJ3, hs3, hF.sub (by repeat (first | exact Sub.nil | refine Sub.cons rfl (by first | with_reducible rfl | (refine congrArg (Value.int _) ?_; omega) | exact rfl) ?_))⟩
    · refine ⟨_, rfl, fun a hF => ?_⟩
      clear hM
      have hM : Mm (fun _ => False) w3 [] [] [] w3 := Mm.start (fun _ h => h.elim)
      (repeat' (first | (with_reducible refine s_nil ?_) | (with_reducible refine q_then_n ?_) | ((with_reducible apply s_pure hF); exact rfl; exact rfl; exact rfl; (first | exact trivial | omega | exact ⟨Int.natCast_nonneg _, Int.ofNat_lt.2 (by assumption)⟩ | decide); clear hF a; intro a hF) | (with_reducible refine w_ret ?_) | (with_reducible refine q_then_r ?_) | (with_reducible refine q_blk_r ?_) | ((with_reducible apply c_true2 hF); exact rfl; (first | with_reducible rfl | (refine congrArg Value.bool ?_; focus (simp; done))))))
      (apply f_ret Try.results83 hF hM; (repeat (first | exact RL.nil | (apply RL.tmp; exact rfl) | (apply RL.cell; exact rfl; (repeat (first | exact List.mem_cons_self | refine List.mem_cons_of_mem _ ?_)); exact rfl))); try dsimp only [resV])
      exact ⟨⟨_, rfl⟩, .inr ⟨_, ⟨k + 1, htk.symm⟩, hJx3⟩⟩
  · obtain rfl : k = ts.length := by omega
    rw [List.take_of_length_le (by rw [tms_len]; exact Nat.le_refl _)] at hJp
    (repeat' (first | (with_reducible refine w_seq ?_) | (with_reducible refine c_region ?_) | (with_reducible refine s_nil ?_) | (with_reducible refine q_then_n ?_) | ((with_reducible apply s_pure hF); exact rfl; exact rfl; exact rfl; (first | exact trivial | omega | exact ⟨Int.natCast_nonneg _, Int.ofNat_lt.2 (by assumption)⟩ | decide); clear hF a; intro a hF) | (with_reducible refine w_exit ?_) | (with_reducible refine q_then_x ?_) | (with_reducible refine q_blk_x ?_) | ((with_reducible apply c_false2 hF); exact rfl; (first | with_reducible rfl | (refine congrArg Value.bool ?_; focus (simp; done))))))
    (apply f_end Try.results83 hF hM; (repeat (first | exact RL.nil | (apply RL.tmp; exact rfl) | (apply RL.cell; exact rfl; (repeat (first | exact List.mem_cons_self | refine List.mem_cons_of_mem _ ?_)); exact rfl))); try dsimp only [resV])
    exact ⟨⟨_, rfl⟩, .inl ⟨_, rfl, hJp⟩⟩
end Go.Proofs.Ytadfdpkhehdikaa


/- dedup: Missing. -/
namespace Go.Proofs.Ytadfdpkhehdikaa
open Go.RowKit Go.Shelf D29
namespace D29
def misStep (cap : Int) (s : List Int × List Int) (t : Tok) : List Int × List Int := if tokD t ∈ s.1 then s else (knw cap s.1 (tokD t), if t.r = true ∧ tokD t ∉ s.2 then s.2 ++ [tokD t] else s.2)
theorem misI_fold (cap : Int) : ∀ (ts : List Tok) (k o : List Int), misI cap ts k o = (ts.foldl (misStep cap) (k, o)).2
  | [], _, _ => rfl
  | t :: r, k, o => by
    rw [misI, List.foldl_cons]
    by_cases h : tokD t ∈ k
    · rw [if_pos h, show misStep cap (k, o) t = (k, o) from if_pos h]
      exact misI_fold cap r k o
    · rw [if_neg h, show misStep cap (k, o) t = (knw cap k (tokD t), if t.r = true ∧ tokD t ∉ o then o ++ [tokD t] else o) from if_neg h]
      exact misI_fold cap r _ _
theorem _root_.Go.Proofs.Ytadfdpkhehdikaa.Mm.rowsEq {own : Nat → Prop} {w0 w : World} {bs : List BoxE} {L L' : List Ent} {Fs : List (World → Prop)} (hM : Mm own w0 bs L Fs w) (h : L = L') : Mm own w0 bs L' Fs w := h ▸ hM
/-- What Missing answers. -/
def misR (c : St) (l : List Tok) : List Int := if check c = 0 ∧ (l.any fun t => !corT t) = false then misI c.cap l (c.items.map (·.d)) [] else []
theorem misR_bad {c : St} {l : List Tok} (h : check c ≠ 0) : misR c l = [] := if_neg fun q => h q.1
theorem misR_inc {c : St} {l : List Tok} (h : (l.any fun t => !corT t) = true) : misR c l = [] := if_neg fun q => by rw [h] at q; cases q.2
theorem misR_ok {c : St} {l : List Tok} (h : check c = 0) (h2 : (l.any fun t => !corT t) = false) : misR c l = misI c.cap l (c.items.map (·.d)) [] := if_pos ⟨h, h2⟩
end D29
theorem missing1_c (t : TP) (own : Nat → Prop) (W : World) (hl : ∀ b, own b → b < W.heap.size) : Calls Try.prog 45 ⟨.agg ⟨tkC t⟩ :: []⟩ W (Ret W fun v _ => v = .bool (!corT t.1)) := by
  have hM := Mm.start hl
  refine f_start Try.func45 rfl Try.ntmps45 rfl rfl ?_; intro a hF
  unfold tkC at *
  (repeat (first | (with_reducible refine w_seq ?_) | (with_reducible refine c_region ?_) | (with_reducible refine s_nil ?_) | ((with_reducible apply s_call (f := 41) hF hM); exact rfl; exact rfl; exact rfl; exact rfl; exact rfl; exact (correct_c t _ _ hM.lt); clear hF hM a; rintro v w a rfl - hM hF) | (with_reducible refine q_then_n ?_) | ((with_reducible apply s_pure hF); exact rfl; exact rfl; exact rfl; (first | exact trivial | omega | exact ⟨Int.natCast_nonneg _, Int.ofNat_lt.2 (by assumption)⟩ | decide); clear hF a; intro a hF) | ((with_reducible apply s_load hF hM); exact rfl; exact rfl; (repeat (first | exact List.mem_cons_self | refine List.mem_cons_of_mem _ ?_)); exact rfl; exact rfl; clear hF a; intro a hF) | ((with_reducible apply s_box hF hM); exact rfl; exact rfl; exact rfl; exact rfl; clear hF hM a; intro b w a hM hF) | (with_reducible refine w_ret ?_)))
  (apply f_ret Try.results45 hF hM; (repeat (first | exact RL.nil | (apply RL.tmp; exact rfl) | (apply RL.cell; exact rfl; (repeat (first | exact List.mem_cons_self | refine List.mem_cons_of_mem _ ?_)); exact rfl))); refine Ret.mk hM.since ?_; dsimp only [resV])
section
variable (cp : Int) (ps : List P) (a0 : Option Addr) (c0 n : Nat) (hn : ps.length = n) (hlen : n ≤ 100000) (hDW : DatW ps) (hpx : ∀ p ∈ ps, p.1.x.length ≤ 100000) (own : Nat → Prop) (W : World) (hl : ∀ b, own b → b < W.heap.size) (h1 : Has own W (RdF id a0 (cellsP ps))) (h2 : Has own W (DatF ps))
include hn hlen hDW hpx hl h1 h2
set_option maxRecDepth 20000 in
set_option maxHeartbeats 8000000 in
theorem Missing29_c (ts : List TP) (hts : DatW (tP ts)) (hx4 : ∀ t ∈ ts, t.1.x.length ≤ 100000) (al : Option Addr) (cl nl : Nat) (hnl : ts.length = nl) (hnl4 : nl ≤ 100000) (hx1 : Has own W (RdF id al (cellsT ts))) (hx2 : Has own W (DatF (tP ts))) :
    Calls Try.prog 15 ⟨[.agg #[.int .i64 cp, .slice a0 n c0], .slice al nl cl]⟩ W (Ret W fun v w' => ∃ (a : Option Addr) (c : Nat), v = .slice a (misR ⟨cp, ims ps⟩ (tms ts)).length c ∧ Has own w' (RdF (Value.int .u64) a (misR ⟨cp, ims ps⟩ (tms ts)))) := by
  have hM := ((((Mm.start hl).known hx2).known hx1).known h2).known h1
  refine f_startM Try.func15 rfl Try.ntmps15 rfl rfl ?_; intro a hF
  (repeat (first | (with_reducible refine w_seq ?_) | (with_reducible refine c_region ?_) | (with_reducible refine s_nil ?_) | (with_reducible refine q_then_n ?_) | ((with_reducible apply s_pure hF); exact rfl; exact rfl; exact rfl; (first | exact trivial | omega | exact ⟨Int.natCast_nonneg _, Int.ofNat_lt.2 (by assumption)⟩ | decide); clear hF a; intro a hF) | ((with_reducible apply s_load hF hM); exact rfl; exact rfl; (repeat (first | exact List.mem_cons_self | refine List.mem_cons_of_mem _ ?_)); exact rfl; exact rfl; clear hF a; intro a hF) | ((with_reducible apply s_box hF hM); exact rfl; exact rfl; exact rfl; exact rfl; clear hF hM a; intro b w a hM hF)))
  generalize b = b2 at *
  have hno : ∀ w', misR ⟨cp, ims ps⟩ (tms ts) = [] → ∃ (a : Option Addr) (c : Nat), Value.slice none 0 0 = .slice a (misR ⟨cp, ims ps⟩ (tms ts)).length c ∧ Has own w' (RdF (Value.int .u64) a (misR ⟨cp, ims ps⟩ (tms ts))) := fun w' e => by
    rw [e]
    exact ⟨none, 0, rfl, RdF.nil⟩
  have e1 := fun {own W} hl => Check29_c cp ps a0 c0 n hn hlen hDW hpx own W hl
  have e2 := fun {own W} hl => conT_c 45 [] (fun t => !corT t) (fun _ => True) rfl ts nl hnl (by omega) (fun t _ own W hl _ => missing1_c t own W hl) al cl own W hl (Has.pure fun _ => trivial)
  by_cases hck : check ⟨cp, ims ps⟩ = 0
  case neg =>
    have he := misR_bad (l := tms ts) hck
    generalize check ⟨cp, ims ps⟩ = e at *
    (repeat' (first | (with_reducible refine w_seq ?_) | (with_reducible refine c_region ?_) | (with_reducible refine s_nil ?_) | ((with_reducible apply s_call (f := 30) hF hM); exact rfl; exact rfl; exact rfl; exact rfl; exact rfl; exact (e1 hM.lt (hM.facts (RdF id a0 (cellsP ps)) (by (repeat (first | with_reducible exact List.mem_cons_self | refine List.mem_cons_of_mem _ ?_)))) (hM.facts (DatF ps) (by (repeat (first | with_reducible exact List.mem_cons_self | refine List.mem_cons_of_mem _ ?_))))); clear hF hM a; rintro v w a rfl - hM hF) | (with_reducible refine q_then_n ?_) | ((with_reducible apply s_pure hF); exact rfl; exact rfl; exact rfl; (first | exact trivial | omega | exact ⟨Int.natCast_nonneg _, Int.ofNat_lt.2 (by assumption)⟩ | decide); clear hF a; intro a hF) | (with_reducible refine w_ret ?_) | (with_reducible refine q_then_r ?_) | ((with_reducible apply c_true2 hF); exact rfl; (first | with_reducible rfl | (refine congrArg Value.bool ?_; focus (simp; done)))) | ((with_reducible apply s_skip hF); exact rfl; exact rfl; clear hF a; intro a hF) | ((fail_if_success ((with_reducible refine g_known true hF ?_ ?_); focus exact rfl)); (fail_if_success ((with_reducible refine g_known false hF ?_ ?_); focus exact rfl)); (with_reducible apply g_dec hF); exact rfl; exact rfl; all_goals (clear hF; intro hc hF); all_goals (try (exfalso; omega)))))
    all_goals first | (exfalso; omega) | (apply f_ret0 Try.results15 hF hM (by (repeat (first | exact RL.nil | (apply RL.tmp; exact rfl) | (apply RL.cell; exact rfl; (repeat (first | exact List.mem_cons_self | refine List.mem_cons_of_mem _ ?_)); exact rfl)))); refine Ret.mk hM.since ?_; dsimp only [resV])
    all_goals exact hno _ he
  rw [hck] at e1
  cases hinc : (tms ts).any fun t => !corT t with
  | true =>
    have he := misR_inc (c := ⟨cp, ims ps⟩) hinc
    rw [hinc] at e2
    (repeat' (first | (with_reducible refine w_seq ?_) | (with_reducible refine c_region ?_) | (with_reducible refine s_nil ?_) | ((with_reducible apply s_call (f := 30) hF hM); exact rfl; exact rfl; exact rfl; exact rfl; exact rfl; exact (e1 hM.lt (hM.facts (RdF id a0 (cellsP ps)) (by (repeat (first | with_reducible exact List.mem_cons_self | refine List.mem_cons_of_mem _ ?_)))) (hM.facts (DatF ps) (by (repeat (first | with_reducible exact List.mem_cons_self | refine List.mem_cons_of_mem _ ?_))))); clear hF hM a; rintro v w a rfl - hM hF) | ((with_reducible apply s_call (f := 44) hF hM); exact rfl; exact rfl; exact rfl; exact rfl; exact rfl; exact (e2 hM.lt (hM.facts (RdF id al (cellsT ts)) (by (repeat (first | with_reducible exact List.mem_cons_self | refine List.mem_cons_of_mem _ ?_))))); clear hF hM a; rintro v w a rfl - hM hF) | (with_reducible refine q_then_n ?_) | ((with_reducible apply s_pure hF); exact rfl; exact rfl; exact rfl; (first | exact trivial | omega | exact ⟨Int.natCast_nonneg _, Int.ofNat_lt.2 (by assumption)⟩ | decide); clear hF a; intro a hF) | (with_reducible refine w_ret ?_) | (with_reducible refine q_then_r ?_) | ((with_reducible apply c_true2 hF); exact rfl; (first | with_reducible rfl | (refine congrArg Value.bool ?_; focus (simp; done))))))
    all_goals first | (exfalso; omega) | (apply f_ret0 Try.results15 hF hM (by (repeat (first | exact RL.nil | (apply RL.tmp; exact rfl) | (apply RL.cell; exact rfl; (repeat (first | exact List.mem_cons_self | refine List.mem_cons_of_mem _ ?_)); exact rfl)))); refine Ret.mk hM.since ?_; dsimp only [resV])
    all_goals exact hno _ he
  | false =>
    have he := misR_ok hck hinc
    rw [hinc] at e2
    (repeat' (first | (with_reducible refine w_seq ?_) | (with_reducible refine c_region ?_) | (with_reducible refine s_nil ?_) | ((with_reducible apply s_call (f := 30) hF hM); exact rfl; exact rfl; exact rfl; exact rfl; exact rfl; exact (e1 hM.lt (hM.facts (RdF id a0 (cellsP ps)) (by (repeat (first | with_reducible exact List.mem_cons_self | refine List.mem_cons_of_mem _ ?_)))) (hM.facts (DatF ps) (by (repeat (first | with_reducible exact List.mem_cons_self | refine List.mem_cons_of_mem _ ?_))))); clear hF hM a; rintro v w a rfl - hM hF) | ((with_reducible apply s_call (f := 44) hF hM); exact rfl; exact rfl; exact rfl; exact rfl; exact rfl; exact (e2 hM.lt (hM.facts (RdF id al (cellsT ts)) (by (repeat (first | with_reducible exact List.mem_cons_self | refine List.mem_cons_of_mem _ ?_))))); clear hF hM a; rintro v w a rfl - hM hF) | (with_reducible refine q_then_n ?_) | ((with_reducible apply s_pure hF); exact rfl; exact rfl; exact rfl; (first | exact trivial | omega | exact ⟨Int.natCast_nonneg _, Int.ofNat_lt.2 (by assumption)⟩ | decide); clear hF a; intro a hF) | ((with_reducible apply s_load hF hM); exact rfl; exact rfl; (repeat (first | exact List.mem_cons_self | refine List.mem_cons_of_mem _ ?_)); exact rfl; exact rfl; clear hF a; intro a hF) | ((with_reducible apply s_alloc hF hM); exact rfl; exact rfl; exact rfl; clear hF hM a; intro b w a hM hF) | (with_reducible refine w_skip ?_) | (with_reducible refine w_block ?_) | ((with_reducible apply c_false2 hF); exact rfl; (first | with_reducible rfl | (refine congrArg Value.bool ?_; focus (simp; done))))))
    all_goals first | (exfalso; omega) | skip
    rename_i b5 _
    generalize b = b6 at *
    have hck2 := (check_ok.1 hck)
    have hcp : 1 ≤ cp ∧ cp ≤ 4096 := hck2.cap
    have hnc : (n : Int) ≤ cp := by
      have h : ((ims ps).length : Int) ≤ cp := hck2.len
      rw [ims_len, hn] at h
      exact h
    have hw := itC_len ps
    subst hn
    have hrow := (hM.nilRow 84 1)
    refine c_loop (m := ps.length) (fun m a w' => ∃ (k : Nat) (kv : Value), m + k = ps.length ∧
      Fr 61 [] [(21, .int .i64 k), (20, .int .i64 ps.length), (19, .slice a0 ps.length c0), (6, .pointer (some ⟨b6, 0, none⟩)), (5, .pointer (some ⟨b5, 0, none⟩)), (2, .pointer (some ⟨b2, 0, none⟩)), (1, .slice al nl cl)] a ∧
      Mm own W [⟨b6, ⟨[.slice none 0 0]⟩, 46⟩, ⟨b5, ⟨[kv]⟩, 46⟩, ⟨b2, ⟨[.int .i64 cp, .slice a0 ps.length c0]⟩, 29⟩] [⟨84, 1, kv, k, ((ims (ps.take k)).map (·.d)).map (Value.int .u64)⟩] [RdF id a0 (cellsP ps), DatF ps, RdF id al (cellsT ts), DatF (tP ts)] w')
      ⟨0, _, by omega, hF.sub (by repeat (first | exact Sub.nil | refine Sub.cons rfl (by first | with_reducible rfl | (refine congrArg (Value.int _) ?_; omega) | exact rfl) ?_)), hrow⟩ ?_
    clear hF hM hrow a
    rintro m a w' ⟨k, kv, hm, hF, hM⟩
    by_cases hk : k < ps.length
    · obtain ⟨p, hp⟩ := get_of_lt hk
      have hpe : (ps.map itC)[k]? = some [.int .u64 p.1.d, .slice p.2.1 p.1.x.length p.2.2] := by rw [List.getElem?_map, hp]; rfl
      obtain ⟨ad, rfl⟩ : ∃ ad, a0 = some ad := rd_some hM (enc := id) (a := a0) (xs := cellsP ps) (by (repeat (first | exact List.mem_cons_self | refine List.mem_cons_of_mem _ ?_))) (flat_get (q := 0) hw hpe rfl)
      have htk : (ims (ps.take (k + 1))).map (·.d) = (ims (ps.take k)).map (·.d) ++ [p.1.d] := by
        rw [List.take_add_one, hp]
        simp [ims]
      have hcc : cellsP ps = (ps.map itC).flatten := rfl
      rw [hcc] at hM
      (repeat' (first | (with_reducible refine w_seq ?_) | (with_reducible refine c_region ?_) | (with_reducible refine s_nil ?_) | ((with_reducible apply s_loadE hF hM); exact rfl; exact rfl; (repeat (first | exact List.mem_cons_self | refine List.mem_cons_of_mem _ ?_)); exact rfl; exact rfl; (first | with_reducible assumption | (simp only [Int.toNat_natCast]; with_reducible assumption)); (with_reducible assumption); clear hF a; intro a hF) | (with_reducible refine q_then_n ?_) | ((with_reducible apply s_pure hF); exact rfl; exact rfl; exact rfl; (first | exact trivial | omega | exact ⟨Int.natCast_nonneg _, Int.ofNat_lt.2 (by assumption)⟩ | decide); clear hF a; intro a hF) | ((with_reducible apply s_load hF hM); exact rfl; exact rfl; (repeat (first | exact List.mem_cons_self | refine List.mem_cons_of_mem _ ?_)); exact rfl; exact rfl; clear hF a; intro a hF) | ((with_reducible apply s_store hF hM); exact rfl; exact rfl; exact rfl; exact rfl; (repeat (first | exact Upd.z | apply Upd.s)); exact rfl; exact rfl; exact rfl; clear hM; intro w hM) | ((with_reducible apply s_alloc hF hM); exact rfl; exact rfl; exact rfl; clear hF hM a; intro b w a hM hF) | ((with_reducible apply s_lit hF hM); exact rfl; exact rfl; exact rfl; exact rfl; clear hF hM a; intro bl w a hM hF) | ((with_reducible apply s_app hF hM); exact rfl; exact rfl; exact rfl; exact rfl; (repeat (first | exact Kth.z | apply Kth.s)); exact rfl; exact rfl; exact rfl; exact rfl; omega; clear hF hM a; intro g cap w a hM hF; dsimp only [List.set] at hM) | (with_reducible refine w_skip ?_) | (with_reducible refine w_block ?_) | (with_reducible refine q_blk_n ?_) | ((with_reducible apply c_dec hF); exact rfl; all_goals intro hc; all_goals (try (exfalso; omega)))))
      refine ⟨m - 1, by omega, k + 1, .slice (some ⟨g, 0, none⟩) (k + 1) cap, by omega, hF.sub (by repeat (first | exact Sub.nil | refine Sub.cons rfl (by first | with_reducible rfl | (refine congrArg (Value.int _) ?_; omega) | exact rfl) ?_)), ?_⟩
      rw [htk, List.map_append, hcc]
      exact hM.sub (.cons _ (.refl _)) (.refl _) (fun f hf => hf)
    · obtain rfl : k = ps.length := by omega
      rw [List.take_of_length_le (Nat.le_refl _)] at hM
      (repeat' (first | (with_reducible refine w_seq ?_) | (with_reducible refine c_region ?_) | (with_reducible refine s_nil ?_) | ((with_reducible apply s_call (f := 46) hF hM); exact rfl; exact rfl; exact rfl; exact rfl; exact rfl; exact (digests_c al nl cl W.heap.size _ _ hM.lt hM.since.size); clear hF hM a; rintro v w a ⟨q1, hq1, rfl, hB1⟩ - hM hF) | (with_reducible refine q_then_n ?_) | ((with_reducible apply s_pure hF); exact rfl; exact rfl; exact rfl; (first | exact trivial | omega | exact ⟨Int.natCast_nonneg _, Int.ofNat_lt.2 (by assumption)⟩ | decide); clear hF a; intro a hF) | (with_reducible refine w_block ?_) | (with_reducible refine w_exit ?_) | (with_reducible refine q_then_x ?_) | (with_reducible refine q_blk_x ?_) | ((with_reducible apply c_false2 hF); exact rfl; (first | with_reducible rfl | (refine congrArg Value.bool ?_; focus (simp; done))))))
      obtain ⟨w2, rfl⟩ : ∃ x, x = w := ⟨_, rfl⟩
      have hsz : W.heap.size ≤ w2.heap.size := hM.since.size
      have hrow := (hM.nilRow 84 1).permL (L' := [⟨84, 1, kv, ps.length, ((ims ps).map (·.d)).map (Value.int .u64)⟩, ⟨84, 1, .slice none 0 0, 0, []⟩]) (.swap _ _ _)
      have hK0 := OffR.plain hrow List.mem_cons_self
      refine c_range3 hF rfl rfl rfl rfl (va := fun t : Tok => .int .u64 (tokD t)) (vb := fun t => .bool t.r) (la := fun t => [(10, .bool t.r), (9, .int .u64 (tokD t)), (6, .pointer (some ⟨b6, 0, none⟩)), (5, .pointer (some ⟨b5, 0, none⟩)), (2, .pointer (some ⟨b2, 0, none⟩))]) (digs_stops ts nl hnl hnl4 hts hx4 al cl q1 W w2 (hx1.own_eq fun _ h => h.elim) (hx2.own_eq fun _ h => h.elim) hM.since hq1 hB1) (by omega) (fun _ => Kd.refl) (fun h k => h.trans k) ?kb (Below.refl _ _)
        (fun pre W' => ∃ (kn o : List Int) (kv ov : Value) (Ek : Ent), (kn, o) = pre.foldl (misStep cp) ((ims ps).map (·.d), []) ∧ (kn.length : Int) ≤ cp ∧ o.length ≤ pre.length ∧ OffR 84 1 kv kn.length (kn.map (Value.int .u64)) Ek ∧
          Mm own W [⟨b6, ⟨[ov]⟩, 46⟩, ⟨b5, ⟨[kv]⟩, 46⟩, ⟨b2, ⟨[.int .i64 cp, .slice a0 ps.length c0]⟩, 29⟩] [Ek, ⟨84, 1, ov, o.length, o.map (Value.int .u64)⟩] [] W') ?hI ?h0 ?assign ?body ?done
      case kb =>
        intro W' lb o o' h1 h2 h3 h4
        exact ⟨belowK_b hsz W' lb o o' h1 h2 h3 h4, KT.putObj o' h2 h3⟩
      case hI =>
        rintro pre W1 W2 row ⟨kn, o, kv, ov, Ek, i1, i2, i3, i4, hm⟩ hg hr
        exact ⟨kn, o, kv, ov, Ek, i1, i2, i3, i4, hm.turn hg (fun r e => ⟨by have := (hr r e).1; omega, (hr r e).2⟩)⟩
      case h0 => exact ⟨(ims ps).map (·.d), [], kv, _, _, rfl, by rw [List.length_map, ims_len]; exact hnc, Nat.le_refl _, by rw [List.length_map, ims_len]; exact hK0, hrow.sub (.refl _) (.refl _) (fun f hf => by simp at hf)⟩
      case assign =>
        intro l0 k x a W' hF
        (repeat (first | (with_reducible refine w_seq ?_) | ((with_reducible refine c_regionR ?_ ?_); rotate_left; exact rfl) | (with_reducible refine s_nil ?_) | (with_reducible refine q_then_n ?_) | ((with_reducible apply s_pure hF); exact rfl; exact rfl; exact rfl; (first | exact trivial | omega | exact ⟨Int.natCast_nonneg _, Int.ofNat_lt.2 (by assumption)⟩ | decide); clear hF a; intro a hF)))
        exact q_cut ⟨rfl, hF.sub (by repeat (first | exact Sub.nil | refine Sub.cons rfl (by first | with_reducible rfl | (refine congrArg (Value.int _) ?_; omega) | exact rfl) ?_))⟩
      case done =>
        rintro D xs a W' hD rfl ⟨kn, o, kv, ov, Ek, i1, i2, i3, i4, hM⟩ hK hF
        have ho : misR ⟨cp, ims ps⟩ (tms ts) = o := by
          rw [he]
          show misI cp (tms ts) ((ims ps).map (·.d)) [] = o
          rw [misI_fold, ← i1]
        replace hM := hM.addDef hK (by omega)
        (repeat (first | (with_reducible refine w_seq ?_) | (with_reducible refine c_region ?_) | (with_reducible refine s_nil ?_) | (with_reducible refine q_then_n ?_) | ((with_reducible apply s_pure hF); exact rfl; exact rfl; exact rfl; (first | exact trivial | omega | exact ⟨Int.natCast_nonneg _, Int.ofNat_lt.2 (by assumption)⟩ | decide); clear hF a; intro a hF) | ((with_reducible apply s_load hF hM); exact rfl; exact rfl; (repeat (first | exact List.mem_cons_self | refine List.mem_cons_of_mem _ ?_)); exact rfl; exact rfl; clear hF a; intro a hF) | (with_reducible refine w_ret ?_) | (with_reducible refine q_blk_n ?_)))
        obtain ⟨av, cv, rfl, hcv, -⟩ := OffR.shape hM (k := 1) rfl (OffR.plain hM (List.mem_cons_of_mem _ List.mem_cons_self))
        replace hM := Mm.freezeN (hM.sub (.refl _) (.cons _ (.refl _)) (fun _ h => h))
        apply f_retMN [RdF (Value.int .u64) av o] Try.results15 hF hM (by (repeat (first | with_reducible exact List.mem_cons_self | refine List.mem_cons_of_mem _ ?_))) (by omega)
        · intro f hf
          simp only [List.mem_cons, List.not_mem_nil, or_false] at hf ⊢
          simp [hf]
        · intro f hf
          simp only [List.mem_cons, List.not_mem_nil, or_false] at hf
          rw [hf]
          exact Nb.rd
        · (repeat (first | exact RL.nil | (apply RL.tmp; exact rfl) | (apply RL.cell; exact rfl; (repeat (first | exact List.mem_cons_self | refine List.mem_cons_of_mem _ ?_)); exact rfl)))
        intro w' hM'
        rw [ho]
        exact Ret.mk hM'.since ⟨av, cv, rfl, hM'.factOut (by (repeat (first | with_reducible exact List.mem_cons_self | refine List.mem_cons_of_mem _ ?_)))⟩
      case body =>
        clear hM hF hrow hK0 hno he
        rintro l0 j pre t a W' ⟨kn, o, kv, ov, Ek, i1, i2, i3, i4, hM⟩ hF hlt
        have hM0 := hM
        have hEk : Ek.e = 84 := i4.1
        have htyp : ∀ y ∈ [Ek, ⟨84, 1, ov, o.length, o.map (Value.int .u64)⟩], y.e ≠ 34 := by
          intro y hy
          simp only [List.mem_cons, List.not_mem_nil, or_false] at hy
          rcases hy with rfl | rfl
          · rw [hEk]; decide
          · show (84 : Nat) ≠ _; decide
        replace hM := (hM.addFact (hM0.ko hsz)).addFact (hM0.kt 34 (by simp) htyp)
        obtain ⟨d, hd⟩ : ∃ d, tokD t = d := ⟨_, rfl⟩
        have hst : (pre ++ [t]).foldl (misStep cp) ((ims ps).map (·.d), []) = if tokD t ∈ kn then (kn, o) else (knw cp kn (tokD t), if t.r = true ∧ tokD t ∉ o then o ++ [tokD t] else o) := by rw [List.foldl_append, ← i1]; rfl
        rw [hd] at hF hst
        obtain ⟨r, td, tx⟩ := t
        dsimp only at hF hst
        clear hd
        obtain ⟨ak, ck, rfl, hck3, -⟩ := OffR.shape hM (k := 0) rfl i4
        obtain ⟨av, cv, rfl, hcv, -⟩ := OffR.shape hM (k := 1) rfl (OffR.plain hM (List.mem_cons_of_mem _ List.mem_cons_self))
        have hkl : kn.length ≤ 4096 := by omega
        have hol : o.length ≤ 100000 := by omega
        have e3 := fun {own W} hl => conU_c kn d ak ck kn.length rfl (by omega) own W hl
        have e4 := fun {own W} hl => conU_c o d av cv o.length rfl (by omega) own W hl
        by_cases hdk : d ∈ kn
        · rw [if_pos hdk] at hst
          rw [decide_eq_true hdk] at e3
          (repeat' (first | (with_reducible refine w_seq ?_) | ((with_reducible refine c_regionR ?_ ?_); rotate_left; exact rfl) | (with_reducible refine s_nil ?_) | ((with_reducible apply s_call (f := 47) hF hM); exact rfl; exact rfl; exact rfl; exact rfl; exact rfl; exact (e3 (fun b h => hM.lt b (.inl h)) (OffR.fact hM (k := 0) rfl i4)); clear hF hM a; rintro v w a rfl - hM hF) | (with_reducible refine q_then_n ?_) | ((with_reducible apply s_pure hF); exact rfl; exact rfl; exact rfl; (first | exact trivial | omega | exact ⟨Int.natCast_nonneg _, Int.ofNat_lt.2 (by assumption)⟩ | decide); clear hF a; intro a hF) | ((with_reducible apply s_load hF hM); exact rfl; exact rfl; (repeat (first | exact List.mem_cons_self | refine List.mem_cons_of_mem _ ?_)); exact rfl; exact rfl; clear hF a; intro a hF) | (with_reducible refine w_block ?_) | (with_reducible refine w_exit ?_) | (with_reducible refine q_then_x ?_) | (with_reducible refine q_blk_x ?_) | ((with_reducible apply c_true2 hF); exact rfl; (first | with_reducible rfl | (refine congrArg Value.bool ?_; focus (simp; done))))))
          have hko := hM.fact (f := KeepsFrom w2.heap.size W') (by (repeat (first | exact List.mem_cons_self | refine List.mem_cons_of_mem _ ?_)))
          refine ⟨hko, ⟨below_mm hM0 hM hko.size, hM.fact (f := KT _ 34 W') (by (repeat (first | exact List.mem_cons_self | refine List.mem_cons_of_mem _ ?_)))⟩, ?_⟩
          exact ⟨kn, o, _, _, Ek, hst.symm, i2, by rw [List.length_append, List.length_singleton]; omega, i4, hM.sub (.refl _) (.refl _) (fun f hf => by simp at hf)⟩
        · rw [if_neg hdk] at hst
          rw [decide_eq_false hdk] at e3
          cases r with
          | false =>
            rw [if_neg (by simp)] at hst
            (repeat' (first | (with_reducible refine w_seq ?_) | ((with_reducible refine c_regionR ?_ ?_); rotate_left; exact rfl) | (with_reducible refine s_nil ?_) | ((with_reducible apply s_call (f := 47) hF hM); exact rfl; exact rfl; exact rfl; exact rfl; exact rfl; exact (e3 (fun b h => hM.lt b (.inl h)) (OffR.fact hM (k := 0) rfl i4)); clear hF hM a; rintro v w a rfl - hM hF) | (with_reducible refine q_then_n ?_) | ((with_reducible apply s_pure hF); exact rfl; exact rfl; exact rfl; (first | exact trivial | omega | exact ⟨Int.natCast_nonneg _, Int.ofNat_lt.2 (by assumption)⟩ | decide); clear hF a; intro a hF) | ((with_reducible apply s_load hF hM); exact rfl; exact rfl; (repeat (first | exact List.mem_cons_self | refine List.mem_cons_of_mem _ ?_)); exact rfl; exact rfl; clear hF a; intro a hF) | ((with_reducible apply s_lit hF hM); exact rfl; exact rfl; exact rfl; exact rfl; clear hF hM a; intro bl w a hM hF) | (with_reducible refine w_skip ?_) | (with_reducible refine w_block ?_) | ((with_reducible apply c_false2 hF); exact rfl; (first | with_reducible rfl | (refine congrArg Value.bool ?_; focus (simp; done)))) | ((with_reducible apply s_skip hF); exact rfl; exact rfl; clear hF a; intro a hF)))
            apply s_appO 0 hF hM i4
            · exact rfl
            · exact rfl
            · exact rfl
            · exact rfl
            · exact .z
            · exact rfl
            · exact rfl
            · exact rfl
            · exact rfl
            · omega
            clear hF hM a
            intro kv' Ek' w a hK' hM hF
            dsimp only [List.set] at hM
            obtain ⟨ak2, ck2, rfl, hkc, hks⟩ := OffR.shape hM (k := 0) rfl hK'
            obtain ⟨adk, rfl⟩ := hks (by omega)
            clear hks
            by_cases hgt : cp < (kn.length : Int) + 1
            · have hdr := OffR.drop hM (k := 0) rfl hK' 1 (by omega)
              (repeat' (first | (with_reducible refine w_seq ?_) | ((with_reducible refine c_regionR ?_ ?_); rotate_left; exact rfl) | (with_reducible refine s_nil ?_) | (with_reducible refine q_then_n ?_) | ((with_reducible apply s_pure hF); exact rfl; exact rfl; exact rfl; (first | exact trivial | omega | exact ⟨Int.natCast_nonneg _, Int.ofNat_lt.2 (by assumption)⟩ | decide); clear hF a; intro a hF) | ((with_reducible apply s_load hF hM); exact rfl; exact rfl; (repeat (first | exact List.mem_cons_self | refine List.mem_cons_of_mem _ ?_)); exact rfl; exact rfl; clear hF a; intro a hF) | ((with_reducible apply s_store hF hM); exact rfl; exact rfl; exact rfl; exact rfl; (repeat (first | exact Upd.z | apply Upd.s)); exact rfl; exact rfl; exact rfl; clear hM; intro w hM) | (with_reducible refine q_blk_n ?_) | ((with_reducible apply c_dec hF); exact rfl; all_goals intro hc; all_goals (try (exfalso; omega)))))
              have hko := hM.fact (f := KeepsFrom w2.heap.size W') (by (repeat (first | exact List.mem_cons_self | refine List.mem_cons_of_mem _ ?_)))
              refine ⟨hko, ⟨below_mm hM0 hM hko.size, hM.fact (f := KT _ 34 W') (by (repeat (first | exact List.mem_cons_self | refine List.mem_cons_of_mem _ ?_)))⟩, ?_⟩
              refine ⟨(kn ++ [d]).drop 1, o, _, _, Ek', ?_, ?_, ?_, ?_, hM.sub (.refl _) (.refl _) (fun f hf => by simp at hf)⟩
              · rw [hst]
                unfold knw
                rw [if_neg hdk, if_pos (by rw [List.length_append, List.length_singleton]; omega)]
              · rw [List.length_drop, List.length_append, List.length_singleton]
                omega
              · simp only [List.length_append, List.length_singleton]
                omega
              · rw [List.length_drop, List.length_append, List.length_singleton, List.map_drop, List.map_append]
                rw [Int.toNat_natCast]
                exact hdr
            · (repeat' (first | (with_reducible refine w_seq ?_) | ((with_reducible refine c_regionR ?_ ?_); rotate_left; exact rfl) | (with_reducible refine s_nil ?_) | (with_reducible refine q_then_n ?_) | ((with_reducible apply s_pure hF); exact rfl; exact rfl; exact rfl; (first | exact trivial | omega | exact ⟨Int.natCast_nonneg _, Int.ofNat_lt.2 (by assumption)⟩ | decide); clear hF a; intro a hF) | ((with_reducible apply s_load hF hM); exact rfl; exact rfl; (repeat (first | exact List.mem_cons_self | refine List.mem_cons_of_mem _ ?_)); exact rfl; exact rfl; clear hF a; intro a hF) | ((with_reducible apply s_store hF hM); exact rfl; exact rfl; exact rfl; exact rfl; (repeat (first | exact Upd.z | apply Upd.s)); exact rfl; exact rfl; exact rfl; clear hM; intro w hM) | (with_reducible refine w_skip ?_) | (with_reducible refine q_blk_n ?_) | ((with_reducible apply c_dec hF); exact rfl; all_goals intro hc; all_goals (try (exfalso; omega)))))
              have hko := hM.fact (f := KeepsFrom w2.heap.size W') (by (repeat (first | exact List.mem_cons_self | refine List.mem_cons_of_mem _ ?_)))
              refine ⟨hko, ⟨below_mm hM0 hM hko.size, hM.fact (f := KT _ 34 W') (by (repeat (first | exact List.mem_cons_self | refine List.mem_cons_of_mem _ ?_)))⟩, ?_⟩
              refine ⟨kn ++ [d], o, _, _, Ek', ?_, ?_, ?_, ?_, hM.sub (.refl _) (.refl _) (fun f hf => by simp at hf)⟩
              · rw [hst]
                unfold knw
                rw [if_neg hdk, if_neg (by rw [List.length_append, List.length_singleton]; omega)]
              · rw [List.length_append, List.length_singleton]
                omega
              · simp only [List.length_append, List.length_singleton]
                omega
              · rw [List.length_append, List.length_singleton, List.map_append]
                exact hK'
          | true =>
            by_cases hdo : d ∈ o
            · rw [if_neg (fun q => q.2 hdo)] at hst
              rw [decide_eq_true hdo] at e4
              (repeat' (first | (with_reducible refine w_seq ?_) | ((with_reducible refine c_regionR ?_ ?_); rotate_left; exact rfl) | (with_reducible refine s_nil ?_) | ((with_reducible apply s_call (f := 47) hF hM); exact rfl; exact rfl; exact rfl; exact rfl; exact rfl; exact (e3 (fun b h => hM.lt b (.inl h)) (OffR.fact hM (k := 0) rfl i4)); clear hF hM a; rintro v w a rfl - hM hF) | ((with_reducible apply s_call (f := 47) hF hM); exact rfl; exact rfl; exact rfl; exact rfl; exact rfl; exact (e4 (fun b h => hM.lt b (.inl h)) (OffR.fact hM (k := 1) rfl (OffR.plain hM (List.mem_cons_of_mem _ List.mem_cons_self)))); clear hF hM a; rintro v w a rfl - hM hF) | (with_reducible refine q_then_n ?_) | ((with_reducible apply s_pure hF); exact rfl; exact rfl; exact rfl; (first | exact trivial | omega | exact ⟨Int.natCast_nonneg _, Int.ofNat_lt.2 (by assumption)⟩ | decide); clear hF a; intro a hF) | ((with_reducible apply s_load hF hM); exact rfl; exact rfl; (repeat (first | exact List.mem_cons_self | refine List.mem_cons_of_mem _ ?_)); exact rfl; exact rfl; clear hF a; intro a hF) | ((with_reducible apply s_lit hF hM); exact rfl; exact rfl; exact rfl; exact rfl; clear hF hM a; intro bl w a hM hF) | (with_reducible refine w_skip ?_) | (with_reducible refine w_block ?_) | ((with_reducible apply c_false2 hF); exact rfl; (first | with_reducible rfl | (refine congrArg Value.bool ?_; focus (simp; done))))))
              apply s_appO 0 hF hM i4
              · exact rfl
              · exact rfl
              · exact rfl
              · exact rfl
              · exact .z
              · exact rfl
              · exact rfl
              · exact rfl
              · exact rfl
              · omega
              clear hF hM a
              intro kv' Ek' w a hK' hM hF
              dsimp only [List.set] at hM
              obtain ⟨ak2, ck2, rfl, hkc, hks⟩ := OffR.shape hM (k := 0) rfl hK'
              obtain ⟨adk, rfl⟩ := hks (by omega)
              clear hks
              by_cases hgt : cp < (kn.length : Int) + 1
              · have hdr := OffR.drop hM (k := 0) rfl hK' 1 (by omega)
                (repeat' (first | (with_reducible refine w_seq ?_) | ((with_reducible refine c_regionR ?_ ?_); rotate_left; exact rfl) | (with_reducible refine s_nil ?_) | (with_reducible refine q_then_n ?_) | ((with_reducible apply s_pure hF); exact rfl; exact rfl; exact rfl; (first | exact trivial | omega | exact ⟨Int.natCast_nonneg _, Int.ofNat_lt.2 (by assumption)⟩ | decide); clear hF a; intro a hF) | ((with_reducible apply s_load hF hM); exact rfl; exact rfl; (repeat (first | exact List.mem_cons_self | refine List.mem_cons_of_mem _ ?_)); exact rfl; exact rfl; clear hF a; intro a hF) | ((with_reducible apply s_store hF hM); exact rfl; exact rfl; exact rfl; exact rfl; (repeat (first | exact Upd.z | apply Upd.s)); exact rfl; exact rfl; exact rfl; clear hM; intro w hM) | (with_reducible refine q_blk_n ?_) | ((with_reducible apply c_dec hF); exact rfl; all_goals intro hc; all_goals (try (exfalso; omega)))))
                have hko := hM.fact (f := KeepsFrom w2.heap.size W') (by (repeat (first | exact List.mem_cons_self | refine List.mem_cons_of_mem _ ?_)))
                refine ⟨hko, ⟨below_mm hM0 hM hko.size, hM.fact (f := KT _ 34 W') (by (repeat (first | exact List.mem_cons_self | refine List.mem_cons_of_mem _ ?_)))⟩, ?_⟩
                refine ⟨(kn ++ [d]).drop 1, o, _, _, Ek', ?_, ?_, ?_, ?_, hM.sub (.refl _) (.refl _) (fun f hf => by simp at hf)⟩
                · rw [hst]
                  unfold knw
                  rw [if_neg hdk, if_pos (by rw [List.length_append, List.length_singleton]; omega)]
                · rw [List.length_drop, List.length_append, List.length_singleton]
                  omega
                · simp only [List.length_append, List.length_singleton]
                  omega
                · rw [List.length_drop, List.length_append, List.length_singleton, List.map_drop, List.map_append]
                  rw [Int.toNat_natCast]
                  exact hdr
              · (repeat' (first | (with_reducible refine w_seq ?_) | ((with_reducible refine c_regionR ?_ ?_); rotate_left; exact rfl) | (with_reducible refine s_nil ?_) | (with_reducible refine q_then_n ?_) | ((with_reducible apply s_pure hF); exact rfl; exact rfl; exact rfl; (first | exact trivial | omega | exact ⟨Int.natCast_nonneg _, Int.ofNat_lt.2 (by assumption)⟩ | decide); clear hF a; intro a hF) | ((with_reducible apply s_load hF hM); exact rfl; exact rfl; (repeat (first | exact List.mem_cons_self | refine List.mem_cons_of_mem _ ?_)); exact rfl; exact rfl; clear hF a; intro a hF) | ((with_reducible apply s_store hF hM); exact rfl; exact rfl; exact rfl; exact rfl; (repeat (first | exact Upd.z | apply Upd.s)); exact rfl; exact rfl; exact rfl; clear hM; intro w hM) | (with_reducible refine w_skip ?_) | (with_reducible refine q_blk_n ?_) | ((with_reducible apply c_dec hF); exact rfl; all_goals intro hc; all_goals (try (exfalso; omega)))))
                have hko := hM.fact (f := KeepsFrom w2.heap.size W') (by (repeat (first | exact List.mem_cons_self | refine List.mem_cons_of_mem _ ?_)))
                refine ⟨hko, ⟨below_mm hM0 hM hko.size, hM.fact (f := KT _ 34 W') (by (repeat (first | exact List.mem_cons_self | refine List.mem_cons_of_mem _ ?_)))⟩, ?_⟩
                refine ⟨kn ++ [d], o, _, _, Ek', ?_, ?_, ?_, ?_, hM.sub (.refl _) (.refl _) (fun f hf => by simp at hf)⟩
                · rw [hst]
                  unfold knw
                  rw [if_neg hdk, if_neg (by rw [List.length_append, List.length_singleton]; omega)]
                · rw [List.length_append, List.length_singleton]
                  omega
                · simp only [List.length_append, List.length_singleton]
                  omega
                · rw [List.length_append, List.length_singleton, List.map_append]
                  exact hK'
            · rw [if_pos ⟨rfl, hdo⟩] at hst
              rw [decide_eq_false hdo] at e4
              (repeat' (first | (with_reducible refine w_seq ?_) | ((with_reducible refine c_regionR ?_ ?_); rotate_left; exact rfl) | (with_reducible refine s_nil ?_) | ((with_reducible apply s_call (f := 47) hF hM); exact rfl; exact rfl; exact rfl; exact rfl; exact rfl; exact (e3 (fun b h => hM.lt b (.inl h)) (OffR.fact hM (k := 0) rfl i4)); clear hF hM a; rintro v w a rfl - hM hF) | ((with_reducible apply s_call (f := 47) hF hM); exact rfl; exact rfl; exact rfl; exact rfl; exact rfl; exact (e4 (fun b h => hM.lt b (.inl h)) (OffR.fact hM (k := 1) rfl (OffR.plain hM (List.mem_cons_of_mem _ List.mem_cons_self)))); clear hF hM a; rintro v w a rfl - hM hF) | (with_reducible refine q_then_n ?_) | ((with_reducible apply s_pure hF); exact rfl; exact rfl; exact rfl; (first | exact trivial | omega | exact ⟨Int.natCast_nonneg _, Int.ofNat_lt.2 (by assumption)⟩ | decide); clear hF a; intro a hF) | ((with_reducible apply s_load hF hM); exact rfl; exact rfl; (repeat (first | exact List.mem_cons_self | refine List.mem_cons_of_mem _ ?_)); exact rfl; exact rfl; clear hF a; intro a hF) | ((with_reducible apply s_store hF hM); exact rfl; exact rfl; exact rfl; exact rfl; (repeat (first | exact Upd.z | apply Upd.s)); exact rfl; exact rfl; exact rfl; clear hM; intro w hM) | ((with_reducible apply s_lit hF hM); exact rfl; exact rfl; exact rfl; exact rfl; clear hF hM a; intro bl w a hM hF) | ((with_reducible apply s_app hF hM); exact rfl; exact rfl; exact rfl; exact rfl; (repeat (first | exact Kth.z | apply Kth.s)); exact rfl; exact rfl; exact rfl; exact rfl; omega; clear hF hM a; intro g cap w a hM hF; dsimp only [List.set] at hM) | (with_reducible refine w_skip ?_) | (with_reducible refine w_block ?_) | ((with_reducible apply c_true2 hF); exact rfl; (first | with_reducible rfl | (refine congrArg Value.bool ?_; focus (simp; done)))) | ((with_reducible apply c_false2 hF); exact rfl; (first | with_reducible rfl | (refine congrArg Value.bool ?_; focus (simp; done))))))
              replace hM := hM.rowsEq (L' := [Ek, ⟨84, 1, .slice (some ⟨g, 0, none⟩) (o.length + 1) cap, (o ++ [d]).length, (o ++ [d]).map (Value.int .u64)⟩]) (by rw [List.length_append, List.map_append]; rfl)
              apply s_appO 0 hF hM i4
              · exact rfl
              · exact rfl
              · exact rfl
              · exact rfl
              · exact .z
              · exact rfl
              · exact rfl
              · exact rfl
              · exact rfl
              · omega
              clear hF hM a
              intro kv' Ek' w a hK' hM hF
              dsimp only [List.set] at hM
              obtain ⟨ak2, ck2, rfl, hkc, hks⟩ := OffR.shape hM (k := 0) rfl hK'
              obtain ⟨adk, rfl⟩ := hks (by omega)
              clear hks
              by_cases hgt : cp < (kn.length : Int) + 1
              · have hdr := OffR.drop hM (k := 0) rfl hK' 1 (by omega)
                (repeat' (first | (with_reducible refine w_seq ?_) | ((with_reducible refine c_regionR ?_ ?_); rotate_left; exact rfl) | (with_reducible refine s_nil ?_) | (with_reducible refine q_then_n ?_) | ((with_reducible apply s_pure hF); exact rfl; exact rfl; exact rfl; (first | exact trivial | omega | exact ⟨Int.natCast_nonneg _, Int.ofNat_lt.2 (by assumption)⟩ | decide); clear hF a; intro a hF) | ((with_reducible apply s_load hF hM); exact rfl; exact rfl; (repeat (first | exact List.mem_cons_self | refine List.mem_cons_of_mem _ ?_)); exact rfl; exact rfl; clear hF a; intro a hF) | ((with_reducible apply s_store hF hM); exact rfl; exact rfl; exact rfl; exact rfl; (repeat (first | exact Upd.z | apply Upd.s)); exact rfl; exact rfl; exact rfl; clear hM; intro w hM) | (with_reducible refine q_blk_n ?_) | ((with_reducible apply c_dec hF); exact rfl; all_goals intro hc; all_goals (try (exfalso; omega)))))
                have hko := hM.fact (f := KeepsFrom w2.heap.size W') (by (repeat (first | exact List.mem_cons_self | refine List.mem_cons_of_mem _ ?_)))
                refine ⟨hko, ⟨below_mm hM0 hM hko.size, hM.fact (f := KT _ 34 W') (by (repeat (first | exact List.mem_cons_self | refine List.mem_cons_of_mem _ ?_)))⟩, ?_⟩
                refine ⟨(kn ++ [d]).drop 1, (o ++ [d]), _, _, Ek', ?_, ?_, ?_, ?_, hM.sub (.refl _) (.refl _) (fun f hf => by simp at hf)⟩
                · rw [hst]
                  unfold knw
                  rw [if_neg hdk, if_pos (by rw [List.length_append, List.length_singleton]; omega)]
                · rw [List.length_drop, List.length_append, List.length_singleton]
                  omega
                · simp only [List.length_append, List.length_singleton]
                  omega
                · rw [List.length_drop, List.length_append, List.length_singleton, List.map_drop, List.map_append]
                  rw [Int.toNat_natCast]
                  exact hdr
              · (repeat' (first | (with_reducible refine w_seq ?_) | ((with_reducible refine c_regionR ?_ ?_); rotate_left; exact rfl) | (with_reducible refine s_nil ?_) | (with_reducible refine q_then_n ?_) | ((with_reducible apply s_pure hF); exact rfl; exact rfl; exact rfl; (first | exact trivial | omega | exact ⟨Int.natCast_nonneg _, Int.ofNat_lt.2 (by assumption)⟩ | decide); clear hF a; intro a hF) | ((with_reducible apply s_load hF hM); exact rfl; exact rfl; (repeat (first | exact List.mem_cons_self | refine List.mem_cons_of_mem _ ?_)); exact rfl; exact rfl; clear hF a; intro a hF) | ((with_reducible apply s_store hF hM); exact rfl; exact rfl; exact rfl; exact rfl; (repeat (first | exact Upd.z | apply Upd.s)); exact rfl; exact rfl; exact rfl; clear hM; intro w hM) | (with_reducible refine w_skip ?_) | (with_reducible refine q_blk_n ?_) | ((with_reducible apply c_dec hF); exact rfl; all_goals intro hc; all_goals (try (exfalso; omega)))))
                have hko := hM.fact (f := KeepsFrom w2.heap.size W') (by (repeat (first | exact List.mem_cons_self | refine List.mem_cons_of_mem _ ?_)))
                refine ⟨hko, ⟨below_mm hM0 hM hko.size, hM.fact (f := KT _ 34 W') (by (repeat (first | exact List.mem_cons_self | refine List.mem_cons_of_mem _ ?_)))⟩, ?_⟩
                refine ⟨kn ++ [d], (o ++ [d]), _, _, Ek', ?_, ?_, ?_, ?_, hM.sub (.refl _) (.refl _) (fun f hf => by simp at hf)⟩
                · rw [hst]
                  unfold knw
                  rw [if_neg hdk, if_neg (by rw [List.length_append, List.length_singleton]; omega)]
                · rw [List.length_append, List.length_singleton]
                  omega
                · simp only [List.length_append, List.length_singleton]
                  omega
                · rw [List.length_append, List.length_singleton, List.map_append]
                  exact hK'
end
end Go.Proofs.Ytadfdpkhehdikaa


/- dedup: Supply. -/
namespace Go.Proofs.Ytadfdpkhehdikaa
open Go.RowKit Go.Shelf D29
section
variable {n : Nat} {ds : List Deferred} {l : List (Nat × Value)} {a : Act} {w w0 : World} {own : Nat → Prop} {bs : List BoxE} {L : List Ent} {Fs : List (World → Prop)}
variable {os rest : List Oper} {Q : Exit → Act → World → Prop}
variable {d : Nat} {ty : TypeId} {pos : String} {af : Array Edge} {g : Option (Nat × Bool)}
theorem s_lookupOkE {α : Type} [DecidableEq α] {kt xT : TypeId} {ek : α → Value} {A : α → Prop} {z : Value} {b : Nat} {es : List (α × Value)} {x : α} {X I : Operand} (hK : KeyOk kt ek A) (hF : Fr n ds l a) (hM : Mm own w0 bs L Fs w) (hg : wantO os l g = some true) (hX : ev l X = some (.map (some b))) (hI : ev l I = some (ek x)) (ht : mapTy xT = some (kt, z)) (hb : MpE ek b es ∈ Fs) (hd : Nat.blt d n = true) (hx : A x) (hes : ∀ e ∈ es, A e.1)
    (kk : ∀ a, Fr n ds ((d, .tuple #[(kadd x z es).2.2, .bool (kfind x es 0).isSome]) :: l) a → wl ⟨os⟩ Q rest a w) : wl ⟨os⟩ Q (⟨some d, .lookup xT X I true, ty, pos, af, g⟩ :: rest) a w :=
  s_lookupOk hK hF hM hg hX hI ht hb hx (stamp_ok hes) hd fun a h => by
    rw [(plk_stamp x z es).1, (plk_stamp x z es).2] at h
    exact kk a h
theorem s_mapUpdateN {α : Type} [DecidableEq α] {kt xT : TypeId} {ek : α → Value} {A : α → Prop} {z : Value} {b : Nat} {es : List (α × Value)} {x : α} {X I Y : Operand} (hK : KeyOk kt ek A) {v : Value} (hF : Fr n ds l a) (hM : Mm own w0 bs L (MpE ek b es :: Fs) w) (hg : wantO os l g = some true) (hX : ev l X = some (.map (some b))) (hI : ev l I = some (ek x)) (hY : ev l Y = some v) (ht : mapTy xT = some (kt, z)) (hx : A x) (hes : ∀ e ∈ es, A e.1) (hb0 : w0.heap.size ≤ b) (hcf : ∀ f ∈ Fs, Nb b f)
    (k : ∀ w' a', Mm own w0 bs L (MpE ek b (kput x v es) :: Fs) w' → Fr n ds l a' → wl ⟨os⟩ Q rest a' w') : wl ⟨os⟩ Q (⟨none, .mapUpdate xT X I Y, ty, pos, af, g⟩ :: rest) a w :=
  s_op hF hg fun _ hK' => e_mapUpdateN hK hF hM hX hI hY ht hx hes hb0 hcf fun w' h => hK' _ _ (k w' _ h hF)
end
namespace D29
/-- The table of the data that are supplied. -/
def slV (p : P) : Value := .slice p.2.1 p.1.x.length p.2.2
def esM (M : List P) : List (Int × Value) := M.map fun p => (p.1.d, slV p)
def fM (d : Int) (M : List P) : Option P := M.find? fun p => decide (p.1.d = d)
theorem kfindM (d : Int) : ∀ (M : List P) (i : Nat), (kfind d (esM M) i).isSome = (fM d M).isSome ∧ ∀ j, kfind d (esM M) i = some j → ∃ p, M[j - i]? = some p ∧ fM d M = some p
  | [], i => ⟨rfl, fun j h => by cases h⟩
  | p :: M, i => by
    have ih := kfindM d M (i + 1)
    unfold fM at ih ⊢
    rw [esM, List.map_cons, kfind, List.find?_cons]
    by_cases h : p.1.d = d
    · rw [if_pos h.symm, decide_eq_true h]
      refine ⟨rfl, fun j hj => ?_⟩
      injection hj with hj
      subst hj
      exact ⟨p, by simp, rfl⟩
    · rw [if_neg (fun q => h q.symm), decide_eq_false h]
      refine ⟨ih.1, fun j hj => ?_⟩
      obtain ⟨q, h1, h2⟩ := ih.2 j hj
      have := (kfind_lt (es := esM M) hj).1
      exact ⟨q, by rw [show j - i = (j - (i + 1)) + 1 by omega, List.getElem?_cons_succ]; exact h1, h2⟩
theorem kaddM (d : Int) (z : Value) (M : List P) : (kadd d z (esM M)).2.2 = match fM d M with | some p => slV p | none => z := by
  have h := kfindM d M 0
  unfold kadd
  cases hk : kfind d (esM M) 0 with
  | none =>
    have h1 := h.1
    rw [hk] at h1
    cases hf : fM d M with
    | none => rfl
    | some p => rw [hf] at h1; cases h1
  | some j =>
    obtain ⟨p, h1, h2⟩ := h.2 j hk
    rw [h2]
    rw [Nat.sub_zero] at h1
    simp [esM, h1]
theorem kputM (p : P) (M : List P) (h : fM p.1.d M = none) : kput p.1.d (slV p) (esM M) = esM (M ++ [p]) := by
  have h1 := (kfindM p.1.d M 0).1
  rw [h] at h1
  rw [kput_add p.1.d (slV p) .nilFunc]
  unfold kadd
  cases hk : kfind p.1.d (esM M) 0 with
  | some j => rw [hk] at h1; cases h1
  | none => simp [esM]
def rightI (i : Itm) : Bool := isCh i.x && decide (dg i.x = i.d)
theorem supF_snoc (l : List Itm) (i : Itm) (d : Int) : supF (l ++ [i]) d = match supF l d with | some x => some x | none => if i.d = d ∧ rightI i = true then some i.x else none := by
  unfold supF rightI
  rw [List.find?_append]
  cases h : l.find? fun i => decide (i.d = d) && (isCh i.x && decide (dg i.x = i.d)) with
  | some j => rfl
  | none =>
    simp only [Option.map_none, List.find?_cons, List.find?_nil]
    by_cases h1 : i.d = d
    · cases h2 : isCh i.x && decide (dg i.x = i.d) <;> simp [h1] <;> simp_all
    · simp [h1]
def SupM (M : List P) (l : List Itm) : Prop := ∀ d, (fM d M).map (·.1.x) = supF l d
theorem SupM.none {M : List P} {l : List Itm} (h : SupM M l) {d : Int} (hd : fM d M = none) : supF l d = none := by rw [← h d, hd]; rfl
theorem SupM.some {M : List P} {l : List Itm} (h : SupM M l) {d : Int} {p : P} (hd : fM d M = some p) : supF l d = some p.1.x := by rw [← h d, hd]; rfl
theorem supM_add {M : List P} {l : List Itm} {p : P} (h : SupM M l) (h1 : fM p.1.d M = none) (h2 : rightI p.1 = true) : SupM (M ++ [p]) (l ++ [p.1]) := by
  intro d
  rw [supF_snoc, ← h d]
  unfold fM at h1 ⊢
  rw [List.find?_append]
  cases hf : M.find? fun q => decide (q.1.d = d) with
  | some q => rfl
  | none =>
    simp only [Option.map_none, List.find?_cons, List.find?_nil]
    by_cases hd : p.1.d = d
    · simp [hd, h2]
    · simp [hd]
theorem supM_skip {M : List P} {l : List Itm} {p : P} (h : SupM M l) (h1 : (∃ q, fM p.1.d M = some q) ∨ rightI p.1 = false) : SupM M (l ++ [p.1]) := by
  intro d
  rw [supF_snoc, ← h d]
  cases hf : fM d M with
  | some q => rfl
  | none =>
    simp only [Option.map_none]
    rw [if_neg]
    rintro ⟨e, e2⟩
    rcases h1 with ⟨q, h1⟩ | h1
    · rw [e, hf] at h1; cases h1
    · rw [h1] at e2; cases e2
theorem fM_mem {M : List P} {d : Int} {p : P} (h : fM d M = some p) : p ∈ M := List.mem_of_find?_eq_some h
end D29
section
variable (ps : List P) (a0 : Option Addr) (c0 n : Nat) (hn : ps.length = n) (hlen : n ≤ 100000) (hDW : DatW ps) (hpx : ∀ p ∈ ps, p.1.x.length ≤ 100000) (own : Nat → Prop) (W : World) (hl : ∀ b, own b → b < W.heap.size) (h1 : Has own W (RdF id a0 (cellsP ps))) (h2 : Has own W (DatF ps))
include hn hlen hDW hpx hl h1 h2
set_option maxRecDepth 20000 in
set_option maxHeartbeats 8000000 in
theorem Supply29_c (ts : List TP) (hts : DatW (tP ts)) (hx4 : ∀ t ∈ ts, t.1.x.length ≤ 100000) (al : Option Addr) (cl nl : Nat) (hnl : ts.length = nl) (hnl4 : nl ≤ 100000) (hx1 : Has own W (RdF id al (cellsT ts))) (hx2 : Has own W (DatF (tP ts))) :
    Calls Try.prog 16 ⟨[.slice al nl cl, .slice a0 n c0]⟩ W (Ret W fun v w' => ∃ (a : Option Addr) (c : Nat), v = .slice a ts.length c ∧ TkR own ((tms ts).map (supT (ims ps))) a c w') := by
  have hM := ((((Mm.start hl).known hx2).known hx1).known h2).known h1
  subst hn hnl
  have hw := itC_len ps
  have hw3 := tkC_len ts
  refine f_start Try.func16 rfl Try.ntmps16 rfl rfl ?_; intro a hF
  (repeat (first | (with_reducible refine w_seq ?_) | (with_reducible refine c_region ?_) | (with_reducible refine s_nil ?_) | (with_reducible refine q_then_n ?_) | ((with_reducible apply s_pure hF); exact rfl; exact rfl; exact rfl; (first | exact trivial | omega | exact ⟨Int.natCast_nonneg _, Int.ofNat_lt.2 (by assumption)⟩ | decide); clear hF a; intro a hF)))
  refine s_makeMapE (α := Int) (ek := Value.int .u64) hF hM rfl rfl ?_
  clear hF hM a
  intro mb w a hmb hM hF
  (repeat (first | (with_reducible refine w_seq ?_) | (with_reducible refine c_region ?_) | (with_reducible refine s_nil ?_) | (with_reducible refine q_then_n ?_) | ((with_reducible apply s_pure hF); exact rfl; exact rfl; exact rfl; (first | exact trivial | omega | exact ⟨Int.natCast_nonneg _, Int.ofNat_lt.2 (by assumption)⟩ | decide); clear hF a; intro a hF) | (with_reducible refine w_block ?_)))
  have hcf : ∀ f ∈ [RdF id a0 (cellsP ps), DatF ps, RdF id al (cellsT ts), DatF (tP ts)], Nb mb f := by
    intro f hf
    simp only [List.mem_cons, List.not_mem_nil, or_false] at hf
    rcases hf with rfl | rfl | rfl | rfl
    · exact Nb.rd
    · exact Nb.dat
    · exact Nb.rd
    · exact Nb.dat
  refine c_loop (m := ps.length) (fun m a w' => ∃ (k : Nat) (M : List P), m + k = ps.length ∧ SupM M (ims (ps.take k)) ∧ (∀ p ∈ M, p ∈ ps) ∧
    Fr 85 [] [(18, .int .i64 k), (17, .int .i64 ps.length), (16, .slice a0 ps.length c0), (5, .map (some mb)), (0, .slice al ts.length cl)] a ∧
    Mm own W [] [] [MpE (Value.int .u64) mb (esM M), RdF id a0 (cellsP ps), DatF ps, RdF id al (cellsT ts), DatF (tP ts)] w')
    ⟨0, [], by omega, fun d => rfl, fun p hp => by simp at hp, hF.sub (by repeat (first | exact Sub.nil | refine Sub.cons rfl (by first | with_reducible rfl | (refine congrArg (Value.int _) ?_; omega) | exact rfl) ?_)), hM⟩ ?_
  clear hF hM a
  rintro m a w' ⟨k, M, hm, hS, hMp, hF, hM⟩
  by_cases hk : k < ps.length
  · obtain ⟨p, hp⟩ := get_of_lt hk
    have hpm := List.mem_of_getElem? hp
    obtain ⟨hp8, hpc, hpb⟩ := hDW p hpm
    have hp4 := hpx p hpm
    have hpr := dat_one (hM.facts (DatF ps) (by (repeat (first | with_reducible exact List.mem_cons_self | refine List.mem_cons_of_mem _ ?_)))) hpm
    have hki : ims (ps.take (k + 1)) = ims (ps.take k) ++ [p.1] := by
      rw [List.take_add_one, hp]
      simp [ims]
    have hkM := kaddM p.1.d (.slice none 0 0) M
    have hkI := (kfindM p.1.d M 0).1
    have hkP := kputM p M
    have hpe : (ps.map itC)[k]? = some [.int .u64 p.1.d, .slice p.2.1 p.1.x.length p.2.2] := by rw [List.getElem?_map, hp]; rfl
    obtain ⟨ad, rfl⟩ : ∃ ad, a0 = some ad := rd_some hM (enc := id) (a := a0) (xs := cellsP ps) (by (repeat (first | exact List.mem_cons_self | refine List.mem_cons_of_mem _ ?_))) (flat_get (q := 0) hw hpe rfl)
    have hcc : cellsP ps = (ps.map itC).flatten := rfl
    rw [hcc] at hM hcf
    have hadd := fun h1 h2 => supM_add (p := p) hS h1 h2
    have hskip := fun h1 => supM_skip (p := p) hS h1
    have hMp2 : ∀ q ∈ M ++ [p], q ∈ ps := by
      intro q hq
      rcases List.mem_append.1 hq with hq | hq
      · exact hMp q hq
      · rw [List.mem_singleton] at hq
        rw [hq]
        exact hpm
    rw [← hki] at hadd hskip
    unfold rightI slV at *
    obtain ⟨⟨d, x⟩, ax, cx⟩ := p
    dsimp only at hp8 hpc hpb hp4 hpr hpe hkM hkI hkP hadd hskip hMp2
    obtain ⟨q, hxq⟩ : ∃ q, x.length = q := ⟨_, rfl⟩
    rw [hxq] at hpe hkP
    replace hM : Mm own W [] [] (MpE (Value.int .u64) mb (esM M) :: [RdF id (some ad) (ps.map itC).flatten, DatF ps, RdF id al (cellsT ts), DatF (tP ts)]) w' := hM
    (repeat' (first | (with_reducible refine w_seq ?_) | (with_reducible refine c_region ?_) | (with_reducible refine s_nil ?_) | ((with_reducible apply s_loadE hF hM); exact rfl; exact rfl; (repeat (first | exact List.mem_cons_self | refine List.mem_cons_of_mem _ ?_)); exact rfl; exact rfl; (first | with_reducible assumption | (simp only [Int.toNat_natCast]; with_reducible assumption)); (with_reducible assumption); clear hF a; intro a hF) | (with_reducible refine q_then_n ?_) | ((with_reducible apply s_pure hF); exact rfl; exact rfl; exact rfl; (first | exact trivial | omega | exact ⟨Int.natCast_nonneg _, Int.ofNat_lt.2 (by assumption)⟩ | decide); clear hF a; intro a hF) | ((with_reducible apply s_load hF hM); exact rfl; exact rfl; (repeat (first | exact List.mem_cons_self | refine List.mem_cons_of_mem _ ?_)); exact rfl; exact rfl; clear hF a; intro a hF) | ((with_reducible apply s_store hF hM); exact rfl; exact rfl; exact rfl; exact rfl; (repeat (first | exact Upd.z | apply Upd.s)); exact rfl; exact rfl; exact rfl; clear hM; intro w hM) | ((with_reducible apply s_alloc hF hM); exact rfl; exact rfl; exact rfl; clear hF hM a; intro b w a hM hF) | (with_reducible refine w_skip ?_) | (with_reducible refine w_block ?_) | ((with_reducible apply c_dec hF); exact rfl; all_goals intro hc; all_goals (try (exfalso; omega)))))
    refine s_lookupOkE (ek := Value.int .u64) (z := .slice none 0 0) (x := d) (es := esM M) (keyOk_int rfl) hF hM rfl rfl rfl rfl (by (repeat (first | exact List.mem_cons_self | refine List.mem_cons_of_mem _ ?_))) rfl trivial (fun _ _ => trivial) ?_
    clear hF a
    intro a hF
    rw [hkM, hkI] at hF
    cases hf : fM d M with
    | some pp =>
      rw [hf] at hF
      dsimp only [Option.isSome] at hF
      (repeat (first | (with_reducible refine w_seq ?_) | (with_reducible refine s_nil ?_) | (with_reducible refine q_then_n ?_) | ((with_reducible apply s_pure hF); exact rfl; exact rfl; exact rfl; (first | exact trivial | omega | exact ⟨Int.natCast_nonneg _, Int.ofNat_lt.2 (by assumption)⟩ | decide); clear hF a; intro a hF)))
      refine c_draw (fun i => Nat.ble 15 i) hM ?_; clear hM; intro w hM
      (first | (refine t_pure (i := 0) hF rfl rfl rfl rfl (by kernel_rfl) hM.sm (fun _ _ _ h => h) ?_ ?_; (first | exact trivial | omega | decide); clear hF a; intro a hF))
      (first | (refine t_pure (i := 1) hF rfl rfl rfl rfl (by kernel_rfl) hM.sm (fun _ _ _ h => h) ?_ ?_; (first | exact trivial | omega | decide); clear hF a; intro a hF))
      (first | (refine t_pure (i := 2) hF rfl rfl rfl rfl (by kernel_rfl) hM.sm (fun _ _ _ h => h) ?_ ?_; (first | exact trivial | omega | decide); clear hF a; intro a hF))
      (first | (refine t_skip (i := 3) hF rfl rfl rfl (by kernel_rfl) hM.sm (fun _ _ _ h => h) ?_; clear hF a; intro a hF))
      (first | (refine t_skip (i := 4) hF rfl rfl rfl (by kernel_rfl) hM.sm (fun _ _ _ h => h) ?_; clear hF a; intro a hF))
      (refine t_skip (i := 5) hF rfl rfl rfl (by kernel_rfl) hM.sm (fun _ _ _ h => h) ?_; clear hF a; intro a hF)
      (first | (refine t_pure (i := 6) hF rfl rfl rfl rfl (by kernel_rfl) hM.sm (fun _ _ _ h => h) ?_ ?_; (first | exact trivial | omega | decide); clear hF a; intro a hF))
      (first | (refine t_pure (i := 7) hF rfl rfl rfl rfl (by kernel_rfl) hM.sm (fun _ _ _ h => h) ?_ ?_; (first | exact trivial | omega | decide); clear hF a; intro a hF))
      (first | (refine t_skip (i := 8) hF rfl rfl rfl (by kernel_rfl) hM.sm (fun _ _ _ h => h) ?_; clear hF a; intro a hF))
      (first | (refine t_skip (i := 9) hF rfl rfl rfl (by kernel_rfl) hM.sm (fun _ _ _ h => h) ?_; clear hF a; intro a hF))
      (refine t_skip (i := 10) hF rfl rfl rfl (by kernel_rfl) hM.sm (fun _ _ _ h => h) ?_; clear hF a; intro a hF)
      (first | (refine t_skip (i := 11) hF rfl rfl rfl (by kernel_rfl) hM.sm (fun _ _ _ h => h) ?_; clear hF a; intro a hF))
      (first | (refine t_skip (i := 12) hF rfl rfl rfl (by kernel_rfl) hM.sm (fun _ _ _ h => h) ?_; clear hF a; intro a hF))
      (first | (refine t_skip (i := 13) hF rfl rfl rfl (by kernel_rfl) hM.sm (fun _ _ _ h => h) ?_; clear hF a; intro a hF))
      (first | (refine t_pure (i := 14) hF rfl rfl rfl rfl (by kernel_rfl) hM.sm (fun _ _ _ h => h) ?_ ?_; (first | exact trivial | omega | decide); clear hF a; intro a hF))
      refine t_done (by kernel_rfl) ?_
      (repeat' (first | (with_reducible refine c_region ?_) | (with_reducible refine s_nil ?_) | (with_reducible refine q_then_n ?_) | ((with_reducible apply s_pure hF); exact rfl; exact rfl; exact rfl; (first | exact trivial | omega | exact ⟨Int.natCast_nonneg _, Int.ofNat_lt.2 (by assumption)⟩ | decide); clear hF a; intro a hF) | (with_reducible refine w_skip ?_) | (with_reducible refine q_blk_n ?_) | ((with_reducible apply c_false2 hF); exact rfl; (first | with_reducible rfl | (refine congrArg Value.bool ?_; focus (simp; done))))))
      exact ⟨m - 1, by omega, k + 1, M, by omega, hskip (.inl ⟨_, hf⟩), hMp, hF.sub (by repeat (first | exact Sub.nil | refine Sub.cons rfl (by first | with_reducible rfl | (refine congrArg (Value.int _) ?_; omega) | exact rfl) ?_)), hM.sub (.cons _ .slnil) (.refl _) (fun f hf => hf)⟩
    | none =>
      rw [hf] at hF
      dsimp only [Option.isSome] at hF
      cases hch : isCh x with
      | false =>
        (repeat (first | (with_reducible refine w_seq ?_) | (with_reducible refine s_nil ?_) | (with_reducible refine q_then_n ?_) | ((with_reducible apply s_pure hF); exact rfl; exact rfl; exact rfl; (first | exact trivial | omega | exact ⟨Int.natCast_nonneg _, Int.ofNat_lt.2 (by assumption)⟩ | decide); clear hF a; intro a hF)))
        refine c_draw (fun i => Nat.ble 15 i) hM ?_; clear hM; intro w hM
        (first | (refine t_pure (i := 0) hF rfl rfl rfl rfl (by kernel_rfl) hM.sm (fun _ _ _ h => h) ?_ ?_; (first | exact trivial | omega | decide); clear hF a; intro a hF))
        (first | (refine t_pure (i := 1) hF rfl rfl rfl rfl (by kernel_rfl) hM.sm (fun _ _ _ h => h) ?_ ?_; (first | exact trivial | omega | decide); clear hF a; intro a hF))
        (first | (refine t_pure (i := 2) hF rfl rfl rfl rfl (by kernel_rfl) hM.sm (fun _ _ _ h => h) ?_ ?_; (first | exact trivial | omega | decide); clear hF a; intro a hF))
        (first | (refine t_pure (i := 3) hF rfl rfl rfl rfl (by kernel_rfl) hM.sm (fun _ _ _ h => h) ?_ ?_; (first | exact trivial | omega | decide); clear hF a; intro a hF))
        (first | (apply t_load (i := 4) hF rfl rfl rfl; (repeat (first | exact List.mem_cons_self | refine List.mem_cons_of_mem _ ?_)); exact rfl; exact rfl; kernel_rfl; exact hM.sm; exact (fun _ _ _ h => h); clear hF a; intro a hF))
        refine t_one (i := 5) hF rfl (by kernel_rfl) rfl ?_
        intro K hK
        (apply x_call hF hM; exact rfl; exact rfl; exact rfl; exact rfl; exact (isChunk_c x ax cx q hxq _ _ hM.lt); clear hF hM a; rintro v w a rfl - hM hF)
        rw [hch] at hF
        refine hK _ _ (fun _ => (hM.sm.sub (fun x hx => by repeat (first | exact hx | refine List.mem_cons_of_mem _ ?_)) (fun _ h => by repeat (first | exact h | refine List.mem_cons_of_mem _ ?_)))) ?_; clear hK
        (first | (refine t_pure (i := 6) hF rfl rfl rfl rfl (by kernel_rfl) (hM.sm.sub (fun x hx => by repeat (first | exact hx | refine List.mem_cons_of_mem _ ?_)) (fun _ h => by repeat (first | exact h | refine List.mem_cons_of_mem _ ?_))) (fun _ _ _ h => h) ?_ ?_; (first | exact trivial | omega | decide); clear hF a; intro a hF))
        (first | (refine t_pure (i := 7) hF rfl rfl rfl rfl (by kernel_rfl) (hM.sm.sub (fun x hx => by repeat (first | exact hx | refine List.mem_cons_of_mem _ ?_)) (fun _ h => by repeat (first | exact h | refine List.mem_cons_of_mem _ ?_))) (fun _ _ _ h => h) ?_ ?_; (first | exact trivial | omega | decide); clear hF a; intro a hF))
        (first | (refine t_skip (i := 8) hF rfl rfl rfl (by kernel_rfl) (hM.sm.sub (fun x hx => by repeat (first | exact hx | refine List.mem_cons_of_mem _ ?_)) (fun _ h => by repeat (first | exact h | refine List.mem_cons_of_mem _ ?_))) (fun _ _ _ h => h) ?_; clear hF a; intro a hF))
        (first | (refine t_skip (i := 9) hF rfl rfl rfl (by kernel_rfl) (hM.sm.sub (fun x hx => by repeat (first | exact hx | refine List.mem_cons_of_mem _ ?_)) (fun _ h => by repeat (first | exact h | refine List.mem_cons_of_mem _ ?_))) (fun _ _ _ h => h) ?_; clear hF a; intro a hF))
        (refine t_skip (i := 10) hF rfl rfl rfl (by kernel_rfl) (hM.sm.sub (fun x hx => by repeat (first | exact hx | refine List.mem_cons_of_mem _ ?_)) (fun _ h => by repeat (first | exact h | refine List.mem_cons_of_mem _ ?_))) (fun _ _ _ h => h) ?_; clear hF a; intro a hF)
        (first | (refine t_skip (i := 11) hF rfl rfl rfl (by kernel_rfl) (hM.sm.sub (fun x hx => by repeat (first | exact hx | refine List.mem_cons_of_mem _ ?_)) (fun _ h => by repeat (first | exact h | refine List.mem_cons_of_mem _ ?_))) (fun _ _ _ h => h) ?_; clear hF a; intro a hF))
        (first | (refine t_skip (i := 12) hF rfl rfl rfl (by kernel_rfl) (hM.sm.sub (fun x hx => by repeat (first | exact hx | refine List.mem_cons_of_mem _ ?_)) (fun _ h => by repeat (first | exact h | refine List.mem_cons_of_mem _ ?_))) (fun _ _ _ h => h) ?_; clear hF a; intro a hF))
        (first | (refine t_skip (i := 13) hF rfl rfl rfl (by kernel_rfl) (hM.sm.sub (fun x hx => by repeat (first | exact hx | refine List.mem_cons_of_mem _ ?_)) (fun _ h => by repeat (first | exact h | refine List.mem_cons_of_mem _ ?_))) (fun _ _ _ h => h) ?_; clear hF a; intro a hF))
        (first | (refine t_pure (i := 14) hF rfl rfl rfl rfl (by kernel_rfl) (hM.sm.sub (fun x hx => by repeat (first | exact hx | refine List.mem_cons_of_mem _ ?_)) (fun _ h => by repeat (first | exact h | refine List.mem_cons_of_mem _ ?_))) (fun _ _ _ h => h) ?_ ?_; (first | exact trivial | omega | decide); clear hF a; intro a hF))
        refine t_done (by kernel_rfl) ?_
        (repeat' (first | (with_reducible refine c_region ?_) | (with_reducible refine s_nil ?_) | (with_reducible refine q_then_n ?_) | ((with_reducible apply s_pure hF); exact rfl; exact rfl; exact rfl; (first | exact trivial | omega | exact ⟨Int.natCast_nonneg _, Int.ofNat_lt.2 (by assumption)⟩ | decide); clear hF a; intro a hF) | (with_reducible refine w_skip ?_) | (with_reducible refine q_blk_n ?_) | ((with_reducible apply c_false2 hF); exact rfl; (first | with_reducible rfl | (refine congrArg Value.bool ?_; focus (simp; done))))))
        exact ⟨m - 1, by omega, k + 1, M, by omega, hskip (.inr (by rw [hch]; rfl)), hMp, hF.sub (by repeat (first | exact Sub.nil | refine Sub.cons rfl (by first | with_reducible rfl | (refine congrArg (Value.int _) ?_; omega) | exact rfl) ?_)), hM.sub (.cons _ .slnil) (.refl _) (fun f hf => hf)⟩
      | true =>
        (repeat (first | (with_reducible refine w_seq ?_) | (with_reducible refine s_nil ?_) | (with_reducible refine q_then_n ?_) | ((with_reducible apply s_pure hF); exact rfl; exact rfl; exact rfl; (first | exact trivial | omega | exact ⟨Int.natCast_nonneg _, Int.ofNat_lt.2 (by assumption)⟩ | decide); clear hF a; intro a hF)))
        refine c_draw (fun i => Nat.ble 15 i) hM ?_; clear hM; intro w hM
        (first | (refine t_pure (i := 0) hF rfl rfl rfl rfl (by kernel_rfl) hM.sm (fun _ _ _ h => h) ?_ ?_; (first | exact trivial | omega | decide); clear hF a; intro a hF))
        (first | (refine t_pure (i := 1) hF rfl rfl rfl rfl (by kernel_rfl) hM.sm (fun _ _ _ h => h) ?_ ?_; (first | exact trivial | omega | decide); clear hF a; intro a hF))
        (first | (refine t_pure (i := 2) hF rfl rfl rfl rfl (by kernel_rfl) hM.sm (fun _ _ _ h => h) ?_ ?_; (first | exact trivial | omega | decide); clear hF a; intro a hF))
        (first | (refine t_pure (i := 3) hF rfl rfl rfl rfl (by kernel_rfl) hM.sm (fun _ _ _ h => h) ?_ ?_; (first | exact trivial | omega | decide); clear hF a; intro a hF))
        (first | (apply t_load (i := 4) hF rfl rfl rfl; (repeat (first | exact List.mem_cons_self | refine List.mem_cons_of_mem _ ?_)); exact rfl; exact rfl; kernel_rfl; exact hM.sm; exact (fun _ _ _ h => h); clear hF a; intro a hF))
        refine t_one (i := 5) hF rfl (by kernel_rfl) rfl ?_
        intro K hK
        (apply x_call hF hM; exact rfl; exact rfl; exact rfl; exact rfl; exact (isChunk_c x ax cx q hxq _ _ hM.lt); clear hF hM a; rintro v w a rfl - hM hF)
        rw [hch] at hF
        refine hK _ _ (fun _ => (hM.sm.sub (fun x hx => by repeat (first | exact hx | refine List.mem_cons_of_mem _ ?_)) (fun _ h => by repeat (first | exact h | refine List.mem_cons_of_mem _ ?_)))) ?_; clear hK
        (first | (refine t_pure (i := 6) hF rfl rfl rfl rfl (by kernel_rfl) (hM.sm.sub (fun x hx => by repeat (first | exact hx | refine List.mem_cons_of_mem _ ?_)) (fun _ h => by repeat (first | exact h | refine List.mem_cons_of_mem _ ?_))) (fun _ _ _ h => h) ?_ ?_; (first | exact trivial | omega | decide); clear hF a; intro a hF))
        (first | (refine t_pure (i := 7) hF rfl rfl rfl rfl (by kernel_rfl) (hM.sm.sub (fun x hx => by repeat (first | exact hx | refine List.mem_cons_of_mem _ ?_)) (fun _ h => by repeat (first | exact h | refine List.mem_cons_of_mem _ ?_))) (fun _ _ _ h => h) ?_ ?_; (first | exact trivial | omega | decide); clear hF a; intro a hF))
        (first | (refine t_pure (i := 8) hF rfl rfl rfl rfl (by kernel_rfl) (hM.sm.sub (fun x hx => by repeat (first | exact hx | refine List.mem_cons_of_mem _ ?_)) (fun _ h => by repeat (first | exact h | refine List.mem_cons_of_mem _ ?_))) (fun _ _ _ h => h) ?_ ?_; (first | exact trivial | omega | decide); clear hF a; intro a hF))
        (first | (apply t_load (i := 9) hF rfl rfl rfl; (repeat (first | exact List.mem_cons_self | refine List.mem_cons_of_mem _ ?_)); exact rfl; exact rfl; kernel_rfl; exact (hM.sm.sub (fun x hx => by repeat (first | exact hx | refine List.mem_cons_of_mem _ ?_)) (fun _ h => by repeat (first | exact h | refine List.mem_cons_of_mem _ ?_))); exact (fun _ _ _ h => h); clear hF a; intro a hF))
        (first | (refine t_pure (i := 11) hF rfl rfl rfl rfl (by kernel_rfl) (hM.sm.sub (fun x hx => by repeat (first | exact hx | refine List.mem_cons_of_mem _ ?_)) (fun _ h => by repeat (first | exact h | refine List.mem_cons_of_mem _ ?_))) (fun _ _ _ h => h) ?_ ?_; (first | exact trivial | omega | decide); clear hF a; intro a hF))
        (first | (apply t_load (i := 12) hF rfl rfl rfl; (repeat (first | exact List.mem_cons_self | refine List.mem_cons_of_mem _ ?_)); exact rfl; exact rfl; kernel_rfl; exact (hM.sm.sub (fun x hx => by repeat (first | exact hx | refine List.mem_cons_of_mem _ ?_)) (fun _ h => by repeat (first | exact h | refine List.mem_cons_of_mem _ ?_))); exact (fun _ _ _ h => h); clear hF a; intro a hF))
        refine t_one (i := 10) hF rfl (by kernel_rfl) rfl ?_
        intro K hK
        (apply x_call hF hM; exact rfl; exact rfl; exact rfl; exact rfl; exact (sectors_c x hp8 (by omega) ax cx q hxq _ _ hM.lt (dat_one (hM.facts (DatF ps) (by (repeat (first | with_reducible exact List.mem_cons_self | refine List.mem_cons_of_mem _ ?_)))) hpm)); clear hF hM a; rintro v w a rfl - hM hF)
        refine hK _ _ (fun _ => (hM.sm.sub (fun x hx => by repeat (first | exact hx | refine List.mem_cons_of_mem _ ?_)) (fun _ h => by repeat (first | exact h | refine List.mem_cons_of_mem _ ?_)))) ?_; clear hK
        (first | (refine t_pure (i := 13) hF rfl rfl rfl rfl (by kernel_rfl) (hM.sm.sub (fun x hx => by repeat (first | exact hx | refine List.mem_cons_of_mem _ ?_)) (fun _ h => by repeat (first | exact h | refine List.mem_cons_of_mem _ ?_))) (fun _ _ _ h => h) ?_ ?_; (first | exact trivial | omega | decide); clear hF a; intro a hF))
        (first | (refine t_pure (i := 14) hF rfl rfl rfl rfl (by kernel_rfl) (hM.sm.sub (fun x hx => by repeat (first | exact hx | refine List.mem_cons_of_mem _ ?_)) (fun _ h => by repeat (first | exact h | refine List.mem_cons_of_mem _ ?_))) (fun _ _ _ h => h) ?_ ?_; (first | exact trivial | omega | decide); clear hF a; intro a hF))
        refine t_done (by kernel_rfl) ?_
        by_cases hdg : dg x = d
        · (repeat' (first | (with_reducible refine c_region ?_) | (with_reducible refine q_then_n ?_) | ((with_reducible apply s_pure hF); exact rfl; exact rfl; exact rfl; (first | exact trivial | omega | exact ⟨Int.natCast_nonneg _, Int.ofNat_lt.2 (by assumption)⟩ | decide); clear hF a; intro a hF) | ((with_reducible apply s_load hF hM); exact rfl; exact rfl; (repeat (first | exact List.mem_cons_self | refine List.mem_cons_of_mem _ ?_)); exact rfl; exact rfl; clear hF a; intro a hF) | ((with_reducible apply c_dec hF); exact rfl; all_goals intro hc; all_goals (try (exfalso; omega)))))
          refine s_mapUpdateN (ek := Value.int .u64) (z := .slice none 0 0) (keyOk_int rfl) hF hM rfl rfl rfl rfl rfl trivial (fun _ _ => trivial) hmb hcf ?_
          clear hF hM a
          intro w a hM hF
          rw [hkP hf] at hM
          (repeat' (first | (with_reducible refine c_region ?_) | (with_reducible refine s_nil ?_) | (with_reducible refine q_then_n ?_) | ((with_reducible apply s_pure hF); exact rfl; exact rfl; exact rfl; (first | exact trivial | omega | exact ⟨Int.natCast_nonneg _, Int.ofNat_lt.2 (by assumption)⟩ | decide); clear hF a; intro a hF) | (with_reducible refine q_blk_n ?_)))
          exact ⟨m - 1, by omega, k + 1, M ++ [(⟨d, x⟩, ax, cx)], by omega, hadd hf (by rw [hch, decide_eq_true hdg]; rfl), hMp2, hF.sub (by repeat (first | exact Sub.nil | refine Sub.cons rfl (by first | with_reducible rfl | (refine congrArg (Value.int _) ?_; omega) | exact rfl) ?_)), hM.sub (.cons _ .slnil) (.refl _) (fun f hf => hf)⟩
        · (repeat' (first | (with_reducible refine c_region ?_) | (with_reducible refine s_nil ?_) | (with_reducible refine q_then_n ?_) | ((with_reducible apply s_pure hF); exact rfl; exact rfl; exact rfl; (first | exact trivial | omega | exact ⟨Int.natCast_nonneg _, Int.ofNat_lt.2 (by assumption)⟩ | decide); clear hF a; intro a hF) | (with_reducible refine w_skip ?_) | (with_reducible refine q_blk_n ?_) | ((with_reducible apply c_dec hF); exact rfl; all_goals intro hc; all_goals (try (exfalso; omega)))))
          exact ⟨m - 1, by omega, k + 1, M, by omega, hskip (.inr (by rw [hch, decide_eq_false hdg]; rfl)), hMp, hF.sub (by repeat (first | exact Sub.nil | refine Sub.cons rfl (by first | with_reducible rfl | (refine congrArg (Value.int _) ?_; omega) | exact rfl) ?_)), hM.sub (.cons _ .slnil) (.refl _) (fun f hf => hf)⟩
  · obtain rfl : k = ps.length := by omega
    rw [List.take_of_length_le (Nat.le_refl _)] at hS
    (repeat' (first | (with_reducible refine w_seq ?_) | (with_reducible refine c_region ?_) | (with_reducible refine s_nil ?_) | (with_reducible refine q_then_n ?_) | ((with_reducible apply s_pure hF); exact rfl; exact rfl; exact rfl; (first | exact trivial | omega | exact ⟨Int.natCast_nonneg _, Int.ofNat_lt.2 (by assumption)⟩ | decide); clear hF a; intro a hF) | (with_reducible refine w_block ?_) | (with_reducible refine w_exit ?_) | (with_reducible refine q_then_x ?_) | (with_reducible refine q_blk_x ?_) | ((with_reducible apply c_false2 hF); exact rfl; (first | with_reducible rfl | (refine congrArg Value.bool ?_; focus (simp; done))))))
    have hrow := (hM.nilRow 93 3).addFact (f := DatF (tP [])) (Has.pure fun _ p hp => by simp [tP] at hp)
    refine c_loop (m := ts.length) (fun m a w' => ∃ (k : Nat) (outs : List TP) (ov : Value), m + k = ts.length ∧ outs.length = k ∧ tms outs = (tms (ts.take k)).map (supT (ims ps)) ∧ DatW (tP outs) ∧
      Fr 85 [] [(52, .int .i64 k), (51, .int .i64 ts.length), (50, .slice al ts.length cl), (10, ov), (5, .map (some mb))] a ∧
      Mm own W [] [⟨93, 3, ov, k, cellsT outs⟩] [DatF (tP outs), MpE (Value.int .u64) mb (esM M), RdF id a0 (cellsP ps), DatF ps, RdF id al (cellsT ts), DatF (tP ts)] w')
      ⟨0, [], _, by omega, rfl, rfl, fun p hp => by simp [tP] at hp, hF.sub (by repeat (first | exact Sub.nil | refine Sub.cons rfl (by first | with_reducible rfl | (refine congrArg (Value.int _) ?_; omega) | exact rfl) ?_)), hrow⟩ ?_
    clear hF hM hrow a
    rintro m a w' ⟨k, outs, ov, hm, hol, hos, how, hF, hM⟩
    by_cases hk : k < ts.length
    · obtain ⟨t, ht⟩ := get_of_lt hk
      have htm := List.mem_of_getElem? ht
      obtain ⟨ht8, htc, htb⟩ := hts ((⟨t.1.d, t.1.x⟩ : Itm), t.2) (List.mem_map.2 ⟨t, htm, rfl⟩)
      have hxl := hx4 t htm
      have htr := dat_one (hM.facts (DatF (tP ts)) (by (repeat (first | with_reducible exact List.mem_cons_self | refine List.mem_cons_of_mem _ ?_)))) (p := ((⟨t.1.d, t.1.x⟩ : Itm), t.2)) (List.mem_map.2 ⟨t, htm, rfl⟩)
      have htk : tms (ts.take (k + 1)) = tms (ts.take k) ++ [t.1] := by
        rw [List.take_add_one, ht]
        simp [tms]
      have hpe : (ts.map tkC)[k]? = some [.bool t.1.r, .int .u64 t.1.d, .slice t.2.1 t.1.x.length t.2.2] := by rw [List.getElem?_map, ht]; rfl
      obtain ⟨ad, rfl⟩ : ∃ ad, al = some ad := rd_some hM (enc := id) (a := al) (xs := cellsT ts) (by (repeat (first | exact List.mem_cons_self | refine List.mem_cons_of_mem _ ?_))) (flat_get (q := 0) hw3 hpe rfl)
      have hcc : cellsT ts = (ts.map tkC).flatten := rfl
      rw [hcc] at hM
      have hkM := kaddM t.1.d (.slice none 0 0) M
      have hkI := (kfindM t.1.d M 0).1
      obtain ⟨⟨r, d, x⟩, ax, cx⟩ := t
      dsimp only at ht8 htc htb hxl htr hpe hkM hkI
      obtain ⟨q, hxq⟩ : ∃ q, x.length = q := ⟨_, rfl⟩
      rw [hxq] at hpe
      replace hM := hM.addFact htr
      (repeat' (first | (with_reducible refine w_seq ?_) | (with_reducible refine c_region ?_) | (with_reducible refine s_nil ?_) | ((with_reducible apply s_callO (f := 36) hF); exact rfl; exact rfl; exact rfl; exact rfl; exact rfl; exact (sclone_c x ht8 ax cx q hxq (by omega) _ _ hM.lt (hM.facts (RdF (Value.int .u8) ax x.flatten) (by (repeat (first | with_reducible exact List.mem_cons_self | refine List.mem_cons_of_mem _ ?_))))); clear hF a; rintro v wn a ⟨a2, c2, rfl, hO⟩ hS hF; replace hM := hM.addRows hS hO; clear hS hO; dsimp only [List.cons_append, List.nil_append] at hM; (obtain ⟨ao2, c22, e02, hcc2, -⟩ := OffR.shape hM (k := 0) rfl (OffR.plain hM List.mem_cons_self)); replace hM := hM.freezeN) | ((with_reducible apply s_loadE hF hM); exact rfl; exact rfl; (repeat (first | exact List.mem_cons_self | refine List.mem_cons_of_mem _ ?_)); exact rfl; exact rfl; (first | with_reducible assumption | (simp only [Int.toNat_natCast]; with_reducible assumption)); (with_reducible assumption); clear hF a; intro a hF) | (with_reducible refine q_then_n ?_) | ((with_reducible apply s_pure hF); exact rfl; exact rfl; exact rfl; (first | exact trivial | omega | exact ⟨Int.natCast_nonneg _, Int.ofNat_lt.2 (by assumption)⟩ | decide); clear hF a; intro a hF) | ((with_reducible apply s_load hF hM); exact rfl; exact rfl; (repeat (first | exact List.mem_cons_self | refine List.mem_cons_of_mem _ ?_)); exact rfl; exact rfl; clear hF a; intro a hF) | ((with_reducible apply s_store hF hM); exact rfl; exact rfl; exact rfl; exact rfl; (repeat (first | exact Upd.z | apply Upd.s)); exact rfl; exact rfl; exact rfl; clear hM; intro w hM) | ((with_reducible apply s_alloc hF hM); exact rfl; exact rfl; exact rfl; clear hF hM a; intro b w a hM hF) | (with_reducible refine w_skip ?_) | (with_reducible refine w_block ?_) | ((with_reducible apply c_dec hF); exact rfl; all_goals intro hc; all_goals (try (exfalso; omega)))))
      injection e02 with q1 q2 q3
      have hsup : (supT (ims ps) ⟨r, d, x⟩) = if r = true ∧ corT ⟨r, d, x⟩ = true then match supF (ims ps) d with
        | some x => ⟨false, 0, x⟩
        | none => ⟨r, d, x⟩
        else ⟨r, d, x⟩ := rfl
      refine s_lookupOkE (ek := Value.int .u64) (z := .slice none 0 0) (x := d) (es := esM M) (keyOk_int rfl) hF hM rfl rfl rfl rfl (by (repeat (first | exact List.mem_cons_self | refine List.mem_cons_of_mem _ ?_))) rfl trivial (fun _ _ => trivial) ?_
      clear hF a
      intro a hF
      rw [hkM, hkI] at hF
      cases hf : fM d M with
      | none =>
        rw [hf] at hF
        dsimp only [Option.isSome] at hF
        rw [hS.none hf] at hsup
        replace hsup : supT (ims ps) ⟨r, d, x⟩ = ⟨r, d, x⟩ := by rw [hsup]; split <;> rfl
        (repeat' (first | (with_reducible refine w_seq ?_) | (with_reducible refine c_region ?_) | (with_reducible refine s_nil ?_) | (with_reducible refine q_then_n ?_) | ((with_reducible apply s_pure hF); exact rfl; exact rfl; exact rfl; (first | exact trivial | omega | exact ⟨Int.natCast_nonneg _, Int.ofNat_lt.2 (by assumption)⟩ | decide); clear hF a; intro a hF) | ((with_reducible apply s_load hF hM); exact rfl; exact rfl; (repeat (first | exact List.mem_cons_self | refine List.mem_cons_of_mem _ ?_)); exact rfl; exact rfl; clear hF a; intro a hF) | ((with_reducible apply s_lit hF hM); exact rfl; exact rfl; exact rfl; exact rfl; clear hF hM a; intro bl w a hM hF) | ((with_reducible apply s_app hF hM); exact rfl; exact rfl; exact rfl; exact rfl; (repeat (first | exact Kth.z | apply Kth.s)); exact rfl; exact rfl; exact rfl; exact rfl; omega; clear hF hM a; intro g cap w a hM hF; dsimp only [List.set] at hM) | (with_reducible refine w_skip ?_) | (with_reducible refine q_blk_n ?_) | ((with_reducible apply c_false2 hF); exact rfl; (first | with_reducible rfl | (refine congrArg Value.bool ?_; focus (simp; done)))) | ((with_reducible apply s_skip hF); exact rfl; exact rfl; clear hF a; intro a hF)))
        have hD := DatF.snoc (p := ((⟨d, x⟩ : Itm), a2, c2)) (hM.facts (DatF (tP outs)) (by (repeat (first | with_reducible exact List.mem_cons_self | refine List.mem_cons_of_mem _ ?_)))) (hM.facts (RdF (Value.int .u8) a2 x.flatten) (by (repeat (first | with_reducible exact List.mem_cons_self | refine List.mem_cons_of_mem _ ?_))))
        refine ⟨m - 1, by omega, k + 1, outs ++ [((⟨r, d, x⟩ : Tok), a2, c2)], .slice (some ⟨g, 0, none⟩) (k + 1) cap, by omega, by simp; omega, ?_, ?_, hF.sub (by repeat (first | exact Sub.nil | refine Sub.cons rfl (by first | with_reducible rfl | (refine congrArg (Value.int _) ?_; omega) | exact rfl) ?_)), ?_⟩
        · rw [tms_app, hos, htk, List.map_append, List.map_singleton, hsup]
          rfl
        · rw [tP_app]
          exact how.snoc ⟨ht8, by show x.length ≤ c2; omega, htb⟩
        · have hce : cellsT (outs ++ [((⟨r, d, x⟩ : Tok), a2, c2)]) = cellsT outs ++ [.bool r, .int .u64 d, .slice a2 q c2] := by rw [cellsT_app, ← hxq]; rfl
          rw [hce, tP_app]
          exact (hM.addFact hD).sub (.cons _ .slnil) (.refl _) (fun f hf => by simp only [List.mem_cons, List.not_mem_nil, or_false] at hf ⊢; rcases hf with h | h | h | h | h | h <;> simp [h, tP, hcc])
      | some pp =>
        rw [hf] at hF
        dsimp only [Option.isSome] at hF
        rw [hS.some hf] at hsup
        have hppm := hMp pp (fM_mem hf)
        obtain ⟨hp8, hpc, hpb⟩ := hDW pp hppm
        have hp4 := hpx pp hppm
        replace hM := hM.addFact (dat_one (hM.facts (DatF ps) (by (repeat (first | with_reducible exact List.mem_cons_self | refine List.mem_cons_of_mem _ ?_)))) hppm)
        unfold slV at hF
        obtain ⟨⟨dp, xp⟩, ap, cp⟩ := pp
        dsimp only at hp8 hpc hpb hp4 hM hF hsup
        obtain ⟨qp, hxp⟩ : ∃ qp, xp.length = qp := ⟨_, rfl⟩
        rw [hxp] at hF
        cases r with
        | false =>
          rw [if_neg (by simp)] at hsup
          (repeat' (first | (with_reducible refine w_seq ?_) | (with_reducible refine c_region ?_) | (with_reducible refine s_nil ?_) | (with_reducible refine q_then_n ?_) | ((with_reducible apply s_pure hF); exact rfl; exact rfl; exact rfl; (first | exact trivial | omega | exact ⟨Int.natCast_nonneg _, Int.ofNat_lt.2 (by assumption)⟩ | decide); clear hF a; intro a hF) | ((with_reducible apply s_load hF hM); exact rfl; exact rfl; (repeat (first | exact List.mem_cons_self | refine List.mem_cons_of_mem _ ?_)); exact rfl; exact rfl; clear hF a; intro a hF) | ((with_reducible apply s_lit hF hM); exact rfl; exact rfl; exact rfl; exact rfl; clear hF hM a; intro bl w a hM hF) | ((with_reducible apply s_app hF hM); exact rfl; exact rfl; exact rfl; exact rfl; (repeat (first | exact Kth.z | apply Kth.s)); exact rfl; exact rfl; exact rfl; exact rfl; omega; clear hF hM a; intro g cap w a hM hF; dsimp only [List.set] at hM) | (with_reducible refine w_skip ?_) | (with_reducible refine q_blk_n ?_) | ((with_reducible apply c_false2 hF); exact rfl; (first | with_reducible rfl | (refine congrArg Value.bool ?_; focus (simp; done)))) | ((with_reducible apply s_skip hF); exact rfl; exact rfl; clear hF a; intro a hF)))
          have hD := DatF.snoc (p := ((⟨d, x⟩ : Itm), a2, c2)) (hM.facts (DatF (tP outs)) (by (repeat (first | with_reducible exact List.mem_cons_self | refine List.mem_cons_of_mem _ ?_)))) (hM.facts (RdF (Value.int .u8) a2 x.flatten) (by (repeat (first | with_reducible exact List.mem_cons_self | refine List.mem_cons_of_mem _ ?_))))
          refine ⟨m - 1, by omega, k + 1, outs ++ [((⟨false, d, x⟩ : Tok), a2, c2)], .slice (some ⟨g, 0, none⟩) (k + 1) cap, by omega, by simp; omega, ?_, ?_, hF.sub (by repeat (first | exact Sub.nil | refine Sub.cons rfl (by first | with_reducible rfl | (refine congrArg (Value.int _) ?_; omega) | exact rfl) ?_)), ?_⟩
          · rw [tms_app, hos, htk, List.map_append, List.map_singleton, hsup]
            rfl
          · rw [tP_app]
            exact how.snoc ⟨ht8, by show x.length ≤ c2; omega, htb⟩
          · have hce : cellsT (outs ++ [((⟨false, d, x⟩ : Tok), a2, c2)]) = cellsT outs ++ [.bool false, .int .u64 d, .slice a2 q c2] := by rw [cellsT_app, ← hxq]; rfl
            rw [hce, tP_app]
            exact (hM.addFact hD).sub (.cons _ .slnil) (.refl _) (fun f hf => by simp only [List.mem_cons, List.not_mem_nil, or_false] at hf ⊢; rcases hf with h | h | h | h | h | h <;> simp [h, tP, hcc])
        | true =>
          cases hcor : corT ⟨true, d, x⟩ with
          | false =>
            rw [hcor, if_neg (by simp)] at hsup
            (repeat' (first | (with_reducible refine w_seq ?_) | (with_reducible refine c_region ?_) | (with_reducible refine s_nil ?_) | ((with_reducible apply s_call (f := 41) hF hM); exact rfl; exact rfl; exact rfl; exact rfl; exact rfl; exact (correct1_c true d x a2 c2 q hxq _ _ hM.lt); clear hF hM a; rintro v w a rfl - hM hF; rw [hcor] at hF) | (with_reducible refine q_then_n ?_) | ((with_reducible apply s_pure hF); exact rfl; exact rfl; exact rfl; (first | exact trivial | omega | exact ⟨Int.natCast_nonneg _, Int.ofNat_lt.2 (by assumption)⟩ | decide); clear hF a; intro a hF) | ((with_reducible apply s_load hF hM); exact rfl; exact rfl; (repeat (first | exact List.mem_cons_self | refine List.mem_cons_of_mem _ ?_)); exact rfl; exact rfl; clear hF a; intro a hF) | ((with_reducible apply s_lit hF hM); exact rfl; exact rfl; exact rfl; exact rfl; clear hF hM a; intro bl w a hM hF) | ((with_reducible apply s_app hF hM); exact rfl; exact rfl; exact rfl; exact rfl; (repeat (first | exact Kth.z | apply Kth.s)); exact rfl; exact rfl; exact rfl; exact rfl; omega; clear hF hM a; intro g cap w a hM hF; dsimp only [List.set] at hM) | (with_reducible refine w_skip ?_) | (with_reducible refine q_blk_n ?_) | ((with_reducible apply c_false2 hF); exact rfl; (first | with_reducible rfl | (refine congrArg Value.bool ?_; focus (simp; done))))))
            have hD := DatF.snoc (p := ((⟨d, x⟩ : Itm), a2, c2)) (hM.facts (DatF (tP outs)) (by (repeat (first | with_reducible exact List.mem_cons_self | refine List.mem_cons_of_mem _ ?_)))) (hM.facts (RdF (Value.int .u8) a2 x.flatten) (by (repeat (first | with_reducible exact List.mem_cons_self | refine List.mem_cons_of_mem _ ?_))))
            refine ⟨m - 1, by omega, k + 1, outs ++ [((⟨true, d, x⟩ : Tok), a2, c2)], .slice (some ⟨g, 0, none⟩) (k + 1) cap, by omega, by simp; omega, ?_, ?_, hF.sub (by repeat (first | exact Sub.nil | refine Sub.cons rfl (by first | with_reducible rfl | (refine congrArg (Value.int _) ?_; omega) | exact rfl) ?_)), ?_⟩
            · rw [tms_app, hos, htk, List.map_append, List.map_singleton, hsup]
              rfl
            · rw [tP_app]
              exact how.snoc ⟨ht8, by show x.length ≤ c2; omega, htb⟩
            · have hce : cellsT (outs ++ [((⟨true, d, x⟩ : Tok), a2, c2)]) = cellsT outs ++ [.bool true, .int .u64 d, .slice a2 q c2] := by rw [cellsT_app, ← hxq]; rfl
              rw [hce, tP_app]
              exact (hM.addFact hD).sub (.cons _ .slnil) (.refl _) (fun f hf => by simp only [List.mem_cons, List.not_mem_nil, or_false] at hf ⊢; rcases hf with h | h | h | h | h | h <;> simp [h, tP, hcc])
          | true =>
            rw [hcor, if_pos ⟨rfl, rfl⟩] at hsup
            (repeat' (first | (with_reducible refine w_seq ?_) | (with_reducible refine c_region ?_) | (with_reducible refine s_nil ?_) | ((with_reducible apply s_call (f := 41) hF hM); exact rfl; exact rfl; exact rfl; exact rfl; exact rfl; exact (correct1_c true d x a2 c2 q hxq _ _ hM.lt); clear hF hM a; rintro v w a rfl - hM hF; rw [hcor] at hF) | ((with_reducible apply s_callO (f := 36) hF); exact rfl; exact rfl; exact rfl; exact rfl; exact rfl; exact (sclone_c xp hp8 ap cp qp hxp (by omega) _ _ hM.lt (hM.facts (RdF (Value.int .u8) ap xp.flatten) (by (repeat (first | with_reducible exact List.mem_cons_self | refine List.mem_cons_of_mem _ ?_))))); clear hF a; rintro v wn a ⟨a3, c3, rfl, hO⟩ hS hF; replace hM := hM.addRows hS hO; clear hS hO; dsimp only [List.cons_append, List.nil_append] at hM; (obtain ⟨ao3, c33, e03, hcc3, -⟩ := OffR.shape hM (k := 0) rfl (OffR.plain hM List.mem_cons_self)); replace hM := hM.freezeN) | (with_reducible refine q_then_n ?_) | ((with_reducible apply s_pure hF); exact rfl; exact rfl; exact rfl; (first | exact trivial | omega | exact ⟨Int.natCast_nonneg _, Int.ofNat_lt.2 (by assumption)⟩ | decide); clear hF a; intro a hF) | ((with_reducible apply s_load hF hM); exact rfl; exact rfl; (repeat (first | exact List.mem_cons_self | refine List.mem_cons_of_mem _ ?_)); exact rfl; exact rfl; clear hF a; intro a hF) | ((with_reducible apply s_store hF hM); exact rfl; exact rfl; exact rfl; exact rfl; (repeat (first | exact Upd.z | apply Upd.s)); exact rfl; exact rfl; exact rfl; clear hM; intro w hM) | ((with_reducible apply s_lit hF hM); exact rfl; exact rfl; exact rfl; exact rfl; clear hF hM a; intro bl w a hM hF) | ((with_reducible apply s_app hF hM); exact rfl; exact rfl; exact rfl; exact rfl; (repeat (first | exact Kth.z | apply Kth.s)); exact rfl; exact rfl; exact rfl; exact rfl; omega; clear hF hM a; intro g cap w a hM hF; dsimp only [List.set] at hM) | (with_reducible refine q_blk_n ?_) | ((with_reducible apply c_true2 hF); exact rfl; (first | with_reducible rfl | (refine congrArg Value.bool ?_; focus (simp; done))))))
            injection e03 with q4 q5 q6
            have hD := DatF.snoc (p := ((⟨0, xp⟩ : Itm), a3, c3)) (hM.facts (DatF (tP outs)) (by (repeat (first | with_reducible exact List.mem_cons_self | refine List.mem_cons_of_mem _ ?_)))) (hM.facts (RdF (Value.int .u8) a3 xp.flatten) (by (repeat (first | with_reducible exact List.mem_cons_self | refine List.mem_cons_of_mem _ ?_))))
            refine ⟨m - 1, by omega, k + 1, outs ++ [((⟨false, 0, xp⟩ : Tok), a3, c3)], .slice (some ⟨g, 0, none⟩) (k + 1) cap, by omega, by simp; omega, ?_, ?_, hF.sub (by repeat (first | exact Sub.nil | refine Sub.cons rfl (by first | with_reducible rfl | (refine congrArg (Value.int _) ?_; omega) | exact rfl) ?_)), ?_⟩
            · rw [tms_app, hos, htk, List.map_append, List.map_singleton, hsup]
              rfl
            · rw [tP_app]
              exact how.snoc ⟨hp8, by show xp.length ≤ c3; omega, hpb⟩
            · have hce : cellsT (outs ++ [((⟨false, 0, xp⟩ : Tok), a3, c3)]) = cellsT outs ++ [.bool false, .int .u64 0, .slice a3 qp c3] := by rw [cellsT_app, ← hxp]; rfl
              rw [hce, tP_app]
              exact (hM.addFact hD).sub (.cons _ .slnil) (.refl _) (fun f hf => by simp only [List.mem_cons, List.not_mem_nil, or_false] at hf ⊢; rcases hf with h | h | h | h | h | h <;> simp [h, tP, hcc])
    · obtain rfl : k = ts.length := by omega
      rw [List.take_of_length_le (Nat.le_refl _)] at hos
      (repeat' (first | (with_reducible refine w_seq ?_) | (with_reducible refine c_region ?_) | (with_reducible refine s_nil ?_) | (with_reducible refine q_then_n ?_) | ((with_reducible apply s_pure hF); exact rfl; exact rfl; exact rfl; (first | exact trivial | omega | exact ⟨Int.natCast_nonneg _, Int.ofNat_lt.2 (by assumption)⟩ | decide); clear hF a; intro a hF) | (with_reducible refine w_exit ?_) | (with_reducible refine w_ret ?_) | (with_reducible refine q_then_x ?_) | (with_reducible refine q_blk_x ?_) | ((with_reducible apply c_false2 hF); exact rfl; (first | with_reducible rfl | (refine congrArg Value.bool ?_; focus (simp; done))))))
      obtain ⟨av, cv, rfl, hcv, -⟩ := OffR.shape hM (k := 0) rfl (OffR.plain hM List.mem_cons_self)
      replace hM := Mm.freezeN (enc := id) (xs := cellsT outs) (by rw [List.map_id]; exact hM)
      (repeat' (first | fail))
      (apply f_ret Try.results16 hF hM; (repeat (first | exact RL.nil | (apply RL.tmp; exact rfl) | (apply RL.cell; exact rfl; (repeat (first | exact List.mem_cons_self | refine List.mem_cons_of_mem _ ?_)); exact rfl))); refine Ret.mk hM.since ?_; dsimp only [resV])
      exact ⟨av, cv, rfl, outs, hos, how, hM.factOut (by (repeat (first | with_reducible exact List.mem_cons_self | refine List.mem_cons_of_mem _ ?_))), hM.factOut (by (repeat (first | with_reducible exact List.mem_cons_self | refine List.mem_cons_of_mem _ ?_))), by rw [List.length_map, tms_len]; exact hcv⟩
end
end Go.Proofs.Ytadfdpkhehdikaa


/- The reference of layer 29: digests, searches, copies. -/
namespace Go.Proofs.Ytadfdpkhehdikaa
open Go.RowKit Go.Shelf D29
section
variable {n : Nat} {ds : List Deferred} {l : List (Nat × Value)} {a : Act} {w : World} {os rest : List Oper} {Q : Exit → Act → World → Prop} {d : Nat} {ty : TypeId} {pos : String} {af : Array Edge} {g : Option (Nat × Bool)}
/-- The address of a number in an array that is an element of a slice. -/
theorem s_idxA {t e : TypeId} {len m z : Nat} {X I : Operand} {A : Addr} {j0 i : Int} {k : IntKind} (hF : Fr n ds l a) (hg : wantO os l g = some true) (hX : ev l X = some (.pointer (some (adr A j0 m)))) (hI : ev l I = some (.int k i)) (ht : tyD t = some (.array len e)) (hs : tyS e = some z) (hd : Nat.blt d n = true) (hb : 0 ≤ i ∧ i < len)
    (kk : ∀ a, Fr n ds ((d, .pointer (some (adr (adr A j0 m) i z))) :: l) a → wl ⟨os⟩ Q rest a w) : wl ⟨os⟩ Q (⟨some d, .indexAddr t X I, ty, pos, af, g⟩ :: rest) a w :=
  s_op hF hg fun _ hK => upon_value (v := .pointer (some (adr (adr A j0 m) i z))) (by
    have := indexAt_array (a := adr A j0 m) (k := k) ht hs hb w
    simp only [execOp, hF.eval hX, hF.eval hI]
    rw [Sem.run_bind, this]
    rfl) (hK _ _ (kk _ (hF.put hd _)))
end
namespace D29
theorem rd_elt {own : Nat → Prop} {w : World} {ad : Addr} {l : Dat} (hw : W8 l) (h : Has own w (RdF (Value.int .u8) (some ad) l.flatten)) {i : Nat} {s : List Int} (hs : l[i]? = some s) : Has own w (RdF (Value.int .u8) (some (adr ad i 8)) s) := by
  refine h.imp fun w h j x hx => ?_
  obtain ⟨b, off, e, hb, hc⟩ := h (i * 8 + j) x (flat_get hw hs hx)
  injection e with e
  subst e
  refine ⟨b, off + i * 8, ?_, hb, ?_⟩
  · unfold adr
    rw [Int.toNat_natCast, add_lit]
  · rw [Nat.add_assoc]
    exact hc
theorem take_snoc {α : Type} {l : List α} {k : Nat} {x : α} (h : l[k]? = some x) : l.take (k + 1) = l.take k ++ [x] := by rw [List.take_add_one, h]; rfl
theorem ims_app (l m : List P) : ims (l ++ m) = ims l ++ ims m := by simp [ims]
end D29
set_option maxRecDepth 20000 in
set_option maxHeartbeats 1000000 in
theorem BytesR_c (l : Dat) (hw : D29.W8 l) (a0 : Option Addr) (c0 n : Nat) (hn : l.length = n) (hlen : n ≤ 100000) (own : Nat → Prop) (W : World) (hl : ∀ b, own b → b < W.heap.size) (hv : Has own W (RdF (Value.int .u8) a0 l.flatten)) :
    Calls Try.prog 43 ⟨[.slice a0 n c0]⟩ W (Ret W fun v w' => ∃ a' c', v = .slice a' l.flatten.length c' ∧ Has own w' (RdF (Value.int .u8) a' l.flatten)) := by
  subst hn
  have hM := ((Mm.start hl).known hv).nilRow 5 1
  have hw' : ∀ y ∈ l, y.length = 8 := hw
  have hfl := flat_len hw
  refine f_start Try.func43 rfl Try.ntmps43 rfl rfl ?_; intro a hF
  (repeat (first | (with_reducible refine w_seq ?_) | (with_reducible refine c_region ?_) | (with_reducible refine s_nil ?_) | (with_reducible refine q_then_n ?_) | ((with_reducible apply s_pure hF); exact rfl; exact rfl; exact rfl; (first | exact trivial | omega | exact ⟨Int.natCast_nonneg _, Int.ofNat_lt.2 (by assumption)⟩ | decide); clear hF a; intro a hF) | (with_reducible refine w_block ?_)))
  refine c_loop (m := l.length) (fun m a w' => ∃ (i : Nat) (v : Value), m + i = l.length ∧
    Fr 26 [] [(4, .int .i64 i), (3, v), (0, .slice a0 l.length c0)] a ∧
    Mm own W [] [⟨5, 1, v, i * 8, (l.flatten.take (i * 8)).map (Value.int .u8)⟩] [RdF (Value.int .u8) a0 l.flatten] w') ⟨0, .slice none 0 0, by omega, hF.sub (by repeat (first | exact Sub.nil | refine Sub.cons rfl (by first | with_reducible rfl | (refine congrArg (Value.int _) ?_; omega) | exact rfl) ?_)), hM.rowsEq (by rw [Nat.zero_mul, List.take_zero, List.map_nil])⟩ ?_
  clear hF hM a
  rintro m a w' ⟨i, v, hm, hF, hM⟩
  by_cases hi : i < l.length
  · obtain ⟨s, hs⟩ := get_of_lt hi
    have hs8 := hw s (List.mem_of_getElem? hs)
    obtain ⟨b0, o0, rfl⟩ : ∃ b0 o0, a0 = some ⟨b0, o0, none⟩ := by
      obtain ⟨b0, o0, e, _, _⟩ := (hM.fact (f := RdF (Value.int .u8) a0 l.flatten) (by (repeat (first | exact List.mem_cons_self | refine List.mem_cons_of_mem _ ?_)))) _ _ (flat_get (q := 0) hw hs (List.getElem?_eq_getElem (by omega)))
      exact ⟨b0, o0, e⟩
    have hrd := rd_elt hw (hM.facts (RdF (Value.int .u8) (some ⟨b0, o0, none⟩) l.flatten) (by (repeat (first | exact List.mem_cons_self | refine List.mem_cons_of_mem _ ?_)))) hs
    replace hM := hM.addFact hrd
    (repeat' (first | (with_reducible refine w_seq ?_) | (with_reducible refine c_region ?_) | (with_reducible refine s_nil ?_) | (with_reducible refine q_then_n ?_) | ((with_reducible apply s_pure hF); exact rfl; exact rfl; exact rfl; (first | exact trivial | omega | exact ⟨Int.natCast_nonneg _, Int.ofNat_lt.2 (by assumption)⟩ | decide); clear hF a; intro a hF) | (with_reducible refine w_skip ?_) | (with_reducible refine w_block ?_) | ((with_reducible apply c_dec hF); exact rfl; all_goals intro hc; all_goals (try (exfalso; omega)))))
    refine c_loop (m := 8) (fun m a w' => ∃ (j : Nat) (v : Value), m + j = 8 ∧
      Fr 26 [] [(5, .int .i64 j), (4, .int .i64 i), (3, v), (0, .slice (some ⟨b0, o0, none⟩) l.length c0)] a ∧
      Mm own W [] [⟨5, 1, v, i * 8 + j, (l.flatten.take (i * 8 + j)).map (Value.int .u8)⟩] [RdF (Value.int .u8) (some (adr ⟨b0, o0, none⟩ i 8)) s, RdF (Value.int .u8) (some ⟨b0, o0, none⟩) l.flatten] w') ⟨0, v, by omega, hF.sub (by repeat (first | exact Sub.nil | refine Sub.cons rfl (by first | with_reducible rfl | (refine congrArg (Value.int _) ?_; omega) | exact rfl) ?_)), hM⟩ ?_
    clear hF hM a
    rintro mj a w' ⟨j, v, hmj, hF, hM⟩
    by_cases hj : j < 8
    · obtain ⟨x, hx⟩ := get_of_lt (l := s) (i := j) (by omega)
      have htk := take_snoc (flat_get hw hs hx)
      (repeat' (first | (with_reducible refine w_seq ?_) | (with_reducible refine c_region ?_) | (with_reducible refine s_nil ?_) | ((with_reducible apply s_idxA hF); exact rfl; exact rfl; exact rfl; exact rfl; exact rfl; exact rfl; (first | omega | exact ⟨Int.natCast_nonneg _, Int.ofNat_lt.2 (by assumption)⟩); clear hF a; intro a hF) | (with_reducible refine q_then_n ?_) | ((with_reducible apply s_pure hF); exact rfl; exact rfl; exact rfl; (first | exact trivial | omega | exact ⟨Int.natCast_nonneg _, Int.ofNat_lt.2 (by assumption)⟩ | decide); clear hF a; intro a hF) | ((with_reducible apply s_loadF hF hM); exact rfl; exact rfl; (repeat (first | exact List.mem_cons_self | refine List.mem_cons_of_mem _ ?_)); exact rfl; exact rfl; (first | with_reducible assumption | (simp only [Int.toNat_natCast]; with_reducible assumption)); clear hF a; intro a hF) | ((with_reducible apply s_lit hF hM); exact rfl; exact rfl; exact rfl; exact rfl; clear hF hM a; intro bl w a hM hF) | ((with_reducible apply s_app hF hM); exact rfl; exact rfl; exact rfl; exact rfl; (repeat (first | exact Kth.z | apply Kth.s)); exact rfl; exact rfl; exact rfl; exact rfl; omega; clear hF hM a; intro g cap w a hM hF; dsimp only [List.set] at hM) | (with_reducible refine w_skip ?_) | (with_reducible refine w_block ?_) | (with_reducible refine q_blk_n ?_) | ((with_reducible apply c_dec hF); exact rfl; all_goals intro hc; all_goals (try (exfalso; omega)))))
      refine ⟨mj - 1, by omega, j + 1, .slice (some ⟨g, 0, none⟩) (i * 8 + j + 1) cap, by omega, hF.sub (by repeat (first | exact Sub.nil | refine Sub.cons rfl (by first | with_reducible rfl | (refine congrArg (Value.int _) ?_; omega) | exact rfl) ?_)), ?_⟩
      rw [← Nat.add_assoc, htk, List.map_append]
      exact hM
    · obtain rfl : j = 8 := by omega
      (repeat' (first | (with_reducible refine w_seq ?_) | (with_reducible refine c_region ?_) | (with_reducible refine s_nil ?_) | (with_reducible refine q_then_n ?_) | ((with_reducible apply s_pure hF); exact rfl; exact rfl; exact rfl; (first | exact trivial | omega | exact ⟨Int.natCast_nonneg _, Int.ofNat_lt.2 (by assumption)⟩ | decide); clear hF a; intro a hF) | (with_reducible refine w_exit ?_) | (with_reducible refine q_then_x ?_) | (with_reducible refine q_blk_n ?_) | (with_reducible refine q_blk_x ?_) | ((with_reducible apply c_false2 hF); exact rfl; (first | with_reducible rfl | (refine congrArg Value.bool ?_; focus (simp; done))))))
      refine ⟨m - 1, by omega, i + 1, v, by omega, hF.sub (by repeat (first | exact Sub.nil | refine Sub.cons rfl (by first | with_reducible rfl | (refine congrArg (Value.int _) ?_; omega) | exact rfl) ?_)), ?_⟩
      rw [Nat.succ_mul]
      exact hM.sub (.refl _) (.refl _) (fun f hf => List.mem_cons_of_mem _ hf)
  · obtain rfl : i = l.length := by omega
    rw [← hfl, List.take_length] at hM
    obtain ⟨av, cv, rfl, hcv, -⟩ := OffR.shape hM (k := 0) rfl (OffR.plain hM List.mem_cons_self)
    replace hM := hM.freezeN
    (repeat' (first | (with_reducible refine w_seq ?_) | (with_reducible refine c_region ?_) | (with_reducible refine s_nil ?_) | (with_reducible refine q_then_n ?_) | ((with_reducible apply s_pure hF); exact rfl; exact rfl; exact rfl; (first | exact trivial | omega | exact ⟨Int.natCast_nonneg _, Int.ofNat_lt.2 (by assumption)⟩ | decide); clear hF a; intro a hF) | (with_reducible refine w_exit ?_) | (with_reducible refine w_ret ?_) | (with_reducible refine q_then_x ?_) | (with_reducible refine q_blk_x ?_) | ((with_reducible apply c_false2 hF); exact rfl; (first | with_reducible rfl | (refine congrArg Value.bool ?_; focus (simp; done))))))
    (apply f_ret Try.results43 hF hM; (repeat (first | exact RL.nil | (apply RL.tmp; exact rfl) | (apply RL.cell; exact rfl; (repeat (first | exact List.mem_cons_self | refine List.mem_cons_of_mem _ ?_)); exact rfl))); refine Ret.mk hM.since ?_; dsimp only [resV])
    exact ⟨av, cv, rfl, hM.factOut (by (repeat (first | with_reducible exact List.mem_cons_self | refine List.mem_cons_of_mem _ ?_)))⟩
end Go.Proofs.Ytadfdpkhehdikaa


/- The reference of layer 29: digests, searches. -/
namespace Go.Proofs.Ytadfdpkhehdikaa
open Go.RowKit Go.Shelf D29
set_option maxRecDepth 20000 in
set_option maxHeartbeats 1000000 in
theorem DigestR_c (xs : List Int) (a0 : Option Addr) (c0 n : Nat) (hn : xs.length = n) (hlen : n ≤ 1000000) (own : Nat → Prop) (W : World) (hl : ∀ b, own b → b < W.heap.size) (hv : Has own W (RdF (Value.int .u8) a0 xs)) :
    Calls Try.prog 81 ⟨[.slice a0 n c0]⟩ W (Ret W fun v _ => v = .int .u64 (dgB xs)) := by
  subst hn
  have hM := (Mm.start hl).known hv
  refine f_start Try.func81 rfl Try.ntmps81 rfl rfl ?_; intro a hF
  (repeat (first | (with_reducible refine w_seq ?_) | (with_reducible refine c_region ?_) | (with_reducible refine s_nil ?_) | (with_reducible refine q_then_n ?_) | ((with_reducible apply s_pure hF); exact rfl; exact rfl; exact rfl; (first | exact trivial | omega | exact ⟨Int.natCast_nonneg _, Int.ofNat_lt.2 (by assumption)⟩ | decide); clear hF a; intro a hF) | (with_reducible refine w_block ?_)))
  refine c_loop (m := xs.length) (fun m a w' => ∃ (i : Nat), m + i = xs.length ∧
    Fr 23 [] [(4, .int .i64 i), (3, .int .u64 ((xs.take i).foldl dgs 14695981039346656037)), (0, .slice a0 xs.length c0)] a ∧
    Mm own W [] [] [RdF (Value.int .u8) a0 xs] w') ⟨0, by omega, hF.sub (by repeat (first | exact Sub.nil | refine Sub.cons rfl (by first | with_reducible rfl | (refine congrArg (Value.int _) ?_; omega) | exact rfl) ?_)), hM⟩ ?_
  clear hF hM a
  rintro m a w' ⟨i, hm, hF, hM⟩
  by_cases hi : i < xs.length
  · obtain ⟨x, hx⟩ := get_of_lt hi
    obtain ⟨ad, rfl⟩ : ∃ ad, a0 = some ad := rd_some hM (by (repeat (first | exact List.mem_cons_self | refine List.mem_cons_of_mem _ ?_))) hx
    have htk : (xs.take (i + 1)).foldl dgs 14695981039346656037 = dgs ((xs.take i).foldl dgs 14695981039346656037) x := by rw [take_snoc hx, List.foldl_append]; rfl
    generalize (xs.take i).foldl dgs 14695981039346656037 = h at *
    (repeat' (first | (with_reducible refine w_seq ?_) | (with_reducible refine c_region ?_) | (with_reducible refine s_nil ?_) | ((with_reducible apply s_xorU hF); exact rfl; exact rfl; exact rfl; exact rfl; clear hF a; intro a hF) | (with_reducible refine q_then_n ?_) | ((with_reducible apply s_pure hF); exact rfl; exact rfl; exact rfl; (first | exact trivial | omega | exact ⟨Int.natCast_nonneg _, Int.ofNat_lt.2 (by assumption)⟩ | decide); clear hF a; intro a hF) | ((with_reducible apply s_loadF hF hM); exact rfl; exact rfl; (repeat (first | exact List.mem_cons_self | refine List.mem_cons_of_mem _ ?_)); exact rfl; exact rfl; (first | with_reducible assumption | (simp only [Int.toNat_natCast]; with_reducible assumption)); clear hF a; intro a hF) | (with_reducible refine w_skip ?_) | (with_reducible refine w_block ?_) | (with_reducible refine q_blk_n ?_) | ((with_reducible apply c_dec hF); exact rfl; all_goals intro hc; all_goals (try (exfalso; omega)))))
    refine ⟨m - 1, by omega, i + 1, by omega, ?_, hM⟩
    rw [htk]
    exact hF.sub (by repeat (first | exact Sub.nil | refine Sub.cons rfl (by first | with_reducible rfl | (refine congrArg (Value.int _) ?_; omega) | exact rfl) ?_))
  · rw [List.take_of_length_le (by omega)] at hF
    unfold dgB
    generalize xs.foldl dgs 14695981039346656037 = h at *
    (repeat' (first | (with_reducible refine w_seq ?_) | (with_reducible refine c_region ?_) | (with_reducible refine s_nil ?_) | ((with_reducible apply s_xorU hF); exact rfl; exact rfl; exact rfl; exact rfl; clear hF a; intro a hF) | ((with_reducible apply s_shrU hF); exact rfl; exact rfl; exact rfl; exact rfl; clear hF a; intro a hF) | (with_reducible refine q_then_n ?_) | ((with_reducible apply s_pure hF); exact rfl; exact rfl; exact rfl; (first | exact trivial | omega | exact ⟨Int.natCast_nonneg _, Int.ofNat_lt.2 (by assumption)⟩ | decide); clear hF a; intro a hF) | (with_reducible refine w_exit ?_) | (with_reducible refine w_ret ?_) | (with_reducible refine q_then_x ?_) | (with_reducible refine q_blk_x ?_) | ((with_reducible apply c_dec hF); exact rfl; all_goals intro hc; all_goals (try (exfalso; omega)))))
    (apply f_ret Try.results81 hF hM; (repeat (first | exact RL.nil | (apply RL.tmp; exact rfl) | (apply RL.cell; exact rfl; (repeat (first | exact List.mem_cons_self | refine List.mem_cons_of_mem _ ?_)); exact rfl))); refine Ret.mk hM.since ?_; dsimp only [resV])
    rfl
theorem Sectors4_c (x : Dat) (hw : D29.W8 x) (a0 : Option Addr) (c0 n : Nat) (hn : x.length = n) (hlen : n ≤ 100000) (own : Nat → Prop) (W : World) (hl : ∀ b, own b → b < W.heap.size) (hv : Has own W (RdF (Value.int .u8) a0 x.flatten)) :
    Calls Try.prog 42 ⟨[.slice a0 n c0]⟩ W (Ret W fun v _ => v = .int .u64 (dg x)) := by
  have hM := (Mm.start hl).known hv
  have hfl := flat_len hw
  refine f_start Try.func42 rfl Try.ntmps42 rfl rfl ?_; intro a hF
  (repeat (first | (with_reducible refine w_seq ?_) | (with_reducible refine c_region ?_) | (with_reducible refine s_nil ?_) | ((with_reducible apply s_call (f := 43) hF hM); exact rfl; exact rfl; exact rfl; exact rfl; exact rfl; exact (BytesR_c x hw a0 c0 n hn hlen _ _ hM.lt (hM.facts (RdF (Value.int .u8) a0 x.flatten) (by (repeat (first | exact List.mem_cons_self | refine List.mem_cons_of_mem _ ?_))))); clear hF hM a; rintro v w a ⟨a', c', rfl, hr⟩ - hM hF; replace hM := hM.addFact hr) | (with_reducible refine q_then_n ?_) | ((with_reducible apply s_pure hF); exact rfl; exact rfl; exact rfl; (first | exact trivial | omega | exact ⟨Int.natCast_nonneg _, Int.ofNat_lt.2 (by assumption)⟩ | decide); clear hF a; intro a hF)))
  (((with_reducible apply s_call (f := 81) hF hM); exact rfl; exact rfl; exact rfl; exact rfl; exact rfl; exact (DigestR_c x.flatten a' c' _ rfl (by omega) _ _ hM.lt (hM.facts (RdF (Value.int .u8) a' x.flatten) (by (repeat (first | exact List.mem_cons_self | refine List.mem_cons_of_mem _ ?_))))); clear hF hM a; rintro v w a rfl - hM hF))
  (repeat (first | (with_reducible refine s_nil ?_) | (with_reducible refine q_then_n ?_) | ((with_reducible apply s_pure hF); exact rfl; exact rfl; exact rfl; (first | exact trivial | omega | exact ⟨Int.natCast_nonneg _, Int.ofNat_lt.2 (by assumption)⟩ | decide); clear hF a; intro a hF) | (with_reducible refine w_ret ?_)))
  (apply f_ret Try.results42 hF hM; (repeat (first | exact RL.nil | (apply RL.tmp; exact rfl) | (apply RL.cell; exact rfl; (repeat (first | exact List.mem_cons_self | refine List.mem_cons_of_mem _ ?_)); exact rfl))); refine Ret.mk hM.since ?_; dsimp only [resV])
  rfl
end Go.Proofs.Ytadfdpkhehdikaa


/- The reference of layer 29: Check, Add, Find. -/
namespace Go.Proofs.Ytadfdpkhehdikaa
open Go.RowKit Go.Shelf D29
namespace D29
theorem sadr_zero (a : Option Addr) (m s : Nat) : sadr a 0 m s = a := by
  unfold sadr
  split
  · rfl
  · cases a with
    | none => rfl
    | some a => rw [Nat.zero_mul]; rfl
end D29
section
variable (cp : Int) (ps : List P) (a0 : Option Addr) (c0 n : Nat) (hn : ps.length = n) (hlen : n ≤ 100000) (hDW : DatW ps) (hpx : ∀ p ∈ ps, p.1.x.length ≤ 100000) (hc0 : n ≤ c0)
  (own : Nat → Prop) (W : World) (hl : ∀ b, own b → b < W.heap.size) (h1 : Has own W (RdF id a0 (cellsP ps))) (h2 : Has own W (DatF ps))
include hn hlen hDW hpx hc0 hl h1 h2
end
end Go.Proofs.Ytadfdpkhehdikaa


/- wire: lists of numbers. -/
namespace Go.Proofs.Ytadfdpkhehdikaa
open Go.RowKit Go.Shelf
section
variable (xs : List Int) (hxb : ∀ x ∈ xs, 0 ≤ x ∧ x < 256) (hlen : xs.length ≤ 1000000) (a0 : Option Addr) (c0 : Nat) (hc0 : xs.length ≤ c0) {own : Nat → Prop} {w0 W : World} {bs : List BoxE} {L : List Ent} {Fs : List (World → Prop)} {b : Nat} {T : TypeId} (hM : Mm own w0 (⟨b, ⟨[.slice a0 xs.length c0]⟩, T⟩ :: bs) L (RdF (Value.int .u8) a0 xs :: Fs) W)
include hxb hlen hc0 hM
set_option maxRecDepth 20000 in
theorem length_m : Calls Try.prog 142 ⟨[.pointer (some ⟨b, 0, none⟩)]⟩ W (Rtn fun u w' => u = .tuple #[.int .i64 (rdNum xs).1, .int .i64 (if (rdNum xs).2.1 ≠ 0 then (rdNum xs).2.1 else if 65536 < (rdNum xs).1 then 5 else 0)] ∧ ∃ a' c', xs.length - (rdNum xs).2.2 ≤ c' ∧ Mm own w0 (⟨b, ⟨[.slice a' (xs.length - (rdNum xs).2.2) c']⟩, T⟩ :: bs) L (RdF (Value.int .u8) a' (xs.drop (rdNum xs).2.2) :: RdF (Value.int .u8) a0 xs :: Fs) w') := by
  obtain ⟨r, hr⟩ : ∃ r, rdNum xs = r := ⟨_, rfl⟩
  have hN := number_m xs hxb hlen a0 c0 hc0 hM
  rw [hr] at hN ⊢
  obtain ⟨n, e, u⟩ := r
  dsimp only at hN ⊢
  refine f_start Try.func142 rfl Try.ntmps142 rfl rfl ?_; intro a hF
  by_cases he : e = 0
  · by_cases hn : 65536 < n
    · (repeat' (first | (with_reducible refine w_seq ?_) | (with_reducible refine c_region ?_) | (with_reducible refine s_nil ?_) | ((with_reducible apply s_callM (f := 100) hF); exact rfl; exact rfl; exact rfl; exact rfl; exact rfl; exact (hN); clear hF hM a; rintro v w a ⟨rfl, a1, c1, hcq, hM⟩ hF) | (with_reducible refine q_then_n ?_) | ((with_reducible apply s_pure hF); exact rfl; exact rfl; exact rfl; (first | exact trivial | omega | exact ⟨Int.natCast_nonneg _, Int.ofNat_lt.2 (by assumption)⟩ | decide); clear hF a; intro a hF) | (with_reducible refine w_ret ?_) | ((fail_if_success ((with_reducible refine g_known true hF ?_ ?_); focus exact rfl)); (fail_if_success ((with_reducible refine g_known false hF ?_ ?_); focus exact rfl)); (with_reducible apply g_dec hF); exact rfl; exact rfl; all_goals (clear hF; intro hc hF); all_goals (try (exfalso; omega))) | ((with_reducible apply c_dec hF); exact rfl; all_goals intro hc; all_goals (try (exfalso; omega)))))
      (apply f_ret Try.results142 hF hM; (repeat (first | exact RL.nil | (apply RL.tmp; exact rfl) | (apply RL.cell; exact rfl; (repeat (first | exact List.mem_cons_self | refine List.mem_cons_of_mem _ ?_)); exact rfl))); refine Both.mk ?_; try dsimp only [resV])
      rw [if_neg (by omega), if_pos hn]
      exact ⟨rfl, a1, c1, hcq, hM⟩
    · (repeat' (first | (with_reducible refine w_seq ?_) | (with_reducible refine c_region ?_) | (with_reducible refine s_nil ?_) | ((with_reducible apply s_callM (f := 100) hF); exact rfl; exact rfl; exact rfl; exact rfl; exact rfl; exact (hN); clear hF hM a; rintro v w a ⟨rfl, a1, c1, hcq, hM⟩ hF) | (with_reducible refine q_then_n ?_) | ((with_reducible apply s_pure hF); exact rfl; exact rfl; exact rfl; (first | exact trivial | omega | exact ⟨Int.natCast_nonneg _, Int.ofNat_lt.2 (by assumption)⟩ | decide); clear hF a; intro a hF) | (with_reducible refine w_skip ?_) | (with_reducible refine w_ret ?_) | ((fail_if_success ((with_reducible refine g_known true hF ?_ ?_); focus exact rfl)); (fail_if_success ((with_reducible refine g_known false hF ?_ ?_); focus exact rfl)); (with_reducible apply g_dec hF); exact rfl; exact rfl; all_goals (clear hF; intro hc hF); all_goals (try (exfalso; omega))) | ((with_reducible apply c_dec hF); exact rfl; all_goals intro hc; all_goals (try (exfalso; omega)))))
      (apply f_ret Try.results142 hF hM; (repeat (first | exact RL.nil | (apply RL.tmp; exact rfl) | (apply RL.cell; exact rfl; (repeat (first | exact List.mem_cons_self | refine List.mem_cons_of_mem _ ?_)); exact rfl))); refine Both.mk ?_; try dsimp only [resV])
      rw [if_neg (by omega), if_neg hn, he]
      exact ⟨rfl, a1, c1, hcq, hM⟩
  · (repeat' (first | (with_reducible refine w_seq ?_) | (with_reducible refine c_region ?_) | (with_reducible refine s_nil ?_) | ((with_reducible apply s_callM (f := 100) hF); exact rfl; exact rfl; exact rfl; exact rfl; exact rfl; exact (hN); clear hF hM a; rintro v w a ⟨rfl, a1, c1, hcq, hM⟩ hF) | (with_reducible refine q_then_n ?_) | ((with_reducible apply s_pure hF); exact rfl; exact rfl; exact rfl; (first | exact trivial | omega | exact ⟨Int.natCast_nonneg _, Int.ofNat_lt.2 (by assumption)⟩ | decide); clear hF a; intro a hF) | (with_reducible refine w_skip ?_) | (with_reducible refine w_ret ?_) | ((with_reducible apply c_false2 hF); exact rfl; (first | with_reducible rfl | (refine congrArg Value.bool ?_; focus (simp; done)))) | ((with_reducible apply s_skip hF); exact rfl; exact rfl; clear hF a; intro a hF) | ((fail_if_success ((with_reducible refine g_known true hF ?_ ?_); focus exact rfl)); (fail_if_success ((with_reducible refine g_known false hF ?_ ?_); focus exact rfl)); (with_reducible apply g_dec hF); exact rfl; exact rfl; all_goals (clear hF; intro hc hF); all_goals (try (exfalso; omega)))))
    (apply f_ret Try.results142 hF hM; (repeat (first | exact RL.nil | (apply RL.tmp; exact rfl) | (apply RL.cell; exact rfl; (repeat (first | exact List.mem_cons_self | refine List.mem_cons_of_mem _ ?_)); exact rfl))); refine Both.mk ?_; try dsimp only [resV])
    rw [if_pos he]
    exact ⟨rfl, a1, c1, hcq, hM⟩
end
end Go.Proofs.Ytadfdpkhehdikaa


/- wire: PutInts, Ints. -/
namespace Go.Proofs.Ytadfdpkhehdikaa
open Go.RowKit Go.Shelf
/-- A row that was handed over, as a fact. -/
theorem Owns.fact {α : Type} {enc : α → Value} {own : Nat → Prop} {w : World} {base : Nat} {e : TypeId} {a : Option Addr} {n c : Nat} {xs : List α} (hO : Owns w base [⟨e, 1, .slice a n c, n, xs.map enc⟩]) (hl : ∀ b, own b → b < base) : Has own w (RdF enc a xs) ∧ n ≤ c := by
  have ho : w.ownsRow base e 1 (.slice a n c) n (xs.map enc) := hO.own _ List.mem_cons_self
  refine ⟨RdF.has (own_reads ho) ?_, ?_⟩
  · rintro ad rfl hn
    have h1 := (hO.lt List.mem_cons_self ad.block rfl).1
    have := hl _ hn
    omega
  · rcases ho.2 with ⟨h1, h2⟩ | ⟨g, cap, cur, h1, _, _, h3, _⟩
    · omega
    · injection h1 with _ _ h1
      omega
end Go.Proofs.Ytadfdpkhehdikaa


/- The reference's numbers. -/
namespace Go.Proofs.Ytadfdpkhehdikaa
open Go.RowKit Go.Shelf
theorem RdF.take {α : Type} {enc : α → Value} {own : Nat → Prop} {w : World} {a : Option Addr} {xs : List α} (h : Has own w (RdF enc a xs)) (k : Nat) : Has own w (RdF enc a (xs.take k)) := by
  refine h.imp fun w h j x hx => h j x ?_
  rw [List.getElem?_take] at hx
  split at hx
  · exact hx
  · cases hx
end Go.Proofs.Ytadfdpkhehdikaa

