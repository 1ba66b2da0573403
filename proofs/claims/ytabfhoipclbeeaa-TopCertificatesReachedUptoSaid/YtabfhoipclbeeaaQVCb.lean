/- Texts of this seat, one behind the other: W3 Go Gs Gt Gu Gz Kc Kd Km Idx C55 V1 V2 C5b V3 V5 V6 V7 V8 V9 C5c C5d C5e K1 Gv Gw Gx K2. -/
import Derived.OrdersIn
import Derived.Laws.CopyRow
import Derived.Laws.BytesArg
import Derived.Laws.Bits64b
import Derived.Deep.AppendSrc
import Derived.Lib.Bytes
import Derived.ArgAppend
import Derived.Shelf.Abstract
import Derived.Recover
import Derived.Laws.StructEq
import Derived.Test.YtabfhoipclbeeaaQVCa
set_option linter.unusedSimpArgs false
set_option linter.unusedVariables false
set_option linter.unusedSectionVars false
set_option maxRecDepth 3000
/- wire: numbers that are read. -/
namespace Go.Proofs.Ytabfhoipclbeeaa
open Go.RowKit Go.Shelf
theorem rdN_none {xs : List Int} {f i : Nat} {n : Int} (h : xs[i]? = none) : rdN xs (f + 1) i n = (0, 10, 0) := by rw [rdN, h]
theorem rdN_some {xs : List Int} {f i : Nat} {n b : Int} (h : xs[i]? = some b) : rdN xs (f + 1) i n = if 128 ≤ b then rdN xs f (i + 1) (n + b % 128 * 128 ^ i) else if (b = 0 ∧ 0 < i) ∨ 9007199254740991 < n + b % 128 * 128 ^ i then (0, 3, 0) else (n + b % 128 * 128 ^ i, 0, i + 1) := by rw [rdN, h]
/-- The rest of a slice. -/
theorem RdF.drop {α : Type} {enc : α → Value} {own : Nat → Prop} {w : World} {ad : Addr} {xs : List α} (h : Has own w (RdF enc (some ad) xs)) (k m : Nat) (hm : xs.length ≤ m) : Has own w (RdF enc (sadr (some ad) k m 1) (xs.drop k)) := by
  refine h.imp fun w h j x hx => ?_
  rw [List.getElem?_drop] at hx
  have hlt := (List.getElem?_eq_some_iff.1 hx).1
  obtain ⟨b, off, e, hb, hc⟩ := h (k + j) x hx
  injection e with e
  subst e
  refine ⟨b, off + k, ?_, hb, ?_⟩
  · unfold sadr
    rw [if_neg (by omega)]
    simp [add_lit]
  · rw [Nat.add_assoc]
    exact hc
theorem dup0 {own : Nat → Prop} {w w0 : World} {bs : List BoxE} {L : List Ent} {Fs : List (World → Prop)} {f : World → Prop} (hM : Mm own w0 bs L (f :: Fs) w) : Mm own w0 bs L (f :: f :: Fs) w :=
  hM.sub (.refl _) (.refl _) fun g hg => by
    rcases List.mem_cons.1 hg with rfl | hg
    · exact List.mem_cons_self
    · exact hg
theorem mul_bdP {x y a b : Int} (hx : 0 ≤ x ∧ x ≤ a) (hy : 0 ≤ y ∧ y ≤ b) : 0 ≤ x * y ∧ x * y ≤ a * b :=
  ⟨Int.mul_nonneg hx.1 hy.1, Int.mul_le_mul hx.2 hy.2 hy.1 (by omega)⟩
set_option maxRecDepth 20000 in
theorem number_m (xs : List Int) (hxb : ∀ x ∈ xs, 0 ≤ x ∧ x < 256) (hlen : xs.length ≤ 1000000) (a0 : Option Addr) (c0 : Nat) (hc0 : xs.length ≤ c0) {own : Nat → Prop} {w0 W : World} {bs : List BoxE} {L : List Ent} {Fs : List (World → Prop)} {b : Nat} {T : TypeId} (hM : Mm own w0 (⟨b, ⟨[.slice a0 xs.length c0]⟩, T⟩ :: bs) L (RdF (Value.int .u8) a0 xs :: Fs) W) :
    Calls Try.prog 103 ⟨[.pointer (some ⟨b, 0, none⟩)]⟩ W (Rtn fun u w' => u = .tuple #[.int .i64 (rdNum xs).1, .int .i64 (rdNum xs).2.1] ∧ ∃ a' c', xs.length - (rdNum xs).2.2 ≤ c' ∧ Mm own w0 (⟨b, ⟨[.slice a' (xs.length - (rdNum xs).2.2) c']⟩, T⟩ :: bs) L (RdF (Value.int .u8) a' (xs.drop (rdNum xs).2.2) :: RdF (Value.int .u8) a0 xs :: Fs) w') := by
  refine f_start Try.func103 rfl Try.ntmps103 rfl rfl ?_; intro a hF
  (repeat' (first | (with_reducible refine w_seq ?_) | (with_reducible refine c_region ?_) | (with_reducible refine s_nil ?_) | (with_reducible refine q_then_n ?_) | ((with_reducible apply s_pure hF); exact rfl; exact rfl; exact rfl; (first | exact trivial | omega | exact ⟨Int.natCast_nonneg _, Int.ofNat_lt.2 (by assumption)⟩ | decide); clear hF a; intro a hF) | (with_reducible refine w_block ?_)))
  refine c_loop (m := 8) (fun m a w' => ∃ (i : Nat) (n : Int), m + i = 8 ∧ rdNum xs = rdN xs m i n ∧ 0 ≤ n ∧ n < 128 ^ i ∧
    Fr 57 [] [(7, .int .i64 i), (4, .int .i64 n), (0, .pointer (some ⟨b, 0, none⟩))] a ∧
    Mm own w0 (⟨b, ⟨[.slice a0 xs.length c0]⟩, T⟩ :: bs) L (RdF (Value.int .u8) a0 xs :: Fs) w') ⟨0, 0, by omega, rfl, by omega, by simp, hF.sub (by repeat (first | exact Sub.nil | refine Sub.cons rfl (by first | with_reducible rfl | (refine congrArg (Value.int _) ?_; omega) | exact rfl) ?_)), hM⟩ ?_
  clear hF hM a
  rintro m a w' ⟨i, n, hmi, hrd, hn0, hn1, hF, hM⟩
  by_cases hi : i < 8
  case neg =>
    obtain rfl : m = 0 := by omega
    have hr : rdNum xs = (0, 3, 0) := hrd
    rw [hr]
    (repeat' (first | (with_reducible refine w_seq ?_) | (with_reducible refine c_region ?_) | (with_reducible refine s_nil ?_) | (with_reducible refine q_then_n ?_) | ((with_reducible apply s_pure hF); exact rfl; exact rfl; exact rfl; (first | exact trivial | omega | exact ⟨Int.natCast_nonneg _, Int.ofNat_lt.2 (by assumption)⟩ | decide); clear hF a; intro a hF) | (with_reducible refine w_exit ?_) | (with_reducible refine w_ret ?_) | (with_reducible refine q_then_x ?_) | (with_reducible refine q_blk_x ?_) | ((with_reducible apply c_dec hF); exact rfl; all_goals intro hc; all_goals (try (exfalso; omega)))))
    (apply f_ret Try.results103 hF hM; (repeat (first | exact RL.nil | (apply RL.tmp; exact rfl) | (apply RL.cell; exact rfl; (repeat (first | exact List.mem_cons_self | refine List.mem_cons_of_mem _ ?_)); exact rfl))); refine Both.mk ?_; try dsimp only [resV])
    refine ⟨rfl, a0, c0, by simp only [Nat.sub_zero]; exact hc0, ?_⟩
    simp only [List.drop_zero, Nat.sub_zero]
    exact dup0 hM
  obtain ⟨m, rfl⟩ : ∃ k, m = k + 1 := ⟨m - 1, by omega⟩
  obtain ⟨p1, p2, p3⟩ := pow7 ⟨i, hi⟩
  have p4 := pow7s ⟨i, hi⟩
  simp only at p1 p2 p3 p4
  by_cases hin : i < xs.length
  case neg =>
    have hr : rdNum xs = (0, 10, 0) := by rw [hrd]; exact rdN_none (List.getElem?_eq_none (by omega))
    rw [hr]
    (repeat' (first | (with_reducible refine w_seq ?_) | (with_reducible refine c_region ?_) | (with_reducible refine s_nil ?_) | (with_reducible refine q_then_n ?_) | ((with_reducible apply s_pure hF); exact rfl; exact rfl; exact rfl; (first | exact trivial | omega | exact ⟨Int.natCast_nonneg _, Int.ofNat_lt.2 (by assumption)⟩ | decide); clear hF a; intro a hF) | ((with_reducible apply s_load hF hM); exact rfl; exact rfl; (repeat (first | exact List.mem_cons_self | refine List.mem_cons_of_mem _ ?_)); exact rfl; exact rfl; clear hF a; intro a hF) | (with_reducible refine w_skip ?_) | (with_reducible refine w_block ?_) | (with_reducible refine w_ret ?_) | (with_reducible refine q_then_r ?_) | (with_reducible refine q_blk_r ?_) | ((with_reducible apply c_dec hF); exact rfl; all_goals intro hc; all_goals (try (exfalso; omega)))))
    (apply f_ret Try.results103 hF hM; (repeat (first | exact RL.nil | (apply RL.tmp; exact rfl) | (apply RL.cell; exact rfl; (repeat (first | exact List.mem_cons_self | refine List.mem_cons_of_mem _ ?_)); exact rfl))); refine Both.mk ?_; try dsimp only [resV])
    refine ⟨rfl, a0, c0, by simp only [Nat.sub_zero]; exact hc0, ?_⟩
    simp only [List.drop_zero, Nat.sub_zero]
    exact dup0 hM
  obtain ⟨y, hy⟩ := get_of_lt hin
  obtain ⟨ad, rfl⟩ := rd_some hM (by (repeat (first | exact List.mem_cons_self | refine List.mem_cons_of_mem _ ?_))) hy
  have hyb := hxb y (List.mem_of_getElem? hy)
  have hr := hrd.trans (rdN_some hy)
  obtain ⟨P, hP⟩ : ∃ P, (128 : Int) ^ i = P := ⟨_, rfl⟩
  rw [hP] at p1 p2 p3 p4 hn1 hr
  have hmb := mul_bdP (show 0 ≤ y % 128 ∧ y % 128 ≤ 127 by omega) (show 0 ≤ P ∧ P ≤ 562949953421312 by omega)
  have hsh : 0 ≤ 7 * (i : Int) ∧ 7 * (i : Int) ≤ 62 ∧ y % 128 * 2 ^ (7 * (i : Int)).toNat = y % 128 * P ∧ 0 ≤ y % 128 * P ∧ y % 128 * P < 9223372036854775808 := by
    refine ⟨by omega, by omega, ?_, hmb.1, by omega⟩
    rw [show (7 * (i : Int)).toNat = 7 * i by omega, p1]
  have hj : Join n (y % 128 * P) := by
    refine ⟨7 * i, by omega, hn0, by rw [p1]; exact hn1, hmb.1, ?_, by omega⟩
    rw [p1, Int.mul_emod_left]
  obtain ⟨Z, hZ⟩ : ∃ Z, y % 128 * P = Z := ⟨_, rfl⟩
  rw [hZ] at hr hmb hsh hj
  by_cases hbig : 128 ≤ y
  · rw [if_pos hbig] at hr
    have hbd : n + Z < 128 ^ (i + 1) := by
      rw [p4, ← hZ]
      have : y % 128 * P ≤ 127 * P := Int.mul_le_mul_of_nonneg_right (by omega) (by omega)
      omega
    (repeat' (first | (with_reducible refine w_seq ?_) | (with_reducible refine c_region ?_) | (with_reducible refine s_nil ?_) | ((with_reducible apply s_and127 hF); exact rfl; exact rfl; exact rfl; exact rfl; omega; clear hF a; intro a hF) | ((with_reducible apply s_and128 hF); exact rfl; exact rfl; exact rfl; exact rfl; omega; clear hF a; intro a hF) | ((with_reducible apply s_join hF); exact rfl; exact rfl; exact rfl; exact rfl; (with_reducible assumption); clear hF a; intro a hF) | ((with_reducible apply s_shl hF); exact rfl; exact rfl; exact rfl; exact rfl; (with_reducible assumption); clear hF a; intro a hF) | (with_reducible refine q_then_n ?_) | ((with_reducible apply s_pure hF); exact rfl; exact rfl; exact rfl; (first | exact trivial | omega | exact ⟨Int.natCast_nonneg _, Int.ofNat_lt.2 (by assumption)⟩ | decide); clear hF a; intro a hF) | ((with_reducible apply s_load hF hM); exact rfl; exact rfl; (repeat (first | exact List.mem_cons_self | refine List.mem_cons_of_mem _ ?_)); exact rfl; exact rfl; clear hF a; intro a hF) | ((with_reducible apply s_loadF hF hM); exact rfl; exact rfl; (repeat (first | exact List.mem_cons_self | refine List.mem_cons_of_mem _ ?_)); exact rfl; exact rfl; (first | with_reducible assumption | (simp only [Int.toNat_natCast]; with_reducible assumption)); clear hF a; intro a hF) | (with_reducible refine w_skip ?_) | (with_reducible refine w_block ?_) | (with_reducible refine w_exit ?_) | (with_reducible refine q_then_x ?_) | (with_reducible refine q_blk_x ?_) | ((with_reducible apply c_dec hF); exact rfl; all_goals intro hc; all_goals (try (exfalso; omega)))))
    exact ⟨m, by omega, i + 1, n + Z, by omega, hr, by omega, hbd, hF.sub (by repeat (first | exact Sub.nil | refine Sub.cons rfl (by first | with_reducible rfl | (refine congrArg (Value.int _) ?_; omega) | exact rfl) ?_)), hM⟩
  rw [if_neg hbig] at hr
  by_cases hbad : (y = 0 ∧ 0 < i) ∨ 9007199254740991 < n + Z
  · rw [if_pos hbad] at hr
    rw [hr]
    (repeat' (first | (with_reducible refine w_seq ?_) | (with_reducible refine c_region ?_) | (with_reducible refine s_nil ?_) | ((with_reducible apply s_and127 hF); exact rfl; exact rfl; exact rfl; exact rfl; omega; clear hF a; intro a hF) | ((with_reducible apply s_and128 hF); exact rfl; exact rfl; exact rfl; exact rfl; omega; clear hF a; intro a hF) | ((with_reducible apply s_join hF); exact rfl; exact rfl; exact rfl; exact rfl; (with_reducible assumption); clear hF a; intro a hF) | ((with_reducible apply s_shl hF); exact rfl; exact rfl; exact rfl; exact rfl; (with_reducible assumption); clear hF a; intro a hF) | (with_reducible refine q_then_n ?_) | ((with_reducible apply s_pure hF); exact rfl; exact rfl; exact rfl; (first | exact trivial | omega | exact ⟨Int.natCast_nonneg _, Int.ofNat_lt.2 (by assumption)⟩ | decide); clear hF a; intro a hF) | ((with_reducible apply s_load hF hM); exact rfl; exact rfl; (repeat (first | exact List.mem_cons_self | refine List.mem_cons_of_mem _ ?_)); exact rfl; exact rfl; clear hF a; intro a hF) | ((with_reducible apply s_loadF hF hM); exact rfl; exact rfl; (repeat (first | exact List.mem_cons_self | refine List.mem_cons_of_mem _ ?_)); exact rfl; exact rfl; (first | with_reducible assumption | (simp only [Int.toNat_natCast]; with_reducible assumption)); clear hF a; intro a hF) | (with_reducible refine w_skip ?_) | (with_reducible refine w_block ?_) | (with_reducible refine w_ret ?_) | (with_reducible refine q_then_r ?_) | (with_reducible refine q_blk_r ?_) | ((with_reducible apply c_true2 hF); exact rfl; (first | with_reducible rfl | (refine congrArg Value.bool ?_; focus (simp; done)))) | ((with_reducible apply s_skip hF); exact rfl; exact rfl; clear hF a; intro a hF) | ((fail_if_success ((with_reducible refine g_known true hF ?_ ?_); focus exact rfl)); (fail_if_success ((with_reducible refine g_known false hF ?_ ?_); focus exact rfl)); (with_reducible apply g_dec hF); exact rfl; exact rfl; all_goals (clear hF; intro hc hF); all_goals (try (exfalso; omega))) | ((with_reducible apply c_dec hF); exact rfl; all_goals intro hc; all_goals (try (exfalso; omega)))))
    all_goals
      (apply f_ret Try.results103 hF hM; (repeat (first | exact RL.nil | (apply RL.tmp; exact rfl) | (apply RL.cell; exact rfl; (repeat (first | exact List.mem_cons_self | refine List.mem_cons_of_mem _ ?_)); exact rfl))); refine Both.mk ?_; try dsimp only [resV])
      refine ⟨rfl, some ad, c0, by simp only [Nat.sub_zero]; exact hc0, ?_⟩
      simp only [List.drop_zero, Nat.sub_zero]
      exact dup0 hM
  · rw [if_neg hbad] at hr
    rw [hr]
    (repeat' (first | (with_reducible refine w_seq ?_) | (with_reducible refine c_region ?_) | (with_reducible refine s_nil ?_) | ((with_reducible apply s_and127 hF); exact rfl; exact rfl; exact rfl; exact rfl; omega; clear hF a; intro a hF) | ((with_reducible apply s_and128 hF); exact rfl; exact rfl; exact rfl; exact rfl; omega; clear hF a; intro a hF) | ((with_reducible apply s_join hF); exact rfl; exact rfl; exact rfl; exact rfl; (with_reducible assumption); clear hF a; intro a hF) | ((with_reducible apply s_shl hF); exact rfl; exact rfl; exact rfl; exact rfl; (with_reducible assumption); clear hF a; intro a hF) | (with_reducible refine q_then_n ?_) | ((with_reducible apply s_pure hF); exact rfl; exact rfl; exact rfl; (first | exact trivial | omega | exact ⟨Int.natCast_nonneg _, Int.ofNat_lt.2 (by assumption)⟩ | decide); clear hF a; intro a hF) | ((with_reducible apply s_load hF hM); exact rfl; exact rfl; (repeat (first | exact List.mem_cons_self | refine List.mem_cons_of_mem _ ?_)); exact rfl; exact rfl; clear hF a; intro a hF) | ((with_reducible apply s_loadF hF hM); exact rfl; exact rfl; (repeat (first | exact List.mem_cons_self | refine List.mem_cons_of_mem _ ?_)); exact rfl; exact rfl; (first | with_reducible assumption | (simp only [Int.toNat_natCast]; with_reducible assumption)); clear hF a; intro a hF) | ((with_reducible apply s_store hF hM); exact rfl; exact rfl; exact rfl; exact rfl; (repeat (first | exact Upd.z | apply Upd.s)); exact rfl; exact rfl; exact rfl; clear hM; intro w hM) | (with_reducible refine w_skip ?_) | (with_reducible refine w_block ?_) | (with_reducible refine w_ret ?_) | (with_reducible refine q_then_r ?_) | (with_reducible refine q_blk_r ?_) | ((with_reducible apply s_skip hF); exact rfl; exact rfl; clear hF a; intro a hF) | ((fail_if_success ((with_reducible refine g_known true hF ?_ ?_); focus exact rfl)); (fail_if_success ((with_reducible refine g_known false hF ?_ ?_); focus exact rfl)); (with_reducible apply g_dec hF); exact rfl; exact rfl; all_goals (clear hF; intro hc hF); all_goals (try (exfalso; omega))) | ((with_reducible apply c_dec hF); exact rfl; all_goals intro hc; all_goals (try (exfalso; omega)))))
    all_goals
      rw [show ((i : Int) + 1).toNat = i + 1 by omega, Int.toNat_natCast] at hM
      (apply f_ret Try.results103 hF hM; (repeat (first | exact RL.nil | (apply RL.tmp; exact rfl) | (apply RL.cell; exact rfl; (repeat (first | exact List.mem_cons_self | refine List.mem_cons_of_mem _ ?_)); exact rfl))); refine Both.mk ?_; try dsimp only [resV])
      exact ⟨rfl, sadr (some ad) (i + 1) c0 1, c0 - (i + 1), (by show xs.length - (i + 1) ≤ c0 - (i + 1); omega), hM.addFact (RdF.drop (hM.facts (RdF (Value.int .u8) (some ad) xs) List.mem_cons_self) (i + 1) c0 hc0)⟩
theorem rdN_err : ∀ (f i : Nat) (n : Int) (xs : List Int), (rdN xs f i n).2.1 ≠ 0 → (rdN xs f i n).1 = 0 ∧ (rdN xs f i n).2.2 = 0
  | 0, _, _, _, _ => ⟨rfl, rfl⟩
  | f + 1, i, n, xs, h => by
    rw [rdN] at h ⊢
    split
    · exact ⟨rfl, rfl⟩
    · rename_i b hb
      rw [hb] at h
      simp only at h
      split at h
      · rename_i h1
        rw [if_pos h1]
        exact rdN_err f (i + 1) _ xs h
      · rename_i h1
        rw [if_neg h1]
        split at h
        · rename_i h2
          rw [if_pos h2]
          exact ⟨rfl, rfl⟩
        · exact absurd rfl h
theorem cloneB_z (a0 : Option Addr) (c0 : Nat) (xs : List Int) (n : Nat) (hn : xs.length = n) (own : Nat → Prop) (W : World) (hl : ∀ b, own b → b < W.heap.size) (hv : Has own W (RdF (Value.int .u8) a0 xs)) (hb : xs.length ≤ 10000000000) :
    Calls Try.prog 100 ⟨[.slice a0 n c0]⟩ W (Ret W fun v w' => ∃ a' c', v = .slice a' n c' ∧ Owns w' W.heap.size [⟨5, 1, .slice a' n c', n, xs.map (Value.int .u8)⟩]) := by
  subst hn
  exact cloneB_c a0 c0 xs own W hl hv hb
/-- What Int answers: the number, a copy of the rest, the error. -/
def IntR (own : Nat → Prop) (xs : List Int) (b0 : Nat) (v : Value) (w : World) : Prop := ∃ a' n' c', v = .tuple #[.int .i64 (rdNum xs).1, .slice a' n' c', .int .i64 (rdNum xs).2.1] ∧
  (((rdNum xs).2.1 ≠ 0 ∧ a' = none ∧ n' = 0 ∧ c' = 0) ∨ ((rdNum xs).2.1 = 0 ∧ n' = (xs.drop (rdNum xs).2.2).length ∧ Owns w b0 [⟨5, 1, .slice a' n' c', n', (xs.drop (rdNum xs).2.2).map (Value.int .u8)⟩]))
set_option maxRecDepth 20000 in
theorem read_c (xs : List Int) (hxb : ∀ x ∈ xs, 0 ≤ x ∧ x < 256) (hlen : xs.length ≤ 1000000) (a0 : Option Addr) (c0 : Nat) (hc0 : xs.length ≤ c0) (own : Nat → Prop) (W : World) (hl : ∀ b, own b → b < W.heap.size) (hv : Has own W (RdF (Value.int .u8) a0 xs)) :
    Calls Try.prog 102 ⟨[.slice a0 xs.length c0, .func (.func 103) #[] #[]]⟩ W (Ret W (IntR own xs W.heap.size)) := by
  have hM := (Mm.start hl).known hv
  refine f_start Try.func102 rfl Try.ntmps102 rfl rfl ?_; intro a hF
  have hbl : (xs.drop (rdNum xs).2.2).length ≤ 10000000000 := by simp; omega
  by_cases he : (rdNum xs).2.1 = 0
  · (repeat' (first | (with_reducible refine w_seq ?_) | (with_reducible refine c_region ?_) | (with_reducible refine s_nil ?_) | ((with_reducible apply s_callM (f := 103) hF); exact rfl; exact rfl; exact rfl; exact rfl; exact rfl; exact (number_m xs hxb hlen a0 c0 hc0 hM); clear hF hM a; rintro v w a ⟨rfl, a1, c1, hcq, hM⟩ hF) | ((with_reducible apply s_callO (f := 100) hF); exact rfl; exact rfl; exact rfl; exact rfl; exact rfl; exact (cloneB_z a1 c1 (xs.drop (rdNum xs).2.2) _ (by simp) _ _ hM.lt (hM.facts _ (by (repeat (first | exact List.mem_cons_self | refine List.mem_cons_of_mem _ ?_)))) hbl); clear hF a; rintro v wn a ⟨a2, c2, rfl, hO⟩ hS hF; replace hM := hM.addRows hS hO; clear hS hO; dsimp only [List.cons_append, List.nil_append] at hM) | (with_reducible refine q_then_n ?_) | ((with_reducible apply s_pure hF); exact rfl; exact rfl; exact rfl; (first | exact trivial | omega | exact ⟨Int.natCast_nonneg _, Int.ofNat_lt.2 (by assumption)⟩ | decide); clear hF a; intro a hF) | ((with_reducible apply s_load hF hM); exact rfl; exact rfl; (repeat (first | exact List.mem_cons_self | refine List.mem_cons_of_mem _ ?_)); exact rfl; exact rfl; clear hF a; intro a hF) | ((with_reducible apply s_box hF hM); exact rfl; exact rfl; exact rfl; exact rfl; clear hF hM a; intro b w a hM hF) | (with_reducible refine w_skip ?_) | (with_reducible refine w_ret ?_) | ((with_reducible apply c_dec hF); exact rfl; all_goals intro hc; all_goals (try (exfalso; omega)))))
    (apply f_ret Try.results102 hF hM; (repeat (first | exact RL.nil | (apply RL.tmp; exact rfl) | (apply RL.cell; exact rfl; (repeat (first | exact List.mem_cons_self | refine List.mem_cons_of_mem _ ?_)); exact rfl))); refine Ret.mk hM.since ?_; dsimp only [resV])
    have hO2 := hM.mem.own
    refine ⟨a2, _, c2, by rw [he], .inr ⟨he, by simp, ?_⟩⟩
    exact hO2
  · (repeat' (first | (with_reducible refine w_seq ?_) | (with_reducible refine c_region ?_) | (with_reducible refine s_nil ?_) | ((with_reducible apply s_callM (f := 103) hF); exact rfl; exact rfl; exact rfl; exact rfl; exact rfl; exact (number_m xs hxb hlen a0 c0 hc0 hM); clear hF hM a; rintro v w a ⟨rfl, a1, c1, hcq, hM⟩ hF) | (with_reducible refine q_then_n ?_) | ((with_reducible apply s_pure hF); exact rfl; exact rfl; exact rfl; (first | exact trivial | omega | exact ⟨Int.natCast_nonneg _, Int.ofNat_lt.2 (by assumption)⟩ | decide); clear hF a; intro a hF) | ((with_reducible apply s_box hF hM); exact rfl; exact rfl; exact rfl; exact rfl; clear hF hM a; intro b w a hM hF) | (with_reducible refine w_ret ?_) | (with_reducible refine q_then_r ?_) | ((with_reducible apply c_dec hF); exact rfl; all_goals intro hc; all_goals (try (exfalso; omega)))))
    (apply f_ret Try.results102 hF hM; (repeat (first | exact RL.nil | (apply RL.tmp; exact rfl) | (apply RL.cell; exact rfl; (repeat (first | exact List.mem_cons_self | refine List.mem_cons_of_mem _ ?_)); exact rfl))); refine Ret.mk hM.since ?_; dsimp only [resV])
    exact ⟨none, 0, 0, by rw [show (rdNum xs).1 = 0 from (rdN_err 8 0 0 xs he).1], .inl ⟨he, rfl, rfl, rfl⟩⟩
section
variable (xs : List Int) (hxb : ∀ x ∈ xs, 0 ≤ x ∧ x < 256) (hlen : xs.length ≤ 1000000) (a0 : Option Addr) (c0 : Nat) (hc0 : xs.length ≤ c0) (own : Nat → Prop) (W : World) (hl : ∀ b, own b → b < W.heap.size) (hv : Has own W (RdF (Value.int .u8) a0 xs))
include hxb hlen hc0 hl hv
theorem read_ok (he : (rdNum xs).2.1 = 0) : Calls Try.prog 102 ⟨[.slice a0 xs.length c0, .func (.func 103) #[] #[]]⟩ W (Ret W fun v w' => ∃ a' c', v = .tuple #[.int .i64 (rdNum xs).1, .slice a' (xs.drop (rdNum xs).2.2).length c', .int .i64 0] ∧ Owns w' W.heap.size [⟨5, 1, .slice a' (xs.drop (rdNum xs).2.2).length c', (xs.drop (rdNum xs).2.2).length, (xs.drop (rdNum xs).2.2).map (Value.int .u8)⟩]) := by
  refine (read_c xs hxb hlen a0 c0 hc0 own W hl hv).mono ?_
  rintro e w' ⟨v, rfl, hs, a', n', c', rfl, h⟩
  rcases h with ⟨h, _⟩ | ⟨_, rfl, hO⟩
  · exact absurd he h
  · exact ⟨_, rfl, hs, a', c', by rw [he], hO⟩
theorem read_err (he : (rdNum xs).2.1 ≠ 0) : Calls Try.prog 102 ⟨[.slice a0 xs.length c0, .func (.func 103) #[] #[]]⟩ W (Ret W fun v _ => v = .tuple #[.int .i64 0, .slice none 0 0, .int .i64 (rdNum xs).2.1]) := by
  refine (read_c xs hxb hlen a0 c0 hc0 own W hl hv).mono ?_
  rintro e w' ⟨v, rfl, hs, a', n', c', rfl, h⟩
  rcases h with ⟨_, rfl, rfl, rfl⟩ | ⟨h, _⟩
  · exact ⟨_, rfl, hs, by rw [show (rdNum xs).1 = 0 from (rdN_err 8 0 0 xs he).1]⟩
  · exact absurd h he
theorem Int_ok (he : (rdNum xs).2.1 = 0) : Calls Try.prog 70 ⟨[.slice a0 xs.length c0]⟩ W (Ret W fun v w' => ∃ a' c', v = .tuple #[.int .i64 (rdNum xs).1, .slice a' (xs.drop (rdNum xs).2.2).length c', .int .i64 0] ∧ Owns w' W.heap.size [⟨5, 1, .slice a' (xs.drop (rdNum xs).2.2).length c', (xs.drop (rdNum xs).2.2).length, (xs.drop (rdNum xs).2.2).map (Value.int .u8)⟩]) := by
  have hM := (Mm.start hl).known hv
  refine f_start Try.func70 rfl Try.ntmps70 rfl rfl ?_; intro a hF
  (repeat (first | (with_reducible refine w_seq ?_) | (with_reducible refine c_region ?_) | (with_reducible refine s_nil ?_) | ((with_reducible apply s_callO (f := 102) hF); exact rfl; exact rfl; exact rfl; exact rfl; exact rfl; exact (read_ok xs hxb hlen a0 c0 hc0 _ _ hM.lt (hM.facts _ (by (repeat (first | exact List.mem_cons_self | refine List.mem_cons_of_mem _ ?_)))) he); clear hF a; rintro v wn a ⟨a1, c1, rfl, hO⟩ hS hF; replace hM := hM.addRows hS hO; clear hS hO; dsimp only [List.cons_append, List.nil_append] at hM) | (with_reducible refine q_then_n ?_) | ((with_reducible apply s_pure hF); exact rfl; exact rfl; exact rfl; (first | exact trivial | omega | exact ⟨Int.natCast_nonneg _, Int.ofNat_lt.2 (by assumption)⟩ | decide); clear hF a; intro a hF) | (with_reducible refine w_ret ?_)))
  (apply f_ret Try.results70 hF hM; (repeat (first | exact RL.nil | (apply RL.tmp; exact rfl) | (apply RL.cell; exact rfl; (repeat (first | exact List.mem_cons_self | refine List.mem_cons_of_mem _ ?_)); exact rfl))); refine Ret.mk hM.since ?_; dsimp only [resV])
  exact ⟨a1, c1, rfl, hM.mem.own⟩
theorem Int_err (he : (rdNum xs).2.1 ≠ 0) : Calls Try.prog 70 ⟨[.slice a0 xs.length c0]⟩ W (Ret W fun v _ => v = .tuple #[.int .i64 0, .slice none 0 0, .int .i64 (rdNum xs).2.1]) := by
  have hM := (Mm.start hl).known hv
  refine f_start Try.func70 rfl Try.ntmps70 rfl rfl ?_; intro a hF
  (repeat (first | (with_reducible refine w_seq ?_) | (with_reducible refine c_region ?_) | (with_reducible refine s_nil ?_) | ((with_reducible apply s_call (f := 102) hF hM); exact rfl; exact rfl; exact rfl; exact rfl; exact rfl; exact (read_err xs hxb hlen a0 c0 hc0 _ _ hM.lt (hM.facts _ (by (repeat (first | exact List.mem_cons_self | refine List.mem_cons_of_mem _ ?_)))) he); clear hF hM a; rintro v w a rfl - hM hF) | (with_reducible refine q_then_n ?_) | ((with_reducible apply s_pure hF); exact rfl; exact rfl; exact rfl; (first | exact trivial | omega | exact ⟨Int.natCast_nonneg _, Int.ofNat_lt.2 (by assumption)⟩ | decide); clear hF a; intro a hF) | (with_reducible refine w_ret ?_)))
  (apply f_ret Try.results70 hF hM; (repeat (first | exact RL.nil | (apply RL.tmp; exact rfl) | (apply RL.cell; exact rfl; (repeat (first | exact List.mem_cons_self | refine List.mem_cons_of_mem _ ?_)); exact rfl))); refine Ret.mk hM.since ?_; dsimp only [resV])
end
end Go.Proofs.Ytabfhoipclbeeaa


/- Calls of yield; ranges over a function whose loop variable is boxed. -/
namespace Go.Proofs.Ytabfhoipclbeeaa
open Go.RowKit Go.Shelf
variable {n : Nat} {ds : List Deferred} {l : List (Nat × Value)} {a : Act} {w w0 : World} {own : Nat → Prop} {bs : List BoxE} {L : List Ent} {Fs : List (World → Prop)}
variable {Q : Exit → Act → World → Prop} {os rest : List Oper}
theorem Since.grows {w w' : World} (h : Since w w') : w.grownBy w' none := ⟨h.os, h.tape, h.output, h.size, fun k hk _ => h.block k hk⟩
/-- What has the type T, from B on, stays. -/
def KT (B : Nat) (T : TypeId) (w : World) : World → Prop := fun w' => ∀ k cs, B ≤ k → w.heap[k]? = some (.cells cs T (0, 0)) → w'.heap[k]? = some (.cells cs T (0, 0))
theorem KT.refl (B : Nat) (T : TypeId) (w : World) : KT B T w w := fun _ _ _ h => h
theorem KT.trans {B : Nat} {T : TypeId} {x y z : World} (h : KT B T x y) (k : KT B T y z) : KT B T x z := fun i cs hb hi => k i cs hb (h i cs hb hi)
theorem KT.grown {B : Nat} {T : TypeId} {w w' : World} (h : w.grownBy w' none) : KT B T w w' := fun k _ _ hk => (h.block k (Array.getElem?_eq_some_iff.1 hk).1 (by simp)).trans hk
/-! An array as a slice -/
end Go.Proofs.Ytabfhoipclbeeaa


/- Copies; zeros appended; boxes and rows replaced; bytes as strings. -/
namespace Go.Proofs.Ytabfhoipclbeeaa
open Go.RowKit Go.Shelf
section
variable {n : Nat} {ds : List Deferred} {l : List (Nat × Value)} {a : Act} {w w' w0 : World} {own : Nat → Prop} {bs : List BoxE} {L : List Ent} {Fs : List (World → Prop)}
variable {os rest : List Oper} {Q : Exit → Act → World → Prop} {K : Act → World → Prop}
variable {d : Nat} {op : Op} {ty : TypeId} {pos : String} {af : Array Edge} {g : Option (Nat × Bool)}
theorem grownBy_setRow (w : World) (g : Nat) (cs : Array Value) : w.grownBy (w.setRow g cs) (some g) :=
  ⟨rfl, rfl, rfl, by simp [World.setRow], fun k _ hk => setRow_other w g k _ (fun e => hk (by rw [e]))⟩
/-! A row's cells replaced -/
theorem splice_take {α : Type} (C cs : List α) (o N : Nat) (h : o + cs.length ≤ N) (hC : N ≤ C.length) : (C.take o ++ cs ++ C.drop (o + cs.length)).take N = (C.take N).take o ++ cs ++ (C.take N).drop (o + cs.length) := by
  have h1 : (C.take o).length = o := by rw [List.length_take]; omega
  rw [List.take_append, List.take_of_length_le (by rw [List.length_append, h1]; omega), List.length_append, h1, List.take_take, Nat.min_eq_left (by omega), List.drop_take]
theorem Mm.rowTo (hM : Mm own w0 bs L Fs w) {k : Nat} {e : TypeId} {size m c gb : Nat} {xs : List Value} (hL : L[k]? = some ⟨e, size, .slice (some ⟨gb, 0, none⟩) m c, m, xs⟩) (o : Nat) (cs : List Value) (h : o + cs.length ≤ m * size) :
    ∃ cur : Array Value, w.heap[gb]? = some (.cells cur e (0, 0)) ∧ o + cs.length ≤ cur.size ∧ Mm own w0 bs (L.set k ⟨e, size, .slice (some ⟨gb, 0, none⟩) m c, m, xs.take o ++ cs ++ xs.drop (o + cs.length)⟩) Fs (w.setRow gb (cur.toList.take o ++ cs ++ cur.toList.drop (o + cs.length)).toArray) := by
  have hown := hM.mem.own.get hL
  obtain ⟨hlen, hr⟩ := hown
  rcases hr with ⟨h', _⟩ | ⟨g', cap', cur, h', h1, h2, h3, h4, h5, h6⟩
  · simp at h'
  · simp only [Value.slice.injEq, Option.some.injEq, Addr.mk.injEq, and_true] at h'
    obtain ⟨rfl, _, rfl⟩ := h'
    simp only at hlen h1 h2 h3 h4 h5 h6
    have hcur : m * size ≤ cur.size := by rw [h5]; exact Nat.mul_le_mul_right _ h3
    refine ⟨cur, h2, by omega, hM.app hL ⟨?_, .inr ⟨gb, c, _, rfl, h1, setRow_heap w gb cur _ e _ h2, h3, h4, ?_, ?_⟩⟩ (grownBy_setRow w gb _) (.inl rfl)⟩
    · simp only [List.length_append, List.length_take, List.length_drop]
      omega
    · rw [← h5]
      simp only [List.size_toArray, List.length_append, List.length_take, List.length_drop, Array.length_toList]
      omega
    · show (cur.toList.take o ++ cs ++ cur.toList.drop (o + cs.length)).take (m * size) = _
      rw [splice_take _ _ _ _ h (by simpa using hcur), h6]
/-- The run of a copy, whatever the elements' size. -/
theorem run_copy_gen {P : Program} (w : World) (dT sT ty elem : TypeId) (size g o dLen dCap : Nat) (a : Addr) (sLen sCap : Nat) (cur : Array Value) (t : TypeId) (cs : List Value)
    (hu : P.underlying dT = some (.slice elem)) (hs : (P.info? elem).map (·.size) = some size)
    (hg : w.heap[g]? = some (.cells cur t (0, 0))) (hn : cs.length = Nat.min sLen dLen * size)
    (hsrc : ∀ j v, cs[j]? = some v → w.cell? (a.add j) = some v) (hfit : o + cs.length ≤ cur.size) (h1 : ∀ v ∈ cs, v.oneCell' = true) :
    (Builtin.copy_ #[dT, sT] ty #[.slice (some ⟨g, o, none⟩) dLen dCap, .slice (some a) sLen sCap]).run P w =
      .ok (goInt (Nat.min sLen dLen)) (w.setRow g (cur.toList.take o ++ cs ++ cur.toList.drop (o + cs.length)).toArray) := by
  have hl := run_loadCells_list (P := P) w a cs hsrc
  have hst := run_storeCells_at P g o t cs 0 cur w hg (by simpa using hfit) h1
  cases hq : P.info? elem with
  | none => simp [hq] at hs
  | some i =>
    have hi : i.size = size := by simpa [hq] using hs
    simp [Builtin.copy_, run_underlying hu, Builtin.lenOf, Builtin.firstCells, sizeOf, typeInfo, hq, hi, ← hn, hl, hst]
/-- copy into a row. -/
theorem e_copyR {t s e e' : TypeId} {size size' bytes gb off q c m m2 c2 c' j : Nat} {ad : Addr} {cs xs : List Value} {D X : Operand} {dst : Option Tmp} (hF : Fr n ds l a) (hM : Mm own w0 bs L Fs w) (hD : ev l D = some (.slice (some ⟨gb, off, none⟩) q c)) (hX : ev l X = some (.slice (some ad) m2 c2)) (he : elO t = some (e, size, bytes)) (h1 : ∀ v ∈ cs, v.oneCell' = true)
    (hL : Kth L j ⟨e', size', .slice (some ⟨gb, 0, none⟩) m c', m, xs⟩) (hn : cs.length = Nat.min m2 q * size) (hsrc : ∀ i v, cs[i]? = some v → w.cell? (ad.add i) = some v) (hfit : off + cs.length ≤ m * size')
    (kk : ∀ w', Mm own w0 bs (L.set j ⟨e', size', .slice (some ⟨gb, 0, none⟩) m c', m, xs.take off ++ cs ++ xs.drop (off + cs.length)⟩) Fs w' → K (a.put dst (.int .i64 (Nat.min m2 q : Nat))) w') : (⟨dst, .call ⟨.builtin .copy, #[D, X], #[t, s]⟩, ty, pos, af, g⟩ : Oper).wp Try.prog a w K Q := by
  obtain ⟨e1, e2, i, z, i1, i2, i3, i4, i5⟩ := elO_ok he
  have hsz : (Try.prog.info? e).map (·.size) = some size := by rw [i1]; simp [i3]
  obtain ⟨cur, hc1, hc2, hm⟩ := hM.rowTo hL.get off cs hfit
  have hr := run_copy_gen w t s ty e size gb off q c ad m2 c2 cur e' cs e1 hsz hc1 hn hsrc hc2 h1
  unfold Oper.wp execOp
  simp only [resolve, invoke, builtin, Sem.run_bind, Sem.run_pure, Result.andThen_ok, List.map_toArray, List.map_cons, List.map_nil, hF.eval hD, hF.eval hX, hr]
  exact kk _ hm
end
end Go.Proofs.Ytabfhoipclbeeaa


/- Zeros appended; a row that is read from then on; high bits. -/
namespace Go.Proofs.Ytabfhoipclbeeaa
open Go.RowKit Go.Shelf
section
variable {n : Nat} {ds : List Deferred} {l : List (Nat × Value)} {a : Act} {w w' w0 : World} {own : Nat → Prop} {bs : List BoxE} {L : List Ent} {Fs : List (World → Prop)}
variable {os rest : List Oper} {Q : Exit → Act → World → Prop} {K : Act → World → Prop}
variable {d : Nat} {op : Op} {ty : TypeId} {pos : String} {af : Array Edge} {g : Option (Nat × Bool)}
/-- A row that is only read from then on. -/
theorem Mm.freezeRow {α : Type} {enc : α → Value} {e : TypeId} {ao : Option Addr} {m c : Nat} {xs : List α} (m0 : Mm own w0 bs (⟨e, 1, .slice ao m c, m, xs.map enc⟩ :: L) Fs w) : Mm own w0 bs L (RdF enc ao xs :: Fs) w := by
  have hrd := own_reads (m0.mem.own.own _ List.mem_cons_self)
  refine (m0.sub (.refl _) (List.sublist_cons_self _ _) (fun _ h => h)).addFact (RdF.has hrd ?_)
  rintro ad rfl
  have hob : (Value.slice (some ad) m c).ownBlock = some ad.block := rfl
  rintro (h | ⟨x, hx, hx2⟩ | ⟨y, hy, hy2⟩)
  · have h2 := m0.low _ h
    have h3 := (m0.mem.own.lt List.mem_cons_self _ hob).1
    omega
  · exact m0.mem.far x hx _ List.mem_cons_self (by rw [hob, hx2])
  · have hp := m0.mem.own.apart
    rw [List.pairwise_cons] at hp
    rcases hp.1 y hy with h | h
    · rw [show (Value.slice (some ad) m c).ownBlock = none from h] at hob; cases hob
    · exact h (hob.trans hy2.symm)
def isIf : Value → Bool
  | .iface _ _ => true
  | _ => false
theorem s_pan {X : Operand} {v : Value} {dst : Option Tmp} (hF : Fr n ds l a) (hg : wantO os l g = some true) (hX : ev l X = some v) (hv : isIf v = true) (k : Q (.panic [{ v, recovered := false }]) a w) : wl ⟨os⟩ Q (⟨dst, .panic X, ty, pos, af, g⟩ :: rest) a w := by
  refine s_op hF hg fun K hK => ?_
  have hr : (execOp a.eval ⟨dst, .panic X, ty, pos, af, g⟩).run Try.prog w = .halt (.panic v) w := by
    cases v <;> simp [isIf] at hv
    simp [execOp, hF.eval hX, Instr.panic, Sem.run_bind, Result.andThen]
  unfold Oper.wp
  rw [hr]
  exact k
/-- The high half of a number that has none. -/
theorem s_and32 {t t' : TypeId} {X Y : Operand} {x : Int} (hF : Fr n ds l a) (hg : wantO os l g = some true) (hX : ev l X = some (.int .u64 x)) (hY : ev l Y = some (.int .u64 4294967295)) (hd : Nat.blt d n = true) (h : 0 ≤ x ∧ x < 4294967296)
    (kk : ∀ a, Fr n ds ((d, .int .u64 x) :: l) a → wl ⟨os⟩ Q rest a w) : wl ⟨os⟩ Q (⟨some d, .binOp .and t X Y t', ty, pos, af, g⟩ :: rest) a w :=
  s_op hF hg fun _ hK => upon_value (e_bits hF hX hY (.inl rfl) (by
    obtain ⟨m, rfl⟩ : ∃ m : Nat, x = m := ⟨x.toNat, by omega⟩
    have h2 := bits_and_u64_nat m 4294967295 (by omega) (by omega)
    have e : m &&& 4294967295 = m % 4294967296 := Nat.and_two_pow_sub_one_eq_mod m 32
    rw [e] at h2
    have h3 : bits .and .u64 (m : Int) 4294967295 = ((m % 4294967296 : Nat) : Int) := h2
    rw [h3]
    omega) w) (hK _ _ (kk _ (hF.put hd _)))
theorem s_shr32 {t t' : TypeId} {X Y : Operand} {k yk : IntKind} {x : Int} (hF : Fr n ds l a) (hg : wantO os l g = some true) (hX : ev l X = some (.int k x)) (hY : ev l Y = some (.int yk 32)) (hd : Nat.blt d n = true) (hk : Nat.ble 32 k.bits = true) (h : 0 ≤ x ∧ x < 4294967296)
    (kk : ∀ a, Fr n ds ((d, .int k 0) :: l) a → wl ⟨os⟩ Q rest a w) : wl ⟨os⟩ Q (⟨some d, .binOp .shr t X Y t', ty, pos, af, g⟩ :: rest) a w := by
  refine s_op hF hg fun _ hK => upon_value (v := .int k 0) ?_ (hK _ _ (kk _ (hF.put hd _)))
  have hb : min 32 k.bits = 32 := Nat.min_eq_left (Nat.le_of_ble_eq_true hk)
  have hd0 : x / 4294967296 = 0 := Int.ediv_eq_zero_of_lt h.1 h.2
  simp only [execOp, hF.eval hX, hF.eval hY, Sem.run_bind, eqGuard_int, Result.andThen]
  simp [binOp, Op.shift, hb, Result.andThen, Int.fdiv_eq_ediv, hd0]
end
end Go.Proofs.Ytabfhoipclbeeaa


/- Rows of which a part is used: what is behind it is appended to. -/
namespace Go.Proofs.Ytabfhoipclbeeaa
open Go.RowKit Go.Shelf
section
variable {n : Nat} {ds : List Deferred} {l : List (Nat × Value)} {a : Act} {w w' w0 : World} {own : Nat → Prop} {bs : List BoxE} {L : List Ent} {Fs : List (World → Prop)}
variable {os rest : List Oper} {Q : Exit → Act → World → Prop} {K : Act → World → Prop}
variable {d : Nat} {op : Op} {ty : TypeId} {pos : String} {af : Array Edge} {g : Option (Nat × Bool)}
/-- A slice that is the end of an owned row. -/
def OffR (e : TypeId) (size : Nat) (v : Value) (m : Nat) (xs : List Value) (E : Ent) : Prop :=
  E.e = e ∧ E.size = size ∧ xs.length = m * size ∧
  ((v = .slice none 0 0 ∧ m = 0 ∧ E.v = .slice none 0 0) ∨ (∃ ad, v = .slice (some ad) 0 0 ∧ m = 0) ∨
   ∃ g off cap pre, v = .slice (some ⟨g, off * size, none⟩) m cap ∧ pre.length = off * size ∧ E.v = .slice (some ⟨g, 0, none⟩) (off + m) (off + cap) ∧ E.n = off + m ∧ E.xs = pre ++ xs)
theorem OffR.plain {e : TypeId} {size : Nat} {v : Value} {m : Nat} {xs : List Value} (hM : Mm own w0 bs L Fs w) (h : (⟨e, size, v, m, xs⟩ : Ent) ∈ L) : OffR e size v m xs ⟨e, size, v, m, xs⟩ := by
  have ho := hM.mem.own.own _ h
  refine ⟨rfl, rfl, ho.1, ?_⟩
  rcases ho.2 with ⟨h1, h2⟩ | ⟨g, cap, cur, h1, _⟩
  · exact .inl ⟨h1, h2, h1⟩
  · refine .inr (.inr ⟨g, 0, cap, [], ?_, by simp, ?_, ?_, rfl⟩)
    · rw [Nat.zero_mul]; exact h1
    · rw [Nat.zero_add, Nat.zero_add]; exact h1
    · exact (Nat.zero_add _).symm
theorem OffR.nil {e : TypeId} {size : Nat} : OffR e size (.slice none 0 0) 0 [] ⟨e, size, .slice none 0 0, 0, []⟩ := ⟨rfl, rfl, by simp, .inl ⟨rfl, rfl, rfl⟩⟩
theorem OffR.shape {e : TypeId} {size : Nat} {v : Value} {m : Nat} {xs : List Value} {E : Ent} (hM : Mm own w0 bs L Fs w) {k : Nat} (hL : L[k]? = some E) (h : OffR e size v m xs E) : ∃ ao c, v = .slice ao m c ∧ m ≤ c ∧ (0 < m → ∃ ad, ao = some ad) := by
  obtain ⟨h1, h2, h3, h4⟩ := h
  rcases h4 with ⟨h, rfl, _⟩ | ⟨ad, h, rfl⟩ | ⟨g, off, cap, pre, h5, h6, h7, h8, h9⟩
  · exact ⟨_, _, h, Nat.le_refl _, fun q => by omega⟩
  · exact ⟨_, _, h, Nat.le_refl _, fun q => by omega⟩
  · refine ⟨_, _, h5, ?_, fun _ => ⟨_, rfl⟩⟩
    rcases (hM.mem.own.get hL).2 with ⟨p1, p2⟩ | ⟨g', cap', cur, p1, p2, p3, p4, _⟩
    · rw [h7] at p1; cases p1
    · rw [h7] at p1
      injection p1 with p1 p5 p6
      omega
/-- The cells of such a slice. -/
theorem OffR.cells {e : TypeId} {size : Nat} {ao : Option Addr} {ad : Addr} {m c : Nat} {xs : List Value} {E : Ent} (hM : Mm own w0 bs L Fs w) {k : Nat} (hL : L[k]? = some E) (h : OffR e size (.slice ao m c) m xs E) (ha : ao = some ad) : ∀ j u, xs[j]? = some u → w.cell? (ad.add j) = some u := by
  subst ha
  obtain ⟨h1, h2, h3, h4⟩ := h
  have he : ∀ j u, m = 0 → xs[j]? = some u → w.cell? (ad.add j) = some u := by
    intro j u h0 hu
    rw [h0, Nat.zero_mul] at h3
    rw [List.eq_nil_of_length_eq_zero h3] at hu
    simp at hu
  rcases h4 with ⟨h, _⟩ | ⟨ad', h, h0⟩ | ⟨g, off, cap, pre, h5, h6, h7, h8, h9⟩
  · cases h
  · exact fun j u => he j u h0
  · intro j u hu
    injection h5 with h5
    injection h5 with h5
    subst h5
    have hc := (hM.mem.own.get hL).cells (g := g) (by rw [h7]; rfl) (off * size + j) u (by rw [h9, List.getElem?_append_right (by omega), h6, Nat.add_sub_cancel_left]; exact hu)
    rw [add_lit] at hc ⊢
    rw [← hc]
    congr 2
    omega
/-- A part of such a slice. -/
theorem OffR.drop {e : TypeId} {size : Nat} {ao : Option Addr} {m c : Nat} {xs : List Value} {E : Ent} (hM : Mm own w0 bs L Fs w) {k : Nat} (hL : L[k]? = some E) (h : OffR e size (.slice ao m c) m xs E) (q : Nat) (hq : q ≤ m) : OffR e size (.slice (sadr ao q c size) (m - q) (c - q)) (m - q) (xs.drop (q * size)) E := by
  obtain ⟨ao', c', e1, hmc, _⟩ := OffR.shape hM hL h
  injection e1 with e1 _ e2
  subst e1
  subst e2
  obtain ⟨h1, h2, h3, h4⟩ := h
  refine ⟨h1, h2, by rw [List.length_drop, h3, Nat.sub_mul], ?_⟩
  rcases h4 with ⟨h, h0, h5⟩ | ⟨ad, h, h0⟩ | ⟨g, off, cap, pre, h5, h6, h7, h8, h9⟩
  · injection h with ha hb hc
    subst ha
    subst hc
    subst h0
    refine .inl ⟨?_, by omega, h5⟩
    unfold sadr
    simp
  · injection h with ha hb hc
    subst ha
    subst hc
    subst h0
    refine .inr (.inl ⟨ad, ?_, by omega⟩)
    obtain rfl : q = 0 := by omega
    unfold sadr
    simp
  · injection h5 with ha hb hc
    subst ha
    subst hc
    by_cases hcq : c = q
    · subst hcq
      refine .inr (.inl ⟨⟨g, off * size, none⟩, ?_, by omega⟩)
      unfold sadr
      rw [if_pos rfl]
      congr 1
      · omega
      · omega
    · refine .inr (.inr ⟨g, off + q, c - q, pre ++ xs.take (q * size), ?_, ?_, ?_, ?_, ?_⟩)
      · unfold sadr
        rw [if_neg hcq, Option.map_some, add_lit, Nat.add_mul]
      · rw [List.length_append, List.length_take, h6, h3, Nat.add_mul]
        have : q * size ≤ m * size := Nat.mul_le_mul_right _ hq
        omega
      · rw [h7]
        congr 1 <;> omega
      · omega
      · rw [h9, List.append_assoc, List.take_append_drop]
end
end Go.Proofs.Ytabfhoipclbeeaa


/- wire: lists of numbers. -/
namespace Go.Proofs.Ytabfhoipclbeeaa
open Go.RowKit Go.Shelf
/-- The bytes of a list. -/
def putsL (l : List Int) : List Int := puts l.length ++ (l.map fun x => puts x.toNat).flatten
/-- A list that is read. -/
def rdList : Nat → List Int → Except Int (List Int × List Int)
  | 0, xs => .ok ([], xs)
  | k + 1, xs => if (rdNum xs).2.1 ≠ 0 then .error (rdNum xs).2.1 else match rdList k (xs.drop (rdNum xs).2.2) with
    | .error e => .error e
    | .ok (l, ys) => .ok ((rdNum xs).1 :: l, ys)
def rdInts (xs : List Int) : Except Int (List Int × List Int) := if (rdNum xs).2.1 ≠ 0 then .error (rdNum xs).2.1 else if 65536 < (rdNum xs).1 then .error 5 else rdList (rdNum xs).1.toNat (xs.drop (rdNum xs).2.2)
/-- What a list gives whose first numbers are read. -/
def rdPre (done : List Int) (r : Except Int (List Int × List Int)) : Except Int (List Int × List Int) := match r with
  | .error e => .error e
  | .ok (l, ys) => .ok (done ++ l, ys)
theorem rdPre_nil (r : Except Int (List Int × List Int)) : rdPre [] r = r := by cases r <;> rfl
theorem rdList_err {k : Nat} {xs : List Int} (h : (rdNum xs).2.1 ≠ 0) : rdList (k + 1) xs = .error (rdNum xs).2.1 := by rw [rdList, if_pos h]
theorem rdList_step {k : Nat} {xs : List Int} (h : (rdNum xs).2.1 = 0) (done : List Int) : rdPre done (rdList (k + 1) xs) = rdPre (done ++ [(rdNum xs).1]) (rdList k (xs.drop (rdNum xs).2.2)) := by
  rw [rdList, if_neg (by omega)]
  cases rdList k (xs.drop (rdNum xs).2.2) with
  | error e => rfl
  | ok p => obtain ⟨l, ys⟩ := p; simp [rdPre]
theorem rdN_nn : ∀ (f i : Nat) (n : Int) (xs : List Int), (∀ x ∈ xs, 0 ≤ x ∧ x < 256) → 0 ≤ n → 0 ≤ (rdN xs f i n).1 ∧ (rdN xs f i n).1 ≤ 9007199254740991
  | 0, _, _, _, _, _ => by rw [rdN]; exact ⟨by decide, by decide⟩
  | f + 1, i, n, xs, hb, hn => by
    rw [rdN]
    split
    · exact ⟨by decide, by decide⟩
    · rename_i b hx
      have hbb := hb b (List.mem_of_getElem? hx)
      have hp : (0 : Int) ≤ b % 128 * 128 ^ i := Int.mul_nonneg (by omega) (Int.pow_nonneg (by decide))
      split
      · exact rdN_nn f (i + 1) _ xs hb (by omega)
      · split
        · exact ⟨by decide, by decide⟩
        · rename_i h
          exact ⟨by show 0 ≤ n + _; omega, by show n + _ ≤ _; omega⟩
theorem rdNum_nn {xs : List Int} (hb : ∀ x ∈ xs, 0 ≤ x ∧ x < 256) : 0 ≤ (rdNum xs).1 ∧ (rdNum xs).1 ≤ 9007199254740991 := rdN_nn 8 0 0 xs hb (Int.le_refl _)
section
variable (xs : List Int) (hxb : ∀ x ∈ xs, 0 ≤ x ∧ x < 256) (hlen : xs.length ≤ 1000000) (a0 : Option Addr) (c0 : Nat) (hc0 : xs.length ≤ c0) {own : Nat → Prop} {w0 W : World} {bs : List BoxE} {L : List Ent} {Fs : List (World → Prop)} {b : Nat} {T : TypeId} (hM : Mm own w0 (⟨b, ⟨[.slice a0 xs.length c0]⟩, T⟩ :: bs) L (RdF (Value.int .u8) a0 xs :: Fs) W)
include hxb hlen hc0 hM
set_option maxRecDepth 20000 in
theorem length_m : Calls Try.prog 126 ⟨[.pointer (some ⟨b, 0, none⟩)]⟩ W (Rtn fun u w' => u = .tuple #[.int .i64 (rdNum xs).1, .int .i64 (if (rdNum xs).2.1 ≠ 0 then (rdNum xs).2.1 else if 65536 < (rdNum xs).1 then 5 else 0)] ∧ ∃ a' c', xs.length - (rdNum xs).2.2 ≤ c' ∧ Mm own w0 (⟨b, ⟨[.slice a' (xs.length - (rdNum xs).2.2) c']⟩, T⟩ :: bs) L (RdF (Value.int .u8) a' (xs.drop (rdNum xs).2.2) :: RdF (Value.int .u8) a0 xs :: Fs) w') := by
  obtain ⟨r, hr⟩ : ∃ r, rdNum xs = r := ⟨_, rfl⟩
  have hN := number_m xs hxb hlen a0 c0 hc0 hM
  rw [hr] at hN ⊢
  obtain ⟨n, e, u⟩ := r
  dsimp only at hN ⊢
  refine f_start Try.func126 rfl Try.ntmps126 rfl rfl ?_; intro a hF
  by_cases he : e = 0
  · by_cases hn : 65536 < n
    · (repeat' (first | (with_reducible refine w_seq ?_) | (with_reducible refine c_region ?_) | (with_reducible refine s_nil ?_) | ((with_reducible apply s_callM (f := 103) hF); exact rfl; exact rfl; exact rfl; exact rfl; exact rfl; exact (hN); clear hF hM a; rintro v w a ⟨rfl, a1, c1, hcq, hM⟩ hF) | (with_reducible refine q_then_n ?_) | ((with_reducible apply s_pure hF); exact rfl; exact rfl; exact rfl; (first | exact trivial | omega | exact ⟨Int.natCast_nonneg _, Int.ofNat_lt.2 (by assumption)⟩ | decide); clear hF a; intro a hF) | (with_reducible refine w_ret ?_) | ((fail_if_success ((with_reducible refine g_known true hF ?_ ?_); focus exact rfl)); (fail_if_success ((with_reducible refine g_known false hF ?_ ?_); focus exact rfl)); (with_reducible apply g_dec hF); exact rfl; exact rfl; all_goals (clear hF; intro hc hF); all_goals (try (exfalso; omega))) | ((with_reducible apply c_dec hF); exact rfl; all_goals intro hc; all_goals (try (exfalso; omega)))))
      (apply f_ret Try.results126 hF hM; (repeat (first | exact RL.nil | (apply RL.tmp; exact rfl) | (apply RL.cell; exact rfl; (repeat (first | exact List.mem_cons_self | refine List.mem_cons_of_mem _ ?_)); exact rfl))); refine Both.mk ?_; try dsimp only [resV])
      rw [if_neg (by omega), if_pos hn]
      exact ⟨rfl, a1, c1, hcq, hM⟩
    · (repeat' (first | (with_reducible refine w_seq ?_) | (with_reducible refine c_region ?_) | (with_reducible refine s_nil ?_) | ((with_reducible apply s_callM (f := 103) hF); exact rfl; exact rfl; exact rfl; exact rfl; exact rfl; exact (hN); clear hF hM a; rintro v w a ⟨rfl, a1, c1, hcq, hM⟩ hF) | (with_reducible refine q_then_n ?_) | ((with_reducible apply s_pure hF); exact rfl; exact rfl; exact rfl; (first | exact trivial | omega | exact ⟨Int.natCast_nonneg _, Int.ofNat_lt.2 (by assumption)⟩ | decide); clear hF a; intro a hF) | (with_reducible refine w_skip ?_) | (with_reducible refine w_ret ?_) | ((fail_if_success ((with_reducible refine g_known true hF ?_ ?_); focus exact rfl)); (fail_if_success ((with_reducible refine g_known false hF ?_ ?_); focus exact rfl)); (with_reducible apply g_dec hF); exact rfl; exact rfl; all_goals (clear hF; intro hc hF); all_goals (try (exfalso; omega))) | ((with_reducible apply c_dec hF); exact rfl; all_goals intro hc; all_goals (try (exfalso; omega)))))
      (apply f_ret Try.results126 hF hM; (repeat (first | exact RL.nil | (apply RL.tmp; exact rfl) | (apply RL.cell; exact rfl; (repeat (first | exact List.mem_cons_self | refine List.mem_cons_of_mem _ ?_)); exact rfl))); refine Both.mk ?_; try dsimp only [resV])
      rw [if_neg (by omega), if_neg hn, he]
      exact ⟨rfl, a1, c1, hcq, hM⟩
  · (repeat' (first | (with_reducible refine w_seq ?_) | (with_reducible refine c_region ?_) | (with_reducible refine s_nil ?_) | ((with_reducible apply s_callM (f := 103) hF); exact rfl; exact rfl; exact rfl; exact rfl; exact rfl; exact (hN); clear hF hM a; rintro v w a ⟨rfl, a1, c1, hcq, hM⟩ hF) | (with_reducible refine q_then_n ?_) | ((with_reducible apply s_pure hF); exact rfl; exact rfl; exact rfl; (first | exact trivial | omega | exact ⟨Int.natCast_nonneg _, Int.ofNat_lt.2 (by assumption)⟩ | decide); clear hF a; intro a hF) | (with_reducible refine w_skip ?_) | (with_reducible refine w_ret ?_) | ((with_reducible apply c_false2 hF); exact rfl; (first | with_reducible rfl | (refine congrArg Value.bool ?_; focus (simp; done)))) | ((with_reducible apply s_skip hF); exact rfl; exact rfl; clear hF a; intro a hF) | ((fail_if_success ((with_reducible refine g_known true hF ?_ ?_); focus exact rfl)); (fail_if_success ((with_reducible refine g_known false hF ?_ ?_); focus exact rfl)); (with_reducible apply g_dec hF); exact rfl; exact rfl; all_goals (clear hF; intro hc hF); all_goals (try (exfalso; omega)))))
    (apply f_ret Try.results126 hF hM; (repeat (first | exact RL.nil | (apply RL.tmp; exact rfl) | (apply RL.cell; exact rfl; (repeat (first | exact List.mem_cons_self | refine List.mem_cons_of_mem _ ?_)); exact rfl))); refine Both.mk ?_; try dsimp only [resV])
    rw [if_pos he]
    exact ⟨rfl, a1, c1, hcq, hM⟩
set_option maxRecDepth 20000 in
set_option maxHeartbeats 1000000 in
theorem list_m : Calls Try.prog 106 ⟨[.pointer (some ⟨b, 0, none⟩), .func (.func 103) #[] #[]]⟩ W (Rtn fun u w' => match rdInts xs with
    | .error e => u = .tuple #[.slice none 0 0, .int .i64 e] ∧ e ≠ 0 ∧ ∃ cs' L' Fs', Mm own w0 (⟨b, cs', T⟩ :: bs) L' Fs' w'
    | .ok (l, ys) => ∃ a1 c1 a2 c2, u = .tuple #[.slice a1 l.length c1, .int .i64 0] ∧ ys.length ≤ c2 ∧ l.length ≤ 65536 ∧ (∀ y ∈ ys, 0 ≤ y ∧ y < 256) ∧ ys.length ≤ xs.length ∧ Mm own w0 (⟨b, ⟨[.slice a2 ys.length c2]⟩, T⟩ :: bs) (⟨3, 1, .slice a1 l.length c1, l.length, l.map (Value.int .i64)⟩ :: L) [RdF (Value.int .u8) a2 ys] w') := by
  refine f_start Try.func106 rfl Try.ntmps106 rfl rfl ?_; intro a hF
  obtain ⟨r, hr⟩ : ∃ r, rdNum xs = r := ⟨_, rfl⟩
  have hnn := rdNum_nn hxb
  have hL := length_m xs hxb hlen a0 c0 hc0 hM
  unfold rdInts
  rw [hr] at hL hnn ⊢
  obtain ⟨n, e, u⟩ := r
  dsimp only at hL hnn ⊢
  by_cases he : e = 0
  case neg =>
    rw [if_pos he]
    rw [if_pos he] at hL
    (repeat' (first | (with_reducible refine w_seq ?_) | (with_reducible refine c_region ?_) | (with_reducible refine s_nil ?_) | ((with_reducible apply s_callM (f := 126) hF); exact rfl; exact rfl; exact rfl; exact rfl; exact rfl; exact (hL); clear hF hM a; rintro v w a ⟨rfl, a1, c1, hcq, hM⟩ hF) | (with_reducible refine q_then_n ?_) | ((with_reducible apply s_pure hF); exact rfl; exact rfl; exact rfl; (first | exact trivial | omega | exact ⟨Int.natCast_nonneg _, Int.ofNat_lt.2 (by assumption)⟩ | decide); clear hF a; intro a hF) | (with_reducible refine w_ret ?_) | (with_reducible refine q_then_r ?_) | ((with_reducible apply c_dec hF); exact rfl; all_goals intro hc; all_goals (try (exfalso; omega)))))
    (apply f_ret Try.results106 hF hM; (repeat (first | exact RL.nil | (apply RL.tmp; exact rfl) | (apply RL.cell; exact rfl; (repeat (first | exact List.mem_cons_self | refine List.mem_cons_of_mem _ ?_)); exact rfl))); refine Both.mk ?_; try dsimp only [resV])
    exact ⟨rfl, he, _, _, _, hM⟩
  subst he
  rw [if_neg (by omega)]
  rw [if_neg (by omega)] at hL
  by_cases hn : 65536 < n
  case pos =>
    rw [if_pos hn]
    rw [if_pos hn] at hL
    (repeat' (first | (with_reducible refine w_seq ?_) | (with_reducible refine c_region ?_) | (with_reducible refine s_nil ?_) | ((with_reducible apply s_callM (f := 126) hF); exact rfl; exact rfl; exact rfl; exact rfl; exact rfl; exact (hL); clear hF hM a; rintro v w a ⟨rfl, a1, c1, hcq, hM⟩ hF) | (with_reducible refine q_then_n ?_) | ((with_reducible apply s_pure hF); exact rfl; exact rfl; exact rfl; (first | exact trivial | omega | exact ⟨Int.natCast_nonneg _, Int.ofNat_lt.2 (by assumption)⟩ | decide); clear hF a; intro a hF) | (with_reducible refine w_ret ?_) | (with_reducible refine q_then_r ?_) | ((with_reducible apply c_true2 hF); exact rfl; (first | with_reducible rfl | (refine congrArg Value.bool ?_; focus (simp; done))))))
    (apply f_ret Try.results106 hF hM; (repeat (first | exact RL.nil | (apply RL.tmp; exact rfl) | (apply RL.cell; exact rfl; (repeat (first | exact List.mem_cons_self | refine List.mem_cons_of_mem _ ?_)); exact rfl))); refine Both.mk ?_; try dsimp only [resV])
    exact ⟨rfl, by decide, _, _, _, hM⟩
  rw [if_neg hn]
  rw [if_neg hn] at hL
  obtain ⟨k, hk⟩ : ∃ k : Nat, n = k := ⟨n.toNat, by omega⟩
  subst hk
  rw [Int.toNat_natCast]
  (repeat' (first | (with_reducible refine w_seq ?_) | (with_reducible refine c_region ?_) | (with_reducible refine s_nil ?_) | ((with_reducible apply s_callM (f := 126) hF); exact rfl; exact rfl; exact rfl; exact rfl; exact rfl; exact (hL); clear hF hM a; rintro v w a ⟨rfl, a1, c1, hcq, hM⟩ hF) | (with_reducible refine q_then_n ?_) | ((with_reducible apply s_pure hF); exact rfl; exact rfl; exact rfl; (first | exact trivial | omega | exact ⟨Int.natCast_nonneg _, Int.ofNat_lt.2 (by assumption)⟩ | decide); clear hF a; intro a hF) | (with_reducible refine w_skip ?_) | (with_reducible refine w_block ?_) | ((with_reducible apply c_false2 hF); exact rfl; (first | with_reducible rfl | (refine congrArg Value.bool ?_; focus (simp; done))))))
  have hys0 : (xs.drop u).length = xs.length - u := List.length_drop
  rw [← hys0] at hM hcq
  replace hM := hM.nilRow 3 1
  have hyl0 : (xs.drop u).length ≤ xs.length := by omega
  have hyb0 : ∀ y ∈ xs.drop u, 0 ≤ y ∧ y < 256 := fun y hy => hxb y (List.mem_of_mem_drop hy)
  generalize xs.drop u = zs at *
  refine c_loop (m := k) (fun m a w' => ∃ (i : Nat) (ys done : List Int) (a2 : Option Addr) (c2 : Nat) (rv : Value), m + i = k ∧ rdList k zs = rdPre done (rdList m ys) ∧ done.length = i ∧ ys.length ≤ c2 ∧ ys.length ≤ xs.length ∧ (∀ y ∈ ys, 0 ≤ y ∧ y < 256) ∧
    Fr 37 [] [(20, .int .i64 i), (19, .int .i64 k), (8, rv), (0, .pointer (some ⟨b, 0, none⟩)), (1, .func (.func 103) #[] #[])] a ∧
    Mm own w0 (⟨b, ⟨[.slice a2 ys.length c2]⟩, T⟩ :: bs) (⟨3, 1, rv, i, done.map (Value.int .i64)⟩ :: L) [RdF (Value.int .u8) a2 ys] w')
    ⟨0, zs, [], a1, c1, _, by omega, (rdPre_nil _).symm, rfl, hcq, hyl0, hyb0, hF.sub (by repeat (first | exact Sub.nil | refine Sub.cons rfl (by first | with_reducible rfl | (refine congrArg (Value.int _) ?_; omega) | exact rfl) ?_)), hM.sub (.refl _) (.refl _) (by intro f hf; simp only [List.mem_cons, List.not_mem_nil, or_false] at hf; (repeat (rcases hf with rfl | hf; · (repeat (first | exact List.mem_cons_self | refine List.mem_cons_of_mem _ ?_)))); first | (subst hf; (repeat (first | exact List.mem_cons_self | refine List.mem_cons_of_mem _ ?_)); done) | (repeat (first | exact hf | refine List.mem_cons_of_mem _ ?_)))⟩ ?_
  clear hF hM a
  rintro m a w' ⟨i, ys, done, a2, c2, rv, hm, hrd, hdl, hyc, hyl, hyb, hF, hM⟩
  by_cases hi : i < k
  · obtain ⟨m, rfl⟩ : ∃ q, m = q + 1 := ⟨m - 1, by omega⟩
    have hN := number_m ys hyb (by omega) a2 c2 hyc hM
    have hyn := rdNum_nn hyb
    by_cases hye : (rdNum ys).2.1 = 0
    · rw [rdList_step hye] at hrd
      rw [hye] at hN
      generalize (rdNum ys).1 = q1 at *
      have hdr : (ys.drop (rdNum ys).2.2).length = ys.length - (rdNum ys).2.2 := List.length_drop
      have hyb2 : ∀ y ∈ ys.drop (rdNum ys).2.2, 0 ≤ y ∧ y < 256 := fun y hy => hyb y (List.mem_of_mem_drop hy)
      rw [← hdr] at hN
      generalize ys.drop (rdNum ys).2.2 = ys2 at *
      generalize (rdNum ys).2.2 = u2 at *
      (repeat' (first | (with_reducible refine w_seq ?_) | (with_reducible refine c_region ?_) | (with_reducible refine s_nil ?_) | ((with_reducible apply s_callcM (f := 103) hF); exact rfl; exact rfl; exact rfl; exact rfl; exact rfl; exact rfl; exact rfl; exact (hN); clear hF hM a; rintro v w a ⟨rfl, a3, c3, hcq3, hM⟩ hF) | (with_reducible refine q_then_n ?_) | ((with_reducible apply s_pure hF); exact rfl; exact rfl; exact rfl; (first | exact trivial | omega | exact ⟨Int.natCast_nonneg _, Int.ofNat_lt.2 (by assumption)⟩ | decide); clear hF a; intro a hF) | ((with_reducible apply s_lit hF hM); exact rfl; exact rfl; exact rfl; exact rfl; clear hF hM a; intro bl w a hM hF) | ((with_reducible apply s_app hF hM); exact rfl; exact rfl; exact rfl; exact rfl; (repeat (first | exact Kth.z | apply Kth.s)); exact rfl; exact rfl; exact rfl; exact rfl; omega; clear hF hM a; intro g cap w a hM hF; dsimp only [List.set] at hM) | (with_reducible refine w_skip ?_) | (with_reducible refine w_block ?_) | (with_reducible refine q_blk_n ?_) | ((with_reducible apply c_false2 hF); exact rfl; (first | with_reducible rfl | (refine congrArg Value.bool ?_; focus (simp; done)))) | ((with_reducible apply c_dec hF); exact rfl; all_goals intro hc; all_goals (try (exfalso; omega)))))
      have e1 : (done ++ [q1]).map (Value.int .i64) = done.map (Value.int .i64) ++ [.int .i64 q1] := by rw [List.map_append]; rfl
      refine ⟨m, by omega, i + 1, ys2, done ++ [q1], a3, c3, _, by omega, hrd, by simp [hdl], hcq3, by omega, hyb2, hF.sub (by repeat (first | exact Sub.nil | refine Sub.cons rfl (by first | with_reducible rfl | (refine congrArg (Value.int _) ?_; omega) | exact rfl) ?_)), ?_⟩
      rw [e1]
      exact hM.sub (.refl _) (.refl _) (by intro f hf; simp only [List.mem_cons, List.not_mem_nil, or_false] at hf; (repeat (rcases hf with rfl | hf; · (repeat (first | exact List.mem_cons_self | refine List.mem_cons_of_mem _ ?_)))); first | (subst hf; (repeat (first | exact List.mem_cons_self | refine List.mem_cons_of_mem _ ?_)); done) | (repeat (first | exact hf | refine List.mem_cons_of_mem _ ?_)))
    · rw [rdList_err hye] at hrd
      rw [hrd]
      generalize (rdNum ys).2.1 = e1 at *
      generalize (rdNum ys).1 = q1 at *
      (repeat' (first | (with_reducible refine w_seq ?_) | (with_reducible refine c_region ?_) | (with_reducible refine s_nil ?_) | ((with_reducible apply s_callcM (f := 103) hF); exact rfl; exact rfl; exact rfl; exact rfl; exact rfl; exact rfl; exact rfl; exact (hN); clear hF hM a; rintro v w a ⟨rfl, a3, c3, hcq3, hM⟩ hF) | (with_reducible refine q_then_n ?_) | ((with_reducible apply s_pure hF); exact rfl; exact rfl; exact rfl; (first | exact trivial | omega | exact ⟨Int.natCast_nonneg _, Int.ofNat_lt.2 (by assumption)⟩ | decide); clear hF a; intro a hF) | (with_reducible refine w_skip ?_) | (with_reducible refine w_block ?_) | (with_reducible refine w_ret ?_) | (with_reducible refine q_then_r ?_) | (with_reducible refine q_blk_r ?_) | ((with_reducible apply c_dec hF); exact rfl; all_goals intro hc; all_goals (try (exfalso; omega)))))
      (apply f_ret Try.results106 hF hM; (repeat (first | exact RL.nil | (apply RL.tmp; exact rfl) | (apply RL.cell; exact rfl; (repeat (first | exact List.mem_cons_self | refine List.mem_cons_of_mem _ ?_)); exact rfl))); refine Both.mk ?_; try dsimp only [resV])
      exact ⟨rfl, hye, _, _, _, hM⟩
  · obtain rfl : i = k := by omega
    obtain rfl : m = 0 := by omega
    rw [hrd]
    obtain ⟨a', c', rfl, hcap, _⟩ := OffR.shape hM (k := 0) rfl (OffR.plain hM List.mem_cons_self)
    (repeat' (first | (with_reducible refine w_seq ?_) | (with_reducible refine c_region ?_) | (with_reducible refine s_nil ?_) | (with_reducible refine q_then_n ?_) | ((with_reducible apply s_pure hF); exact rfl; exact rfl; exact rfl; (first | exact trivial | omega | exact ⟨Int.natCast_nonneg _, Int.ofNat_lt.2 (by assumption)⟩ | decide); clear hF a; intro a hF) | (with_reducible refine w_exit ?_) | (with_reducible refine w_ret ?_) | (with_reducible refine q_then_x ?_) | (with_reducible refine q_blk_x ?_) | ((with_reducible apply c_false2 hF); exact rfl; (first | with_reducible rfl | (refine congrArg Value.bool ?_; focus (simp; done))))))
    (apply f_ret Try.results106 hF hM; (repeat (first | exact RL.nil | (apply RL.tmp; exact rfl) | (apply RL.cell; exact rfl; (repeat (first | exact List.mem_cons_self | refine List.mem_cons_of_mem _ ?_)); exact rfl))); refine Both.mk ?_; try dsimp only [resV])
    subst hdl
    refine ⟨a', c', a2, c2, ?_, hyc, ?_, hyb, hyl, ?_⟩
    · simp
    · simp; omega
    · simpa using hM
end
end Go.Proofs.Ytabfhoipclbeeaa


/- wire: PutInts, Ints. -/
namespace Go.Proofs.Ytabfhoipclbeeaa
open Go.RowKit Go.Shelf
/-- A row that was handed over, as a fact. -/
theorem Owns.fact {α : Type} {enc : α → Value} {own : Nat → Prop} {w : World} {base : Nat} {e : TypeId} {a : Option Addr} {n c : Nat} {xs : List α} (hO : Owns w base [⟨e, 1, .slice a n c, n, xs.map enc⟩]) (hl : ∀ b, own b → b < base) : Has own w (RdF enc a xs) ∧ n ≤ c := by
  have ho : w.ownsRow base e 1 (.slice a n c) n (xs.map enc) := hO.own _ List.mem_cons_self
  refine ⟨RdF.has (own_reads ho) ?_, ?_⟩
  · rintro ad rfl hn
    have h1 := (hO.lt List.mem_cons_self ad.block rfl).1
    have := hl _ hn
    omega
  · rcases ho.2 with ⟨h1, h2⟩ | ⟨g, cap, cur, h1, _, _, h3, _⟩
    · omega
    · injection h1 with _ _ h1
      omega
theorem row_capC {own : Nat → Prop} {w w0 : World} {bs : List BoxE} {L : List Ent} {Fs : List (World → Prop)} {e : TypeId} {size k c : Nat} {ao : Option Addr} {xs : List Value} (hM : Mm own w0 bs L Fs w) {i : Nat} (h : L[i]? = some ⟨e, size, .slice ao k c, k, xs⟩) : k ≤ c := by
  obtain ⟨ao', c', e1, h1, _⟩ := OffR.shape hM h (OffR.plain hM (List.mem_of_getElem? h))
  injection e1 with e1 _ e2
  subst e1 e2
  exact h1
section
variable (xs : List Int) (hxb : ∀ x ∈ xs, 0 ≤ x ∧ x < 256) (hlen : xs.length ≤ 1000000) (a0 : Option Addr) (c0 : Nat) (hc0 : xs.length ≤ c0)
include hxb hlen hc0
section
variable {own : Nat → Prop} {w0 W : World} {bs : List BoxE} {L : List Ent} {Fs : List (World → Prop)} {b : Nat} {T : TypeId} (hM : Mm own w0 (⟨b, ⟨[.slice a0 xs.length c0]⟩, T⟩ :: bs) L (RdF (Value.int .u8) a0 xs :: Fs) W)
include hM
set_option maxRecDepth 20000 in
theorem ints1_ok {l ys : List Int} (h : rdInts xs = .ok (l, ys)) : Calls Try.prog 105 ⟨[.pointer (some ⟨b, 0, none⟩)]⟩ W (Rtn fun u w' => ∃ a1 c1 a2 c2, u = .tuple #[.slice a1 l.length c1, .int .i64 0] ∧ ys.length ≤ c2 ∧ l.length ≤ 65536 ∧ (∀ y ∈ ys, 0 ≤ y ∧ y < 256) ∧ ys.length ≤ xs.length ∧ Mm own w0 (⟨b, ⟨[.slice a2 ys.length c2]⟩, T⟩ :: bs) (⟨3, 1, .slice a1 l.length c1, l.length, l.map (Value.int .i64)⟩ :: L) [RdF (Value.int .u8) a2 ys] w') := by
  have hL := list_m xs hxb hlen a0 c0 hc0 hM
  rw [h] at hL
  refine f_start Try.func105 rfl Try.ntmps105 rfl rfl ?_; intro a hF
  (repeat' (first | (with_reducible refine w_seq ?_) | (with_reducible refine c_region ?_) | (with_reducible refine s_nil ?_) | ((with_reducible apply s_callM (f := 106) hF); exact rfl; exact rfl; exact rfl; exact rfl; exact rfl; exact (hL); clear hF hM a; rintro v w a ⟨a1, c1, a2, c2, rfl, h1, h2, h3, h4, hM⟩ hF) | (with_reducible refine q_then_n ?_) | ((with_reducible apply s_pure hF); exact rfl; exact rfl; exact rfl; (first | exact trivial | omega | exact ⟨Int.natCast_nonneg _, Int.ofNat_lt.2 (by assumption)⟩ | decide); clear hF a; intro a hF) | (with_reducible refine w_ret ?_)))
  (apply f_ret Try.results105 hF hM; (repeat (first | exact RL.nil | (apply RL.tmp; exact rfl) | (apply RL.cell; exact rfl; (repeat (first | exact List.mem_cons_self | refine List.mem_cons_of_mem _ ?_)); exact rfl))); refine Both.mk ?_; try dsimp only [resV])
  exact ⟨a1, c1, a2, c2, rfl, h1, h2, h3, h4, hM⟩
set_option maxRecDepth 20000 in
theorem ints1_err {e : Int} (h : rdInts xs = .error e) : Calls Try.prog 105 ⟨[.pointer (some ⟨b, 0, none⟩)]⟩ W (Rtn fun u w' => u = .tuple #[.slice none 0 0, .int .i64 e] ∧ e ≠ 0 ∧ ∃ cs' L' Fs', Mm own w0 (⟨b, cs', T⟩ :: bs) L' Fs' w') := by
  have hL := list_m xs hxb hlen a0 c0 hc0 hM
  rw [h] at hL
  refine f_start Try.func105 rfl Try.ntmps105 rfl rfl ?_; intro a hF
  (repeat' (first | (with_reducible refine w_seq ?_) | (with_reducible refine c_region ?_) | (with_reducible refine s_nil ?_) | ((with_reducible apply s_callM (f := 106) hF); exact rfl; exact rfl; exact rfl; exact rfl; exact rfl; exact (hL); clear hF hM a; rintro v w a ⟨rfl, h1, cs', L', Fs', hM⟩ hF) | (with_reducible refine q_then_n ?_) | ((with_reducible apply s_pure hF); exact rfl; exact rfl; exact rfl; (first | exact trivial | omega | exact ⟨Int.natCast_nonneg _, Int.ofNat_lt.2 (by assumption)⟩ | decide); clear hF a; intro a hF) | (with_reducible refine w_ret ?_)))
  (apply f_ret Try.results105 hF hM; (repeat (first | exact RL.nil | (apply RL.tmp; exact rfl) | (apply RL.cell; exact rfl; (repeat (first | exact List.mem_cons_self | refine List.mem_cons_of_mem _ ?_)); exact rfl))); refine Both.mk ?_; try dsimp only [resV])
  exact ⟨rfl, h1, cs', L', Fs', hM⟩
end
variable (own : Nat → Prop) (W : World) (hl : ∀ b, own b → b < W.heap.size) (hv : Has own W (RdF (Value.int .u8) a0 xs))
include hl hv
set_option maxRecDepth 20000 in
theorem Ints_ok {l ys : List Int} (h : rdInts xs = .ok (l, ys)) : Calls Try.prog 72 ⟨[.slice a0 xs.length c0]⟩ W (Ret W fun v w' => ∃ a1 c1 a2 c2, v = .tuple #[.slice a1 l.length c1, .slice a2 ys.length c2, .int .i64 0] ∧ Has own w' (RdF (Value.int .i64) a1 l) ∧ Has own w' (RdF (Value.int .u8) a2 ys) ∧ l.length ≤ c1 ∧ ys.length ≤ c2 ∧ l.length ≤ 65536 ∧ (∀ y ∈ ys, 0 ≤ y ∧ y < 256) ∧ ys.length ≤ xs.length) := by
  have hR : ∀ (own : Nat → Prop) (W : World) (_ : ∀ b, own b → b < W.heap.size) (_ : Has own W (RdF (Value.int .u8) a0 xs)), Calls Try.prog 104 ⟨[.slice a0 xs.length c0, .func (.func 105) #[] #[]]⟩ W (Ret W fun v w' => ∃ a1 c1 a2 c2, v = .tuple #[.slice a1 l.length c1, .slice a2 ys.length c2, .int .i64 0] ∧ Has own w' (RdF (Value.int .i64) a1 l) ∧ Has own w' (RdF (Value.int .u8) a2 ys) ∧ l.length ≤ c1 ∧ ys.length ≤ c2 ∧ l.length ≤ 65536 ∧ (∀ y ∈ ys, 0 ≤ y ∧ y < 256) ∧ ys.length ≤ xs.length) := by
    intro own W hl hv
    have hM := (Mm.start hl).known hv
    refine f_start Try.func104 rfl Try.ntmps104 rfl rfl ?_; intro a hF
    (repeat' (first | (with_reducible refine w_seq ?_) | (with_reducible refine c_region ?_) | (with_reducible refine s_nil ?_) | ((with_reducible apply s_callcM (f := 105) hF); exact rfl; exact rfl; exact rfl; exact rfl; exact rfl; exact rfl; exact rfl; exact (ints1_ok xs hxb hlen a0 c0 hc0 hM h); clear hF hM a; rintro v w a ⟨a1, c1, a2, c2, rfl, h1, h2, h3, h4, hM⟩ hF) | ((with_reducible apply s_callO (f := 100) hF); exact rfl; exact rfl; exact rfl; exact rfl; exact rfl; exact (cloneB_z a2 c2 ys _ rfl _ _ hM.lt (hM.facts _ (by (repeat (first | exact List.mem_cons_self | refine List.mem_cons_of_mem _ ?_)))) (by omega)); clear hF a; rintro v wn a ⟨a3, c3, rfl, hO⟩ hS hF; replace hM := hM.addRows hS hO; clear hS hO; dsimp only [List.cons_append, List.nil_append] at hM) | (with_reducible refine q_then_n ?_) | ((with_reducible apply s_pure hF); exact rfl; exact rfl; exact rfl; (first | exact trivial | omega | exact ⟨Int.natCast_nonneg _, Int.ofNat_lt.2 (by assumption)⟩ | decide); clear hF a; intro a hF) | ((with_reducible apply s_load hF hM); exact rfl; exact rfl; (repeat (first | exact List.mem_cons_self | refine List.mem_cons_of_mem _ ?_)); exact rfl; exact rfl; clear hF a; intro a hF) | ((with_reducible apply s_box hF hM); exact rfl; exact rfl; exact rfl; exact rfl; clear hF hM a; intro b w a hM hF) | (with_reducible refine w_skip ?_) | (with_reducible refine w_ret ?_) | ((with_reducible apply c_false2 hF); exact rfl; (first | with_reducible rfl | (refine congrArg Value.bool ?_; focus (simp; done))))))
    (apply f_ret Try.results104 hF hM; (repeat (first | exact RL.nil | (apply RL.tmp; exact rfl) | (apply RL.cell; exact rfl; (repeat (first | exact List.mem_cons_self | refine List.mem_cons_of_mem _ ?_)); exact rfl))); refine Ret.mk hM.since ?_; dsimp only [resV])
    exact ⟨a1, c1, a3, c3, rfl, hM.rowFact (List.mem_cons_of_mem _ List.mem_cons_self), hM.rowFact List.mem_cons_self, row_capC hM (i := 1) rfl, row_capC hM (i := 0) rfl, h2, h3, h4⟩
  have hM := (Mm.start hl).known hv
  refine f_start Try.func72 rfl Try.ntmps72 rfl rfl ?_; intro a hF
  (repeat' (first | (with_reducible refine w_seq ?_) | (with_reducible refine c_region ?_) | (with_reducible refine s_nil ?_) | ((with_reducible apply s_call (f := 104) hF hM); exact rfl; exact rfl; exact rfl; exact rfl; exact rfl; exact (hR _ _ hM.lt (hM.facts _ (by (repeat (first | exact List.mem_cons_self | refine List.mem_cons_of_mem _ ?_))))); clear hF hM a; rintro v w a ⟨a1, c1, a2, c2, rfl, h1, h2, h3⟩ - hM hF) | (with_reducible refine q_then_n ?_) | ((with_reducible apply s_pure hF); exact rfl; exact rfl; exact rfl; (first | exact trivial | omega | exact ⟨Int.natCast_nonneg _, Int.ofNat_lt.2 (by assumption)⟩ | decide); clear hF a; intro a hF) | (with_reducible refine w_ret ?_)))
  (apply f_ret Try.results72 hF hM; (repeat (first | exact RL.nil | (apply RL.tmp; exact rfl) | (apply RL.cell; exact rfl; (repeat (first | exact List.mem_cons_self | refine List.mem_cons_of_mem _ ?_)); exact rfl))); refine Ret.mk hM.since ?_; dsimp only [resV])
  exact ⟨a1, c1, a2, c2, rfl, h1.own_eq (fun _ h => .inl h), h2.own_eq (fun _ h => .inl h), h3⟩
set_option maxRecDepth 20000 in
theorem Ints_err {e : Int} (h : rdInts xs = .error e) : Calls Try.prog 72 ⟨[.slice a0 xs.length c0]⟩ W (Ret W fun v _ => v = .tuple #[.slice none 0 0, .slice none 0 0, .int .i64 e] ∧ e ≠ 0) := by
  have hR : ∀ (own : Nat → Prop) (W : World) (_ : ∀ b, own b → b < W.heap.size) (_ : Has own W (RdF (Value.int .u8) a0 xs)), Calls Try.prog 104 ⟨[.slice a0 xs.length c0, .func (.func 105) #[] #[]]⟩ W (Ret W fun v _ => v = .tuple #[.slice none 0 0, .slice none 0 0, .int .i64 e] ∧ e ≠ 0) := by
    intro own W hl hv
    have hM := (Mm.start hl).known hv
    refine f_start Try.func104 rfl Try.ntmps104 rfl rfl ?_; intro a hF
    (repeat (first | (with_reducible refine w_seq ?_) | (with_reducible refine c_region ?_) | (with_reducible refine s_nil ?_) | ((with_reducible apply s_callcM (f := 105) hF); exact rfl; exact rfl; exact rfl; exact rfl; exact rfl; exact rfl; exact rfl; exact (ints1_err xs hxb hlen a0 c0 hc0 hM h); clear hF hM a; rintro v w a ⟨rfl, h1, cs', L', Fs', hM⟩ hF) | (with_reducible refine q_then_n ?_) | ((with_reducible apply s_pure hF); exact rfl; exact rfl; exact rfl; (first | exact trivial | omega | exact ⟨Int.natCast_nonneg _, Int.ofNat_lt.2 (by assumption)⟩ | decide); clear hF a; intro a hF) | ((with_reducible apply s_box hF hM); exact rfl; exact rfl; exact rfl; exact rfl; clear hF hM a; intro b w a hM hF)))
    (repeat' (first | (with_reducible refine w_seq ?_) | (with_reducible refine c_region ?_) | (with_reducible refine s_nil ?_) | (with_reducible refine q_then_n ?_) | ((with_reducible apply s_pure hF); exact rfl; exact rfl; exact rfl; (first | exact trivial | omega | exact ⟨Int.natCast_nonneg _, Int.ofNat_lt.2 (by assumption)⟩ | decide); clear hF a; intro a hF) | (with_reducible refine w_ret ?_) | (with_reducible refine q_then_r ?_) | ((with_reducible apply c_dec hF); exact rfl; all_goals intro hc; all_goals (try (exfalso; omega)))))
    (apply f_ret Try.results104 hF hM; (repeat (first | exact RL.nil | (apply RL.tmp; exact rfl) | (apply RL.cell; exact rfl; (repeat (first | exact List.mem_cons_self | refine List.mem_cons_of_mem _ ?_)); exact rfl))); refine Ret.mk hM.since ?_; dsimp only [resV])
    exact ⟨rfl, h1⟩
  have hM := (Mm.start hl).known hv
  refine f_start Try.func72 rfl Try.ntmps72 rfl rfl ?_; intro a hF
  (repeat' (first | (with_reducible refine w_seq ?_) | (with_reducible refine c_region ?_) | (with_reducible refine s_nil ?_) | ((with_reducible apply s_call (f := 104) hF hM); exact rfl; exact rfl; exact rfl; exact rfl; exact rfl; exact (hR _ _ hM.lt (hM.facts _ (by (repeat (first | exact List.mem_cons_self | refine List.mem_cons_of_mem _ ?_))))); clear hF hM a; rintro v w a ⟨rfl, h1⟩ - hM hF) | (with_reducible refine q_then_n ?_) | ((with_reducible apply s_pure hF); exact rfl; exact rfl; exact rfl; (first | exact trivial | omega | exact ⟨Int.natCast_nonneg _, Int.ofNat_lt.2 (by assumption)⟩ | decide); clear hF a; intro a hF) | (with_reducible refine w_ret ?_)))
  (apply f_ret Try.results72 hF hM; (repeat (first | exact RL.nil | (apply RL.tmp; exact rfl) | (apply RL.cell; exact rfl; (repeat (first | exact List.mem_cons_self | refine List.mem_cons_of_mem _ ?_)); exact rfl))); refine Ret.mk hM.since ?_; dsimp only [resV])
  exact ⟨rfl, h1⟩
end
theorem take_snoc' {l : List Int} {k : Nat} {x : Int} (h : l[k]? = some x) : l.take (k + 1) = l.take k ++ [x] := by
  rw [List.take_add_one, h]; rfl
theorem putsL_step {l : List Int} {k : Nat} {x : Int} (h : l[k]? = some x) : ((l.take (k + 1)).map fun x => puts x.toNat).flatten = ((l.take k).map fun x => puts x.toNat).flatten ++ puts x.toNat := by
  rw [take_snoc' h]
  simp
theorem puts_len8 {n : Nat} (h : n ≤ 9007199254740991) : (puts n).length ≤ 8 := puts_len 7 n (by omega)
theorem flat_len8 : ∀ {l : List Int} (_ : ∀ x ∈ l, 0 ≤ x ∧ x ≤ 9007199254740991), ((l.map fun x => puts x.toNat).flatten).length ≤ 8 * l.length
  | [], _ => by simp
  | x :: l, h => by
    have h1 := puts_len8 (n := x.toNat) (by have := h x List.mem_cons_self; omega)
    have h2 := flat_len8 (l := l) fun y hy => h y (List.mem_cons_of_mem _ hy)
    simp only [List.map_cons, List.flatten_cons, List.length_append, List.length_cons]
    omega
set_option maxRecDepth 20000 in
set_option maxHeartbeats 1000000 in
theorem PutInts_c (l : List Int) (hb : ∀ x ∈ l, 0 ≤ x ∧ x ≤ 9007199254740991) (hl6 : l.length ≤ 1000000) (ys : List Int) (hy : ys.length ≤ 1000000000) (a0 a1 : Option Addr) (m c0 c1 : Nat) (hm : ys.length = m) (own : Nat → Prop) (W : World) (hl : ∀ b, own b → b < W.heap.size) (hv : Has own W (RdF (Value.int .u8) a0 ys)) (hu : Has own W (RdF (Value.int .i64) a1 l)) :
    Calls Try.prog 65 ⟨[.slice a0 m c0, .slice a1 l.length c1]⟩ W (Ret W fun v w' => ∃ a' c', v = .slice a' (m + (putsL l).length) c' ∧ Has own w' (RdF (Value.int .u8) a' (ys ++ putsL l)) ∧ m + (putsL l).length ≤ c') := by
  have hP : ∀ {own : Nat → Prop} {w0 W : World} {L : List Ent} (v : Value) (_ : Mm own w0 [] (⟨5, 1, v, m, ys.map (Value.int .u8)⟩ :: L) [RdF (Value.int .i64) a1 l, RdF (Value.int .u8) a0 ys] W), Calls Try.prog 101 ⟨[v, .slice a1 l.length c1, .func (.func 99) #[] #[]]⟩ W (Rtn fun u w' => ∃ a' c', u = .slice a' (m + (putsL l).length) c' ∧ Mm own w0 [] (⟨5, 1, .slice a' (m + (putsL l).length) c', m + (putsL l).length, (ys ++ putsL l).map (Value.int .u8)⟩ :: L) [RdF (Value.int .i64) a1 l, RdF (Value.int .u8) a0 ys] w') := by
    clear hl hv hu own W
    intro own w0 W L v hM
    have hp0 := puts_len8 (n := l.length) (by omega)
    refine f_start Try.func101 rfl Try.ntmps101 rfl rfl ?_; intro a hF
    (repeat' (first | (with_reducible refine w_seq ?_) | (with_reducible refine c_region ?_) | (with_reducible refine s_nil ?_) | ((with_reducible apply s_callM (f := 99) hF); exact rfl; exact rfl; exact rfl; exact rfl; exact rfl; exact (putInt_m l.length (by omega) hM .z (by omega)); clear hF hM a; rintro v w a ⟨a2, c2, rfl, hM⟩ hF; dsimp only [List.set] at hM) | (with_reducible refine q_then_n ?_) | ((with_reducible apply s_pure hF); exact rfl; exact rfl; exact rfl; (first | exact trivial | omega | exact ⟨Int.natCast_nonneg _, Int.ofNat_lt.2 (by assumption)⟩ | decide); clear hF a; intro a hF) | (with_reducible refine w_block ?_)))
    refine c_loop (m := l.length) (fun z a w' => ∃ (k : Nat) (q : Nat) (a2 : Option Addr) (c2 : Nat), z + k = l.length ∧ q = (puts l.length ++ ((l.take k).map fun x => puts x.toNat).flatten).length ∧ q ≤ 8 + 8 * k ∧
      Fr 25 [] [(15, .int .i64 k), (14, .int .i64 l.length), (13, .slice a1 l.length c1), (0, .slice a2 (m + q) c2), (2, .func (.func 99) #[] #[])] a ∧
      Mm own w0 [] (⟨5, 1, .slice a2 (m + q) c2, m + q, (ys ++ (puts l.length ++ ((l.take k).map fun x => puts x.toNat).flatten)).map (Value.int .u8)⟩ :: L) [RdF (Value.int .i64) a1 l, RdF (Value.int .u8) a0 ys] w')
      ⟨0, (puts l.length).length, a2, c2, by omega, by simp, by omega, hF.sub (by repeat (first | exact Sub.nil | refine Sub.cons rfl (by first | with_reducible rfl | (refine congrArg (Value.int _) ?_; omega) | exact rfl) ?_)), by simpa using hM⟩ ?_
    clear hF hM a
    rintro z a w' ⟨k, q, a2, c2, hz, hq, hq8, hF, hM⟩
    by_cases hk : k < l.length
    · obtain ⟨x, hx⟩ := get_of_lt hk
      obtain ⟨ad, rfl⟩ := rd_some hM (a := a1) (by (repeat (first | exact List.mem_cons_self | refine List.mem_cons_of_mem _ ?_))) hx
      have hxb := hb x (List.mem_of_getElem? hx)
      have hp := puts_len8 (n := x.toNat) (by omega)
      obtain ⟨xn, hxn⟩ : ∃ xn : Nat, x = xn := ⟨x.toNat, by omega⟩
      subst hxn
      (repeat' (first | (with_reducible refine w_seq ?_) | (with_reducible refine c_region ?_) | (with_reducible refine s_nil ?_) | ((with_reducible apply s_callcM (f := 99) hF); exact rfl; exact rfl; exact rfl; exact rfl; exact rfl; exact rfl; exact rfl; exact (putInt_m xn (by omega) hM .z (by omega)); clear hF hM a; rintro v w a ⟨a3, c3, rfl, hM⟩ hF; dsimp only [List.set] at hM) | (with_reducible refine q_then_n ?_) | ((with_reducible apply s_pure hF); exact rfl; exact rfl; exact rfl; (first | exact trivial | omega | exact ⟨Int.natCast_nonneg _, Int.ofNat_lt.2 (by assumption)⟩ | decide); clear hF a; intro a hF) | ((with_reducible apply s_loadF hF hM); exact rfl; exact rfl; (repeat (first | exact List.mem_cons_self | refine List.mem_cons_of_mem _ ?_)); exact rfl; exact rfl; (first | with_reducible assumption | (simp only [Int.toNat_natCast]; with_reducible assumption)); clear hF a; intro a hF) | (with_reducible refine w_skip ?_) | (with_reducible refine w_block ?_) | (with_reducible refine q_blk_n ?_) | ((with_reducible apply c_dec hF); exact rfl; all_goals intro hc; all_goals (try (exfalso; omega)))))
      have hst := putsL_step hx
      rw [Int.toNat_natCast] at hst
      rw [Nat.add_assoc] at hF
      refine ⟨z - 1, by omega, k + 1, q + (puts xn).length, a3, c3, by omega, ?_, ?_, hF.sub (by repeat (first | exact Sub.nil | refine Sub.cons rfl (by first | with_reducible rfl | (refine congrArg (Value.int _) ?_; omega) | exact rfl) ?_)), ?_⟩
      · rw [hst, hq]; simp; omega
      · rw [Int.toNat_natCast] at hp; omega
      · rw [hst]
        rw [← List.map_append, Nat.add_assoc] at hM
        simpa using hM
    · obtain rfl : k = l.length := by omega
      (repeat' (first | (with_reducible refine w_seq ?_) | (with_reducible refine c_region ?_) | (with_reducible refine s_nil ?_) | (with_reducible refine q_then_n ?_) | ((with_reducible apply s_pure hF); exact rfl; exact rfl; exact rfl; (first | exact trivial | omega | exact ⟨Int.natCast_nonneg _, Int.ofNat_lt.2 (by assumption)⟩ | decide); clear hF a; intro a hF) | (with_reducible refine w_exit ?_) | (with_reducible refine w_ret ?_) | (with_reducible refine q_then_x ?_) | (with_reducible refine q_blk_x ?_) | ((with_reducible apply c_false2 hF); exact rfl; (first | with_reducible rfl | (refine congrArg Value.bool ?_; focus (simp; done))))))
      (apply f_ret Try.results101 hF hM; (repeat (first | exact RL.nil | (apply RL.tmp; exact rfl) | (apply RL.cell; exact rfl; (repeat (first | exact List.mem_cons_self | refine List.mem_cons_of_mem _ ?_)); exact rfl))); refine Both.mk ?_; try dsimp only [resV])
      rw [List.take_of_length_le (Nat.le_refl _)] at hq hM
      have e : puts l.length ++ (l.map fun x => puts x.toNat).flatten = putsL l := rfl
      rw [e] at hq hM
      subst hq
      exact ⟨a2, c2, rfl, hM⟩
  have hM := ((Mm.start hl).known hv).known hu
  refine f_start Try.func65 rfl Try.ntmps65 rfl rfl ?_; intro a hF
  (repeat' (first | (with_reducible refine w_seq ?_) | (with_reducible refine c_region ?_) | (with_reducible refine s_nil ?_) | ((with_reducible apply s_callO (f := 100) hF); exact rfl; exact rfl; exact rfl; exact rfl; exact rfl; exact (cloneB_z a0 c0 ys m hm _ _ hM.lt (hM.facts (RdF (Value.int .u8) a0 ys) (by (repeat (first | exact List.mem_cons_self | refine List.mem_cons_of_mem _ ?_)))) (by omega)); clear hF a; rintro v wn a ⟨a2, c2, rfl, hO⟩ hS hF; replace hM := hM.addRows hS hO; clear hS hO; dsimp only [List.cons_append, List.nil_append] at hM) | ((with_reducible apply s_callM (f := 101) hF); exact rfl; exact rfl; exact rfl; exact rfl; exact rfl; exact (hP _ hM); clear hF hM a; rintro v w a ⟨a3, c3, rfl, hM⟩ hF) | (with_reducible refine q_then_n ?_) | ((with_reducible apply s_pure hF); exact rfl; exact rfl; exact rfl; (first | exact trivial | omega | exact ⟨Int.natCast_nonneg _, Int.ofNat_lt.2 (by assumption)⟩ | decide); clear hF a; intro a hF) | (with_reducible refine w_ret ?_)))
  (apply f_ret Try.results65 hF hM; (repeat (first | exact RL.nil | (apply RL.tmp; exact rfl) | (apply RL.cell; exact rfl; (repeat (first | exact List.mem_cons_self | refine List.mem_cons_of_mem _ ?_)); exact rfl))); refine Ret.mk hM.since ?_; dsimp only [resV])
  exact ⟨a3, c3, rfl, hM.rowFact List.mem_cons_self, row_capC hM (i := 0) rfl⟩
end Go.Proofs.Ytabfhoipclbeeaa


/- The reference's numbers. -/
namespace Go.Proofs.Ytabfhoipclbeeaa
open Go.RowKit Go.Shelf
theorem RdF.take {α : Type} {enc : α → Value} {own : Nat → Prop} {w : World} {a : Option Addr} {xs : List α} (h : Has own w (RdF enc a xs)) (k : Nat) : Has own w (RdF enc a (xs.take k)) := by
  refine h.imp fun w h j x hx => h j x ?_
  rw [List.getElem?_take] at hx
  split at hx
  · exact hx
  · cases hx
end Go.Proofs.Ytabfhoipclbeeaa


/- slices.IndexFunc and ContainsFunc at slices of int, with a function that only reads. -/
namespace Go.Proofs.Ytabfhoipclbeeaa
open Go.RowKit Go.Shelf
set_option maxHeartbeats 400000 in
theorem indexFunc_any (g : Nat) (lb : Array Value) (p : Int → Bool) (a : Option Addr) (c : Nat) (l : List Int) (w : World) (hl : l.length ≤ 9223372036854775807) (hr : Reads (Value.int .i64) w a l) (hp : PredOf Try.prog g lb p w)
    (eg : ∀ args w, (callFunc g args).run Try.prog w = .ok (.enter g args) w) :
    Calls Try.prog 129 #[.slice a l.length c, .func (.func g) #[] lb] w fun e w' => e = .returned (.int .i64 (idxOf p l)) ∧ Since w w' := by
  go_enter Try.func129, Try.ntmps129
  go_wp2
  go_loopg [8] l.length (fun gg s8 wr => ∃ k : Nat, k ≤ l.length ∧ l.length - k ≤ gg ∧ s8 = .int .i64 k ∧ Since w wr ∧ Aside (∀ j y, j < k → l[j]? = some y → p y = false))
  case atStart => exact ⟨0, Nat.zero_le _, by omega, rfl, Since.refl _, fun j y hj => absurd hj (Nat.not_lt_zero _)⟩
  case round =>
    obtain ⟨k, hk, hg, rfl, hs, A⟩ := hrel
    by_cases hlt : k < l.length
    · obtain ⟨x, hx⟩ := get_of_lt hlt
      obtain ⟨b, off, rfl, hb, hc⟩ := (hr.since hs) k x hx
      have hltz : (k : Int) < (l.length : Int) := by omega
      have HX := Lib.hid hx
      have hcall := hp x _ hs
      clear hr hx hp
      have HS := Lib.hid hs
      clear hs
      cases hq : p x
      all_goals
        have HQ := Lib.hid hq
        rw [hq] at hcall
        clear hq
        go_wp2_with (go_at_fn g; refine hcall.mono ?_; rintro e w1 ⟨rfl, hs1⟩)
      · go_roundg (l.length - (k + 1))
        case measure => omega
        case rel =>
          refine ⟨k + 1, by omega, by omega, by go_num, HS.out.trans hs1, (show Aside _ from fun j y hj hy => ?_)⟩
          by_cases e : j = k
          · subst e; rw [HX.out] at hy; injection hy with hy; rw [← hy]; exact HQ.out
          · exact A.out j y (by omega) hy
      · go_ret
        exact ⟨by rw [idxOf_hit HX.out HQ.out A.out]; rfl, HS.out.trans hs1⟩
    · have hltz : ¬ (k : Int) < (l.length : Int) := by omega
      have hkl : l.length ≤ k := by omega
      have HS := Lib.hid hs
      clear hr hp hs
      go_wp2
      go_ret
      refine ⟨?_, HS.out⟩
      rw [idxOf_miss (fun j y hy => A.out j y (by rcases Nat.lt_or_ge j l.length with h | h; (omega); (rw [List.getElem?_eq_none h] at hy; cases hy)) hy)]
      rfl
set_option maxHeartbeats 400000 in
theorem containsFunc_any (g : Nat) (lb : Array Value) (p : Int → Bool) (a : Option Addr) (c : Nat) (l : List Int) (w : World) (hl : l.length ≤ 9223372036854775807) (hr : Reads (Value.int .i64) w a l) (hp : PredOf Try.prog g lb p w)
    (eg : ∀ args w, (callFunc g args).run Try.prog w = .ok (.enter g args) w) :
    Calls Try.prog 116 #[.slice a l.length c, .func (.func g) #[] lb] w fun e w' => e = .returned (.bool (l.any p)) ∧ Since w w' := by
  have key : (l.any p) = decide (0 ≤ idxOf p l) := by rw [Bool.eq_iff_iff, ← idxOf_nonneg]; simp
  rw [key]
  clear key
  have hcall := indexFunc_any g lb p a c l w hl hr hp eg
  generalize idxOf p l = r at hcall ⊢
  clear hr hp
  go_enter Try.func116, Try.ntmps116
  go_wp2_with (go_at_call 129; refine hcall.mono ?_; rintro e w1 ⟨rfl, hs1⟩)
  go_ret
  exact ⟨rfl, hs1⟩
end Go.Proofs.Ytabfhoipclbeeaa


/- Layer 55 in plain terms: curves, and what the functions of the layer answer. -/
namespace Go.Proofs.Ytabfhoipclbeeaa
namespace C55
structure Cu where
  V : List Int
  S : Int
def tm (n : Int) : Bool := decide (0 ≤ n ∧ n ≤ 1073741824)
def srt : List Int → Bool
  | x :: y :: r => decide (x ≤ y) && srt (y :: r)
  | _ => true
theorem srt_iff : ∀ l : List Int, srt l = true ↔ ∀ (i : Nat) x y, l[i]? = some x → l[i + 1]? = some y → x ≤ y
  | [] => by simp [srt]
  | [x] => by simp [srt]
  | a :: b :: r => by
    unfold srt
    rw [Bool.and_eq_true, decide_eq_true_eq, srt_iff (b :: r)]
    constructor
    · rintro ⟨h1, h2⟩ i x y hx hy
      cases i with
      | zero => simp at hx hy; omega
      | succ i => exact h2 i x y (by simpa using hx) (by simpa using hy)
    · intro h
      exact ⟨h 0 a b rfl rfl, fun i x y hx hy => h (i + 1) x y (by simpa using hx) (by simpa using hy)⟩
theorem srt_false {l : List Int} {i : Nat} {x y : Int} (hx : l[i]? = some x) (hy : l[i + 1]? = some y) (h : y < x) : srt l = false := by
  cases hs : srt l with
  | false => rfl
  | true => have := (srt_iff l).1 hs i x y hx hy; omega
theorem mono_of {l : List Int} (h : srt l = true) : ∀ (d i : Nat) x y, l[i]? = some x → l[i + d]? = some y → x ≤ y
  | 0, i, x, y, hx, hy => by rw [Nat.add_zero, hx] at hy; injection hy with hy; omega
  | d + 1, i, x, y, hx, hy => by
    have hlt : i + d < l.length := by have := (List.getElem?_eq_some_iff.1 hy).1; omega
    have h1 := mono_of h d i x l[i + d] hx (List.getElem?_eq_getElem hlt)
    have h2 := (srt_iff l).1 h (i + d) _ y (List.getElem?_eq_getElem hlt) hy
    omega
/-- The number of a curve's error. -/
def check (c : Cu) : Int :=
  if c.V.length < 1 ∨ 4096 < c.V.length then 6
  else if (c.V.any fun n => !tm n) || !tm c.S then 2
  else if !srt c.V then 3 else 0
structure Ok (c : Cu) : Prop where
  l0 : 1 ≤ c.V.length
  l1 : c.V.length ≤ 4096
  v : ∀ x ∈ c.V, 0 ≤ x ∧ x ≤ 1073741824
  s : 0 ≤ c.S ∧ c.S ≤ 1073741824
  m : srt c.V = true
theorem tm_iff {n : Int} : tm n = true ↔ 0 ≤ n ∧ n ≤ 1073741824 := by simp [tm]
theorem any_tm {l : List Int} : (l.any fun n => !tm n) = false ↔ ∀ x ∈ l, 0 ≤ x ∧ x ≤ 1073741824 := by
  rw [List.any_eq_false]
  constructor
  · intro h x hx
    have := h x hx
    simpa [tm] using this
  · intro h x hx
    have := h x hx
    simp [tm, this]
theorem check_ok {c : Cu} : check c = 0 ↔ Ok c := by
  unfold check
  constructor
  · intro h
    split at h
    · omega
    · split at h
      · omega
      · split at h
        · omega
        · rename_i h1 h2 h3
          simp only [Bool.or_eq_true, not_or, Bool.not_eq_true, Bool.not_eq_false'] at h2 h3
          exact ⟨by omega, by omega, any_tm.1 h2.1, tm_iff.1 (by simpa using h2.2), by simpa using h3⟩
  · intro h
    rw [if_neg (by have := h.l0; have := h.l1; omega), if_neg (by simp [any_tm.2 h.v, tm_iff.2 h.s]), if_neg (by simp [h.m])]
/-- The value at a time that is not negative. -/
def val (c : Cu) (t : Int) : Int := if t < c.V.length then c.V.getD t.toNat 0 else c.V.getD (c.V.length - 1) 0 + (t - c.V.length + 1) * c.S
theorem getD_mem {l : List Int} {k : Nat} (h : k < l.length) : l.getD k 0 ∈ l := by
  rw [List.getD_eq_getElem?_getD, List.getElem?_eq_getElem h]
  exact List.getElem_mem h
theorem mul_bd {x y a b : Int} (hx : 0 ≤ x ∧ x ≤ a) (hy : 0 ≤ y ∧ y ≤ b) : 0 ≤ x * y ∧ x * y ≤ a * b :=
  ⟨Int.mul_nonneg hx.1 hy.1, Int.mul_le_mul hx.2 hy.2 hy.1 (by omega)⟩
theorem Ok.lastv {c : Cu} (h : Ok c) : 0 ≤ c.V.getD (c.V.length - 1) 0 ∧ c.V.getD (c.V.length - 1) 0 ≤ 1073741824 := h.v _ (getD_mem (by have := h.l0; omega))
theorem Ok.slope_bd {c : Cu} (h : Ok c) {t : Int} (h0 : (c.V.length : Int) ≤ t) (h1 : t ≤ 1073750000) : 0 ≤ (t - c.V.length + 1) * c.S ∧ (t - c.V.length + 1) * c.S ≤ 1152930300699869184 := by
  have := mul_bd (x := t - c.V.length + 1) (a := 1073750000) (y := c.S) (b := 1073741824) (by have := h.l0; omega) h.s
  omega
theorem Ok.val_bd {c : Cu} (h : Ok c) {t : Int} (h0 : 0 ≤ t) (h1 : t ≤ 1073750000) : 0 ≤ val c t ∧ val c t ≤ 1152930301773611008 := by
  unfold val
  split
  · have := h.v _ (getD_mem (l := c.V) (k := t.toNat) (by omega)); omega
  · have := h.slope_bd (t := t) (by omega) h1
    have := h.lastv
    omega
/-- Curve.At. -/
def atT (c : Cu) (t : Int) : Int := if check c ≠ 0 ∨ t < 0 then 0 else val c (min t 1073741824)
end C55
end Go.Proofs.Ytabfhoipclbeeaa


/- curve: checks and values. -/
namespace Go.Proofs.Ytabfhoipclbeeaa
open Go.RowKit Go.Shelf C55
def IsCu (w : World) (v : Value) (c : Cu) : Prop := ∃ (a : Option Addr) (cap : Nat), v = .agg #[.slice a c.V.length cap, .int .i64 c.S] ∧ Reads (Value.int .i64) w a c.V ∧ c.V.length ≤ 9223372036854775807 ∧ c.V.length ≤ cap
theorem isCu_open {own : Nat → Prop} {w : World} {v : Value} {c : Cu} (h : Has own w (IsCu · v c)) : ∃ (a : Option Addr) (cap : Nat), v = .agg #[.slice a c.V.length cap, .int .i64 c.S] ∧ Has own w (RdF (Value.int .i64) a c.V) ∧ c.V.length ≤ 9223372036854775807 ∧ c.V.length ≤ cap := by
  obtain ⟨a, cap, e, _, h1, h2⟩ := h.get
  refine ⟨a, cap, e, h.imp ?_, h1, h2⟩
  intro w ⟨b, d, e2, r, _⟩
  rw [e] at e2
  simp only [Value.agg.injEq, Array.mk.injEq, List.cons.injEq, Value.slice.injEq, true_and, and_true] at e2
  obtain ⟨rfl, rfl⟩ := e2
  exact r
theorem isCu_mk {own : Nat → Prop} {w : World} {c : Cu} {a : Option Addr} {cap : Nat} (h : Has own w (RdF (Value.int .i64) a c.V)) (h1 : c.V.length ≤ 9223372036854775807) (h2 : c.V.length ≤ cap) : Has own w (IsCu · (.agg #[.slice a c.V.length cap, .int .i64 c.S]) c) :=
  h.imp fun w k => ⟨a, cap, rfl, k, h1, h2⟩
theorem time_c (n : Int) (w : World) : Calls Try.prog 118 ⟨[.int .i64 n]⟩ w (Ret w fun v _ => v = .bool (tm n)) := by
  have hM := Mm.start (own := fun _ => False) (w := w) (fun _ h => h.elim)
  unfold tm
  refine f_start Try.func118 rfl Try.ntmps118 rfl rfl ?_; intro a hF
  (repeat' (first | (with_reducible refine w_seq ?_) | (with_reducible refine c_region ?_) | (with_reducible refine s_nil ?_) | (with_reducible refine q_then_n ?_) | ((with_reducible apply s_pure hF); exact rfl; exact rfl; exact rfl; (first | exact trivial | omega | exact ⟨Int.natCast_nonneg _, Int.ofNat_lt.2 (by assumption)⟩ | decide); clear hF a; intro a hF) | (with_reducible refine w_ret ?_) | ((with_reducible apply s_skip hF); exact rfl; exact rfl; clear hF a; intro a hF) | ((fail_if_success ((with_reducible refine g_known true hF ?_ ?_); focus exact rfl)); (fail_if_success ((with_reducible refine g_known false hF ?_ ?_); focus exact rfl)); (with_reducible apply g_dec hF); exact rfl; exact rfl; all_goals (clear hF; intro hc hF); all_goals (try (exfalso; omega)))))
  all_goals (apply f_ret Try.results118 hF hM; (repeat (first | exact RL.nil | (apply RL.tmp; exact rfl) | (apply RL.cell; exact rfl; (repeat (first | exact List.mem_cons_self | refine List.mem_cons_of_mem _ ?_)); exact rfl))); refine Ret.mk hM.since ?_; dsimp only [resV])
  all_goals simp [*]
theorem check1_c (n : Int) (w : World) : Calls Try.prog 121 ⟨[.int .i64 n]⟩ w (Ret w fun v _ => v = .bool (!tm n)) := by
  have hM := Mm.start (own := fun _ => False) (w := w) (fun _ h => h.elim)
  refine f_start Try.func121 rfl Try.ntmps121 rfl rfl ?_; intro a hF
  (repeat (first | (with_reducible refine w_seq ?_) | (with_reducible refine c_region ?_) | (with_reducible refine s_nil ?_) | ((with_reducible apply s_call (f := 118) hF hM); exact rfl; exact rfl; exact rfl; exact rfl; exact rfl; exact (time_c _ _); clear hF hM a; rintro v w a rfl - hM hF) | (with_reducible refine q_then_n ?_) | ((with_reducible apply s_pure hF); exact rfl; exact rfl; exact rfl; (first | exact trivial | omega | exact ⟨Int.natCast_nonneg _, Int.ofNat_lt.2 (by assumption)⟩ | decide); clear hF a; intro a hF) | (with_reducible refine w_ret ?_)))
  (apply f_ret Try.results121 hF hM; (repeat (first | exact RL.nil | (apply RL.tmp; exact rfl) | (apply RL.cell; exact rfl; (repeat (first | exact List.mem_cons_self | refine List.mem_cons_of_mem _ ?_)); exact rfl))); refine Ret.mk hM.since ?_; dsimp only [resV])
theorem isNaN_c (n : Int) (w : World) : Calls Try.prog 133 ⟨[.int .i64 n]⟩ w (Ret w fun v _ => v = .bool false) := by
  have hM := Mm.start (own := fun _ => False) (w := w) (fun _ h => h.elim)
  refine f_start Try.func133 rfl Try.ntmps133 rfl rfl ?_; intro a hF
  (repeat (first | (with_reducible refine w_seq ?_) | (with_reducible refine c_region ?_) | (with_reducible refine s_nil ?_) | (with_reducible refine q_then_n ?_) | ((with_reducible apply s_pure hF); exact rfl; exact rfl; exact rfl; (first | exact trivial | omega | exact ⟨Int.natCast_nonneg _, Int.ofNat_lt.2 (by assumption)⟩ | decide); clear hF a; intro a hF) | (with_reducible refine w_ret ?_)))
  (apply f_ret Try.results133 hF hM; (repeat (first | exact RL.nil | (apply RL.tmp; exact rfl) | (apply RL.cell; exact rfl; (repeat (first | exact List.mem_cons_self | refine List.mem_cons_of_mem _ ?_)); exact rfl))); refine Ret.mk hM.since ?_; dsimp only [resV])
  simp
theorem less_c (x y : Int) (w : World) : Calls Try.prog 130 ⟨[.int .i64 x, .int .i64 y]⟩ w (Ret w fun v _ => v = .bool (decide (x < y))) := by
  have hM := Mm.start (own := fun _ => False) (w := w) (fun _ h => h.elim)
  refine f_start Try.func130 rfl Try.ntmps130 rfl rfl ?_; intro a hF
  (repeat' (first | (with_reducible refine w_seq ?_) | (with_reducible refine c_region ?_) | (with_reducible refine s_nil ?_) | ((with_reducible apply s_call (f := 133) hF hM); exact rfl; exact rfl; exact rfl; exact rfl; exact rfl; exact (isNaN_c _ _); clear hF hM a; rintro v w a rfl - hM hF) | (with_reducible refine q_then_n ?_) | ((with_reducible apply s_pure hF); exact rfl; exact rfl; exact rfl; (first | exact trivial | omega | exact ⟨Int.natCast_nonneg _, Int.ofNat_lt.2 (by assumption)⟩ | decide); clear hF a; intro a hF) | (with_reducible refine w_ret ?_) | ((with_reducible apply s_skip hF); exact rfl; exact rfl; clear hF a; intro a hF)))
  all_goals (apply f_ret Try.results130 hF hM; (repeat (first | exact RL.nil | (apply RL.tmp; exact rfl) | (apply RL.cell; exact rfl; (repeat (first | exact List.mem_cons_self | refine List.mem_cons_of_mem _ ?_)); exact rfl))); refine Ret.mk hM.since ?_; dsimp only [resV])
  all_goals simp [*]
theorem containsTm_c (a : Option Addr) (c : Nat) (l : List Int) (w : World) (hl : l.length ≤ 9223372036854775807) (hr : Reads (Value.int .i64) w a l) :
    Calls Try.prog 116 ⟨[.slice a l.length c, .func (.func 121) #[] #[]]⟩ w (Ret w fun v _ => v = .bool (l.any fun n => !tm n)) :=
  Ret.of (containsFunc_any _ #[] (fun n => !tm n) a c l w hl hr (fun x w' _ => Ret.to (check1_c x w')) (enters_of Try.func121 (by kernel_rfl) rfl))
theorem isSorted_c (a0 : Option Addr) (c : Nat) (l : List Int) (W : World) (hl : l.length ≤ 9223372036854775807) (hr : Reads (Value.int .i64) W a0 l) :
    Calls Try.prog 122 ⟨[.slice a0 l.length c]⟩ W (Ret W fun v _ => v = .bool (srt l)) := by
  have hM := (Mm.start (own := fun _ => False) (w := W) (fun _ h => h.elim)).known (RdF.has hr (fun _ _ h => h))
  refine f_start Try.func122 rfl Try.ntmps122 rfl rfl ?_; intro a hF
  (repeat (first | (with_reducible refine w_seq ?_) | (with_reducible refine c_region ?_) | (with_reducible refine s_nil ?_) | (with_reducible refine q_then_n ?_) | ((with_reducible apply s_pure hF); exact rfl; exact rfl; exact rfl; (first | exact trivial | omega | exact ⟨Int.natCast_nonneg _, Int.ofNat_lt.2 (by assumption)⟩ | decide); clear hF a; intro a hF) | (with_reducible refine w_block ?_)))
  refine c_loop (m := l.length) (fun m a w' => ∃ (i : Int), -1 ≤ i ∧ i < l.length ∧ i ≤ m ∧ (∀ (j : Nat) x y, i ≤ j → l[j]? = some x → l[j + 1]? = some y → x ≤ y) ∧ Fr _ [] [(3, .int .i64 i), (0, .slice a0 l.length c), (2, .bool false)] a ∧ Mm (fun _ => False) W [] [] [RdF (Value.int .i64) a0 l] w') ⟨(l.length : Int) - 1, by omega, by omega, by omega, fun j x y hj hx hy => by
    have := (List.getElem?_eq_some_iff.1 hy).1
    omega, hF.sub (by repeat (first | exact Sub.nil | refine Sub.cons rfl (by first | with_reducible rfl | (refine congrArg (Value.int _) ?_; omega) | exact rfl) ?_)), hM⟩ ?_
  clear hF hM a
  rintro m a w' ⟨i, i0, i1, im, hi, hF, hM⟩
  by_cases hlt : 0 < i
  · obtain ⟨k, rfl⟩ : ∃ k : Nat, i = (k : Int) + 1 := ⟨(i - 1).toNat, by omega⟩
    obtain ⟨x, hx⟩ := get_of_lt (l := l) (i := k) (by omega)
    obtain ⟨y, hy⟩ := get_of_lt (l := l) (i := k + 1) (by omega)
    obtain ⟨ad, rfl⟩ := rd_some hM (by (repeat (first | exact List.mem_cons_self | refine List.mem_cons_of_mem _ ?_))) hx
    have hx' : l[((k : Int) + 1 - 1).toNat]? = some x := by rw [show ((k : Int) + 1 - 1).toNat = k by omega]; exact hx
    have hy' : l[((k : Int) + 1).toNat]? = some y := by rw [show ((k : Int) + 1).toNat = k + 1 by omega]; exact hy
    (repeat' (first | (with_reducible refine w_seq ?_) | (with_reducible refine c_region ?_) | (with_reducible refine s_nil ?_) | (with_reducible refine q_then_n ?_) | ((with_reducible apply s_pure hF); exact rfl; exact rfl; exact rfl; (first | exact trivial | omega | exact ⟨Int.natCast_nonneg _, Int.ofNat_lt.2 (by assumption)⟩ | decide); clear hF a; intro a hF) | (with_reducible refine w_skip ?_) | (with_reducible refine w_block ?_) | ((with_reducible apply c_true2 hF); exact rfl; (first | with_reducible rfl | (refine congrArg Value.bool ?_; focus (simp; done))))))
    refine c_draw (fun i => Nat.ble 10 i) hM ?_; clear hM; intro w hM
    (first | (refine t_pure (i := 0) hF rfl rfl rfl rfl (by kernel_rfl) hM.sm (fun _ _ _ h => h) ?_ ?_; (first | exact trivial | omega | decide); clear hF a; intro a hF))
    (first | (refine t_pure (i := 1) hF rfl rfl rfl rfl (by kernel_rfl) hM.sm (fun _ _ _ h => h) ?_ ?_; (first | exact trivial | omega | decide); clear hF a; intro a hF))
    (first | (refine t_pure (i := 2) hF rfl rfl rfl rfl (by kernel_rfl) hM.sm (fun _ _ _ h => h) ?_ ?_; (first | exact trivial | omega | decide); clear hF a; intro a hF))
    (first | (apply t_loadF (i := 3) hF rfl rfl rfl; (repeat (first | exact List.mem_cons_self | refine List.mem_cons_of_mem _ ?_)); (first | with_reducible assumption | (simp only [Int.toNat_natCast]; with_reducible assumption)); exact rfl; exact rfl; kernel_rfl; exact hM.sm; exact (fun _ _ _ h => h); clear hF a; intro a hF))
    (first | (refine t_pure (i := 4) hF rfl rfl rfl rfl (by kernel_rfl) hM.sm (fun _ _ _ h => h) ?_ ?_; (first | exact trivial | omega | decide); clear hF a; intro a hF))
    (first | (refine t_pure (i := 5) hF rfl rfl rfl rfl (by kernel_rfl) hM.sm (fun _ _ _ h => h) ?_ ?_; (first | exact trivial | omega | decide); clear hF a; intro a hF))
    (first | (refine t_pure (i := 6) hF rfl rfl rfl rfl (by kernel_rfl) hM.sm (fun _ _ _ h => h) ?_ ?_; (first | exact trivial | omega | decide); clear hF a; intro a hF))
    (first | (refine t_pure (i := 7) hF rfl rfl rfl rfl (by kernel_rfl) hM.sm (fun _ _ _ h => h) ?_ ?_; (first | exact trivial | omega | decide); clear hF a; intro a hF))
    (first | (apply t_loadF (i := 8) hF rfl rfl rfl; (repeat (first | exact List.mem_cons_self | refine List.mem_cons_of_mem _ ?_)); (first | with_reducible assumption | (simp only [Int.toNat_natCast]; with_reducible assumption)); exact rfl; exact rfl; kernel_rfl; exact hM.sm; exact (fun _ _ _ h => h); clear hF a; intro a hF))
    refine t_one (i := 9) hF rfl (by kernel_rfl) rfl ?_
    intro K hK
    (apply x_call hF hM; exact rfl; exact rfl; exact rfl; exact rfl; exact (less_c _ _ _); clear hF hM a; rintro v w a rfl - hM hF)
    refine hK _ _ (fun _ => hM.sm) ?_; clear hK
    refine t_done (by kernel_rfl) ?_
    (repeat' (first | (with_reducible refine w_seq ?_) | (with_reducible refine c_region ?_) | (with_reducible refine s_nil ?_) | (with_reducible refine q_then_n ?_) | ((with_reducible apply s_pure hF); exact rfl; exact rfl; exact rfl; (first | exact trivial | omega | exact ⟨Int.natCast_nonneg _, Int.ofNat_lt.2 (by assumption)⟩ | decide); clear hF a; intro a hF) | (with_reducible refine w_skip ?_) | (with_reducible refine w_ret ?_) | (with_reducible refine q_then_r ?_) | (with_reducible refine q_blk_n ?_) | (with_reducible refine q_blk_r ?_) | ((with_reducible apply c_dec hF); exact rfl; all_goals intro hc; all_goals (try (exfalso; omega)))))
    · (apply f_ret Try.results122 hF hM; (repeat (first | exact RL.nil | (apply RL.tmp; exact rfl) | (apply RL.cell; exact rfl; (repeat (first | exact List.mem_cons_self | refine List.mem_cons_of_mem _ ?_)); exact rfl))); refine Ret.mk hM.since ?_; dsimp only [resV])
      rw [srt_false hx hy (by omega)]
    · refine ⟨m - 1, by omega, (k : Int) + 1 - 1, by omega, by omega, by omega, ?_, hF.sub (by repeat (first | exact Sub.nil | refine Sub.cons rfl (by first | with_reducible rfl | (refine congrArg (Value.int _) ?_; omega) | exact rfl) ?_)), hM⟩
      intro j u v hj hu hv
      by_cases e : j = k
      · subst e
        rw [hx] at hu
        rw [hy] at hv
        injection hu with hu
        injection hv with hv
        omega
      · exact hi j u v (by omega) hu hv
  · (repeat' (first | (with_reducible refine w_seq ?_) | (with_reducible refine c_region ?_) | (with_reducible refine s_nil ?_) | (with_reducible refine q_then_n ?_) | ((with_reducible apply s_pure hF); exact rfl; exact rfl; exact rfl; (first | exact trivial | omega | exact ⟨Int.natCast_nonneg _, Int.ofNat_lt.2 (by assumption)⟩ | decide); clear hF a; intro a hF) | (with_reducible refine w_exit ?_) | (with_reducible refine w_ret ?_) | (with_reducible refine q_then_x ?_) | (with_reducible refine q_blk_x ?_) | ((with_reducible apply c_dec hF); exact rfl; all_goals intro hc; all_goals (try (exfalso; omega)))))
    (apply f_ret Try.results122 hF hM; (repeat (first | exact RL.nil | (apply RL.tmp; exact rfl) | (apply RL.cell; exact rfl; (repeat (first | exact List.mem_cons_self | refine List.mem_cons_of_mem _ ?_)); exact rfl))); refine Ret.mk hM.since ?_; dsimp only [resV])
    rw [(srt_iff l).2 (fun j x y hx hy => hi j x y (by omega) hx hy)]
theorem check_c (c : Cu) (v : Value) (own : Nat → Prop) (W : World) (hl : ∀ b, own b → b < W.heap.size) (hv : Has own W (IsCu · v c)) :
    Calls Try.prog 91 ⟨[v]⟩ W (Ret W fun x _ => x = .int .i64 (check c)) := by
  obtain ⟨a0, c0, rfl, hV, l1, l2⟩ := isCu_open hv
  have hM := (Mm.start hl).known hV
  have hA := fun w hr => containsTm_c a0 c0 c.V w l1 hr
  have hT := time_c c.S
  have hS := fun w hr => isSorted_c a0 c0 c.V w l1 hr
  unfold check
  generalize (c.V.any fun n => !tm n) = p at hA ⊢
  generalize tm c.S = q at hT ⊢
  generalize srt c.V = r at hS ⊢
  refine f_start Try.func91 rfl Try.ntmps91 rfl rfl ?_; intro a hF
  by_cases hb : c.V.length < 1 ∨ 4096 < c.V.length
  · rw [if_pos hb]
    (repeat' (first | (with_reducible refine w_seq ?_) | (with_reducible refine c_region ?_) | (with_reducible refine s_nil ?_) | (with_reducible refine q_then_n ?_) | ((with_reducible apply s_pure hF); exact rfl; exact rfl; exact rfl; (first | exact trivial | omega | exact ⟨Int.natCast_nonneg _, Int.ofNat_lt.2 (by assumption)⟩ | decide); clear hF a; intro a hF) | ((with_reducible apply s_load hF hM); exact rfl; exact rfl; (repeat (first | exact List.mem_cons_self | refine List.mem_cons_of_mem _ ?_)); exact rfl; exact rfl; clear hF a; intro a hF) | ((with_reducible apply s_box hF hM); exact rfl; exact rfl; exact rfl; exact rfl; clear hF hM a; intro b w a hM hF) | (with_reducible refine w_block ?_) | (with_reducible refine w_ret ?_) | (with_reducible refine q_then_r ?_) | (with_reducible refine q_blk_r ?_) | ((with_reducible apply c_true2 hF); exact rfl; (first | with_reducible rfl | (refine congrArg Value.bool ?_; focus (simp; done)))) | ((with_reducible apply s_skip hF); exact rfl; exact rfl; clear hF a; intro a hF) | ((fail_if_success ((with_reducible refine g_known true hF ?_ ?_); focus exact rfl)); (fail_if_success ((with_reducible refine g_known false hF ?_ ?_); focus exact rfl)); (with_reducible apply g_dec hF); exact rfl; exact rfl; all_goals (clear hF; intro hc hF); all_goals (try (exfalso; omega))) | ((with_reducible apply c_dec hF); exact rfl; all_goals intro hc; all_goals (try (exfalso; omega)))))
    all_goals (apply f_ret Try.results91 hF hM; (repeat (first | exact RL.nil | (apply RL.tmp; exact rfl) | (apply RL.cell; exact rfl; (repeat (first | exact List.mem_cons_self | refine List.mem_cons_of_mem _ ?_)); exact rfl))); refine Ret.mk hM.since ?_; dsimp only [resV])
  · rw [if_neg hb]
    (repeat' (first | (with_reducible refine w_seq ?_) | (with_reducible refine c_region ?_) | (with_reducible refine s_nil ?_) | ((with_reducible apply s_call (f := 116) hF hM); exact rfl; exact rfl; exact rfl; exact rfl; exact rfl; exact (hA _ (hM.fact (f := RdF (Value.int .i64) _ _) (by (repeat (first | exact List.mem_cons_self | refine List.mem_cons_of_mem _ ?_))))); clear hF hM a; rintro v w a rfl - hM hF) | ((with_reducible apply s_call (f := 118) hF hM); exact rfl; exact rfl; exact rfl; exact rfl; exact rfl; exact (hT _); clear hF hM a; rintro v w a rfl - hM hF) | ((with_reducible apply s_call (f := 122) hF hM); exact rfl; exact rfl; exact rfl; exact rfl; exact rfl; exact (hS _ (hM.fact (f := RdF (Value.int .i64) _ _) (by (repeat (first | exact List.mem_cons_self | refine List.mem_cons_of_mem _ ?_))))); clear hF hM a; rintro v w a rfl - hM hF) | (with_reducible refine q_then_n ?_) | ((with_reducible apply s_pure hF); exact rfl; exact rfl; exact rfl; (first | exact trivial | omega | exact ⟨Int.natCast_nonneg _, Int.ofNat_lt.2 (by assumption)⟩ | decide); clear hF a; intro a hF) | ((with_reducible apply s_load hF hM); exact rfl; exact rfl; (repeat (first | exact List.mem_cons_self | refine List.mem_cons_of_mem _ ?_)); exact rfl; exact rfl; clear hF a; intro a hF) | ((with_reducible apply s_box hF hM); exact rfl; exact rfl; exact rfl; exact rfl; clear hF hM a; intro b w a hM hF) | (with_reducible refine w_skip ?_) | (with_reducible refine w_block ?_) | (with_reducible refine w_ret ?_) | (with_reducible refine q_then_r ?_) | (with_reducible refine q_blk_n ?_) | (with_reducible refine q_blk_r ?_) | ((fail_if_success ((with_reducible refine g_known true hF ?_ ?_); focus exact rfl)); (fail_if_success ((with_reducible refine g_known false hF ?_ ?_); focus exact rfl)); (with_reducible apply g_dec hF); exact rfl; exact rfl; all_goals (clear hF; intro hc hF); all_goals (try (exfalso; omega))) | ((with_reducible apply c_dec hF); exact rfl; all_goals intro hc; all_goals (try (exfalso; omega))) | ((with_reducible apply c_nbool hF); exact rfl; all_goals intro hc) | ((with_reducible apply c_bool hF); exact rfl; all_goals intro hc)))
    all_goals (apply f_ret Try.results91 hF hM; (repeat (first | exact RL.nil | (apply RL.tmp; exact rfl) | (apply RL.cell; exact rfl; (repeat (first | exact List.mem_cons_self | refine List.mem_cons_of_mem _ ?_)); exact rfl))); refine Ret.mk hM.since ?_; dsimp only [resV])
    all_goals (clear hF hM hA hT hS; simp_all)
theorem any_hit {l : List Int} {k : Nat} {x : Int} (hx : l[k]? = some x) (h : tm x = false) : (l.any fun n => !tm n) = true := by
  rw [List.any_eq_true]
  exact ⟨x, List.mem_of_getElem? hx, by simp [h]⟩
theorem any_miss {l : List Int} (h : ∀ (j : Nat) x, l[j]? = some x → tm x = true) : (l.any fun n => !tm n) = false := by
  rw [List.any_eq_false]
  intro x hx
  obtain ⟨j, hj⟩ := List.getElem?_of_mem hx
  simp [h j x hj]
end Go.Proofs.Ytabfhoipclbeeaa


/- curve: values and crossings. -/
namespace Go.Proofs.Ytabfhoipclbeeaa
open Go.RowKit Go.Shelf C55
theorem line_c (b s u : Int) (w : World) (h1 : -4611686018427387904 ≤ b ∧ b ≤ 4611686018427387903) (h2 : -4611686018427387904 ≤ u * s ∧ u * s ≤ 4611686018427387903) : Calls Try.prog 120 ⟨[.agg #[.int .i64 b, .int .i64 s], .int .i64 u]⟩ w (Ret w fun v _ => v = .int .i64 (b + u * s)) := by
  have hM := Mm.start (own := fun _ => False) (w := w) (fun _ h => h.elim)
  refine f_start Try.func120 rfl Try.ntmps120 rfl rfl ?_; intro a hF
  (repeat (first | (with_reducible refine w_seq ?_) | (with_reducible refine c_region ?_) | (with_reducible refine s_nil ?_) | (with_reducible refine q_then_n ?_) | ((with_reducible apply s_pure hF); exact rfl; exact rfl; exact rfl; (first | exact trivial | omega | exact ⟨Int.natCast_nonneg _, Int.ofNat_lt.2 (by assumption)⟩ | decide); clear hF a; intro a hF) | ((with_reducible apply s_load hF hM); exact rfl; exact rfl; (repeat (first | exact List.mem_cons_self | refine List.mem_cons_of_mem _ ?_)); exact rfl; exact rfl; clear hF a; intro a hF) | ((with_reducible apply s_box hF hM); exact rfl; exact rfl; exact rfl; exact rfl; clear hF hM a; intro b w a hM hF) | (with_reducible refine w_ret ?_)))
  (apply f_ret Try.results120 hF hM; (repeat (first | exact RL.nil | (apply RL.tmp; exact rfl) | (apply RL.cell; exact rfl; (repeat (first | exact List.mem_cons_self | refine List.mem_cons_of_mem _ ?_)); exact rfl))); refine Ret.mk hM.since ?_; dsimp only [resV])
theorem val_lt {c : Cu} {t : Int} {x : Int} (h : t < c.V.length) (hx : c.V[t.toNat]? = some x) : val c t = x := by
  unfold val
  rw [if_pos h, List.getD_eq_getElem?_getD, hx]
  rfl
theorem val_ge {c : Cu} {t : Int} {x : Int} (h : ¬ t < c.V.length) (hx : c.V[c.V.length - 1]? = some x) : val c t = x + (t - c.V.length + 1) * c.S := by
  unfold val
  rw [if_neg h, List.getD_eq_getElem?_getD, hx]
  rfl
theorem at_c (c : Cu) (ok : Ok c) (t : Int) (h0 : 0 ≤ t) (h1 : t ≤ 1073750000) (v : Value) (own : Nat → Prop) (W : World) (hl : ∀ b, own b → b < W.heap.size) (hv : Has own W (IsCu · v c)) :
    Calls Try.prog 110 ⟨[v, .int .i64 t]⟩ W (Ret W fun x _ => x = .int .i64 (val c t)) := by
  obtain ⟨a0, c0, rfl, hV, l1, l2⟩ := isCu_open hv
  have hM := (Mm.start hl).known hV
  have k0 := ok.l0
  have k1 := ok.l1
  obtain ⟨y, hy⟩ := get_of_lt (l := c.V) (i := c.V.length - 1) (by omega)
  obtain ⟨ad, rfl⟩ := rd_some hM (by (repeat (first | exact List.mem_cons_self | refine List.mem_cons_of_mem _ ?_))) hy
  have hy' : c.V[((c.V.length : Int) - 1).toNat]? = some y := by rw [show ((c.V.length : Int) - 1).toNat = c.V.length - 1 by omega]; exact hy
  have yb := ok.v y (List.mem_of_getElem? hy)
  refine f_start Try.func110 rfl Try.ntmps110 rfl rfl ?_; intro a hF
  by_cases hlt : t < c.V.length
  · obtain ⟨x, hx⟩ := get_of_lt (l := c.V) (i := t.toNat) (by omega)
    (repeat' (first | (with_reducible refine w_seq ?_) | (with_reducible refine c_region ?_) | (with_reducible refine s_nil ?_) | (with_reducible refine q_then_n ?_) | ((with_reducible apply s_pure hF); exact rfl; exact rfl; exact rfl; (first | exact trivial | omega | exact ⟨Int.natCast_nonneg _, Int.ofNat_lt.2 (by assumption)⟩ | decide); clear hF a; intro a hF) | ((with_reducible apply s_load hF hM); exact rfl; exact rfl; (repeat (first | exact List.mem_cons_self | refine List.mem_cons_of_mem _ ?_)); exact rfl; exact rfl; clear hF a; intro a hF) | ((with_reducible apply s_loadF hF hM); exact rfl; exact rfl; (repeat (first | exact List.mem_cons_self | refine List.mem_cons_of_mem _ ?_)); exact rfl; exact rfl; (first | with_reducible assumption | (simp only [Int.toNat_natCast]; with_reducible assumption)); clear hF a; intro a hF) | ((with_reducible apply s_box hF hM); exact rfl; exact rfl; exact rfl; exact rfl; clear hF hM a; intro b w a hM hF) | (with_reducible refine w_ret ?_) | (with_reducible refine q_then_r ?_) | ((with_reducible apply c_dec hF); exact rfl; all_goals intro hc; all_goals (try (exfalso; omega)))))
    (apply f_ret Try.results110 hF hM; (repeat (first | exact RL.nil | (apply RL.tmp; exact rfl) | (apply RL.cell; exact rfl; (repeat (first | exact List.mem_cons_self | refine List.mem_cons_of_mem _ ?_)); exact rfl))); refine Ret.mk hM.since ?_; dsimp only [resV])
    rw [val_lt hlt hx]
  · have hb := ok.slope_bd (t := t) (by omega) h1
    (repeat' (first | (with_reducible refine w_seq ?_) | (with_reducible refine c_region ?_) | (with_reducible refine s_nil ?_) | (with_reducible refine q_then_n ?_) | ((with_reducible apply s_pure hF); exact rfl; exact rfl; exact rfl; (first | exact trivial | omega | exact ⟨Int.natCast_nonneg _, Int.ofNat_lt.2 (by assumption)⟩ | decide); clear hF a; intro a hF) | ((with_reducible apply s_load hF hM); exact rfl; exact rfl; (repeat (first | exact List.mem_cons_self | refine List.mem_cons_of_mem _ ?_)); exact rfl; exact rfl; clear hF a; intro a hF) | ((with_reducible apply s_box hF hM); exact rfl; exact rfl; exact rfl; exact rfl; clear hF hM a; intro b w a hM hF) | (with_reducible refine w_skip ?_) | ((with_reducible apply c_dec hF); exact rfl; all_goals intro hc; all_goals (try (exfalso; omega)))))
    refine c_draw (fun i => Nat.ble 17 i) hM ?_; clear hM; intro w hM
    (first | (refine t_pure (i := 0) hF rfl rfl rfl rfl (by kernel_rfl) hM.sm (fun _ _ _ h => h) ?_ ?_; (first | exact trivial | omega | decide); clear hF a; intro a hF))
    (first | (refine t_pure (i := 1) hF rfl rfl rfl rfl (by kernel_rfl) hM.sm (fun _ _ _ h => h) ?_ ?_; (first | exact trivial | omega | decide); clear hF a; intro a hF))
    (first | (apply t_load (i := 2) hF rfl rfl rfl; (repeat (first | exact List.mem_cons_self | refine List.mem_cons_of_mem _ ?_)); exact rfl; exact rfl; kernel_rfl; exact hM.sm; exact (fun _ _ _ h => h); clear hF a; intro a hF))
    (first | (refine t_pure (i := 3) hF rfl rfl rfl rfl (by kernel_rfl) hM.sm (fun _ _ _ h => h) ?_ ?_; (first | exact trivial | omega | decide); clear hF a; intro a hF))
    (first | (refine t_pure (i := 4) hF rfl rfl rfl rfl (by kernel_rfl) hM.sm (fun _ _ _ h => h) ?_ ?_; (first | exact trivial | omega | decide); clear hF a; intro a hF))
    (first | (refine t_pure (i := 5) hF rfl rfl rfl rfl (by kernel_rfl) hM.sm (fun _ _ _ h => h) ?_ ?_; (first | exact trivial | omega | decide); clear hF a; intro a hF))
    (first | (apply t_loadF (i := 6) hF rfl rfl rfl; (repeat (first | exact List.mem_cons_self | refine List.mem_cons_of_mem _ ?_)); (first | with_reducible assumption | (simp only [Int.toNat_natCast]; with_reducible assumption)); exact rfl; exact rfl; kernel_rfl; exact hM.sm; exact (fun _ _ _ h => h); clear hF a; intro a hF))
    (first | (refine t_pure (i := 7) hF rfl rfl rfl rfl (by kernel_rfl) hM.sm (fun _ _ _ h => h) ?_ ?_; (first | exact trivial | omega | decide); clear hF a; intro a hF))
    (first | (refine t_pure (i := 8) hF rfl rfl rfl rfl (by kernel_rfl) hM.sm (fun _ _ _ h => h) ?_ ?_; (first | exact trivial | omega | decide); clear hF a; intro a hF))
    (first | (apply t_load (i := 9) hF rfl rfl rfl; (repeat (first | exact List.mem_cons_self | refine List.mem_cons_of_mem _ ?_)); exact rfl; exact rfl; kernel_rfl; exact hM.sm; exact (fun _ _ _ h => h); clear hF a; intro a hF))
    (first | (refine t_pure (i := 10) hF rfl rfl rfl rfl (by kernel_rfl) hM.sm (fun _ _ _ h => h) ?_ ?_; (first | exact trivial | omega | decide); clear hF a; intro a hF))
    (first | (refine t_pure (i := 11) hF rfl rfl rfl rfl (by kernel_rfl) hM.sm (fun _ _ _ h => h) ?_ ?_; (first | exact trivial | omega | decide); clear hF a; intro a hF))
    (first | (refine t_pure (i := 12) hF rfl rfl rfl rfl (by kernel_rfl) hM.sm (fun _ _ _ h => h) ?_ ?_; (first | exact trivial | omega | decide); clear hF a; intro a hF))
    (first | (refine t_pure (i := 13) hF rfl rfl rfl rfl (by kernel_rfl) hM.sm (fun _ _ _ h => h) ?_ ?_; (first | exact trivial | omega | decide); clear hF a; intro a hF))
    (first | (refine t_pure (i := 14) hF rfl rfl rfl rfl (by kernel_rfl) hM.sm (fun _ _ _ h => h) ?_ ?_; (first | exact trivial | omega | decide); clear hF a; intro a hF))
    refine t_one (i := 15) hF rfl (by kernel_rfl) rfl ?_
    intro K hK
    (apply x_call hF hM; exact rfl; exact rfl; exact rfl; exact rfl; exact (line_c _ _ _ _ (by omega) (by omega)); clear hF hM a; rintro v w a rfl - hM hF)
    refine hK _ _ (fun _ => hM.sm) ?_; clear hK
    (first | (refine t_pure (i := 16) hF rfl rfl rfl rfl (by kernel_rfl) hM.sm (fun _ _ _ h => h) ?_ ?_; (first | exact trivial | omega | decide); clear hF a; intro a hF))
    refine t_done (by kernel_rfl) ?_
    (repeat (first | (with_reducible refine q_then_n ?_) | (with_reducible refine w_ret ?_)))
    (apply f_ret Try.results110 hF hM; (repeat (first | exact RL.nil | (apply RL.tmp; exact rfl) | (apply RL.cell; exact rfl; (repeat (first | exact List.mem_cons_self | refine List.mem_cons_of_mem _ ?_)); exact rfl))); refine Ret.mk hM.since ?_; dsimp only [resV])
    rw [val_ge hlt hy]
theorem At_c (c : Cu) (t : Int) (v : Value) (own : Nat → Prop) (W : World) (hl : ∀ b, own b → b < W.heap.size) (hv : Has own W (IsCu · v c)) :
    Calls Try.prog 78 ⟨[v, .int .i64 t]⟩ W (Ret W fun x _ => x = .int .i64 (atT c t)) := by
  obtain ⟨a0, c0, rfl, hV, l1, l2⟩ := isCu_open hv
  have hM := (Mm.start hl).known hv
  refine f_start Try.func78 rfl Try.ntmps78 rfl rfl ?_; intro a hF
  unfold atT
  by_cases hc : check c ≠ 0 ∨ t < 0
  · rw [if_pos hc]
    (repeat' (first | (with_reducible refine w_seq ?_) | (with_reducible refine c_region ?_) | (with_reducible refine s_nil ?_) | ((with_reducible apply s_call (f := 91) hF hM); exact rfl; exact rfl; exact rfl; exact rfl; exact rfl; exact (check_c c _ _ _ hM.lt (hM.facts (IsCu · _ c) (by (repeat (first | exact List.mem_cons_self | refine List.mem_cons_of_mem _ ?_))))); clear hF hM a; rintro v w a rfl - hM hF) | (with_reducible refine q_then_n ?_) | ((with_reducible apply s_pure hF); exact rfl; exact rfl; exact rfl; (first | exact trivial | omega | exact ⟨Int.natCast_nonneg _, Int.ofNat_lt.2 (by assumption)⟩ | decide); clear hF a; intro a hF) | ((with_reducible apply s_load hF hM); exact rfl; exact rfl; (repeat (first | exact List.mem_cons_self | refine List.mem_cons_of_mem _ ?_)); exact rfl; exact rfl; clear hF a; intro a hF) | ((with_reducible apply s_box hF hM); exact rfl; exact rfl; exact rfl; exact rfl; clear hF hM a; intro b w a hM hF) | (with_reducible refine w_ret ?_) | (with_reducible refine q_then_r ?_) | ((with_reducible apply c_true2 hF); exact rfl; (first | with_reducible rfl | (refine congrArg Value.bool ?_; focus (simp; done)))) | ((with_reducible apply s_skip hF); exact rfl; exact rfl; clear hF a; intro a hF) | ((fail_if_success ((with_reducible refine g_known true hF ?_ ?_); focus exact rfl)); (fail_if_success ((with_reducible refine g_known false hF ?_ ?_); focus exact rfl)); (with_reducible apply g_dec hF); exact rfl; exact rfl; all_goals (clear hF; intro hc hF); all_goals (try (exfalso; omega))) | ((with_reducible apply c_dec hF); exact rfl; all_goals intro hc; all_goals (try (exfalso; omega)))))
    all_goals (apply f_ret Try.results78 hF hM; (repeat (first | exact RL.nil | (apply RL.tmp; exact rfl) | (apply RL.cell; exact rfl; (repeat (first | exact List.mem_cons_self | refine List.mem_cons_of_mem _ ?_)); exact rfl))); refine Ret.mk hM.since ?_; dsimp only [resV])
  · rw [if_neg hc]
    have ok := check_ok.1 (show check c = 0 by omega)
    (repeat' (first | (with_reducible refine w_seq ?_) | (with_reducible refine c_region ?_) | (with_reducible refine s_nil ?_) | ((with_reducible apply s_call (f := 91) hF hM); exact rfl; exact rfl; exact rfl; exact rfl; exact rfl; exact (check_c c _ _ _ hM.lt (hM.facts (IsCu · _ c) (by (repeat (first | exact List.mem_cons_self | refine List.mem_cons_of_mem _ ?_))))); clear hF hM a; rintro v w a rfl - hM hF) | ((with_reducible apply s_call (f := 110) hF hM); exact rfl; exact rfl; exact rfl; exact rfl; exact rfl; exact (at_c c ok _ (by omega) (by omega) _ _ _ hM.lt (hM.facts (IsCu · _ c) (by (repeat (first | exact List.mem_cons_self | refine List.mem_cons_of_mem _ ?_))))); clear hF hM a; rintro v w a rfl - hM hF) | (with_reducible refine q_then_n ?_) | ((with_reducible apply s_pure hF); exact rfl; exact rfl; exact rfl; (first | exact trivial | omega | exact ⟨Int.natCast_nonneg _, Int.ofNat_lt.2 (by assumption)⟩ | decide); clear hF a; intro a hF) | ((with_reducible apply s_load hF hM); exact rfl; exact rfl; (repeat (first | exact List.mem_cons_self | refine List.mem_cons_of_mem _ ?_)); exact rfl; exact rfl; clear hF a; intro a hF) | ((with_reducible apply s_box hF hM); exact rfl; exact rfl; exact rfl; exact rfl; clear hF hM a; intro b w a hM hF) | (with_reducible refine w_skip ?_) | (with_reducible refine w_ret ?_) | ((fail_if_success ((with_reducible refine g_known true hF ?_ ?_); focus exact rfl)); (fail_if_success ((with_reducible refine g_known false hF ?_ ?_); focus exact rfl)); (with_reducible apply g_dec hF); exact rfl; exact rfl; all_goals (clear hF; intro hc hF); all_goals (try (exfalso; omega))) | ((with_reducible apply c_dec hF); exact rfl; all_goals intro hc; all_goals (try (exfalso; omega)))))
    (apply f_ret Try.results78 hF hM; (repeat (first | exact RL.nil | (apply RL.tmp; exact rfl) | (apply RL.cell; exact rfl; (repeat (first | exact List.mem_cons_self | refine List.mem_cons_of_mem _ ?_)); exact rfl))); refine Ret.mk hM.since ?_; dsimp only [resV])
end Go.Proofs.Ytabfhoipclbeeaa


/- Layer 55 in plain terms: windows, minima, and curves that functions make. -/
namespace Go.Proofs.Ytabfhoipclbeeaa
namespace C55
theorem sum_snoc (l : List Int) (x : Int) : (l ++ [x]).sum = l.sum + x := by simp
theorem take_snoc {l : List Int} {k : Nat} {x : Int} (h : l[k]? = some x) : l.take (k + 1) = l.take k ++ [x] := by
  rw [List.take_add_one, h]
  rfl
/-- The amount of the first ticks. -/
def up (l : List Int) (S : Int) (t : Nat) : Int := (l.take t).sum + ((t - l.length : Nat) : Int) * S
theorem up_le {l : List Int} {S : Int} {t : Nat} (h : t ≤ l.length) : up l S t = (l.take t).sum := by
  unfold up
  rw [Nat.sub_eq_zero_of_le h]
  simp
theorem up_ge {l : List Int} {S : Int} {t : Nat} (h : l.length ≤ t) : up l S t = l.sum + ((t : Int) - l.length) * S := by
  unfold up
  rw [List.take_of_length_le h, Int.ofNat_sub h]
theorem up_zero (l : List Int) (S : Int) : up l S 0 = 0 := by simp [up]
theorem up_step {l : List Int} {S : Int} {t : Nat} {x : Int} (h : l[t]? = some x) : up l S (t + 1) = up l S t + x := by
  have hlt := (List.getElem?_eq_some_iff.1 h).1
  rw [up_le hlt, up_le (Nat.le_of_lt hlt), take_snoc h, sum_snoc]
theorem up_over {l : List Int} {S : Int} {t : Nat} (h : l.length ≤ t) : up l S (t + 1) = up l S t + S := by
  rw [up_ge h, up_ge (by omega)]
  rw [show ((t + 1 : Nat) : Int) - l.length = (t - l.length) + 1 by omega, Int.add_mul]
  omega
def win (l : List Int) (S : Int) (s k : Nat) : Int := up l S (s + k) - up l S s
def bet (g : Bool) (a b : Int) : Int := if g then max a b else min a b
/-- The best of the windows that begin up to a time. -/
def bw (g : Bool) (l : List Int) (S : Int) (k : Nat) : Nat → Int
  | 0 => win l S 0 k
  | s + 1 => bet g (bw g l S k s) (win l S (s + 1) k)
def better (g : Bool) (a b : Int) : Prop := if g then a ≤ b else b ≤ a
theorem bet_better (g : Bool) (a b : Int) : better g a (bet g a b) ∧ better g b (bet g a b) ∧ (bet g a b = a ∨ bet g a b = b) := by
  cases g <;> simp only [better, bet, if_true, if_false, Bool.false_eq_true] <;> omega
theorem better_trans {g : Bool} {a b c : Int} (h : better g a b) (k : better g b c) : better g a c := by
  cases g <;> simp only [better, if_true, if_false, Bool.false_eq_true] at * <;> omega
theorem better_refl (g : Bool) (a : Int) : better g a a := by
  cases g <;> simp [better]
theorem better_anti {g : Bool} {a b : Int} (h : better g a b) (k : better g b a) : a = b := by
  cases g <;> simp only [better, if_true, if_false, Bool.false_eq_true] at * <;> omega
theorem bw_all (g : Bool) (l : List Int) (S : Int) (k : Nat) : ∀ n i, i ≤ n → better g (win l S i k) (bw g l S k n)
  | 0, i, h => by obtain rfl : i = 0 := by omega
                  exact better_refl _ _
  | n + 1, i, h => by
    have hb := bet_better g (bw g l S k n) (win l S (n + 1) k)
    rcases Nat.lt_or_ge n i with e | e
    · obtain rfl : i = n + 1 := by omega
      exact hb.2.1
    · exact better_trans (bw_all g l S k n i e) hb.1
theorem bw_one (g : Bool) (l : List Int) (S : Int) (k : Nat) : ∀ n, ∃ i, i ≤ n ∧ bw g l S k n = win l S i k
  | 0 => ⟨0, Nat.le_refl _, rfl⟩
  | n + 1 => by
    rcases (bet_better g (bw g l S k n) (win l S (n + 1) k)).2.2 with e | e
    · obtain ⟨i, h1, h2⟩ := bw_one g l S k n
      exact ⟨i, by omega, by rw [← h2]; exact e⟩
    · exact ⟨n + 1, Nat.le_refl _, e⟩
/-- What the functions return where they return an error. -/
def zc : Cu := ⟨[], 0⟩
/-- The number of a sequence's error. -/
def seqE (l : List Int) (S : Int) : Int := if 4096 ≤ l.length then 6 else if (l.any fun n => !tm n) || !tm l.sum || !tm S then 2 else 0
def ws (g : Bool) (l : List Int) (S : Int) (n : Nat) : List Int := (List.range n).map fun k => bw g l S k l.length
/-- Arrival and Service. -/
def wins (g : Bool) (l : List Int) (S : Int) : Cu × Int :=
  if seqE l S ≠ 0 then (zc, seqE l S) else if (ws g l S (l.length + 1)).any (fun x => decide (1073741824 < x)) then (zc, 2) else (⟨ws g l S (l.length + 1), S⟩, 0)
structure SOk (l : List Int) (S : Int) : Prop where
  l1 : l.length ≤ 4095
  v : ∀ x ∈ l, 0 ≤ x ∧ x ≤ 1073741824
  m : 0 ≤ l.sum ∧ l.sum ≤ 1073741824
  s : 0 ≤ S ∧ S ≤ 1073741824
theorem seq_ok {l : List Int} {S : Int} : seqE l S = 0 ↔ SOk l S := by
  unfold seqE
  constructor
  · intro h
    split at h
    · omega
    · split at h
      · omega
      · rename_i h1 h2
        simp only [Bool.or_eq_true, not_or, Bool.not_eq_true, Bool.not_eq_false'] at h2
        exact ⟨by omega, any_tm.1 h2.1.1, tm_iff.1 (by simpa using h2.1.2), tm_iff.1 (by simpa using h2.2)⟩
  · intro h
    rw [if_neg (by have := h.l1; omega), if_neg (by simp [any_tm.2 h.v, tm_iff.2 h.s, tm_iff.2 h.m])]
theorem sum_nonneg : ∀ {l : List Int}, (∀ x ∈ l, 0 ≤ x) → 0 ≤ l.sum
  | [], _ => by simp
  | x :: l, h => by
    have h1 := h x (by simp)
    have h2 := sum_nonneg (l := l) fun y hy => h y (by simp [hy])
    simp only [List.sum_cons]
    omega
theorem sum_take_le {l : List Int} (h : ∀ x ∈ l, 0 ≤ x) (t : Nat) : 0 ≤ (l.take t).sum ∧ (l.take t).sum ≤ l.sum := by
  have h1 := sum_nonneg (l := l.take t) fun x hx => h x (List.mem_of_mem_take hx)
  have h2 := sum_nonneg (l := l.drop t) fun x hx => h x (List.mem_of_mem_drop hx)
  have h3 : l.sum = (l.take t).sum + (l.drop t).sum := by rw [← List.sum_append, List.take_append_drop]
  omega
theorem SOk.up_bd {l : List Int} {S : Int} (h : SOk l S) {t : Nat} (ht : t ≤ 20000) : 0 ≤ up l S t ∧ up l S t ≤ 21474836480000 + 1073741824 := by
  unfold up
  have h1 := sum_take_le (l := l) (fun x hx => (h.v x hx).1) t
  have h2 := mul_bd (x := ((t - l.length : Nat) : Int)) (a := 20000) (y := S) (b := 1073741824) (by omega) h.s
  have h3 := h.m
  omega
theorem SOk.up_mono {l : List Int} {S : Int} (h : SOk l S) (t : Nat) : ∀ d, up l S t ≤ up l S (t + d)
  | 0 => Int.le_refl _
  | d + 1 => by
    have := h.up_mono t d
    rcases Nat.lt_or_ge (t + d) l.length with e | e
    · have h2 := up_step (S := S) (List.getElem?_eq_getElem e)
      have h3 := h.v _ (List.getElem_mem e)
      rw [← Nat.add_assoc, h2]
      omega
    · have h2 := up_over (S := S) e
      have h3 := h.s
      rw [← Nat.add_assoc, h2]
      omega
theorem SOk.win_bd {l : List Int} {S : Int} (h : SOk l S) {s k : Nat} (hs : s ≤ 10000) (hk : k ≤ 10000) : 0 ≤ win l S s k ∧ win l S s k ≤ 21474836480000 + 1073741824 := by
  unfold win
  have h1 := h.up_bd (t := s) (by omega)
  have h2 := h.up_bd (t := s + k) (by omega)
  have h3 := h.up_mono s k
  omega
theorem SOk.bw_bd {l : List Int} {S : Int} (h : SOk l S) (g : Bool) {k n : Nat} (hn : n ≤ 10000) (hk : k ≤ 10000) : 0 ≤ bw g l S k n ∧ bw g l S k n ≤ 21474836480000 + 1073741824 := by
  obtain ⟨i, h1, h2⟩ := bw_one g l S k n
  rw [h2]
  exact h.win_bd (by omega) hk
theorem ws_succ (g : Bool) (l : List Int) (S : Int) (n : Nat) : ws g l S (n + 1) = ws g l S n ++ [bw g l S n l.length] := by simp [ws, List.range_succ]
theorem ws_len (g : Bool) (l : List Int) (S : Int) (n : Nat) : (ws g l S n).length = n := by simp [ws]
/-- The curve of some values, if there are not too many or too great ones. -/
def fin (l : List Int) (S : Int) : Cu × Int :=
  if 4096 < l.length then (zc, 5) else if (l.any fun x => decide (1073741824 < x)) || decide (1073741824 < S) then (zc, 2) else (⟨l, S⟩, 0)
def tab (F : Nat → Int) (n : Nat) : List Int := (List.range n).map F
theorem tab_succ (F : Nat → Int) (n : Nat) : tab F (n + 1) = tab F n ++ [F n] := by simp [tab, List.range_succ]
theorem tab_len (F : Nat → Int) (n : Nat) : (tab F n).length = n := by simp [tab]
/-- The least of the sums of F at the first numbers, and G at the rest. -/
def lst (F G : Nat → Int) (r : Nat) : Nat → Int
  | 0 => F 0 + G r
  | s + 1 => min (lst F G r s) (F (s + 1) + G (r - (s + 1)))
/-- The value at a number of ticks. -/
def vl (c : Cu) (k : Nat) : Int := val c k
end C55
end Go.Proofs.Ytabfhoipclbeeaa


/- curve: windows. -/
namespace Go.Proofs.Ytabfhoipclbeeaa
open Go.RowKit Go.Shelf C55
def sms (l : List Int) (n : Nat) : List Int := tab (fun i => (l.take i).sum) n
theorem tab_get {F : Nat → Int} {n k : Nat} (h : k < n) : (tab F n)[k]? = some (F k) := by simp [tab, h]
theorem isCu_mkn {own : Nat → Prop} {w : World} {c : Cu} {n : Nat} {a : Option Addr} {cap : Nat} (h : Has own w (RdF (Value.int .i64) a c.V)) (hn : c.V.length = n) (h1 : n ≤ 9223372036854775807) (h2 : n ≤ cap) : Has own w (IsCu · (.agg #[.slice a n cap, .int .i64 c.S]) c) := by
  subst hn
  exact isCu_mk h h1 h2
theorem isCu_zc {own : Nat → Prop} {w : World} : Has own w (IsCu · (.agg #[.slice none 0 0, .int .i64 0]) zc) := isCu_mk (c := zc) RdF.nil (by simp [zc]) (by simp [zc])
/-- A curve and an error. -/
def CvR (own : Nat → Prop) (r : Cu × Int) (v : Value) (w : World) : Prop := ∃ cv, v = .tuple #[cv, .int .i64 r.2] ∧ Has own w (IsCu · cv r.1)
theorem cvR_z {own : Nat → Prop} {w : World} {r : Cu × Int} {e : Int} (h : r = (zc, e)) : CvR own r (.tuple #[.agg #[.slice none 0 0, .int .i64 0], .int .i64 e]) w := by
  subst h
  exact ⟨_, rfl, isCu_zc⟩
theorem row_capA {α : Type} {enc : α → Value} {own : Nat → Prop} {w w0 : World} {bs : List BoxE} {L : List Ent} {Fs : List (World → Prop)} (hM : Mm own w0 bs L Fs w) {e : TypeId} {a : Option Addr} {m c : Nat} {xs : List α} (h : (⟨e, 1, .slice a m c, m, xs.map enc⟩ : Ent) ∈ L) : m ≤ c := by
  rcases (hM.mem.own.own _ h).2 with ⟨h', h2⟩ | ⟨g, cap, cur, h', _, _, h3, _⟩
  · simp only at h2
    omega
  · simp only [Value.slice.injEq] at h' h3
    omega
theorem row_someA {α : Type} {enc : α → Value} {own : Nat → Prop} {w w0 : World} {bs : List BoxE} {L : List Ent} {Fs : List (World → Prop)} (hM : Mm own w0 bs L Fs w) {e : TypeId} {a : Option Addr} {m c : Nat} {xs : List α} (h : (⟨e, 1, .slice a m c, m, xs.map enc⟩ : Ent) ∈ L) {k : Nat} {x : α} (hx : xs[k]? = some x) : ∃ ad, a = some ad := by
  obtain ⟨b, off, e1, _⟩ := own_reads (hM.mem.own.own _ h) k x hx
  exact ⟨_, e1⟩
theorem upTo_c (l : List Int) (S : Int) (ok : SOk l S) (t : Int) (tn : Nat) (ht : t = tn) (hb : tn ≤ 10000) (b8 b3 b4 : Nat) (sa a0 : Option Addr) (sc c0 : Nat) (own : Nat → Prop) (W : World) (hl : ∀ b, own b → b < W.heap.size)
    (h8 : Has own W (BxF b8 [.slice sa (l.length + 1) sc] 22)) (h3 : Has own W (BxF b3 [.slice a0 l.length c0] 22)) (h4 : Has own W (BxF b4 [.int .i64 S] 3)) (hs : Has own W (RdF (Value.int .i64) sa (sms l (l.length + 1)))) :
    Calls Try.prog 119 ⟨[.int .i64 t, .pointer (some ⟨b8, 0, none⟩), .pointer (some ⟨b3, 0, none⟩), .pointer (some ⟨b4, 0, none⟩)]⟩ W (Ret W fun v _ => v = .int .i64 (up l S tn)) := by
  subst ht
  have hM := ((((Mm.start hl).known h8).known h3).known h4).known hs
  have k1 := ok.l1
  have k2 := ok.m
  have hlen : (sms l (l.length + 1))[(l.length : Int).toNat]? = some l.sum := by
    have := tab_get (F := fun i => (l.take i).sum) (n := l.length + 1) (k := l.length) (by omega)
    simpa [sms] using this
  obtain ⟨ad, rfl⟩ := rd_some hM (by (repeat (first | exact List.mem_cons_self | refine List.mem_cons_of_mem _ ?_))) hlen
  refine f_start Try.func119 rfl Try.ntmps119 rfl rfl ?_; intro a hF
  by_cases hlt : tn < l.length + 1
  · have hx : (sms l (l.length + 1))[tn]? = some (l.take tn).sum := tab_get hlt
    (repeat' (first | (with_reducible refine w_seq ?_) | (with_reducible refine c_region ?_) | (with_reducible refine s_nil ?_) | (with_reducible refine q_then_n ?_) | ((with_reducible apply s_pure hF); exact rfl; exact rfl; exact rfl; (first | exact trivial | omega | exact ⟨Int.natCast_nonneg _, Int.ofNat_lt.2 (by assumption)⟩ | decide); clear hF a; intro a hF) | ((with_reducible apply s_loadF hF hM); exact rfl; exact rfl; (repeat (first | exact List.mem_cons_self | refine List.mem_cons_of_mem _ ?_)); exact rfl; exact rfl; (first | with_reducible assumption | (simp only [Int.toNat_natCast]; with_reducible assumption)); clear hF a; intro a hF) | ((with_reducible apply s_loadK hF hM); exact rfl; exact rfl; (repeat (first | exact List.mem_cons_self | refine List.mem_cons_of_mem _ ?_)); exact rfl; exact rfl; clear hF a; intro a hF) | (with_reducible refine w_ret ?_) | (with_reducible refine q_then_r ?_) | ((with_reducible apply c_dec hF); exact rfl; all_goals intro hc; all_goals (try (exfalso; omega)))))
    (apply f_ret Try.results119 hF hM; (repeat (first | exact RL.nil | (apply RL.tmp; exact rfl) | (apply RL.cell; exact rfl; (repeat (first | exact List.mem_cons_self | refine List.mem_cons_of_mem _ ?_)); exact rfl))); refine Ret.mk hM.since ?_; dsimp only [resV])
    rw [up_le (by omega)]
  · have hbd := mul_bd (x := (tn : Int) - l.length) (a := 10000) (y := S) (b := 1073741824) (by omega) ok.s
    (repeat' (first | (with_reducible refine w_seq ?_) | (with_reducible refine c_region ?_) | (with_reducible refine s_nil ?_) | (with_reducible refine q_then_n ?_) | ((with_reducible apply s_pure hF); exact rfl; exact rfl; exact rfl; (first | exact trivial | omega | exact ⟨Int.natCast_nonneg _, Int.ofNat_lt.2 (by assumption)⟩ | decide); clear hF a; intro a hF) | ((with_reducible apply s_loadK hF hM); exact rfl; exact rfl; (repeat (first | exact List.mem_cons_self | refine List.mem_cons_of_mem _ ?_)); exact rfl; exact rfl; clear hF a; intro a hF) | (with_reducible refine w_skip ?_) | ((with_reducible apply c_dec hF); exact rfl; all_goals intro hc; all_goals (try (exfalso; omega)))))
    refine c_draw (fun i => Nat.ble 13 i) hM ?_; clear hM; intro w hM
    (first | (apply t_loadK (i := 0) hF rfl rfl rfl; (repeat (first | exact List.mem_cons_self | refine List.mem_cons_of_mem _ ?_)); exact rfl; exact rfl; kernel_rfl; exact hM.sm; exact (fun _ _ _ h => h); clear hF a; intro a hF))
    (first | (apply t_loadK (i := 1) hF rfl rfl rfl; (repeat (first | exact List.mem_cons_self | refine List.mem_cons_of_mem _ ?_)); exact rfl; exact rfl; kernel_rfl; exact hM.sm; exact (fun _ _ _ h => h); clear hF a; intro a hF))
    (first | (refine t_pure (i := 2) hF rfl rfl rfl rfl (by kernel_rfl) hM.sm (fun _ _ _ h => h) ?_ ?_; (first | exact trivial | omega | decide); clear hF a; intro a hF))
    (first | (refine t_pure (i := 3) hF rfl rfl rfl rfl (by kernel_rfl) hM.sm (fun _ _ _ h => h) ?_ ?_; (first | exact trivial | omega | decide); clear hF a; intro a hF))
    (first | (apply t_loadF (i := 4) hF rfl rfl rfl; (repeat (first | exact List.mem_cons_self | refine List.mem_cons_of_mem _ ?_)); (first | with_reducible assumption | (simp only [Int.toNat_natCast]; with_reducible assumption)); exact rfl; exact rfl; kernel_rfl; exact hM.sm; exact (fun _ _ _ h => h); clear hF a; intro a hF))
    (first | (apply t_loadK (i := 5) hF rfl rfl rfl; (repeat (first | exact List.mem_cons_self | refine List.mem_cons_of_mem _ ?_)); exact rfl; exact rfl; kernel_rfl; exact hM.sm; exact (fun _ _ _ h => h); clear hF a; intro a hF))
    (first | (refine t_pure (i := 6) hF rfl rfl rfl rfl (by kernel_rfl) hM.sm (fun _ _ _ h => h) ?_ ?_; (first | exact trivial | omega | decide); clear hF a; intro a hF))
    (first | (refine t_pure (i := 7) hF rfl rfl rfl rfl (by kernel_rfl) hM.sm (fun _ _ _ h => h) ?_ ?_; (first | exact trivial | omega | decide); clear hF a; intro a hF))
    (first | (apply t_loadK (i := 8) hF rfl rfl rfl; (repeat (first | exact List.mem_cons_self | refine List.mem_cons_of_mem _ ?_)); exact rfl; exact rfl; kernel_rfl; exact hM.sm; exact (fun _ _ _ h => h); clear hF a; intro a hF))
    (first | (refine t_pure (i := 9) hF rfl rfl rfl rfl (by kernel_rfl) hM.sm (fun _ _ _ h => h) ?_ ?_; (first | exact trivial | omega | decide); clear hF a; intro a hF))
    (first | (refine t_pure (i := 10) hF rfl rfl rfl rfl (by kernel_rfl) hM.sm (fun _ _ _ h => h) ?_ ?_; (first | exact trivial | omega | decide); clear hF a; intro a hF))
    refine t_one (i := 11) hF rfl (by kernel_rfl) rfl ?_
    intro K hK
    (apply x_call hF hM; exact rfl; exact rfl; exact rfl; exact rfl; exact (line_c _ _ _ _ (by omega) (by omega)); clear hF hM a; rintro v w a rfl - hM hF)
    refine hK _ _ (fun _ => hM.sm) ?_; clear hK
    (first | (refine t_pure (i := 12) hF rfl rfl rfl rfl (by kernel_rfl) hM.sm (fun _ _ _ h => h) ?_ ?_; (first | exact trivial | omega | decide); clear hF a; intro a hF))
    refine t_done (by kernel_rfl) ?_
    (repeat (first | (with_reducible refine q_then_n ?_) | (with_reducible refine w_ret ?_)))
    (apply f_ret Try.results119 hF hM; (repeat (first | exact RL.nil | (apply RL.tmp; exact rfl) | (apply RL.cell; exact rfl; (repeat (first | exact List.mem_cons_self | refine List.mem_cons_of_mem _ ?_)); exact rfl))); refine Ret.mk hM.since ?_; dsimp only [resV])
    rw [up_ge (by omega)]
theorem take_bd {l : List Int} : ∀ k, k ≤ l.length → (∀ (j : Nat) x, j < k → l[j]? = some x → tm x = true) → 0 ≤ (l.take k).sum ∧ (l.take k).sum ≤ (k : Int) * 1073741824
  | 0, _, _ => by simp
  | k + 1, hk, h => by
    have ih := take_bd k (by omega) fun j x hj => h j x (by omega)
    have hx := List.getElem?_eq_getElem (l := l) (i := k) (by omega)
    have h1 := tm_iff.1 (h k _ (by omega) hx)
    rw [take_snoc hx, sum_snoc]
    omega
theorem wins_err {g : Bool} {l : List Int} {S e : Int} (h : seqE l S = e) (he : e ≠ 0) : wins g l S = (zc, e) := by
  unfold wins
  rw [h, if_pos he]
theorem seq2 {l : List Int} {S : Int} (h : ¬ 4096 ≤ l.length) (h2 : ((l.any fun n => !tm n) || !tm l.sum || !tm S) = true) : seqE l S = 2 := by
  unfold seqE
  rw [if_neg h, if_pos h2]
theorem wins_big {g : Bool} {l : List Int} {S : Int} (ok : SOk l S) {k : Nat} (hk : k < l.length + 1) (h : 1073741824 < bw g l S k l.length) : wins g l S = (zc, 2) := by
  unfold wins
  rw [if_neg (by rw [seq_ok.2 ok]; decide), if_pos]
  rw [List.any_eq_true]
  exact ⟨bw g l S k l.length, List.mem_map.2 ⟨k, List.mem_range.2 hk, rfl⟩, by simpa using h⟩
theorem wins_ok {g : Bool} {l : List Int} {S : Int} (ok : SOk l S) (h : ∀ k, k < l.length + 1 → bw g l S k l.length ≤ 1073741824) : wins g l S = (⟨ws g l S (l.length + 1), S⟩, 0) := by
  unfold wins
  rw [if_neg (by rw [seq_ok.2 ok]; decide), if_neg]
  rw [Bool.not_eq_true, List.any_eq_false]
  intro x hx
  obtain ⟨k, hk, rfl⟩ := List.mem_map.1 hx
  have := h k (List.mem_range.1 hk)
  simp only [decide_eq_true_eq]
  omega
theorem windows_c (bt : Bool) (fb : Nat) (hfb : ∀ x y w, Calls Try.prog fb ⟨[.int .i64 x, .int .i64 y]⟩ w (Ret w fun v _ => v = .int .i64 (bet bt x y))) (hent : memB entL fb = true)
    (l : List Int) (S : Int) (a0 : Option Addr) (c0 : Nat) (own : Nat → Prop) (W : World) (hl : ∀ b, own b → b < W.heap.size) (hlen : l.length ≤ 9223372036854775807) (hv : Has own W (RdF (Value.int .i64) a0 l)) :
    Calls Try.prog 86 ⟨[.slice a0 l.length c0, .int .i64 S, .func (.func fb) #[] #[]]⟩ W (Ret W (CvR own (wins bt l S))) := by
  have hM := (Mm.start hl).known hv
  refine f_start Try.func86 rfl Try.ntmps86 rfl rfl ?_; intro a hF
  by_cases hlong : 4096 ≤ l.length
  · (repeat' (first | (with_reducible refine w_seq ?_) | (with_reducible refine c_region ?_) | (with_reducible refine s_nil ?_) | (with_reducible refine q_then_n ?_) | ((with_reducible apply s_pure hF); exact rfl; exact rfl; exact rfl; (first | exact trivial | omega | exact ⟨Int.natCast_nonneg _, Int.ofNat_lt.2 (by assumption)⟩ | decide); clear hF a; intro a hF) | ((with_reducible apply s_load hF hM); exact rfl; exact rfl; (repeat (first | exact List.mem_cons_self | refine List.mem_cons_of_mem _ ?_)); exact rfl; exact rfl; clear hF a; intro a hF) | ((with_reducible apply s_store hF hM); exact rfl; exact rfl; exact rfl; exact rfl; (repeat (first | exact Upd.z | apply Upd.s)); exact rfl; exact rfl; exact rfl; clear hM; intro w hM) | ((with_reducible apply s_alloc hF hM); exact rfl; exact rfl; exact rfl; clear hF hM a; intro b w a hM hF) | ((with_reducible apply s_box hF hM); exact rfl; exact rfl; exact rfl; exact rfl; clear hF hM a; intro b w a hM hF) | (with_reducible refine w_ret ?_) | (with_reducible refine q_then_r ?_) | ((with_reducible apply c_dec hF); exact rfl; all_goals intro hc; all_goals (try (exfalso; omega)))))
    (apply f_ret Try.results86 hF hM; (repeat (first | exact RL.nil | (apply RL.tmp; exact rfl) | (apply RL.cell; exact rfl; (repeat (first | exact List.mem_cons_self | refine List.mem_cons_of_mem _ ?_)); exact rfl))); refine Ret.mk hM.since ?_; dsimp only [resV])
    exact cvR_z (wins_err (by unfold seqE; rw [if_pos hlong]) (by decide))
  (repeat' (first | (with_reducible refine w_seq ?_) | (with_reducible refine c_region ?_) | (with_reducible refine s_nil ?_) | (with_reducible refine q_then_n ?_) | ((with_reducible apply s_pure hF); exact rfl; exact rfl; exact rfl; (first | exact trivial | omega | exact ⟨Int.natCast_nonneg _, Int.ofNat_lt.2 (by assumption)⟩ | decide); clear hF a; intro a hF) | ((with_reducible apply s_load hF hM); exact rfl; exact rfl; (repeat (first | exact List.mem_cons_self | refine List.mem_cons_of_mem _ ?_)); exact rfl; exact rfl; clear hF a; intro a hF) | ((with_reducible apply s_store hF hM); exact rfl; exact rfl; exact rfl; exact rfl; (repeat (first | exact Upd.z | apply Upd.s)); exact rfl; exact rfl; exact rfl; clear hM; intro w hM) | ((with_reducible apply s_alloc hF hM); exact rfl; exact rfl; exact rfl; clear hF hM a; intro b w a hM hF) | ((with_reducible apply s_box hF hM); exact rfl; exact rfl; exact rfl; exact rfl; clear hF hM a; intro b w a hM hF) | ((with_reducible apply s_lit hF hM); exact rfl; exact rfl; exact rfl; exact rfl; clear hF hM a; intro bl w a hM hF) | (with_reducible refine w_skip ?_) | (with_reducible refine w_block ?_) | ((with_reducible apply c_dec hF); exact rfl; all_goals intro hc; all_goals (try (exfalso; omega)))))
  rename_i b3 _ b4 _ b6 _ _ _
  replace hM := (hM.perm (List.Perm.swap _ _ _)).boxRow 1 1 rfl (by decide)
  have hs0 : (sms l (0 + 1)).map (Value.int .i64) = [Value.int .i64 0] := by simp [sms, tab]
  refine c_loop (m := l.length) (fun m a w' => ∃ (k : Nat) (sa : Option Addr) (sc : Nat), m + k = l.length ∧ (∀ (j : Nat) x, j < k → l[j]? = some x → tm x = true) ∧
    Fr _ [] [(23, .int .i64 k), (22, .int .i64 l.length), (21, .slice a0 l.length c0), (3, .pointer (some ⟨b3, 0, none⟩)), (4, .pointer (some ⟨b4, 0, none⟩)), (6, .pointer (some ⟨b6, 0, none⟩)), (8, .pointer (some ⟨b, 0, none⟩)), (7, .int .i64 0), (2, .func (.func fb) #[] #[])] a ∧
    Mm own W [⟨b, ⟨[.slice sa (k + 1) sc]⟩, 22⟩, ⟨b6, ⟨[.slice none 0 0, .int .i64 0]⟩, 24⟩, ⟨b4, ⟨[.int .i64 S]⟩, 3⟩, ⟨b3, ⟨[.slice a0 l.length c0]⟩, 22⟩] [⟨3, 1, .slice sa (k + 1) sc, k + 1, (sms l (k + 1)).map (Value.int .i64)⟩] [RdF (Value.int .i64) a0 l] w') ⟨0, _, _, by omega, fun j x h => by omega, hF.sub (by repeat (first | exact Sub.nil | refine Sub.cons rfl (by first | with_reducible rfl | (refine congrArg (Value.int _) ?_; omega) | exact rfl) ?_)), by rw [hs0]; exact hM⟩ ?_
  clear hF hM a
  rintro m a w' ⟨k, sa, sc, hk, hall, hF, hM⟩
  have hk1 : (sms l (k + 1))[(((k + 1 : Nat) : Int) - 1).toNat]? = some (l.take k).sum := by
    rw [show (((k + 1 : Nat) : Int) - 1).toNat = k by omega]
    exact tab_get (by omega)
  obtain ⟨sad, rfl⟩ := row_someA (a := sa) (enc := Value.int .i64) hM (by (repeat (first | exact List.mem_cons_self | refine List.mem_cons_of_mem _ ?_))) hk1
  by_cases hlt : k < l.length
  · obtain ⟨x, hx⟩ := get_of_lt hlt
    obtain ⟨ad, rfl⟩ := rd_some hM (by (repeat (first | exact List.mem_cons_self | refine List.mem_cons_of_mem _ ?_))) hx
    have hsb := take_bd (l := l) k (by omega) hall
    cases ht : tm x with
    | false =>
      (repeat' (first | (with_reducible refine w_seq ?_) | (with_reducible refine c_region ?_) | (with_reducible refine s_nil ?_) | ((with_reducible apply s_call (f := 118) hF hM); exact rfl; exact rfl; exact rfl; exact rfl; exact rfl; exact ((ht ▸ time_c x _ : Calls Try.prog _ _ _ (Ret _ fun v _ => v = .bool false))); clear hF hM a; rintro v w a rfl - hM hF) | (with_reducible refine q_then_n ?_) | ((with_reducible apply s_pure hF); exact rfl; exact rfl; exact rfl; (first | exact trivial | omega | exact ⟨Int.natCast_nonneg _, Int.ofNat_lt.2 (by assumption)⟩ | decide); clear hF a; intro a hF) | ((with_reducible apply s_loadF hF hM); exact rfl; exact rfl; (repeat (first | exact List.mem_cons_self | refine List.mem_cons_of_mem _ ?_)); exact rfl; exact rfl; (first | with_reducible assumption | (simp only [Int.toNat_natCast]; with_reducible assumption)); clear hF a; intro a hF) | ((with_reducible apply s_store hF hM); exact rfl; exact rfl; exact rfl; exact rfl; (repeat (first | exact Upd.z | apply Upd.s)); exact rfl; exact rfl; exact rfl; clear hM; intro w hM) | (with_reducible refine w_skip ?_) | (with_reducible refine w_block ?_) | (with_reducible refine w_ret ?_) | (with_reducible refine q_then_r ?_) | (with_reducible refine q_blk_r ?_) | ((with_reducible apply c_true2 hF); exact rfl; (first | with_reducible rfl | (refine congrArg Value.bool ?_; focus (simp; done)))) | ((with_reducible apply c_dec hF); exact rfl; all_goals intro hc; all_goals (try (exfalso; omega)))))
      (apply f_ret Try.results86 hF hM; (repeat (first | exact RL.nil | (apply RL.tmp; exact rfl) | (apply RL.cell; exact rfl; (repeat (first | exact List.mem_cons_self | refine List.mem_cons_of_mem _ ?_)); exact rfl))); refine Ret.mk hM.since ?_; dsimp only [resV])
      exact cvR_z (wins_err (seq2 hlong (by rw [any_hit hx ht]; rfl)) (by decide))
    | true =>
      (repeat' (first | (with_reducible refine w_seq ?_) | (with_reducible refine c_region ?_) | (with_reducible refine s_nil ?_) | ((with_reducible apply s_call (f := 118) hF hM); exact rfl; exact rfl; exact rfl; exact rfl; exact rfl; exact ((ht ▸ time_c x _ : Calls Try.prog _ _ _ (Ret _ fun v _ => v = .bool true))); clear hF hM a; rintro v w a rfl - hM hF) | (with_reducible refine q_then_n ?_) | ((with_reducible apply s_pure hF); exact rfl; exact rfl; exact rfl; (first | exact trivial | omega | exact ⟨Int.natCast_nonneg _, Int.ofNat_lt.2 (by assumption)⟩ | decide); clear hF a; intro a hF) | ((with_reducible apply s_loadF hF hM); exact rfl; exact rfl; (repeat (first | exact List.mem_cons_self | refine List.mem_cons_of_mem _ ?_)); exact rfl; exact rfl; (first | with_reducible assumption | (simp only [Int.toNat_natCast]; with_reducible assumption)); clear hF a; intro a hF) | (with_reducible refine w_skip ?_) | (with_reducible refine w_block ?_) | ((with_reducible apply c_false2 hF); exact rfl; (first | with_reducible rfl | (refine congrArg Value.bool ?_; focus (simp; done)))) | ((with_reducible apply c_dec hF); exact rfl; all_goals intro hc; all_goals (try (exfalso; omega)))))
      have htb := tm_iff.1 ht
      refine c_draw (fun i => Nat.ble 11 i) hM ?_; clear hM; intro w hM
      (first | (apply t_load (i := 0) hF rfl rfl rfl; (repeat (first | exact List.mem_cons_self | refine List.mem_cons_of_mem _ ?_)); exact rfl; exact rfl; kernel_rfl; exact hM.sm; exact (fun _ _ _ h => h); clear hF a; intro a hF))
      (first | (apply t_load (i := 1) hF rfl rfl rfl; (repeat (first | exact List.mem_cons_self | refine List.mem_cons_of_mem _ ?_)); exact rfl; exact rfl; kernel_rfl; exact hM.sm; exact (fun _ _ _ h => h); clear hF a; intro a hF))
      (first | (apply t_load (i := 2) hF rfl rfl rfl; (repeat (first | exact List.mem_cons_self | refine List.mem_cons_of_mem _ ?_)); exact rfl; exact rfl; kernel_rfl; exact hM.sm; exact (fun _ _ _ h => h); clear hF a; intro a hF))
      (first | (refine t_pure (i := 3) hF rfl rfl rfl rfl (by kernel_rfl) hM.sm (fun _ _ _ h => h) ?_ ?_; (first | exact trivial | omega | decide); clear hF a; intro a hF))
      (first | (refine t_pure (i := 4) hF rfl rfl rfl rfl (by kernel_rfl) hM.sm (fun _ _ _ h => h) ?_ ?_; (first | exact trivial | omega | decide); clear hF a; intro a hF))
      (first | (refine t_pure (i := 5) hF rfl rfl rfl rfl (by kernel_rfl) hM.sm (fun _ _ _ h => h) ?_ ?_; (first | exact trivial | omega | decide); clear hF a; intro a hF))
      (first | (refine t_pure (i := 7) hF rfl rfl rfl rfl (by kernel_rfl) hM.sm (fun _ _ _ h => h) ?_ ?_; (first | exact trivial | omega | decide); clear hF a; intro a hF))
      refine t_one (i := 6) hF rfl (by kernel_rfl) rfl ?_
      intro K hK
      ((apply x_loadR hF hM); exact rfl; (repeat (first | exact List.mem_cons_self | refine List.mem_cons_of_mem _ ?_)); exact rfl; exact rfl; (first | with_reducible assumption | (simp only [Int.toNat_natCast]; with_reducible assumption)); clear hF a; intro a hF)
      refine hK _ _ (fun _ => (hM.sm.sub (fun x hx => by repeat (first | exact hx | refine List.mem_cons_of_mem _ ?_)) (fun _ h => by repeat (first | exact h | refine List.mem_cons_of_mem _ ?_)))) ?_; clear hK
      (first | (refine t_pure (i := 8) hF rfl rfl rfl rfl (by kernel_rfl) (hM.sm.sub (fun x hx => by repeat (first | exact hx | refine List.mem_cons_of_mem _ ?_)) (fun _ h => by repeat (first | exact h | refine List.mem_cons_of_mem _ ?_))) (fun _ _ _ h => h) ?_ ?_; (first | exact trivial | omega | decide); clear hF a; intro a hF))
      refine t_one (i := 9) hF rfl (by kernel_rfl) rfl ?_
      intro K hK
      (refine x_lit hF hM rfl rfl rfl ?_; clear hF hM a; intro bl w a hM hF)
      refine hK _ _ (fun _ => (hM.sm.sub (fun x hx => by repeat (first | exact hx | refine List.mem_cons_of_mem _ ?_)) (fun _ h => by repeat (first | exact h | refine List.mem_cons_of_mem _ ?_)))) ?_; clear hK
      refine t_one (i := 10) hF rfl (by kernel_rfl) rfl ?_
      intro K hK
      (apply x_app hF hM rfl rfl rfl; (repeat (first | exact List.mem_cons_self | refine List.mem_cons_of_mem _ ?_)); (repeat (first | exact Kth.z | apply Kth.s)); exact rfl; exact rfl; exact rfl; exact rfl; omega; clear hF hM a; intro g cap w a hM hF; dsimp only [List.set] at hM)
      refine hK _ _ (fun _ => (hM.sm.sub (fun x hx => by repeat (first | exact hx | refine List.mem_cons_of_mem _ ?_)) (fun _ h => by repeat (first | exact h | refine List.mem_cons_of_mem _ ?_)))) ?_; clear hK
      refine t_one (i := 11) hF rfl (by kernel_rfl) rfl ?_
      intro K hK
      (apply x_store hF hM rfl rfl rfl; (repeat (first | exact Upd.z | apply Upd.s)); exact rfl; exact rfl; exact rfl; clear hF hM a; intro w a hM hF)
      refine hK _ _ (fun h => by cases h) ?_; clear hK
      refine t_done (by kernel_rfl) ?_
      (repeat (first | (with_reducible refine c_region ?_) | (with_reducible refine s_nil ?_) | (with_reducible refine q_then_n ?_) | ((with_reducible apply s_pure hF); exact rfl; exact rfl; exact rfl; (first | exact trivial | omega | exact ⟨Int.natCast_nonneg _, Int.ofNat_lt.2 (by assumption)⟩ | decide); clear hF a; intro a hF) | (with_reducible refine q_blk_n ?_)))
      refine ⟨m - 1, by omega, k + 1, some ⟨g, 0, none⟩, cap, by omega, fun j y hj hy => ?_, hF.sub (by repeat (first | exact Sub.nil | refine Sub.cons rfl (by first | with_reducible rfl | (refine congrArg (Value.int _) ?_; omega) | exact rfl) ?_)), ?_⟩
      · by_cases e : j = k
        · subst e; rw [hx] at hy; injection hy with hy; rw [← hy]; exact ht
        · exact hall j y (by omega) hy
      · have e : (sms l (k + 1 + 1)).map (Value.int .i64) = (sms l (k + 1)).map (Value.int .i64) ++ [Value.int .i64 ((l.take k).sum + x)] := by
          unfold sms
          rw [tab_succ _ (k + 1), List.map_append, take_snoc hx, sum_snoc]
          rfl
        rw [e]
        exact hM.sub (.cons _ (.refl _)) (.refl _) (fun _ h => h)
  · obtain rfl : k = l.length := by omega
    have hany := any_miss (l := l) fun j x hx => hall j x (List.getElem?_eq_some_iff.1 hx).1 hx
    have hlast : (sms l (l.length + 1))[(l.length : Int).toNat]? = some l.sum := by
      have := tab_get (F := fun i => (l.take i).sum) (n := l.length + 1) (k := l.length) (by omega)
      simpa [sms] using this
    clear hk1 hall
    have hT : ∀ n w b, tm n = b → Calls Try.prog 118 ⟨[.int .i64 n]⟩ w (Ret w fun v _ => v = .bool b) := fun n w b h => h ▸ time_c n w
    cases h1 : tm l.sum with
    | false =>
      (repeat' (first | (with_reducible refine w_seq ?_) | (with_reducible refine c_region ?_) | (with_reducible refine s_nil ?_) | ((with_reducible apply s_call (f := 118) hF hM); exact rfl; exact rfl; exact rfl; exact rfl; exact rfl; exact (hT _ _ _ (by assumption)); clear hF hM a; rintro v w a rfl - hM hF) | (with_reducible refine q_then_n ?_) | ((with_reducible apply s_pure hF); exact rfl; exact rfl; exact rfl; (first | exact trivial | omega | exact ⟨Int.natCast_nonneg _, Int.ofNat_lt.2 (by assumption)⟩ | decide); clear hF a; intro a hF) | ((with_reducible apply s_load hF hM); exact rfl; exact rfl; (repeat (first | exact List.mem_cons_self | refine List.mem_cons_of_mem _ ?_)); exact rfl; exact rfl; clear hF a; intro a hF) | ((with_reducible apply s_loadR hF hM); exact rfl; exact rfl; (repeat (first | exact List.mem_cons_self | refine List.mem_cons_of_mem _ ?_)); exact rfl; exact rfl; (first | with_reducible assumption | (simp only [Int.toNat_natCast]; with_reducible assumption)); clear hF a; intro a hF) | ((with_reducible apply s_store hF hM); exact rfl; exact rfl; exact rfl; exact rfl; (repeat (first | exact Upd.z | apply Upd.s)); exact rfl; exact rfl; exact rfl; clear hM; intro w hM) | (with_reducible refine w_exit ?_) | (with_reducible refine w_ret ?_) | (with_reducible refine q_then_x ?_) | (with_reducible refine q_then_r ?_) | (with_reducible refine q_blk_x ?_) | ((with_reducible apply c_true2 hF); exact rfl; (first | with_reducible rfl | (refine congrArg Value.bool ?_; focus (simp; done)))) | ((with_reducible apply c_false2 hF); exact rfl; (first | with_reducible rfl | (refine congrArg Value.bool ?_; focus (simp; done)))) | ((with_reducible apply s_skip hF); exact rfl; exact rfl; clear hF a; intro a hF)))
      (apply f_ret Try.results86 hF hM; (repeat (first | exact RL.nil | (apply RL.tmp; exact rfl) | (apply RL.cell; exact rfl; (repeat (first | exact List.mem_cons_self | refine List.mem_cons_of_mem _ ?_)); exact rfl))); refine Ret.mk hM.since ?_; dsimp only [resV])
      exact cvR_z (wins_err (seq2 hlong (by rw [h1]; simp)) (by decide))
    | true =>
    cases h2 : tm S with
    | false =>
      (repeat' (first | (with_reducible refine w_seq ?_) | (with_reducible refine c_region ?_) | (with_reducible refine s_nil ?_) | ((with_reducible apply s_call (f := 118) hF hM); exact rfl; exact rfl; exact rfl; exact rfl; exact rfl; exact (hT _ _ _ (by assumption)); clear hF hM a; rintro v w a rfl - hM hF) | (with_reducible refine q_then_n ?_) | ((with_reducible apply s_pure hF); exact rfl; exact rfl; exact rfl; (first | exact trivial | omega | exact ⟨Int.natCast_nonneg _, Int.ofNat_lt.2 (by assumption)⟩ | decide); clear hF a; intro a hF) | ((with_reducible apply s_load hF hM); exact rfl; exact rfl; (repeat (first | exact List.mem_cons_self | refine List.mem_cons_of_mem _ ?_)); exact rfl; exact rfl; clear hF a; intro a hF) | ((with_reducible apply s_loadR hF hM); exact rfl; exact rfl; (repeat (first | exact List.mem_cons_self | refine List.mem_cons_of_mem _ ?_)); exact rfl; exact rfl; (first | with_reducible assumption | (simp only [Int.toNat_natCast]; with_reducible assumption)); clear hF a; intro a hF) | ((with_reducible apply s_store hF hM); exact rfl; exact rfl; exact rfl; exact rfl; (repeat (first | exact Upd.z | apply Upd.s)); exact rfl; exact rfl; exact rfl; clear hM; intro w hM) | (with_reducible refine w_exit ?_) | (with_reducible refine w_ret ?_) | (with_reducible refine q_then_x ?_) | (with_reducible refine q_then_r ?_) | (with_reducible refine q_blk_x ?_) | ((with_reducible apply c_true2 hF); exact rfl; (first | with_reducible rfl | (refine congrArg Value.bool ?_; focus (simp; done)))) | ((with_reducible apply c_false2 hF); exact rfl; (first | with_reducible rfl | (refine congrArg Value.bool ?_; focus (simp; done))))))
      (apply f_ret Try.results86 hF hM; (repeat (first | exact RL.nil | (apply RL.tmp; exact rfl) | (apply RL.cell; exact rfl; (repeat (first | exact List.mem_cons_self | refine List.mem_cons_of_mem _ ?_)); exact rfl))); refine Ret.mk hM.since ?_; dsimp only [resV])
      exact cvR_z (wins_err (seq2 hlong (by rw [h2]; simp)) (by decide))
    | true =>
    have ok : SOk l S := seq_ok.1 (by unfold seqE; rw [if_neg hlong, if_neg (by simp [hany, h1, h2])])
    (repeat' (first | (with_reducible refine w_seq ?_) | (with_reducible refine c_region ?_) | (with_reducible refine s_nil ?_) | ((with_reducible apply s_call (f := 118) hF hM); exact rfl; exact rfl; exact rfl; exact rfl; exact rfl; exact (hT _ _ _ (by assumption)); clear hF hM a; rintro v w a rfl - hM hF) | (with_reducible refine q_then_n ?_) | ((with_reducible apply s_pure hF); exact rfl; exact rfl; exact rfl; (first | exact trivial | omega | exact ⟨Int.natCast_nonneg _, Int.ofNat_lt.2 (by assumption)⟩ | decide); clear hF a; intro a hF) | ((with_reducible apply s_load hF hM); exact rfl; exact rfl; (repeat (first | exact List.mem_cons_self | refine List.mem_cons_of_mem _ ?_)); exact rfl; exact rfl; clear hF a; intro a hF) | ((with_reducible apply s_loadR hF hM); exact rfl; exact rfl; (repeat (first | exact List.mem_cons_self | refine List.mem_cons_of_mem _ ?_)); exact rfl; exact rfl; (first | with_reducible assumption | (simp only [Int.toNat_natCast]; with_reducible assumption)); clear hF a; intro a hF) | ((with_reducible apply s_store hF hM); exact rfl; exact rfl; exact rfl; exact rfl; (repeat (first | exact Upd.z | apply Upd.s)); exact rfl; exact rfl; exact rfl; clear hM; intro w hM) | ((with_reducible apply s_alloc hF hM); exact rfl; exact rfl; exact rfl; clear hF hM a; intro b w a hM hF) | (with_reducible refine w_skip ?_) | (with_reducible refine w_block ?_) | (with_reducible refine w_exit ?_) | (with_reducible refine q_then_x ?_) | (with_reducible refine q_blk_x ?_) | ((with_reducible apply c_false2 hF); exact rfl; (first | with_reducible rfl | (refine congrArg Value.bool ?_; focus (simp; done))))))
    rename_i b8 _ _ _ _ _
    replace hM := hM.nilRow 3 1
    have hws0 : (ws bt l S 0).map (Value.int .i64) = [] := by simp [ws]
    have hl2 := ok.l1
    refine c_loop (m := l.length + 1) (fun m a w' => ∃ (k : Nat) (ga : Option Addr) (gc : Nat), m + k = l.length + 1 ∧ (∀ (j : Nat), j < k → bw bt l S j l.length ≤ 1073741824) ∧
      Fr _ [] [(62, .int .i64 k), (61, .int .i64 (l.length + 1)), (12, .pointer (some ⟨b, 0, none⟩)), (11, .func (.func 119) #[] #[.pointer (some ⟨b8, 0, none⟩), .pointer (some ⟨b3, 0, none⟩), .pointer (some ⟨b4, 0, none⟩)]), (3, .pointer (some ⟨b3, 0, none⟩)), (6, .pointer (some ⟨b6, 0, none⟩)), (7, .int .i64 0), (2, .func (.func fb) #[] #[])] a ∧
      Mm own W [⟨b, ⟨[.slice ga k gc, .int .i64 S]⟩, 24⟩, ⟨b8, ⟨[.slice (some sad) (l.length + 1) sc]⟩, 22⟩, ⟨b6, ⟨[.slice none 0 0, .int .i64 0]⟩, 24⟩, ⟨b4, ⟨[.int .i64 S]⟩, 3⟩, ⟨b3, ⟨[.slice a0 l.length c0]⟩, 22⟩]
        [⟨3, 1, .slice ga k gc, k, (ws bt l S k).map (Value.int .i64)⟩, ⟨3, 1, .slice (some sad) (l.length + 1) sc, l.length + 1, (sms l (l.length + 1)).map (Value.int .i64)⟩] [RdF (Value.int .i64) a0 l] w') ⟨0, none, 0, by omega, fun j h => by omega, hF.sub (by repeat (first | exact Sub.nil | refine Sub.cons rfl (by first | with_reducible rfl | (refine congrArg (Value.int _) ?_; omega) | exact rfl) ?_)), by rw [hws0]; exact hM⟩ ?_
    clear hF hM a
    rintro m a w' ⟨k, ga, gc, hk, hall, hF, hM⟩
    by_cases hlt : k < l.length + 1
    · (repeat' (first | (with_reducible refine w_seq ?_) | (with_reducible refine c_region ?_) | (with_reducible refine s_nil ?_) | ((with_reducible apply s_callc (f := 119) hF hM); exact rfl; exact rfl; exact rfl; exact rfl; exact rfl; exact rfl; exact rfl; exact (upTo_c l S ok _ k rfl (by omega) _ _ _ _ _ _ _ _ _ (fun b h => hM.lt b (.inl h)) (hM.boxFact (by (repeat (first | exact List.mem_cons_self | refine List.mem_cons_of_mem _ ?_)))) (hM.boxFact (by (repeat (first | exact List.mem_cons_self | refine List.mem_cons_of_mem _ ?_)))) (hM.boxFact (by (repeat (first | exact List.mem_cons_self | refine List.mem_cons_of_mem _ ?_)))) (hM.rowFact (by (repeat (first | exact List.mem_cons_self | refine List.mem_cons_of_mem _ ?_))))); clear hF hM a; rintro v w a rfl - hM hF) | (with_reducible refine q_then_n ?_) | ((with_reducible apply s_pure hF); exact rfl; exact rfl; exact rfl; (first | exact trivial | omega | exact ⟨Int.natCast_nonneg _, Int.ofNat_lt.2 (by assumption)⟩ | decide); clear hF a; intro a hF) | ((with_reducible apply s_load hF hM); exact rfl; exact rfl; (repeat (first | exact List.mem_cons_self | refine List.mem_cons_of_mem _ ?_)); exact rfl; exact rfl; clear hF a; intro a hF) | (with_reducible refine w_skip ?_) | (with_reducible refine w_block ?_) | ((with_reducible apply c_dec hF); exact rfl; all_goals intro hc; all_goals (try (exfalso; omega)))))
      refine c_loop (m := l.length) (fun m a w' => ∃ (s : Nat), m + s = l.length ∧
        Fr _ [] [(70, .int .i64 s), (69, .int .i64 l.length), (14, .int .i64 (bw bt l S k s)), (13, .int .i64 k), (62, .int .i64 k), (61, .int .i64 (l.length + 1)), (12, .pointer (some ⟨b, 0, none⟩)), (11, .func (.func 119) #[] #[.pointer (some ⟨b8, 0, none⟩), .pointer (some ⟨b3, 0, none⟩), .pointer (some ⟨b4, 0, none⟩)]), (3, .pointer (some ⟨b3, 0, none⟩)), (6, .pointer (some ⟨b6, 0, none⟩)), (7, .int .i64 0), (2, .func (.func fb) #[] #[])] a ∧
        Mm own W [⟨b, ⟨[.slice ga k gc, .int .i64 S]⟩, 24⟩, ⟨b8, ⟨[.slice (some sad) (l.length + 1) sc]⟩, 22⟩, ⟨b6, ⟨[.slice none 0 0, .int .i64 0]⟩, 24⟩, ⟨b4, ⟨[.int .i64 S]⟩, 3⟩, ⟨b3, ⟨[.slice a0 l.length c0]⟩, 22⟩]
        [⟨3, 1, .slice ga k gc, k, (ws bt l S k).map (Value.int .i64)⟩, ⟨3, 1, .slice (some sad) (l.length + 1) sc, l.length + 1, (sms l (l.length + 1)).map (Value.int .i64)⟩] [RdF (Value.int .i64) a0 l] w') ⟨0, by omega, hF.sub (by repeat (first | exact Sub.nil | refine Sub.cons rfl (by first | with_reducible rfl | (refine congrArg (Value.int _) ?_; omega) | ((refine congrArg (Value.int _) ?_; simp [bw, win, up_zero])) | exact rfl) ?_)), hM⟩ ?_
      clear hF hM a
      rintro mi a w' ⟨s, hs, hF, hM⟩
      by_cases hls : s < l.length
      · have u1 := ok.up_bd (t := s + 1 + k) (by omega)
        have u2 := ok.up_bd (t := s + 1) (by omega)
        (repeat' (first | (with_reducible refine w_seq ?_) | (with_reducible refine c_region ?_) | (with_reducible refine s_nil ?_) | (with_reducible refine q_then_n ?_) | ((with_reducible apply s_pure hF); exact rfl; exact rfl; exact rfl; (first | exact trivial | omega | exact ⟨Int.natCast_nonneg _, Int.ofNat_lt.2 (by assumption)⟩ | decide); clear hF a; intro a hF) | (with_reducible refine w_skip ?_) | (with_reducible refine w_block ?_) | ((with_reducible apply c_dec hF); exact rfl; all_goals intro hc; all_goals (try (exfalso; omega)))))
        (((with_reducible apply s_callc (f := 119) hF hM); exact rfl; exact rfl; exact rfl; exact rfl; exact rfl; exact rfl; exact rfl; exact (upTo_c l S ok _ (s + 1 + k) (by omega) (by omega) _ _ _ _ _ _ _ _ _ (fun b h => hM.lt b (.inl h)) (hM.boxFact (by (repeat (first | exact List.mem_cons_self | refine List.mem_cons_of_mem _ ?_)))) (hM.boxFact (by (repeat (first | exact List.mem_cons_self | refine List.mem_cons_of_mem _ ?_)))) (hM.boxFact (by (repeat (first | exact List.mem_cons_self | refine List.mem_cons_of_mem _ ?_)))) (hM.rowFact (by (repeat (first | exact List.mem_cons_self | refine List.mem_cons_of_mem _ ?_))))); clear hF hM a; rintro v w a rfl - hM hF))
        (repeat' (first | ((with_reducible apply s_pure hF); exact rfl; exact rfl; exact rfl; (first | exact trivial | omega | exact ⟨Int.natCast_nonneg _, Int.ofNat_lt.2 (by assumption)⟩ | decide); clear hF a; intro a hF)))
        (((with_reducible apply s_callc (f := 119) hF hM); exact rfl; exact rfl; exact rfl; exact rfl; exact rfl; exact rfl; exact rfl; exact (upTo_c l S ok _ (s + 1) (by omega) (by omega) _ _ _ _ _ _ _ _ _ (fun b h => hM.lt b (.inl h)) (hM.boxFact (by (repeat (first | exact List.mem_cons_self | refine List.mem_cons_of_mem _ ?_)))) (hM.boxFact (by (repeat (first | exact List.mem_cons_self | refine List.mem_cons_of_mem _ ?_)))) (hM.boxFact (by (repeat (first | exact List.mem_cons_self | refine List.mem_cons_of_mem _ ?_)))) (hM.rowFact (by (repeat (first | exact List.mem_cons_self | refine List.mem_cons_of_mem _ ?_))))); clear hF hM a; rintro v w a rfl - hM hF))
        (repeat' (first | (with_reducible refine c_region ?_) | (with_reducible refine s_nil ?_) | ((with_reducible apply s_call (f := fb) hF hM); exact rfl; exact rfl; exact rfl; (with_reducible assumption); exact rfl; exact (hfb _ _ _); clear hF hM a; rintro v w a rfl - hM hF) | (with_reducible refine q_then_n ?_) | ((with_reducible apply s_pure hF); exact rfl; exact rfl; exact rfl; (first | exact trivial | omega | exact ⟨Int.natCast_nonneg _, Int.ofNat_lt.2 (by assumption)⟩ | decide); clear hF a; intro a hF) | (with_reducible refine q_blk_n ?_)))
        exact ⟨mi - 1, by omega, s + 1, by omega, hF.sub (by repeat (first | exact Sub.nil | refine Sub.cons rfl (by first | with_reducible rfl | (refine congrArg (Value.int _) ?_; omega) | exact rfl) ?_)), hM⟩
      · obtain rfl : s = l.length := by omega
        have hbb := ok.bw_bd bt (k := k) (n := l.length) (by omega) (by omega)
        (repeat' (first | (with_reducible refine w_seq ?_) | (with_reducible refine c_region ?_) | (with_reducible refine s_nil ?_) | (with_reducible refine q_then_n ?_) | ((with_reducible apply s_pure hF); exact rfl; exact rfl; exact rfl; (first | exact trivial | omega | exact ⟨Int.natCast_nonneg _, Int.ofNat_lt.2 (by assumption)⟩ | decide); clear hF a; intro a hF) | ((with_reducible apply s_load hF hM); exact rfl; exact rfl; (repeat (first | exact List.mem_cons_self | refine List.mem_cons_of_mem _ ?_)); exact rfl; exact rfl; clear hF a; intro a hF) | ((with_reducible apply s_store hF hM); exact rfl; exact rfl; exact rfl; exact rfl; (repeat (first | exact Upd.z | apply Upd.s)); exact rfl; exact rfl; exact rfl; clear hM; intro w hM) | ((with_reducible apply s_lit hF hM); exact rfl; exact rfl; exact rfl; exact rfl; clear hF hM a; intro bl w a hM hF) | ((with_reducible apply s_app hF hM); exact rfl; exact rfl; exact rfl; exact rfl; (repeat (first | exact Kth.z | apply Kth.s)); exact rfl; exact rfl; exact rfl; exact rfl; omega; clear hF hM a; intro g cap w a hM hF; dsimp only [List.set] at hM) | (with_reducible refine w_skip ?_) | (with_reducible refine w_exit ?_) | (with_reducible refine w_ret ?_) | (with_reducible refine q_then_x ?_) | (with_reducible refine q_then_r ?_) | (with_reducible refine q_blk_n ?_) | (with_reducible refine q_blk_r ?_) | (with_reducible refine q_blk_x ?_) | ((with_reducible apply c_false2 hF); exact rfl; (first | with_reducible rfl | (refine congrArg Value.bool ?_; focus (simp; done)))) | ((with_reducible apply c_dec hF); exact rfl; all_goals intro hc; all_goals (try (exfalso; omega)))))
        · (apply f_ret Try.results86 hF hM; (repeat (first | exact RL.nil | (apply RL.tmp; exact rfl) | (apply RL.cell; exact rfl; (repeat (first | exact List.mem_cons_self | refine List.mem_cons_of_mem _ ?_)); exact rfl))); refine Ret.mk hM.since ?_; dsimp only [resV])
          exact cvR_z (wins_big ok hlt (by omega))
        · refine ⟨m - 1, by omega, k + 1, some ⟨g, 0, none⟩, cap, by omega, fun j hj => ?_, hF.sub (by repeat (first | exact Sub.nil | refine Sub.cons rfl (by first | with_reducible rfl | (refine congrArg (Value.int _) ?_; omega) | exact rfl) ?_)), ?_⟩
          · rcases Nat.lt_or_ge j k with e | e
            · exact hall j e
            · obtain rfl : j = k := by omega
              omega
          · rw [ws_succ, List.map_append]
            exact hM
    · obtain rfl : k = l.length + 1 := by omega
      (repeat' (first | (with_reducible refine w_seq ?_) | (with_reducible refine c_region ?_) | (with_reducible refine s_nil ?_) | (with_reducible refine q_then_n ?_) | ((with_reducible apply s_pure hF); exact rfl; exact rfl; exact rfl; (first | exact trivial | omega | exact ⟨Int.natCast_nonneg _, Int.ofNat_lt.2 (by assumption)⟩ | decide); clear hF a; intro a hF) | ((with_reducible apply s_load hF hM); exact rfl; exact rfl; (repeat (first | exact List.mem_cons_self | refine List.mem_cons_of_mem _ ?_)); exact rfl; exact rfl; clear hF a; intro a hF) | ((with_reducible apply s_store hF hM); exact rfl; exact rfl; exact rfl; exact rfl; (repeat (first | exact Upd.z | apply Upd.s)); exact rfl; exact rfl; exact rfl; clear hM; intro w hM) | (with_reducible refine w_exit ?_) | (with_reducible refine w_ret ?_) | (with_reducible refine q_then_x ?_) | (with_reducible refine q_blk_x ?_) | ((with_reducible apply c_false2 hF); exact rfl; (first | with_reducible rfl | (refine congrArg Value.bool ?_; focus (simp; done))))))
      (apply f_ret Try.results86 hF hM; (repeat (first | exact RL.nil | (apply RL.tmp; exact rfl) | (apply RL.cell; exact rfl; (repeat (first | exact List.mem_cons_self | refine List.mem_cons_of_mem _ ?_)); exact rfl))); refine Ret.mk hM.since ?_; dsimp only [resV])
      rw [wins_ok ok hall]
      exact ⟨_, rfl, isCu_mkn (c := ⟨ws bt l S (l.length + 1), S⟩) (hM.rowFact (by (repeat (first | exact List.mem_cons_self | refine List.mem_cons_of_mem _ ?_)))) (ws_len _ _ _ _) (by omega) (row_capA (enc := Value.int .i64) hM (by (repeat (first | exact List.mem_cons_self | refine List.mem_cons_of_mem _ ?_))))⟩
theorem arr1_c (x y : Int) (w : World) : Calls Try.prog 87 ⟨[.int .i64 x, .int .i64 y]⟩ w (Ret w fun v _ => v = .int .i64 (bet true x y)) := by
  have hM := Mm.start (own := fun _ => False) (w := w) (fun _ h => h.elim)
  refine f_start Try.func87 rfl Try.ntmps87 rfl rfl ?_; intro a hF
  (repeat (first | (with_reducible refine w_seq ?_) | (with_reducible refine c_region ?_) | (with_reducible refine s_nil ?_) | (with_reducible refine q_then_n ?_) | ((with_reducible apply s_pure hF); exact rfl; exact rfl; exact rfl; (first | exact trivial | omega | exact ⟨Int.natCast_nonneg _, Int.ofNat_lt.2 (by assumption)⟩ | decide); clear hF a; intro a hF) | (with_reducible refine w_ret ?_)))
  (apply f_ret Try.results87 hF hM; (repeat (first | exact RL.nil | (apply RL.tmp; exact rfl) | (apply RL.cell; exact rfl; (repeat (first | exact List.mem_cons_self | refine List.mem_cons_of_mem _ ?_)); exact rfl))); refine Ret.mk hM.since ?_; dsimp only [resV])
  rfl
theorem ser1_c (x y : Int) (w : World) : Calls Try.prog 88 ⟨[.int .i64 x, .int .i64 y]⟩ w (Ret w fun v _ => v = .int .i64 (bet false x y)) := by
  have hM := Mm.start (own := fun _ => False) (w := w) (fun _ h => h.elim)
  refine f_start Try.func88 rfl Try.ntmps88 rfl rfl ?_; intro a hF
  (repeat (first | (with_reducible refine w_seq ?_) | (with_reducible refine c_region ?_) | (with_reducible refine s_nil ?_) | (with_reducible refine q_then_n ?_) | ((with_reducible apply s_pure hF); exact rfl; exact rfl; exact rfl; (first | exact trivial | omega | exact ⟨Int.natCast_nonneg _, Int.ofNat_lt.2 (by assumption)⟩ | decide); clear hF a; intro a hF) | (with_reducible refine w_ret ?_)))
  (apply f_ret Try.results88 hF hM; (repeat (first | exact RL.nil | (apply RL.tmp; exact rfl) | (apply RL.cell; exact rfl; (repeat (first | exact List.mem_cons_self | refine List.mem_cons_of_mem _ ?_)); exact rfl))); refine Ret.mk hM.since ?_; dsimp only [resV])
  rfl
theorem arrival_c (l : List Int) (S : Int) (a0 : Option Addr) (c0 : Nat) (own : Nat → Prop) (W : World) (hl : ∀ b, own b → b < W.heap.size) (hlen : l.length ≤ 9223372036854775807) (hv : Has own W (RdF (Value.int .i64) a0 l)) :
    Calls Try.prog 38 ⟨[.slice a0 l.length c0, .int .i64 S]⟩ W (Ret W (CvR own (wins true l S))) := by
  have hM := (Mm.start hl).known hv
  refine f_start Try.func38 rfl Try.ntmps38 rfl rfl ?_; intro a hF
  (repeat (first | (with_reducible refine w_seq ?_) | (with_reducible refine c_region ?_) | (with_reducible refine s_nil ?_) | ((with_reducible apply s_call (f := 86) hF hM); exact rfl; exact rfl; exact rfl; exact rfl; exact rfl; exact (windows_c true _ arr1_c (by rfl) l S a0 c0 _ _ hM.lt hlen (hM.facts _ (by (repeat (first | exact List.mem_cons_self | refine List.mem_cons_of_mem _ ?_))))); clear hF hM a; rintro v w a ⟨cv, rfl, hcv⟩ - hM hF; (obtain ⟨a2, c2, rfl, -, -, -⟩ := isCu_open hcv); replace hM := hM.addFact hcv) | (with_reducible refine q_then_n ?_) | ((with_reducible apply s_pure hF); exact rfl; exact rfl; exact rfl; (first | exact trivial | omega | exact ⟨Int.natCast_nonneg _, Int.ofNat_lt.2 (by assumption)⟩ | decide); clear hF a; intro a hF) | ((with_reducible apply s_store hF hM); exact rfl; exact rfl; exact rfl; exact rfl; (repeat (first | exact Upd.z | apply Upd.s)); exact rfl; exact rfl; exact rfl; clear hM; intro w hM) | ((with_reducible apply s_alloc hF hM); exact rfl; exact rfl; exact rfl; clear hF hM a; intro b w a hM hF) | (with_reducible refine w_ret ?_)))
  (apply f_ret Try.results38 hF hM; (repeat (first | exact RL.nil | (apply RL.tmp; exact rfl) | (apply RL.cell; exact rfl; (repeat (first | exact List.mem_cons_self | refine List.mem_cons_of_mem _ ?_)); exact rfl))); refine Ret.mk hM.since ?_; dsimp only [resV])
  exact ⟨_, rfl, hM.factOut (by (repeat (first | exact List.mem_cons_self | refine List.mem_cons_of_mem _ ?_)))⟩
theorem service_c (l : List Int) (S : Int) (a0 : Option Addr) (c0 : Nat) (own : Nat → Prop) (W : World) (hl : ∀ b, own b → b < W.heap.size) (hlen : l.length ≤ 9223372036854775807) (hv : Has own W (RdF (Value.int .i64) a0 l)) :
    Calls Try.prog 39 ⟨[.slice a0 l.length c0, .int .i64 S]⟩ W (Ret W (CvR own (wins false l S))) := by
  have hM := (Mm.start hl).known hv
  refine f_start Try.func39 rfl Try.ntmps39 rfl rfl ?_; intro a hF
  (repeat (first | (with_reducible refine w_seq ?_) | (with_reducible refine c_region ?_) | (with_reducible refine s_nil ?_) | ((with_reducible apply s_call (f := 86) hF hM); exact rfl; exact rfl; exact rfl; exact rfl; exact rfl; exact (windows_c false _ ser1_c (by rfl) l S a0 c0 _ _ hM.lt hlen (hM.facts _ (by (repeat (first | exact List.mem_cons_self | refine List.mem_cons_of_mem _ ?_))))); clear hF hM a; rintro v w a ⟨cv, rfl, hcv⟩ - hM hF; (obtain ⟨a2, c2, rfl, -, -, -⟩ := isCu_open hcv); replace hM := hM.addFact hcv) | (with_reducible refine q_then_n ?_) | ((with_reducible apply s_pure hF); exact rfl; exact rfl; exact rfl; (first | exact trivial | omega | exact ⟨Int.natCast_nonneg _, Int.ofNat_lt.2 (by assumption)⟩ | decide); clear hF a; intro a hF) | ((with_reducible apply s_store hF hM); exact rfl; exact rfl; exact rfl; exact rfl; (repeat (first | exact Upd.z | apply Upd.s)); exact rfl; exact rfl; exact rfl; clear hM; intro w hM) | ((with_reducible apply s_alloc hF hM); exact rfl; exact rfl; exact rfl; clear hF hM a; intro b w a hM hF) | (with_reducible refine w_ret ?_)))
  (apply f_ret Try.results39 hF hM; (repeat (first | exact RL.nil | (apply RL.tmp; exact rfl) | (apply RL.cell; exact rfl; (repeat (first | exact List.mem_cons_self | refine List.mem_cons_of_mem _ ?_)); exact rfl))); refine Ret.mk hM.since ?_; dsimp only [resV])
  exact ⟨_, rfl, hM.factOut (by (repeat (first | exact List.mem_cons_self | refine List.mem_cons_of_mem _ ?_)))⟩
end Go.Proofs.Ytabfhoipclbeeaa


/- curve: curves that functions make; least sums; first times. -/
namespace Go.Proofs.Ytabfhoipclbeeaa
open Go.RowKit Go.Shelf C55
theorem tab_mem {F : Nat → Int} {n k : Nat} (h : k < n) : F k ∈ tab F n := List.mem_map.2 ⟨k, List.mem_range.2 h, rfl⟩
end Go.Proofs.Ytabfhoipclbeeaa


/- curve: searches and closures. -/
namespace Go.Proofs.Ytabfhoipclbeeaa
open Go.RowKit Go.Shelf C55
/-- The first place whose element is at least a value. -/
def fpos (l : List Int) (x : Int) : Nat := l.findIdx fun y => decide (x ≤ y)
theorem fpos_eq {l : List Int} {x : Int} {k : Nat} (hk : k ≤ l.length) (h1 : ∀ (j : Nat) y, j < k → l[j]? = some y → y < x) (h2 : ∀ y, l[k]? = some y → x ≤ y) : fpos l x = k := by
  unfold fpos
  rcases Nat.lt_or_ge k l.length with h | h
  · rw [List.findIdx_eq h]
    refine ⟨by simpa using h2 _ (List.getElem?_eq_getElem h), fun j hj => ?_⟩
    have := h1 j _ hj (List.getElem?_eq_getElem (by omega))
    simp
    omega
  · obtain rfl : k = l.length := by omega
    rw [List.findIdx_eq_length]
    intro y hy
    obtain ⟨j, hj⟩ := List.getElem?_of_mem hy
    have hj2 := (List.getElem?_eq_some_iff.1 hj).1
    have := h1 j y hj2 hj
    simp
    omega
theorem fpos_le (l : List Int) (x : Int) : fpos l x ≤ l.length := List.findIdx_le_length
theorem fpos_lt {l : List Int} {x : Int} {j : Nat} {y : Int} (h : j < fpos l x) (hy : l[j]? = some y) : y < x := by
  unfold fpos at h
  have hj := (List.getElem?_eq_some_iff.1 hy)
  obtain ⟨h1, h2⟩ := hj
  have := List.not_of_lt_findIdx h
  rw [h2] at this
  simpa using this
theorem fpos_ge {l : List Int} {x y : Int} (hy : l[fpos l x]? = some y) : x ≤ y := by
  obtain ⟨h1, h2⟩ := List.getElem?_eq_some_iff.1 hy
  have := List.findIdx_getElem (xs := l) (p := fun y => decide (x ≤ y)) (w := h1)
  have h3 : decide (x ≤ l[fpos l x]) = true := this
  rw [h2] at h3
  simpa using h3
theorem isNaN2_c (n : Int) (w : World) : Calls Try.prog 131 ⟨[.int .i64 n]⟩ w (Ret w fun v _ => v = .bool false) := by
  have hM := Mm.start (own := fun _ => False) (w := w) (fun _ h => h.elim)
  refine f_start Try.func131 rfl Try.ntmps131 rfl rfl ?_; intro a hF
  (repeat (first | (with_reducible refine w_seq ?_) | (with_reducible refine c_region ?_) | (with_reducible refine s_nil ?_) | (with_reducible refine q_then_n ?_) | ((with_reducible apply s_pure hF); exact rfl; exact rfl; exact rfl; (first | exact trivial | omega | exact ⟨Int.natCast_nonneg _, Int.ofNat_lt.2 (by assumption)⟩ | decide); clear hF a; intro a hF) | (with_reducible refine w_ret ?_)))
  (apply f_ret Try.results131 hF hM; (repeat (first | exact RL.nil | (apply RL.tmp; exact rfl) | (apply RL.cell; exact rfl; (repeat (first | exact List.mem_cons_self | refine List.mem_cons_of_mem _ ?_)); exact rfl))); refine Ret.mk hM.since ?_; dsimp only [resV])
  simp
theorem binarySearch_c (l : List Int) (x : Int) (hsr : srt l = true) (a0 : Option Addr) (c0 : Nat) (own : Nat → Prop) (W : World) (hl : ∀ b, own b → b < W.heap.size) (hlen : l.length ≤ 4000000000000000000) (hv : Has own W (RdF (Value.int .i64) a0 l)) :
    Calls Try.prog 123 ⟨[.slice a0 l.length c0, .int .i64 x]⟩ W (Ret W fun v _ => ∃ b, v = .tuple #[.int .i64 (fpos l x), .bool b]) := by
  have hM := (Mm.start hl).known hv
  refine f_start Try.func123 rfl Try.ntmps123 rfl rfl ?_; intro a hF
  (repeat' (first | (with_reducible refine w_seq ?_) | (with_reducible refine c_region ?_) | (with_reducible refine s_nil ?_) | (with_reducible refine q_then_n ?_) | ((with_reducible apply s_pure hF); exact rfl; exact rfl; exact rfl; (first | exact trivial | omega | exact ⟨Int.natCast_nonneg _, Int.ofNat_lt.2 (by assumption)⟩ | decide); clear hF a; intro a hF) | (with_reducible refine w_block ?_)))
  refine c_loop (m := l.length) (fun m a w' => ∃ (lo hi : Nat), lo + m = hi ∧ hi ≤ l.length ∧ (∀ (j : Nat) y, j < lo → l[j]? = some y → y < x) ∧ (∀ (j : Nat) y, hi ≤ j → l[j]? = some y → x ≤ y) ∧
    Fr _ [] [(7, .int .i64 lo), (8, .int .i64 hi), (6, .int .i64 l.length), (0, .slice a0 l.length c0), (1, .int .i64 x)] a ∧ Mm own W [] [] [RdF (Value.int .i64) a0 l] w') ⟨0, l.length, by omega, by omega, fun j y h => by omega, fun j y h hy => by
      have := (List.getElem?_eq_some_iff.1 hy).1
      omega, hF.sub (by repeat (first | exact Sub.nil | refine Sub.cons rfl (by first | with_reducible rfl | (refine congrArg (Value.int _) ?_; omega) | exact rfl) ?_)), hM⟩ ?_
  clear hF hM a
  rintro m a w' ⟨lo, hi, hm, hh, hlo, hhi, hF, hM⟩
  by_cases hlt : lo < hi
  · obtain ⟨mid, hmid⟩ : ∃ mid : Nat, (lo + hi) / 2 = mid := ⟨_, rfl⟩
    have emid : ((lo : Int) + (hi : Int)) / 2 = (mid : Int) := by omega
    obtain ⟨y, hy⟩ := get_of_lt (l := l) (i := mid) (by omega)
    obtain ⟨ad, rfl⟩ := rd_some hM (by (repeat (first | exact List.mem_cons_self | refine List.mem_cons_of_mem _ ?_))) hy
    have hy' : l[(((lo : Int) + (hi : Int)) % 18446744073709551616 / 2).toNat]? = some y := by rw [show (((lo : Int) + (hi : Int)) % 18446744073709551616 / 2).toNat = mid by omega]; exact hy
    (repeat' (first | (with_reducible refine w_seq ?_) | (with_reducible refine c_region ?_) | (with_reducible refine s_nil ?_) | ((with_reducible apply s_call (f := 130) hF hM); exact rfl; exact rfl; exact rfl; exact rfl; exact rfl; exact (less_c _ _ _); clear hF hM a; rintro v w a rfl - hM hF) | ((with_reducible apply s_shr1 hF); exact rfl; exact rfl; exact rfl; exact rfl; clear hF a; intro a hF) | (with_reducible refine q_then_n ?_) | ((with_reducible apply s_pure hF); exact rfl; exact rfl; exact rfl; (first | exact trivial | omega | exact ⟨Int.natCast_nonneg _, Int.ofNat_lt.2 (by assumption)⟩ | decide); clear hF a; intro a hF) | ((with_reducible apply s_loadF hF hM); exact rfl; exact rfl; (repeat (first | exact List.mem_cons_self | refine List.mem_cons_of_mem _ ?_)); exact rfl; exact rfl; (first | with_reducible assumption | (simp only [Int.toNat_natCast]; with_reducible assumption)); clear hF a; intro a hF) | (with_reducible refine w_skip ?_) | (with_reducible refine w_block ?_) | (with_reducible refine q_blk_n ?_) | ((with_reducible apply c_dec hF); exact rfl; all_goals intro hc; all_goals (try (exfalso; omega)))))
    · refine ⟨hi - (mid + 1), by omega, mid + 1, hi, by omega, by omega, fun j z hj hz => ?_, hhi, hF.sub (by repeat (first | exact Sub.nil | refine Sub.cons rfl (by first | with_reducible rfl | (refine congrArg (Value.int _) ?_; omega) | exact rfl) ?_)), hM⟩
      rcases Nat.lt_or_ge j lo with e | e
      · exact hlo j z e hz
      · have := mono_of hsr (mid - j) j z y hz (by rw [show j + (mid - j) = mid by omega]; exact hy)
        omega
    · refine ⟨mid - lo, by omega, lo, mid, by omega, by omega, hlo, fun j z hj hz => ?_, hF.sub (by repeat (first | exact Sub.nil | refine Sub.cons rfl (by first | with_reducible rfl | (refine congrArg (Value.int _) ?_; omega) | exact rfl) ?_)), hM⟩
      have := mono_of hsr (j - mid) mid y z hy (by rw [show mid + (j - mid) = j by omega]; exact hz)
      omega
  · obtain rfl : lo = hi := by omega
    have hfp := fpos_eq hh hlo (fun y hy => hhi lo y (by omega) hy)
    by_cases hin : lo < l.length
    · obtain ⟨y, hy⟩ := get_of_lt hin
      obtain ⟨ad, rfl⟩ := rd_some hM (by (repeat (first | exact List.mem_cons_self | refine List.mem_cons_of_mem _ ?_))) hy
      (repeat' (first | (with_reducible refine w_seq ?_) | (with_reducible refine c_region ?_) | (with_reducible refine s_nil ?_) | ((with_reducible apply s_call (f := 131) hF hM); exact rfl; exact rfl; exact rfl; exact rfl; exact rfl; exact (isNaN2_c _ _); clear hF hM a; rintro v w a rfl - hM hF) | (with_reducible refine q_then_n ?_) | ((with_reducible apply s_pure hF); exact rfl; exact rfl; exact rfl; (first | exact trivial | omega | exact ⟨Int.natCast_nonneg _, Int.ofNat_lt.2 (by assumption)⟩ | decide); clear hF a; intro a hF) | ((with_reducible apply s_loadF hF hM); exact rfl; exact rfl; (repeat (first | exact List.mem_cons_self | refine List.mem_cons_of_mem _ ?_)); exact rfl; exact rfl; (first | with_reducible assumption | (simp only [Int.toNat_natCast]; with_reducible assumption)); clear hF a; intro a hF) | (with_reducible refine w_exit ?_) | (with_reducible refine w_ret ?_) | (with_reducible refine q_then_x ?_) | (with_reducible refine q_blk_x ?_) | ((with_reducible apply c_false2 hF); exact rfl; (first | with_reducible rfl | (refine congrArg Value.bool ?_; focus (simp; done)))) | ((with_reducible apply s_skip hF); exact rfl; exact rfl; clear hF a; intro a hF) | ((fail_if_success ((with_reducible refine g_known true hF ?_ ?_); focus exact rfl)); (fail_if_success ((with_reducible refine g_known false hF ?_ ?_); focus exact rfl)); (with_reducible apply g_dec hF); exact rfl; exact rfl; all_goals (clear hF; intro hc hF); all_goals (try (exfalso; omega)))))
      all_goals (apply f_ret Try.results123 hF hM; (repeat (first | exact RL.nil | (apply RL.tmp; exact rfl) | (apply RL.cell; exact rfl; (repeat (first | exact List.mem_cons_self | refine List.mem_cons_of_mem _ ?_)); exact rfl))); refine Ret.mk hM.since ?_; dsimp only [resV])
      all_goals exact ⟨_, by rw [hfp]⟩
    · (repeat' (first | (with_reducible refine w_seq ?_) | (with_reducible refine c_region ?_) | (with_reducible refine s_nil ?_) | (with_reducible refine q_then_n ?_) | ((with_reducible apply s_pure hF); exact rfl; exact rfl; exact rfl; (first | exact trivial | omega | exact ⟨Int.natCast_nonneg _, Int.ofNat_lt.2 (by assumption)⟩ | decide); clear hF a; intro a hF) | (with_reducible refine w_exit ?_) | (with_reducible refine w_ret ?_) | (with_reducible refine q_then_x ?_) | (with_reducible refine q_blk_x ?_) | ((with_reducible apply c_false2 hF); exact rfl; (first | with_reducible rfl | (refine congrArg Value.bool ?_; focus (simp; done)))) | ((with_reducible apply s_skip hF); exact rfl; exact rfl; clear hF a; intro a hF) | ((fail_if_success ((with_reducible refine g_known true hF ?_ ?_); focus exact rfl)); (fail_if_success ((with_reducible refine g_known false hF ?_ ?_); focus exact rfl)); (with_reducible apply g_dec hF); exact rfl; exact rfl; all_goals (clear hF; intro hc hF); all_goals (try (exfalso; omega)))))
      all_goals (apply f_ret Try.results123 hF hM; (repeat (first | exact RL.nil | (apply RL.tmp; exact rfl) | (apply RL.cell; exact rfl; (repeat (first | exact List.mem_cons_self | refine List.mem_cons_of_mem _ ?_)); exact rfl))); refine Ret.mk hM.since ?_; dsimp only [resV])
      all_goals exact ⟨_, by rw [hfp]⟩
/-- The first time at which a curve has at least a value. -/
def rch (c : Cu) (x : Int) : Int := if fpos c.V x < c.V.length then fpos c.V x else c.V.length - 1 + (x - c.V.getD (c.V.length - 1) 0 + c.S - 1) / c.S
theorem rch_bd {c : Cu} (ok : Ok c) {x : Int} (hx : x ≤ 2000000000000000000) (h0 : c.S = 0 → fpos c.V x < c.V.length) : 0 ≤ rch c x ∧ rch c x ≤ 2000000001000000000 := by
  have k0 := ok.l0
  have k1 := ok.l1
  have ks := ok.s
  have kl := ok.lastv
  unfold rch
  split
  · omega
  · rename_i h
    have hS : 1 ≤ c.S := by
      by_cases e : c.S = 0
      · exact absurd (h0 e) h
      · omega
    have hlast : c.V.getD (c.V.length - 1) 0 < x := by
      obtain ⟨y, hy⟩ := get_of_lt (l := c.V) (i := c.V.length - 1) (by omega)
      have := fpos_lt (x := x) (by omega) hy
      rw [List.getD_eq_getElem?_getD, hy]
      exact this
    have h1 : 0 ≤ (x - c.V.getD (c.V.length - 1) 0 + c.S - 1) / c.S := Int.ediv_nonneg (by omega) (by omega)
    have h2 : (x - c.V.getD (c.V.length - 1) 0 + c.S - 1) / c.S ≤ 2000000000000000000 + 2 := by
      have h3 : (x - c.V.getD (c.V.length - 1) 0 + c.S - 1) / c.S ≤ x - c.V.getD (c.V.length - 1) 0 + c.S - 1 := Int.ediv_le_self _ (by omega)
      have h4 := Int.ediv_mul_le (x - c.V.getD (c.V.length - 1) 0 + c.S - 1) (b := c.S) (by omega)
      apply Int.ediv_le_of_le_mul (by omega)
      have : (2000000000000000000 + 2) * c.S ≥ 2000000000000000000 * 1 + 2 * c.S := by
        have h6 : (2000000000000000000 + 2) * c.S = 2000000000000000000 * c.S + 2 * c.S := Int.add_mul _ _ _
        have h7 : 2000000000000000000 * c.S ≥ 2000000000000000000 * 1 := Int.mul_le_mul_of_nonneg_left hS (by omega)
        omega
      omega
    omega
end Go.Proofs.Ytabfhoipclbeeaa


/- curve: Delay, Backlog. -/
namespace Go.Proofs.Ytabfhoipclbeeaa
open Go.RowKit Go.Shelf C55
def lastV (c : Cu) : Int := c.V.getD (c.V.length - 1) 0
end Go.Proofs.Ytabfhoipclbeeaa


/- Layer 55 in plain terms: values grow; delays and backlogs bound what they are to bound. -/
namespace Go.Proofs.Ytabfhoipclbeeaa
open C55
namespace C55
theorem vl_in {c : Cu} {k : Nat} (h : k < c.V.length) : c.V[k]? = some (vl c k) := by
  unfold vl val
  rw [if_pos (by omega), Int.toNat_natCast, List.getD_eq_getElem?_getD, List.getElem?_eq_getElem h]
  rfl
theorem vl_out {c : Cu} {k : Nat} (h : c.V.length ≤ k) (h0 : 1 ≤ c.V.length) : vl c k = vl c (c.V.length - 1) + ((k : Int) - c.V.length + 1) * c.S := by
  have e := vl_in (c := c) (k := c.V.length - 1) (by omega)
  have e2 : c.V.getD (c.V.length - 1) 0 = vl c (c.V.length - 1) := by rw [List.getD_eq_getElem?_getD, e]; rfl
  rw [← e2]
  unfold vl val
  rw [if_neg (by omega)]
/-- From its last value on a curve is a line. -/
theorem vl_line {c : Cu} (h0 : 1 ≤ c.V.length) {k : Nat} (h : c.V.length ≤ k + 1) (u : Nat) : vl c (k + u) = vl c k + (u : Int) * c.S := by
  rcases Nat.lt_or_ge k c.V.length with g | g
  · obtain rfl : k = c.V.length - 1 := by omega
    rcases Nat.eq_zero_or_pos u with hu | hu
    · subst hu; simp
    · rw [vl_out (k := c.V.length - 1 + u) (by omega) h0]
      congr 2
      omega
  · rw [vl_out g h0, vl_out (k := k + u) (by omega) h0]
    rw [show ((k + u : Nat) : Int) - c.V.length + 1 = ((k : Int) - c.V.length + 1) + u by omega, Int.add_mul]
    omega
theorem vl_step {c : Cu} (h : Ok c) (k : Nat) : vl c k ≤ vl c (k + 1) := by
  have h0 := h.l0
  rcases Nat.lt_or_ge (k + 1) c.V.length with g | g
  · exact (srt_iff c.V).1 h.m k _ _ (vl_in (by omega)) (vl_in g)
  · rw [vl_line h0 g 1]
    have := h.s
    omega
theorem vl_mono {c : Cu} (h : Ok c) (k : Nat) : ∀ d, vl c k ≤ vl c (k + d)
  | 0 => Int.le_refl _
  | d + 1 => Int.le_trans (vl_mono h k d) (vl_step h (k + d))
theorem vl_le {c : Cu} (h : Ok c) {k j : Nat} (hk : k ≤ j) : vl c k ≤ vl c j := by
  have := vl_mono h k (j - k)
  rwa [show k + (j - k) = j by omega] at this
theorem lastV_eq {c : Cu} (h : Ok c) : lastV c = vl c (c.V.length - 1) := by
  have h0 := h.l0
  have e := vl_in (c := c) (k := c.V.length - 1) (by omega)
  unfold lastV
  rw [List.getD_eq_getElem?_getD, e]
  rfl
theorem ceil_ge {a b : Int} (hb : 1 ≤ b) : a ≤ ((a + b - 1) / b) * b := by
  have := Int.lt_ediv_add_one_mul_self (a + b - 1) (show 0 < b by omega)
  rw [Int.add_mul] at this
  omega
theorem ceil_lt {a b t : Int} (hb : 1 ≤ b) (ht : t < (a + b - 1) / b) : t * b < a := by
  have h1 : (t + 1) * b ≤ a + b - 1 := by
    have := (Int.le_ediv_iff_mul_le (show 0 < b by omega)).1 (show t + 1 ≤ (a + b - 1) / b by omega)
    exact this
  rw [Int.add_mul] at h1
  omega
theorem rch_nat {c : Cu} (h : Ok c) {x : Int} (hz : c.S = 0 → fpos c.V x < c.V.length) : ∃ r : Nat, rch c x = r ∧ x ≤ vl c r ∧ ∀ t, t < r → vl c t < x := by
  have h0 := h.l0
  unfold rch
  by_cases hin : fpos c.V x < c.V.length
  · rw [if_pos hin]
    refine ⟨_, rfl, fpos_ge (vl_in hin), fun t ht => fpos_lt ht (vl_in (by omega))⟩
  · rw [if_neg hin]
    have hS : 1 ≤ c.S := by
      have := h.s
      by_cases e : c.S = 0
      · exact absurd (hz e) hin
      · omega
    have hfp : fpos c.V x = c.V.length := by have := fpos_le c.V x; omega
    have hl : lastV c < x := by
      rw [lastV_eq h]
      exact fpos_lt (by omega) (vl_in (by omega))
    have hle := lastV_eq h
    unfold lastV at hl hle
    have hc := ceil_ge (a := x - c.V.getD (c.V.length - 1) 0) hS
    have hc2 := fun t => ceil_lt (a := x - c.V.getD (c.V.length - 1) 0) (t := t) hS
    have hnn : 0 ≤ (x - c.V.getD (c.V.length - 1) 0 + c.S - 1) / c.S := Int.ediv_nonneg (by omega) (by omega)
    obtain ⟨q, hq⟩ : ∃ q : Nat, (x - c.V.getD (c.V.length - 1) 0 + c.S - 1) / c.S = q := ⟨((x - c.V.getD (c.V.length - 1) 0 + c.S - 1) / c.S).toNat, by omega⟩
    rw [hq] at hc hc2 ⊢
    rw [hle] at hc hc2 hl
    refine ⟨c.V.length - 1 + q, by omega, ?_, ?_⟩
    · rw [vl_line h0 (by omega) q]
      omega
    · intro t ht
      rcases Nat.lt_or_ge t (c.V.length - 1) with g | g
      · have := vl_le h (k := t) (j := c.V.length - 1) (by omega)
        omega
      · have e := vl_line h0 (k := c.V.length - 1) (by omega) (t - (c.V.length - 1))
        rw [show c.V.length - 1 + (t - (c.V.length - 1)) = t by omega] at e
        have := hc2 (t - (c.V.length - 1) : Nat) (by omega)
        omega
end C55
end Go.Proofs.Ytabfhoipclbeeaa


/- Layer 55 in plain terms: windows, queues, and the curves of minima, sums and convolutions. -/
namespace Go.Proofs.Ytabfhoipclbeeaa
open C55
namespace C55
/-! Windows -/
theorem bet_mono {g : Bool} {a b c d : Int} (h : a ≤ c) (k : b ≤ d) : bet g a b ≤ bet g c d := by
  cases g <;> simp only [bet, if_true, if_false, Bool.false_eq_true] <;> omega
theorem bet_add (g : Bool) (a b c : Int) : bet g (a + c) (b + c) = bet g a b + c := by
  cases g <;> simp only [bet, if_true, if_false, Bool.false_eq_true] <;> omega
theorem bw_step {l : List Int} {S : Int} (ok : SOk l S) (g : Bool) (k : Nat) : ∀ n, bw g l S k n ≤ bw g l S (k + 1) n
  | 0 => by
    have := ok.up_mono (0 + k) 1
    unfold bw win
    rw [show 0 + (k + 1) = 0 + k + 1 by omega]
    omega
  | n + 1 => by
    have := ok.up_mono (n + 1 + k) 1
    unfold bw
    refine bet_mono (bw_step ok g k n) ?_
    unfold win
    rw [show n + 1 + (k + 1) = n + 1 + k + 1 by omega]
    omega
theorem win_over {l : List Int} {S : Int} {s k : Nat} (h : l.length ≤ s + k) (u : Nat) : win l S s (k + u) = win l S s k + (u : Int) * S := by
  unfold win
  rw [up_ge h, up_ge (t := s + (k + u)) (by omega), show ((s + (k + u) : Nat) : Int) - l.length = (((s + k : Nat) : Int) - l.length) + u by omega, Int.add_mul]
  omega
theorem bw_over {l : List Int} {S : Int} (g : Bool) {k : Nat} (h : l.length ≤ k) (u : Nat) : ∀ n, bw g l S (k + u) n = bw g l S k n + (u : Int) * S
  | 0 => by
    unfold bw
    rw [win_over (by omega)]
  | n + 1 => by
    unfold bw
    rw [bw_over g h u n, win_over (by omega), bet_add]
theorem win_tail (l : List Int) (S : Int) (d k : Nat) : win l S (l.length + d) k = win l S l.length k := by
  unfold win
  rw [up_ge (t := l.length + d + k) (by omega), up_ge (t := l.length + d) (by omega), up_ge (t := l.length + k) (by omega), up_ge (t := l.length) (by omega)]
  rw [show ((l.length + d + k : Nat) : Int) - l.length = d + k by omega, show ((l.length + d : Nat) : Int) - l.length = d by omega, show ((l.length + k : Nat) : Int) - l.length = k by omega, Int.add_mul]
  simp
  omega
theorem bw_tail (g : Bool) (l : List Int) (S : Int) (k : Nat) : ∀ d, bw g l S k (l.length + d) = bw g l S k l.length
  | 0 => rfl
  | d + 1 => by
    rw [← Nat.add_assoc, bw, bw_tail g l S k d, Nat.add_assoc, win_tail]
    have := bw_all g l S k l.length l.length (Nat.le_refl _)
    have h2 := bet_better g (bw g l S k l.length) (win l S l.length k)
    rcases h2.2.2 with e | e
    · exact e
    · rw [e]
      exact better_anti this (e ▸ h2.1)
theorem bw_every (g : Bool) (l : List Int) (S : Int) (k s : Nat) : better g (win l S s k) (bw g l S k l.length) := by
  rw [← bw_tail g l S k s]
  exact bw_all g l S k _ _ (by omega)
/-- The curve of windows. -/
def wc (g : Bool) (l : List Int) (S : Int) : Cu := ⟨ws g l S (l.length + 1), S⟩
theorem wc_len (g : Bool) (l : List Int) (S : Int) : (wc g l S).V.length = l.length + 1 := ws_len g l S _
theorem wc_get (g : Bool) (l : List Int) (S : Int) {k : Nat} (h : k ≤ l.length) : (wc g l S).V[k]? = some (bw g l S k l.length) := by
  unfold wc ws
  simp only [List.getElem?_map]
  rw [List.getElem?_range (by omega)]
  rfl
theorem wc_vl (g : Bool) (l : List Int) (S : Int) (k : Nat) : vl (wc g l S) k = bw g l S k l.length := by
  rcases Nat.lt_or_ge k (l.length + 1) with h | h
  · have h1 := vl_in (c := wc g l S) (k := k) (by rw [wc_len]; exact h)
    rw [wc_get g l S (by omega)] at h1
    injection h1 with h1
    exact h1.symm
  · have h1 := vl_in (c := wc g l S) (k := l.length) (by rw [wc_len]; omega)
    rw [wc_get g l S (by omega)] at h1
    injection h1 with h1
    have h2 := vl_line (c := wc g l S) (by rw [wc_len]; omega) (k := l.length) (by rw [wc_len]; omega) (k - l.length)
    have h3 := bw_over (l := l) (S := S) g (k := l.length) (by omega) (k - l.length) l.length
    rw [show l.length + (k - l.length) = k by omega] at h2 h3
    rw [h2, h3, ← h1]
    rfl
theorem srt_step {l : List Int} (h : ∀ (i : Nat) x y, l[i]? = some x → l[i + 1]? = some y → x ≤ y) : srt l = true := (srt_iff l).2 h
theorem wc_ok {g : Bool} {l : List Int} {S : Int} (ok : SOk l S) (h : ∀ k, k < l.length + 1 → bw g l S k l.length ≤ 1073741824) : Ok (wc g l S) := by
  refine ⟨by rw [wc_len]; omega, by rw [wc_len]; have := ok.l1; omega, ?_, ok.s, ?_⟩
  · intro x hx
    obtain ⟨k, hk⟩ := List.getElem?_of_mem hx
    have hlt := (List.getElem?_eq_some_iff.1 hk).1
    rw [wc_len] at hlt
    rw [wc_get g l S (by omega)] at hk
    injection hk with hk
    have := h k hlt
    have := (ok.bw_bd g (k := k) (n := l.length) (by have := ok.l1; omega) (by have := ok.l1; omega)).1
    omega
  · refine srt_step fun i x y hx hy => ?_
    have h2 := (List.getElem?_eq_some_iff.1 hy).1
    rw [wc_len] at h2
    rw [wc_get g l S (by omega)] at hx hy
    injection hx with hx
    injection hy with hy
    rw [← hx, ← hy]
    exact bw_step ok g i l.length
/-- A short sequence of small amounts. -/
structure Sml (l : List Int) (S : Int) : Prop where
  n : l.length ≤ 30
  v : ∀ x ∈ l, 0 ≤ x ∧ x ≤ 1000
  s : 0 ≤ S ∧ S ≤ 1000
theorem sum_small : ∀ {l : List Int}, (∀ x ∈ l, 0 ≤ x ∧ x ≤ 1000) → 0 ≤ l.sum ∧ l.sum ≤ (l.length : Int) * 1000
  | [], _ => by simp
  | x :: l, h => by
    have h1 := h x (by simp)
    have h2 := sum_small (l := l) fun y hy => h y (by simp [hy])
    simp only [List.sum_cons, List.length_cons]
    omega
theorem Sml.ok {l : List Int} {S : Int} (h : Sml l S) : SOk l S :=
  ⟨by have := h.n; omega, fun x hx => by have := h.v x hx; omega, by have := sum_small h.v; have := h.n; omega, by have := h.s; omega⟩
theorem Sml.up {l : List Int} {S : Int} (h : Sml l S) {t : Nat} (ht : t ≤ 1000) : 0 ≤ up l S t ∧ C55.up l S t ≤ 1030000 := by
  have h1 := sum_take_le (l := l) (fun x hx => (h.v x hx).1) t
  have h2 := mul_bd (x := ((t - l.length : Nat) : Int)) (a := 1000) (y := S) (b := 1000) (by omega) h.s
  have h3 := sum_small h.v
  have h4 := h.n
  unfold C55.up
  omega
theorem Sml.win {l : List Int} {S : Int} (h : Sml l S) {s k : Nat} (hs : s ≤ 500) (hk : k ≤ 500) : 0 ≤ win l S s k ∧ C55.win l S s k ≤ 1030000 := by
  have h1 := h.up (t := s) (by omega)
  have h2 := h.up (t := s + k) (by omega)
  have h3 := h.ok.up_mono s k
  unfold C55.win
  omega
theorem Sml.bw {l : List Int} {S : Int} (h : Sml l S) (g : Bool) {k n : Nat} (hk : k ≤ 500) (hn : n ≤ 500) : 0 ≤ bw g l S k n ∧ C55.bw g l S k n ≤ 1030000 := by
  obtain ⟨i, h1, h2⟩ := bw_one g l S k n
  rw [h2]
  exact h.win (by omega) hk
theorem Sml.wcOk {l : List Int} {S : Int} (h : Sml l S) (g : Bool) : Ok (wc g l S) := wc_ok h.ok fun k hk => by
  have := (h.bw g (k := k) (n := l.length) (by have := h.n; omega) (by have := h.n; omega)).2
  omega
theorem Sml.wins {l : List Int} {S : Int} (h : Sml l S) (g : Bool) : wins g l S = (wc g l S, 0) := by
  unfold C55.wins
  rw [if_neg (by rw [seq_ok.2 h.ok]; simp), if_neg]
  · rfl
  rw [Bool.not_eq_true, List.any_eq_false]
  intro x hx
  obtain ⟨k, hk, rfl⟩ := List.mem_map.1 hx
  have hk := List.mem_range.1 hk
  have := (h.bw g (k := k) (n := l.length) (by have := h.n; omega) (by have := h.n; omega)).2
  simp only [decide_eq_true_eq]
  omega
end C55
end Go.Proofs.Ytabfhoipclbeeaa


/- Layer 55 in plain terms: minima, sums and convolutions, at every time. -/
namespace Go.Proofs.Ytabfhoipclbeeaa
open C55
namespace C55
theorem tab_at {F : Nat → Int} {n k : Nat} (h : k < n) : (tab F n)[k]? = some (F k) := by simp [tab, h]
end C55
end Go.Proofs.Ytabfhoipclbeeaa


/- Layer 57 in plain terms: certificates, and what the functions of the layer answer. -/
namespace Go.Proofs.Ytabfhoipclbeeaa
namespace K57
open C55
structure Ce where
  A : Cu
  S : Cu
  P : Int
  L : Int
  D : Int
  B : Int
def hold (sub : Bool) (w p : Int) : Bool := if sub then decide (w ≤ p) else decide (p ≤ w)
/-- What is demanded of two times. -/
def addAt (sub : Bool) (c : Cu) (s t : Nat) : Bool := hold sub (vl c (s + t)) (vl c s + vl c t)
def addB (sub : Bool) (c : Cu) : Bool := decide (c.V.getD 0 0 = 0) && (List.range c.V.length).all fun s => (List.range c.V.length).all fun t => addAt sub c (s + 1) (t + 1)
def genB (c : Cu) : Bool := ((List.range (c.V.length - 1)).all fun t => decide (vl c (t + 1) - vl c t ≤ 4096)) && decide (c.S ≤ 4096)
def numB (c : Ce) : Bool := decide (1 ≤ c.P ∧ c.P ≤ 4096 ∧ 0 ≤ c.L ∧ 0 ≤ c.D ∧ c.L ≤ 1073741824 ∧ c.D ≤ 1073741824)
/-- The ticks of a transfer never end. -/
def never (s : Cu) (x : Int) : Bool := decide (fpos s.V x = s.V.length) && decide (s.S = 0)
def most (c : Ce) : Int := vl c.A c.P.toNat
def tr (c : Ce) : Int := rch c.S (most c)
def late (c : Ce) : Bool := never c.S (most c) || decide (c.P < tr c)
def bndE (c : Ce) : Int :=
  if check c.A ≠ 0 then check c.A else if check c.S ≠ 0 then check c.S
  else if !(addB true c.A && addB false c.S) then 3
  else if !(genB c.A && genB c.S && numB c) then 2
  else if late c then 21 else 0
def bndV (c : Ce) : Int := c.P + tr c + c.L + c.D - 1
def chkE (c : Ce) : Int := if bndE c ≠ 0 then bndE c else if bndV c = c.B then 0 else 22
theorem addB_iff {sub : Bool} {c : Cu} : addB sub c = true ↔ c.V.getD 0 0 = 0 ∧ ∀ s t : Nat, 1 ≤ s → s ≤ c.V.length → 1 ≤ t → t ≤ c.V.length → addAt sub c s t = true := by
  unfold addB
  rw [Bool.and_eq_true, decide_eq_true_eq, List.all_eq_true]
  refine and_congr Iff.rfl ⟨fun h s t h1 h2 h3 h4 => ?_, fun h s hs => ?_⟩
  · have := h (s - 1) (List.mem_range.2 (by omega))
    rw [List.all_eq_true] at this
    have := this (t - 1) (List.mem_range.2 (by omega))
    rwa [Nat.sub_add_cancel h1, Nat.sub_add_cancel h3] at this
  · rw [List.all_eq_true]
    intro t ht
    exact h (s + 1) (t + 1) (by omega) (by have := List.mem_range.1 hs; omega) (by omega) (by have := List.mem_range.1 ht; omega)
theorem addB_of_bad {sub : Bool} {c : Cu} {s t : Nat} (h1 : 1 ≤ s) (h2 : s ≤ c.V.length) (h3 : 1 ≤ t) (h4 : t ≤ c.V.length) (h : addAt sub c s t = false) : addB sub c = false := by
  cases hb : addB sub c with
  | false => rfl
  | true =>
    have := (addB_iff.1 hb).2 s t h1 h2 h3 h4
    rw [h] at this
    cases this
theorem addB_of_v0 {sub : Bool} {c : Cu} (h : c.V.getD 0 0 ≠ 0) : addB sub c = false := by
  cases hb : addB sub c with
  | false => rfl
  | true => exact absurd (addB_iff.1 hb).1 h
theorem addAt_comm (sub : Bool) (c : Cu) (s t : Nat) : addAt sub c s t = addAt sub c t s := by
  unfold addAt
  rw [Nat.add_comm s t, Int.add_comm (vl c s)]
theorem genB_iff {c : Cu} : genB c = true ↔ (∀ t : Nat, t + 1 < c.V.length → vl c (t + 1) - vl c t ≤ 4096) ∧ c.S ≤ 4096 := by
  unfold genB
  rw [Bool.and_eq_true, decide_eq_true_eq, List.all_eq_true]
  refine and_congr ⟨fun h t ht => ?_, fun h t ht => ?_⟩ Iff.rfl
  · simpa using h t (List.mem_range.2 (by omega))
  · simpa using h t (by have := List.mem_range.1 ht; omega)
theorem genB_of_bad {c : Cu} {t : Nat} (ht : t + 1 < c.V.length) (h : ¬ vl c (t + 1) - vl c t ≤ 4096) : genB c = false := by
  cases hb : genB c with
  | false => rfl
  | true => exact absurd ((genB_iff.1 hb).1 t ht) h
theorem genB_of_all {c : Cu} (h : ∀ t : Nat, t + 1 < c.V.length → vl c (t + 1) - vl c t ≤ 4096) : genB c = decide (c.S ≤ 4096) := by
  rw [Bool.eq_iff_iff, genB_iff, decide_eq_true_eq]
  exact ⟨fun k => k.2, fun k => ⟨h, k⟩⟩
/-- A certificate that has a bound. -/
structure BOk (c : Ce) : Prop where
  A : Ok c.A
  S : Ok c.S
  sub : addB true c.A = true
  sup : addB false c.S = true
  gA : genB c.A = true
  gS : genB c.S = true
  num : 1 ≤ c.P ∧ c.P ≤ 4096 ∧ 0 ≤ c.L ∧ 0 ≤ c.D ∧ c.L ≤ 1073741824 ∧ c.D ≤ 1073741824
  nv : never c.S (most c) = false
  tr : tr c ≤ c.P
theorem bnd_ok {c : Ce} : bndE c = 0 ↔ BOk c := by
  unfold bndE
  constructor
  · intro h
    split at h
    · omega
    split at h
    · omega
    split at h
    · omega
    split at h
    · omega
    split at h
    · omega
    · rename_i h1 h2 h3 h4 h5
      simp only [Bool.not_eq_true', Bool.not_eq_false, Bool.and_eq_true] at h3 h4
      simp only [Bool.not_eq_true] at h5
      unfold late at h5
      rw [Bool.or_eq_false_iff, decide_eq_false_iff_not] at h5
      exact ⟨check_ok.1 (by omega), check_ok.1 (by omega), h3.1, h3.2, h4.1.1, h4.1.2, by simpa [numB] using h4.2, h5.1, by omega⟩
  · intro h
    rw [if_neg (by have := check_ok.2 h.A; omega), if_neg (by have := check_ok.2 h.S; omega), if_neg (by simp [h.sub, h.sup]), if_neg (by simp [h.gA, h.gS, numB, h.num]), if_neg]
    have := h.tr
    simp [late, h.nv]
    omega
/-- The places where a bound ends with an error. -/
theorem bndE_A {c : Ce} (h : check c.A ≠ 0) : bndE c = check c.A := by unfold bndE; rw [if_pos h]
theorem bndE_S {c : Ce} (h : check c.A = 0) (h2 : check c.S ≠ 0) : bndE c = check c.S := by unfold bndE; rw [if_neg (by omega), if_pos h2]
theorem bndE_3 {c : Ce} (h : check c.A = 0) (h2 : check c.S = 0) (h3 : (addB true c.A && addB false c.S) = false) : bndE c = 3 := by unfold bndE; rw [if_neg (by omega), if_neg (by omega), if_pos (by rw [h3]; rfl)]
theorem bndE_2 {c : Ce} (h : check c.A = 0) (h2 : check c.S = 0) (h3 : (addB true c.A && addB false c.S) = true) (h4 : (genB c.A && genB c.S && numB c) = false) : bndE c = 2 := by
  unfold bndE; rw [if_neg (by omega), if_neg (by omega), if_neg (by rw [h3]; decide), if_pos (by rw [h4]; rfl)]
theorem bndE_21 {c : Ce} (h : check c.A = 0) (h2 : check c.S = 0) (h3 : (addB true c.A && addB false c.S) = true) (h4 : (genB c.A && genB c.S && numB c) = true) (h5 : late c = true) : bndE c = 21 := by
  unfold bndE; rw [if_neg (by omega), if_neg (by omega), if_neg (by rw [h3]; decide), if_neg (by rw [h4]; decide), if_pos h5]
theorem bndE_0 {c : Ce} (h : check c.A = 0) (h2 : check c.S = 0) (h3 : (addB true c.A && addB false c.S) = true) (h4 : (genB c.A && genB c.S && numB c) = true) (h5 : late c = false) : bndE c = 0 := by
  unfold bndE; rw [if_neg (by omega), if_neg (by omega), if_neg (by rw [h3]; decide), if_neg (by rw [h4]; decide), if_neg (by rw [h5]; decide)]
end K57
end Go.Proofs.Ytabfhoipclbeeaa


/- Deferred calls and recover. -/
namespace Go.Proofs.Ytabfhoipclbeeaa
open Go.RowKit Go.Shelf
section
variable {n : Nat} {ds : List Deferred} {l : List (Nat × Value)} {a : Act} {w w' w0 : World} {own : Nat → Prop} {bs : List BoxE} {L : List Ent} {Fs : List (World → Prop)}
variable {os rest : List Oper} {Q : Exit → Act → World → Prop} {K : Act → World → Prop}
variable {d : Nat} {op : Op} {ty : TypeId} {pos : String} {af : Array Edge} {g : Option (Nat × Bool)}
/-- A deferred call of a closure. -/
def defF (f : FuncId) (ca : List Value) : Deferred := { target := .fn (.func f) ⟨ca⟩, args := #[] }
theorem s_defer {f : FuncId} {X : Operand} {ts : Array TypeId} {ca : List Value} (hF : Fr n ds l a) (hg : wantO os l g = some true) (hX : ev l X = some (.func (.func f) #[] ⟨ca⟩))
    (kk : ∀ a, Fr n (defF f ca :: ds) l a → wl ⟨os⟩ Q rest a w) : wl ⟨os⟩ Q (⟨none, .defer ⟨.value X, ⟨[]⟩, ts⟩, ty, pos, af, g⟩ :: rest) a w := by
  refine s_op hF hg fun K hK => ?_
  have hr : (execOp a.eval ⟨none, .defer ⟨.value X, ⟨[]⟩, ts⟩, ty, pos, af, g⟩).run Try.prog w = .ok (.defer (defF f ca)) w := by
    simp [execOp, resolve, hF.eval hX, Deferred.ofValue, Sem.run_bind, Result.andThen, defF]
  unfold Oper.wp
  rw [hr]
  refine hK _ _ (kk _ ⟨hF.size, ?_, hF.get⟩)
  show _ :: a.defers = _
  rw [hF.defs]
theorem f_startD {f : FuncId} {fn : Func} {c : Code} {vs : List Value} {R : Ending → World → Prop} (hf : Try.prog.funcs[f]? = some fn) (hb : fn.body = some c) (hn : fn.ntmps = n) (hl : Nat.ble vs.length n = true) (hs : startO 0 vs = some l)
    (k : ∀ a, Fr n [] l a → Wk none c (bodyPostD Try.prog fn R) a w) : Calls Try.prog f ⟨vs⟩ w R := by
  have := Fr.start (vs := vs) hn hl
  rw [startO_ok hs] at this
  exact calls_of_wp_defers hf hb (k _ this)
/-- One deferred closure is left to run. -/
theorem leave1 {fn : Func} {R : Ending → World → Prop} {fd : FuncId} {ca : List Value} {u : FrameMode} (hdef : a.defers = [defF fd ca]) (hu : u ≠ .run) (he : memB entL fd = true)
    (hD : CallsD Try.prog fd ⟨ca⟩ u w fun e u' w' => (∃ v, e = .returned v) ∧ settle u' = .returning ∧ ∃ rv, (results fn a.tmps).run Try.prog w' = .ok rv w' ∧ R (.returned rv) w') : Leaves Try.prog fn a.tmps R a.defers u w := by
  rw [hdef]
  refine ⟨hu, .func fd, ⟨ca⟩, fd, ⟨ca⟩, rfl, ?_, ?_⟩
  · have := entL_ok (memB_ok he) ⟨ca⟩ w
    simp [defF, invoke, Sem.run_bind, this]
  · intro c cs hc
    obtain ⟨e, u', w', fr, ⟨⟨v, rfl⟩, h2, rv, h3, h4⟩, h5⟩ := hD c cs hc
    refine ⟨_, u', w', fr, ?_, h5⟩
    show Leaves Try.prog fn a.tmps R [] (settle u') w'
    rw [h2]
    exact ⟨rv, h3, h4⟩
theorem CallsD.mono {P : Program} {f : FuncId} {args : Array Value} {u : FrameMode} {w : World} {R R' : Ending → FrameMode → World → Prop} (h : CallsD P f args u w R) (hr : ∀ e u w, R e u w → R' e u w) : CallsD P f args u w R' := by
  intro c cs hc
  obtain ⟨e, u', w', fr, h1, h2⟩ := h c cs hc
  exact ⟨e, u', w', fr, hr _ _ _ h1, h2⟩
/-! recover -/
theorem wl_opsS {QS : Exit → Act → List Frame → World → Prop} {cs : List Frame} {ops : Array Oper} : ∀ {rest : List Oper} {k : Nat} {a : Act} {w : World}, (∀ j, rest[j]? = ops[k + j]?) → wl ops (fun e a w => QS e a cs w) rest a w → wpOpsS Try.prog ops QS (List.range' k rest.length) a cs w
  | [], _, _, _, _, h => h
  | o :: rest, k, a, w, hr, h => by
    have h0 : ops[k]? = some o := by simpa using (hr 0).symm
    have hr' : ∀ j, rest[j]? = ops[k + 1 + j]? := fun j => by have := hr (j + 1); simpa [Nat.add_assoc, Nat.add_comm 1 j] using this
    unfold wl at h
    rw [List.length_cons, List.range'_succ, wpOpsS, h0]
    simp only
    split
    · rename_i hw
      rw [if_pos hw] at h
      unfold Oper.wp at h
      generalize (execOp a.eval o).run Try.prog w = r at h ⊢
      cases r with
      | ok x w' =>
        cases x <;> simp only [Oper.upon] at h ⊢ <;> first
          | exact wl_opsS hr' h
          | exact h.elim
          | (refine Calls.mono h ?_; intro e w' h; cases e <;> first | exact wl_opsS hr' h | exact h)
          | (intro c cs'; obtain ⟨v, w', h1, h2⟩ := h c cs'; exact ⟨v, w', wl_opsS hr' h1, h2⟩)
      | halt x w' => cases x <;> simp only [Oper.upon] at h ⊢ <;> first | exact h | exact h.elim
    · rename_i hw
      rw [if_neg hw] at h
      exact wl_opsS hr' h
/-- A region that begins with recover. -/
theorem c_recover {QS : Exit → Act → List Frame → World → Prop} {cs cs' : List Frame} {v : Value} {id : Nat} {ts : Array TypeId} (hF : Fr n ds l a) (hd : Nat.blt d n = true) (hv : (recoverD cs = some (v, cs')) ∨ (recoverD cs = none ∧ v = .nilIface ∧ cs' = cs))
    (h : ∀ a, Fr n ds ((d, v) :: l) a → wl ⟨⟨some d, .call ⟨.builtin .recover, ⟨[]⟩, ts⟩, ty, pos, af, none⟩ :: rest⟩ (fun e a w => QS e a cs' w) rest a w) :
    (Code.region id ⟨⟨some d, .call ⟨.builtin .recover, ⟨[]⟩, ts⟩, ty, pos, af, none⟩ :: rest⟩ false).wpS Try.prog QS a cs w := by
  refine wpS_region ?_
  have hl : (⟨⟨some d, .call ⟨.builtin .recover, ⟨[]⟩, ts⟩, ty, pos, af, none⟩ :: rest⟩ : Array Oper).size = rest.length + 1 := by simp
  rw [hl, List.range_eq_range', List.range'_succ, wpOpsS]
  simp only [List.getElem?_toArray, List.getElem?_cons_zero, Region.wanted, if_true]
  have hx : (execOp a.eval ⟨some d, .call ⟨.builtin .recover, ⟨[]⟩, ts⟩, ty, pos, af, none⟩).run Try.prog w = .ok .recover w := by
    simp [execOp, resolve, invoke, builtin, Sem.run_bind, Result.andThen]
  rw [hx]
  simp only
  have hk := wl_opsS (k := 1) (QS := QS) (cs := cs') (ops := ⟨⟨some d, .call ⟨.builtin .recover, ⟨[]⟩, ts⟩, ty, pos, af, none⟩ :: rest⟩) (rest := rest) (fun j => by simp [Nat.add_comm 1 j]) (h _ (hF.put hd v))
  rcases hv with hv | ⟨hv, rfl, rfl⟩
  · rw [hv]; exact hk
  · rw [hv]; exact hk
theorem f_startS {f : FuncId} {fn : Func} {c : Code} {vs : List Value} {u : FrameMode} {R : Ending → FrameMode → World → Prop} (hf : Try.prog.funcs[f]? = some fn) (hb : fn.body = some c) (hn : fn.ntmps = n) (hl : Nat.ble vs.length n = true) (hs : startO 0 vs = some l)
    (k : ∀ (c₀ : Frame) (cs : List Frame), c₀.mode = u → ∀ a, Fr n [] l a → c.wpS Try.prog (bodyPostS Try.prog fn c₀ cs R) a (c₀ :: cs) w) : CallsD Try.prog f ⟨vs⟩ u w R := by
  have := Fr.start (vs := vs) hn hl
  rw [startO_ok hs] at this
  exact callsD_of_wpS hf hb fun c₀ cs hc => k c₀ cs hc _ this
/-- A type assertion that holds. -/
def plainT (t : TypeId) : Bool := match tyD t with
  | some (.interface _) => false
  | some _ => true
  | none => false
theorem s_tas {X : Operand} {t xt : TypeId} {v : Value} (hF : Fr n ds l a) (hg : wantO os l g = some true) (hX : ev l X = some (.iface t v)) (ht : plainT t = true) (hd : Nat.blt d n = true)
    (kk : ∀ a, Fr n ds ((d, .tuple #[v, .bool true]) :: l) a → wl ⟨os⟩ Q rest a w) : wl ⟨os⟩ Q (⟨some d, .typeAssert X xt t true, ty, pos, af, g⟩ :: rest) a w := by
  refine s_op hF hg fun _ hK => upon_value (v := .tuple #[v, .bool true]) ?_ (hK _ _ (kk _ (hF.put hd _)))
  unfold plainT at ht
  cases hq : tyD t with
  | none => rw [hq] at ht; cases ht
  | some D =>
    rw [hq] at ht
    simp only [execOp, hF.eval hX]
    cases D <;> simp [Instr.typeAssert, Sem.run_bind, tyD_run hq, Result.andThen] at ht ⊢
end
end Go.Proofs.Ytabfhoipclbeeaa


/- certificate: errors that end a check, and the function that returns them. -/
namespace Go.Proofs.Ytabfhoipclbeeaa
open Go.RowKit Go.Shelf
/-- What a refused check panics with. -/
def failK (e : Int) : List PanicEntry := [{ v := .iface 130 (.int .i64 e), recovered := false }]
/-- A call panics with an error, and nothing old has turned. -/
def PanE (w : World) (e : Int) : Ending → World → Prop := Both (fun _ _ => False) fun c w' => c = failK e ∧ Since w w'
/-- A call returns if there is no error, and panics with it if there is one. -/
def RetP (w : World) (e : Int) (R : Value → World → Prop) : Ending → World → Prop := Both (fun v w' => e = 0 ∧ Since w w' ∧ R v w') fun c w' => e ≠ 0 ∧ c = failK e ∧ Since w w'
theorem RetP.ok {w : World} {f : FuncId} {args : Array Value} {e : Int} {R : Value → World → Prop} (h : Calls Try.prog f args w (RetP w e R)) (he : e = 0) : Calls Try.prog f args w (Ret w R) := by
  refine h.mono fun x w' hx => ?_
  cases x with
  | returned v => exact ⟨v, rfl, hx.2.1, hx.2.2⟩
  | panicked c => exact absurd he hx.1
  | outgrown => exact hx.elim
theorem RetP.err {w : World} {f : FuncId} {args : Array Value} {e : Int} {R : Value → World → Prop} (h : Calls Try.prog f args w (RetP w e R)) (he : e ≠ 0) : Calls Try.prog f args w (PanE w e) := by
  refine h.mono fun x w' hx => ?_
  cases x with
  | returned v => exact absurd hx.1 he
  | panicked c => exact hx.2
  | outgrown => exact hx.elim
section
variable {n : Nat} {ds : List Deferred} {l : List (Nat × Value)} {a : Act} {w w0 : World} {own : Nat → Prop} {bs : List BoxE} {L : List Ent} {Fs : List (World → Prop)}
variable {os rest : List Oper} {Q : Exit → Act → World → Prop} {K : Act → World → Prop}
variable {d : Nat} {op : Op} {ty : TypeId} {pos : String} {af : Array Edge} {g : Option (Nat × Bool)}
/-- A call that panics with an error. -/
theorem x_callE {f : FuncId} {X : Operand} {as_ : List Operand} {ts : Array TypeId} {vs : List Value} {e : Int} {dst : Option Tmp} (hF : Fr n ds l a) (hM : Mm own w0 bs L Fs w) (hX : ev l X = some (.func (.func f) #[] #[])) (ha : evL l as_ = some vs) (he : memB entL f = true)
    (hC : Calls Try.prog f ⟨vs⟩ w (PanE w e)) (kp : ∀ w' a, Mm own w0 bs L Fs w' → Fr n ds l a → Q (.panic (failK e)) a w') : (⟨dst, .call ⟨.value X, ⟨as_⟩, ts⟩, ty, pos, af, g⟩ : Oper).wp Try.prog a w K Q := by
  refine e_callB hF hX ha he hC ?_ (fun _ _ h => h.elim)
  rintro c w' ⟨rfl, hs⟩
  exact kp w' a (hM.keep hs) hF
theorem s_callE {f : FuncId} {X : Operand} {as_ : List Operand} {ts : Array TypeId} {vs : List Value} {e : Int} {dst : Option Tmp} (hF : Fr n ds l a) (hM : Mm own w0 bs L Fs w) (hg : wantO os l g = some true) (hX : ev l X = some (.func (.func f) #[] #[])) (ha : evL l as_ = some vs) (he : memB entL f = true)
    (hC : Calls Try.prog f ⟨vs⟩ w (PanE w e)) (kp : ∀ w' a, Mm own w0 bs L Fs w' → Fr n ds l a → Q (.panic (failK e)) a w') : wl ⟨os⟩ Q (⟨dst, .call ⟨.value X, ⟨as_⟩, ts⟩, ty, pos, af, g⟩ :: rest) a w :=
  s_op hF hg fun _ _ => x_callE hF hM hX ha he hC kp
/-- A closure that may panic. -/
theorem e_callcB {f : FuncId} {X : Operand} {as_ : List Operand} {ts : Array TypeId} {fi ca vs us xs : List Value} {R : Value → World → Prop} {E : List PanicEntry → World → Prop} {dst : Option Tmp} (hF : Fr n ds l a) (hX : ev l X = some (.func (.func f) ⟨fi⟩ ⟨ca⟩)) (ha : evL l as_ = some vs) (h1 : appL fi vs = some us) (h2 : appL us ca = some xs) (he : memB entL f = true)
    (hC : Calls Try.prog f ⟨xs⟩ w (Both R E)) (kp : ∀ c w', E c w' → Q (.panic c) a w') (k : ∀ v w', R v w' → K (a.put dst v) w') : (⟨dst, .call ⟨.value X, ⟨as_⟩, ts⟩, ty, pos, af, g⟩ : Oper).wp Try.prog a w K Q := by
  have hr : (execOp a.eval ⟨dst, .call ⟨.value X, ⟨as_⟩, ts⟩, ty, pos, af, g⟩).run Try.prog w = .ok (.enter f ⟨xs⟩) w := by
    have h3 := hF.evalL ha
    have h4 := appL_ok h1
    have h5 := appL_ok h2
    subst h4
    subst h5
    simp [execOp, resolve, hF.eval hX, Deferred.ofValue, invoke, h3, Sem.run_bind, Result.andThen, entL_ok (memB_ok he)]
  unfold Oper.wp
  rw [hr]
  refine Calls.mono hC ?_
  intro e w' h
  cases e with
  | returned v => exact k v w' h
  | panicked c => exact kp c w' h
  | outgrown => exact h.elim
theorem s_callcB {f : FuncId} {X : Operand} {as_ : List Operand} {ts : Array TypeId} {fi ca vs us xs : List Value} {R : Value → World → Prop} {E : List PanicEntry → World → Prop} (hF : Fr n ds l a) (hg : wantO os l g = some true) (hX : ev l X = some (.func (.func f) ⟨fi⟩ ⟨ca⟩)) (ha : evL l as_ = some vs) (h1 : appL fi vs = some us) (h2 : appL us ca = some xs) (he : memB entL f = true) (hd : Nat.blt d n = true)
    (hC : Calls Try.prog f ⟨xs⟩ w (Both R E)) (kp : ∀ c w' a, E c w' → Fr n ds l a → Q (.panic c) a w') (k : ∀ v w' a, R v w' → Fr n ds ((d, v) :: l) a → wl ⟨os⟩ Q rest a w') : wl ⟨os⟩ Q (⟨some d, .call ⟨.value X, ⟨as_⟩, ts⟩, ty, pos, af, g⟩ :: rest) a w :=
  s_op hF hg fun _ hK => e_callcB hF hX ha h1 h2 he hC (fun c w' h => kp c w' a h hF) fun v w' hR => hK _ _ (k v w' _ hR (hF.put hd v))
/-- The one deferred closure runs, and the results are read. -/
theorem f_leaveD {fn : Func} {rs : List ResultVar} {vs : List Value} {R : Ending → World → Prop} {fd : FuncId} {ca : List Value} {u : FrameMode} (hr : fn.results = ⟨rs⟩) (hF : Fr n [defF fd ca] l a) (he : memB entL fd = true) (hv : RL l bs rs vs) (hu : u ≠ .run)
    (hD : CallsD Try.prog fd ⟨ca⟩ u w fun e u' w' => (∃ v, e = .returned v) ∧ settle u' = .returning ∧ Mm own w0 bs L Fs w') (hR : ∀ w', Mm own w0 bs L Fs w' → R (.returned (resV vs)) w') : Leaves Try.prog fn a.tmps R a.defers u w :=
  leave1 hF.defs hu he (hD.mono fun _ _ _ ⟨h1, h2, h3⟩ => ⟨h1, h2, _, f_res hr hF h3 hv, hR _ h3⟩)
end
theorem appL_z (ca : List Value) : appL [] ca = some ca := rfl
theorem demand_t (b : Bool) (e : Int) {own : Nat → Prop} (W : World) (hl : ∀ b, own b → b < W.heap.size) (hb : b = true) : Calls Try.prog 58 ⟨[.bool b, .int .i64 e]⟩ W (Ret W fun _ _ => True) := by
  subst hb
  have hM := Mm.start hl
  refine f_start Try.func58 rfl Try.ntmps58 rfl rfl ?_; intro a hF
  (repeat' (first | (with_reducible refine w_seq ?_) | (with_reducible refine c_region ?_) | (with_reducible refine s_nil ?_) | (with_reducible refine q_then_n ?_) | ((with_reducible apply s_pure hF); exact rfl; exact rfl; exact rfl; (first | exact trivial | omega | exact ⟨Int.natCast_nonneg _, Int.ofNat_lt.2 (by assumption)⟩ | decide); clear hF a; intro a hF) | (with_reducible refine w_skip ?_) | ((with_reducible apply c_false2 hF); exact rfl; (first | with_reducible rfl | (refine congrArg Value.bool ?_; focus (simp; done))))))
  (apply f_end Try.results58 hF hM; (repeat (first | exact RL.nil | (apply RL.tmp; exact rfl) | (apply RL.cell; exact rfl; (repeat (first | exact List.mem_cons_self | refine List.mem_cons_of_mem _ ?_)); exact rfl))); refine Ret.mk hM.since ?_; dsimp only [resV])
theorem demand_f (b : Bool) (e : Int) {own : Nat → Prop} (W : World) (hl : ∀ b, own b → b < W.heap.size) (hb : b = false) : Calls Try.prog 58 ⟨[.bool b, .int .i64 e]⟩ W (PanE W e) := by
  subst hb
  have hM := Mm.start hl
  refine f_start Try.func58 rfl Try.ntmps58 rfl rfl ?_; intro a hF
  (repeat' (first | (with_reducible refine w_seq ?_) | (with_reducible refine c_region ?_) | (with_reducible refine s_nil ?_) | ((with_reducible apply s_pan hF); exact rfl; exact rfl; exact rfl) | (with_reducible refine q_then_n ?_) | ((with_reducible apply s_pure hF); exact rfl; exact rfl; exact rfl; (first | exact trivial | omega | exact ⟨Int.natCast_nonneg _, Int.ofNat_lt.2 (by assumption)⟩ | decide); clear hF a; intro a hF) | ((with_reducible apply c_true2 hF); exact rfl; (first | with_reducible rfl | (refine congrArg Value.bool ?_; focus (simp; done))))))
  refine f_panic hF ?_
  exact ⟨rfl, hM.since⟩
theorem right_t (e : Int) {own : Nat → Prop} (W : World) (hl : ∀ b, own b → b < W.heap.size) (hb : e = 0) : Calls Try.prog 71 ⟨[.int .i64 e]⟩ W (Ret W fun _ _ => True) := by
  subst hb
  have hM := Mm.start hl
  refine f_start Try.func71 rfl Try.ntmps71 rfl rfl ?_; intro a hF
  (repeat' (first | (with_reducible refine c_region ?_) | (with_reducible refine s_nil ?_) | ((with_reducible apply s_call (f := 58) hF hM); exact rfl; exact rfl; exact rfl; exact rfl; exact rfl; exact (demand_t _ _ _ hM.lt rfl); clear hF hM a; rintro v w a - - hM hF) | ((with_reducible apply s_pure hF); exact rfl; exact rfl; exact rfl; (first | exact trivial | omega | exact ⟨Int.natCast_nonneg _, Int.ofNat_lt.2 (by assumption)⟩ | decide); clear hF a; intro a hF)))
  (apply f_end Try.results71 hF hM; (repeat (first | exact RL.nil | (apply RL.tmp; exact rfl) | (apply RL.cell; exact rfl; (repeat (first | exact List.mem_cons_self | refine List.mem_cons_of_mem _ ?_)); exact rfl))); refine Ret.mk hM.since ?_; dsimp only [resV])
theorem right_f (e : Int) {own : Nat → Prop} (W : World) (hl : ∀ b, own b → b < W.heap.size) (hb : e ≠ 0) : Calls Try.prog 71 ⟨[.int .i64 e]⟩ W (PanE W e) := by
  have hM := Mm.start hl
  refine f_start Try.func71 rfl Try.ntmps71 rfl rfl ?_; intro a hF
  (repeat' (first | (with_reducible refine c_region ?_) | ((with_reducible apply s_callE (f := 58) hF hM); exact rfl; exact rfl; exact rfl; exact rfl; exact (demand_f _ _ _ hM.lt (decide_eq_false hb)); clear hF hM a; intro w a hM hF) | ((with_reducible apply s_pure hF); exact rfl; exact rfl; exact rfl; (first | exact trivial | omega | exact ⟨Int.natCast_nonneg _, Int.ofNat_lt.2 (by assumption)⟩ | decide); clear hF a; intro a hF)))
  refine f_panic hF ?_
  exact ⟨rfl, hM.since⟩
section
variable {own : Nat → Prop} {w0 w : World} {bs : List BoxE} {L : List Ent} {Fs : List (World → Prop)} {b2 : Nat} {e2 : Int}
set_option maxRecDepth 20000 in
theorem grd_panic (e : Int) (hM : Mm own w0 (⟨b2, ⟨[.int .i64 e2]⟩, 32⟩ :: bs) L Fs w) : CallsD Try.prog 90 ⟨[.pointer (some ⟨b2, 0, none⟩)]⟩ (.panicking (failK e)) w
    fun e' u' w' => (∃ v, e' = .returned v) ∧ settle u' = .returning ∧ Mm own w0 (⟨b2, ⟨[.int .i64 e]⟩, 32⟩ :: bs) L Fs w' := by
  refine f_startS Try.func90 rfl Try.ntmps90 rfl rfl ?_; intro c₀ cs hmode a hF
  have hrec : recoverD (c₀ :: cs) = some (.iface 130 (.int .i64 e), { c₀ with mode := .panicking [{ v := .iface 130 (.int .i64 e), recovered := true }] } :: cs) := by
    rw [recoverD]
    simp only [hmode, failK]
  refine wpS_seq ?_
  apply c_recover hF
  · exact rfl
  · exact .inl hrec
  clear hF a
  intro a hF
  (repeat (first | (with_reducible refine s_nil ?_) | ((with_reducible apply s_pure hF); exact rfl; exact rfl; exact rfl; (first | exact trivial | omega | exact ⟨Int.natCast_nonneg _, Int.ofNat_lt.2 (by assumption)⟩ | decide); clear hF a; intro a hF)))
  show Code.wpS _ _ _ _ _ _
  refine wpS_of_wp ?_
  show Wk none _ _ _ _
  (repeat' (first | (with_reducible refine w_seq ?_) | (with_reducible refine c_region ?_) | (with_reducible refine s_nil ?_) | ((with_reducible apply s_tas hF); exact rfl; exact rfl; exact rfl; exact rfl; clear hF a; intro a hF) | ((with_reducible apply s_eqn hF); exact rfl; exact rfl; exact rfl; exact rfl; exact rfl; exact rfl; clear hF a; intro a hF) | (with_reducible refine q_then_n ?_) | ((with_reducible apply s_pure hF); exact rfl; exact rfl; exact rfl; (first | exact trivial | omega | exact ⟨Int.natCast_nonneg _, Int.ofNat_lt.2 (by assumption)⟩ | decide); clear hF a; intro a hF) | ((with_reducible apply s_store hF hM); exact rfl; exact rfl; exact rfl; exact rfl; (repeat (first | exact Upd.z | apply Upd.s)); exact rfl; exact rfl; exact rfl; clear hM; intro w hM) | (with_reducible refine w_skip ?_) | ((with_reducible apply c_true2 hF); exact rfl; (first | with_reducible rfl | (refine congrArg Value.bool ?_; focus (simp; done)))) | ((with_reducible apply c_false2 hF); exact rfl; (first | with_reducible rfl | (refine congrArg Value.bool ?_; focus (simp; done))))))
  exact ⟨hF.defs, _, rfl, _, f_res (rs := []) (vs := []) rfl hF hM .nil, ⟨_, rfl⟩, rfl, hM⟩
set_option maxRecDepth 20000 in
theorem grd_ret (p : Value) (hM : Mm own w0 bs L Fs w) : CallsD Try.prog 90 ⟨[p]⟩ .returning w
    fun e' u' w' => (∃ v, e' = .returned v) ∧ settle u' = .returning ∧ Mm own w0 bs L Fs w' := by
  refine f_startS Try.func90 rfl Try.ntmps90 rfl rfl ?_; intro c₀ cs hmode a hF
  have hrec : recoverD (c₀ :: cs) = none := by
    rw [recoverD]
    simp only [hmode]
  refine wpS_seq ?_
  apply c_recover hF
  · exact rfl
  · exact .inr ⟨hrec, rfl, rfl⟩
  clear hF a
  intro a hF
  (repeat (first | (with_reducible refine s_nil ?_) | ((with_reducible apply s_pure hF); exact rfl; exact rfl; exact rfl; (first | exact trivial | omega | exact ⟨Int.natCast_nonneg _, Int.ofNat_lt.2 (by assumption)⟩ | decide); clear hF a; intro a hF)))
  show Code.wpS _ _ _ _ _ _
  refine wpS_of_wp ?_
  show Wk none _ _ _ _
  (repeat' (first | (with_reducible refine w_seq ?_) | (with_reducible refine c_region ?_) | (with_reducible refine s_nil ?_) | ((with_reducible apply s_eqn hF); exact rfl; exact rfl; exact rfl; exact rfl; exact rfl; exact rfl; clear hF a; intro a hF) | (with_reducible refine q_then_n ?_) | ((with_reducible apply s_pure hF); exact rfl; exact rfl; exact rfl; (first | exact trivial | omega | exact ⟨Int.natCast_nonneg _, Int.ofNat_lt.2 (by assumption)⟩ | decide); clear hF a; intro a hF) | (with_reducible refine w_skip ?_) | ((with_reducible apply c_false2 hF); exact rfl; (first | with_reducible rfl | (refine congrArg Value.bool ?_; focus (simp; done))))))
  refine ⟨hF.defs, .returning, ?_, _, f_res (rs := []) (vs := []) rfl hF hM .nil, ⟨_, rfl⟩, rfl, hM⟩
  rw [← hmode]
variable {W : World} (J : List BoxE → List Ent → List (World → Prop) → Prop)
set_option maxRecDepth 20000 in
/-- A guarded function that returns. -/
theorem guarded_ok (g : Nat) (ca : List Value) (hg : memB entL g = true) (hM : Mm own w0 bs L Fs W)
    (hC : ∀ b2 W', Mm own w0 (⟨b2, ⟨[.int .i64 0]⟩, 32⟩ :: bs) L Fs W' → Calls Try.prog g ⟨ca⟩ W' (Rtn fun _ w' => ∃ bs' L' Fs', J bs' L' Fs' ∧ Mm own w0 (⟨b2, ⟨[.int .i64 0]⟩, 32⟩ :: bs') L' Fs' w')) :
    Calls Try.prog 46 ⟨[.func (.func g) #[] ⟨ca⟩]⟩ W (Rtn fun v w' => v = .int .i64 0 ∧ ∃ bs' L' Fs', J bs' L' Fs' ∧ Mm own w0 bs' L' Fs' w') := by
  refine f_startD Try.func46 rfl Try.ntmps46 rfl rfl ?_; intro a hF
  (repeat (first | (with_reducible refine w_seq ?_) | (with_reducible refine c_region ?_) | (with_reducible refine s_nil ?_) | ((with_reducible apply s_defer hF); exact rfl; exact rfl; clear hF a; intro a hF) | (with_reducible refine q_then_n ?_) | ((with_reducible apply s_pure hF); exact rfl; exact rfl; exact rfl; (first | exact trivial | omega | exact ⟨Int.natCast_nonneg _, Int.ofNat_lt.2 (by assumption)⟩ | decide); clear hF a; intro a hF) | ((with_reducible apply s_alloc hF hM); exact rfl; exact rfl; exact rfl; clear hF hM a; intro b w a hM hF)))
  refine s_callcM hF rfl rfl rfl rfl (appL_z ca) hg rfl (hC _ _ hM) ?_
  clear hF hM a
  rintro v w a ⟨bs', L', Fs', hJ, hM⟩ hF
  (repeat' (first | (with_reducible refine w_seq ?_) | (with_reducible refine c_region ?_) | (with_reducible refine s_nil ?_) | (with_reducible refine q_then_n ?_) | ((with_reducible apply s_store hF hM); exact rfl; exact rfl; exact rfl; exact rfl; (repeat (first | exact Upd.z | apply Upd.s)); exact rfl; exact rfl; exact rfl; clear hM; intro w hM) | (with_reducible refine w_ret ?_)))
  apply f_leaveD (hr := Try.results46) (hF := hF) (he := rfl) (hu := fun h => by cases h) (hD := (grd_ret _ hM))
  · (repeat (first | exact RL.nil | (apply RL.tmp; exact rfl) | (apply RL.cell; exact rfl; (repeat (first | exact List.mem_cons_self | refine List.mem_cons_of_mem _ ?_)); exact rfl)))
  intro w' hM'
  exact ⟨rfl, bs', L', Fs', hJ, hM'.sub (.cons _ (.refl _)) (.refl _) (fun _ h => h)⟩
set_option maxRecDepth 20000 in
/-- A guarded function that panics. -/
theorem guarded_err (g : Nat) (ca : List Value) (e : Int) (hg : memB entL g = true) (hM : Mm own w0 bs L Fs W)
    (hC : ∀ b2 W', Mm own w0 (⟨b2, ⟨[.int .i64 0]⟩, 32⟩ :: bs) L Fs W' → Calls Try.prog g ⟨ca⟩ W' (Both (fun _ _ => False) fun c w' => c = failK e ∧ ∃ bs' L' Fs', J bs' L' Fs' ∧ Mm own w0 (⟨b2, ⟨[.int .i64 0]⟩, 32⟩ :: bs') L' Fs' w')) :
    Calls Try.prog 46 ⟨[.func (.func g) #[] ⟨ca⟩]⟩ W (Rtn fun v w' => v = .int .i64 e ∧ ∃ bs' L' Fs', J bs' L' Fs' ∧ Mm own w0 bs' L' Fs' w') := by
  refine f_startD Try.func46 rfl Try.ntmps46 rfl rfl ?_; intro a hF
  (repeat (first | (with_reducible refine w_seq ?_) | (with_reducible refine c_region ?_) | (with_reducible refine s_nil ?_) | ((with_reducible apply s_defer hF); exact rfl; exact rfl; clear hF a; intro a hF) | (with_reducible refine q_then_n ?_) | ((with_reducible apply s_pure hF); exact rfl; exact rfl; exact rfl; (first | exact trivial | omega | exact ⟨Int.natCast_nonneg _, Int.ofNat_lt.2 (by assumption)⟩ | decide); clear hF a; intro a hF) | ((with_reducible apply s_alloc hF hM); exact rfl; exact rfl; exact rfl; clear hF hM a; intro b w a hM hF)))
  refine s_callcB hF rfl rfl rfl rfl (appL_z ca) hg rfl (hC _ _ hM) ?_ (fun _ _ _ h => h.elim)
  clear hF hM a
  rintro c w a ⟨rfl, bs', L', Fs', hJ, hM⟩ hF
  (repeat' (first | (with_reducible refine q_then_p ?_)))
  apply f_leaveD (hr := Try.results46) (hF := hF) (he := rfl) (hu := fun h => by cases h) (hD := (grd_panic e hM))
  · (repeat (first | exact RL.nil | (apply RL.tmp; exact rfl) | (apply RL.cell; exact rfl; (repeat (first | exact List.mem_cons_self | refine List.mem_cons_of_mem _ ?_)); exact rfl)))
  intro w' hM'
  exact ⟨rfl, bs', L', Fs', hJ, hM'.sub (.cons _ (.refl _)) (.refl _) (fun _ h => h)⟩
end
end Go.Proofs.Ytabfhoipclbeeaa

