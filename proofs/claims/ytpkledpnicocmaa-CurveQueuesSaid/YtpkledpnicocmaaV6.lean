/- curve: searches and closures. -/
import Derived.Test.YtpkledpnicocmaaV5
set_option linter.unusedSimpArgs false
set_option linter.unusedVariables false
namespace Go.Proofs.Ytpkledpnicocmaa
open Go.RowKit Go.Shelf C55
/-- The first place whose element is at least a value. -/
def fpos (l : List Int) (x : Int) : Nat := l.findIdx fun y => decide (x ≤ y)
theorem fpos_eq {l : List Int} {x : Int} {k : Nat} (hk : k ≤ l.length) (h1 : ∀ (j : Nat) y, j < k → l[j]? = some y → y < x) (h2 : ∀ y, l[k]? = some y → x ≤ y) : fpos l x = k := by
  unfold fpos
  rcases Nat.lt_or_ge k l.length with h | h
  · rw [List.findIdx_eq h]
    refine ⟨by simpa using h2 _ (List.getElem?_eq_getElem h), fun j hj => ?_⟩
    have := h1 j _ hj (List.getElem?_eq_getElem (by omega))
    simp
    omega
  · obtain rfl : k = l.length := by omega
    rw [List.findIdx_eq_length]
    intro y hy
    obtain ⟨j, hj⟩ := List.getElem?_of_mem hy
    have hj2 := (List.getElem?_eq_some_iff.1 hj).1
    have := h1 j y hj2 hj
    simp
    omega
theorem fpos_le (l : List Int) (x : Int) : fpos l x ≤ l.length := List.findIdx_le_length
theorem fpos_lt {l : List Int} {x : Int} {j : Nat} {y : Int} (h : j < fpos l x) (hy : l[j]? = some y) : y < x := by
  unfold fpos at h
  have hj := (List.getElem?_eq_some_iff.1 hy)
  obtain ⟨h1, h2⟩ := hj
  have := List.not_of_lt_findIdx h
  rw [h2] at this
  simpa using this
theorem fpos_ge {l : List Int} {x y : Int} (hy : l[fpos l x]? = some y) : x ≤ y := by
  obtain ⟨h1, h2⟩ := List.getElem?_eq_some_iff.1 hy
  have := List.findIdx_getElem (xs := l) (p := fun y => decide (x ≤ y)) (w := h1)
  have h3 : decide (x ≤ l[fpos l x]) = true := this
  rw [h2] at h3
  simpa using h3
theorem isNaN2_c (n : Int) (w : World) : Calls Try.prog 70 ⟨[.int .i64 n]⟩ w (Ret w fun v _ => v = .bool false) := by
  have hM := Mm.start (own := fun _ => False) (w := w) (fun _ h => h.elim)
  refine f_start Try.func70 rfl Try.ntmps70 rfl rfl ?_; intro a hF
  (repeat (first | (with_reducible refine w_seq ?_) | (with_reducible refine c_region ?_) | (with_reducible refine s_nil ?_) | (with_reducible refine q_then_n ?_) | ((with_reducible apply s_pure hF); exact rfl; exact rfl; exact rfl; (first | exact trivial | omega | decide); clear hF a; intro a hF) | (with_reducible refine w_ret ?_)))
  (apply f_ret Try.results70 hF hM; (repeat (first | exact RL.nil | (apply RL.tmp; exact rfl) | (apply RL.cell; exact rfl; (repeat (first | exact List.mem_cons_self | refine List.mem_cons_of_mem _ ?_)); exact rfl))); refine Ret.mk hM.since ?_; dsimp only [resV])
  simp
theorem binarySearch_c (l : List Int) (x : Int) (hsr : srt l = true) (a0 : Option Addr) (c0 : Nat) (own : Nat → Prop) (W : World) (hl : ∀ b, own b → b < W.heap.size) (hlen : l.length ≤ 4000000000000000000) (hv : Has own W (RdF (Value.int .i64) a0 l)) :
    Calls Try.prog 68 ⟨[.slice a0 l.length c0, .int .i64 x]⟩ W (Ret W fun v _ => ∃ b, v = .tuple #[.int .i64 (fpos l x), .bool b]) := by
  have hM := (Mm.start hl).known hv
  refine f_start Try.func68 rfl Try.ntmps68 rfl rfl ?_; intro a hF
  (repeat' (first | (with_reducible refine w_seq ?_) | (with_reducible refine c_region ?_) | (with_reducible refine s_nil ?_) | (with_reducible refine q_then_n ?_) | ((with_reducible apply s_pure hF); exact rfl; exact rfl; exact rfl; (first | exact trivial | omega | decide); clear hF a; intro a hF) | (with_reducible refine w_block ?_)))
  refine c_loop (m := l.length) (fun m a w' => ∃ (lo hi : Nat), lo + m = hi ∧ hi ≤ l.length ∧ (∀ (j : Nat) y, j < lo → l[j]? = some y → y < x) ∧ (∀ (j : Nat) y, hi ≤ j → l[j]? = some y → x ≤ y) ∧
    Fr _ [] [(7, .int .i64 lo), (8, .int .i64 hi), (6, .int .i64 l.length), (0, .slice a0 l.length c0), (1, .int .i64 x)] a ∧ Mm own W [] [] [RdF (Value.int .i64) a0 l] w') ⟨0, l.length, by omega, by omega, fun j y h => by omega, fun j y h hy => by
      have := (List.getElem?_eq_some_iff.1 hy).1
      omega, hF.sub (by repeat (first | exact Sub.nil | refine Sub.cons rfl (by first | with_reducible rfl | (refine congrArg (Value.int _) ?_; omega) | exact rfl) ?_)), hM⟩ ?_
  clear hF hM a
  rintro m a w' ⟨lo, hi, hm, hh, hlo, hhi, hF, hM⟩
  by_cases hlt : lo < hi
  · obtain ⟨mid, hmid⟩ : ∃ mid : Nat, (lo + hi) / 2 = mid := ⟨_, rfl⟩
    have emid : ((lo : Int) + (hi : Int)) / 2 = (mid : Int) := by omega
    obtain ⟨y, hy⟩ := get_of_lt (l := l) (i := mid) (by omega)
    obtain ⟨ad, rfl⟩ := rd_some hM (by (repeat (first | exact List.mem_cons_self | refine List.mem_cons_of_mem _ ?_))) hy
    have hy' : l[(((lo : Int) + (hi : Int)) % 18446744073709551616 / 2).toNat]? = some y := by rw [show (((lo : Int) + (hi : Int)) % 18446744073709551616 / 2).toNat = mid by omega]; exact hy
    (repeat' (first | (with_reducible refine w_seq ?_) | (with_reducible refine c_region ?_) | (with_reducible refine s_nil ?_) | ((with_reducible apply s_call (f := 67) hF hM); exact rfl; exact rfl; exact rfl; exact rfl; exact rfl; exact (less_c _ _ _); clear hF hM a; rintro v w a rfl - hM hF) | ((with_reducible apply s_shr1 hF); exact rfl; exact rfl; exact rfl; exact rfl; clear hF a; intro a hF) | (with_reducible refine q_then_n ?_) | ((with_reducible apply s_pure hF); exact rfl; exact rfl; exact rfl; (first | exact trivial | omega | decide); clear hF a; intro a hF) | ((with_reducible apply s_loadF hF hM); exact rfl; exact rfl; (repeat (first | exact List.mem_cons_self | refine List.mem_cons_of_mem _ ?_)); exact rfl; exact rfl; (first | with_reducible assumption | (simp only [Int.toNat_natCast]; with_reducible assumption)); clear hF a; intro a hF) | (with_reducible refine w_skip ?_) | (with_reducible refine w_block ?_) | (with_reducible refine q_blk_n ?_) | ((with_reducible apply c_dec hF); exact rfl; all_goals intro hc; all_goals (try (exfalso; omega)))))
    · refine ⟨hi - (mid + 1), by omega, mid + 1, hi, by omega, by omega, fun j z hj hz => ?_, hhi, hF.sub (by repeat (first | exact Sub.nil | refine Sub.cons rfl (by first | with_reducible rfl | (refine congrArg (Value.int _) ?_; omega) | exact rfl) ?_)), hM⟩
      rcases Nat.lt_or_ge j lo with e | e
      · exact hlo j z e hz
      · have := mono_of hsr (mid - j) j z y hz (by rw [show j + (mid - j) = mid by omega]; exact hy)
        omega
    · refine ⟨mid - lo, by omega, lo, mid, by omega, by omega, hlo, fun j z hj hz => ?_, hF.sub (by repeat (first | exact Sub.nil | refine Sub.cons rfl (by first | with_reducible rfl | (refine congrArg (Value.int _) ?_; omega) | exact rfl) ?_)), hM⟩
      have := mono_of hsr (j - mid) mid y z hy (by rw [show mid + (j - mid) = j by omega]; exact hz)
      omega
  · obtain rfl : lo = hi := by omega
    have hfp := fpos_eq hh hlo (fun y hy => hhi lo y (by omega) hy)
    by_cases hin : lo < l.length
    · obtain ⟨y, hy⟩ := get_of_lt hin
      obtain ⟨ad, rfl⟩ := rd_some hM (by (repeat (first | exact List.mem_cons_self | refine List.mem_cons_of_mem _ ?_))) hy
      (repeat' (first | (with_reducible refine w_seq ?_) | (with_reducible refine c_region ?_) | (with_reducible refine s_nil ?_) | ((with_reducible apply s_call (f := 70) hF hM); exact rfl; exact rfl; exact rfl; exact rfl; exact rfl; exact (isNaN2_c _ _); clear hF hM a; rintro v w a rfl - hM hF) | (with_reducible refine q_then_n ?_) | ((with_reducible apply s_pure hF); exact rfl; exact rfl; exact rfl; (first | exact trivial | omega | decide); clear hF a; intro a hF) | ((with_reducible apply s_loadF hF hM); exact rfl; exact rfl; (repeat (first | exact List.mem_cons_self | refine List.mem_cons_of_mem _ ?_)); exact rfl; exact rfl; (first | with_reducible assumption | (simp only [Int.toNat_natCast]; with_reducible assumption)); clear hF a; intro a hF) | (with_reducible refine w_exit ?_) | (with_reducible refine w_ret ?_) | (with_reducible refine q_then_x ?_) | (with_reducible refine q_blk_x ?_) | ((with_reducible apply s_skip hF); exact rfl; exact rfl; clear hF a; intro a hF) | ((with_reducible apply g_dec hF); exact rfl; exact rfl; all_goals (clear hF; intro hc hF); all_goals (try (exfalso; omega))) | ((with_reducible apply c_dec hF); exact rfl; all_goals intro hc; all_goals (try (exfalso; omega)))))
      all_goals (apply f_ret Try.results68 hF hM; (repeat (first | exact RL.nil | (apply RL.tmp; exact rfl) | (apply RL.cell; exact rfl; (repeat (first | exact List.mem_cons_self | refine List.mem_cons_of_mem _ ?_)); exact rfl))); refine Ret.mk hM.since ?_; dsimp only [resV])
      all_goals exact ⟨_, by rw [hfp]⟩
    · (repeat' (first | (with_reducible refine w_seq ?_) | (with_reducible refine c_region ?_) | (with_reducible refine s_nil ?_) | (with_reducible refine q_then_n ?_) | ((with_reducible apply s_pure hF); exact rfl; exact rfl; exact rfl; (first | exact trivial | omega | decide); clear hF a; intro a hF) | (with_reducible refine w_exit ?_) | (with_reducible refine w_ret ?_) | (with_reducible refine q_then_x ?_) | (with_reducible refine q_blk_x ?_) | ((with_reducible apply s_skip hF); exact rfl; exact rfl; clear hF a; intro a hF) | ((with_reducible apply g_dec hF); exact rfl; exact rfl; all_goals (clear hF; intro hc hF); all_goals (try (exfalso; omega))) | ((with_reducible apply c_dec hF); exact rfl; all_goals intro hc; all_goals (try (exfalso; omega)))))
      all_goals (apply f_ret Try.results68 hF hM; (repeat (first | exact RL.nil | (apply RL.tmp; exact rfl) | (apply RL.cell; exact rfl; (repeat (first | exact List.mem_cons_self | refine List.mem_cons_of_mem _ ?_)); exact rfl))); refine Ret.mk hM.since ?_; dsimp only [resV])
      all_goals exact ⟨_, by rw [hfp]⟩
/-- The first time at which a curve has at least a value. -/
def rch (c : Cu) (x : Int) : Int := if fpos c.V x < c.V.length then fpos c.V x else c.V.length - 1 + (x - c.V.getD (c.V.length - 1) 0 + c.S - 1) / c.S
theorem rch_bd {c : Cu} (ok : Ok c) {x : Int} (hx : x ≤ 2000000000000000000) (h0 : c.S = 0 → fpos c.V x < c.V.length) : 0 ≤ rch c x ∧ rch c x ≤ 2000000001000000000 := by
  have k0 := ok.l0
  have k1 := ok.l1
  have ks := ok.s
  have kl := ok.lastv
  unfold rch
  split
  · omega
  · rename_i h
    have hS : 1 ≤ c.S := by
      by_cases e : c.S = 0
      · exact absurd (h0 e) h
      · omega
    have hlast : c.V.getD (c.V.length - 1) 0 < x := by
      obtain ⟨y, hy⟩ := get_of_lt (l := c.V) (i := c.V.length - 1) (by omega)
      have := fpos_lt (x := x) (by omega) hy
      rw [List.getD_eq_getElem?_getD, hy]
      exact this
    have h1 : 0 ≤ (x - c.V.getD (c.V.length - 1) 0 + c.S - 1) / c.S := Int.ediv_nonneg (by omega) (by omega)
    have h2 : (x - c.V.getD (c.V.length - 1) 0 + c.S - 1) / c.S ≤ 2000000000000000000 + 2 := by
      have h3 : (x - c.V.getD (c.V.length - 1) 0 + c.S - 1) / c.S ≤ x - c.V.getD (c.V.length - 1) 0 + c.S - 1 := Int.ediv_le_self _ (by omega)
      have h4 := Int.ediv_mul_le (x - c.V.getD (c.V.length - 1) 0 + c.S - 1) (b := c.S) (by omega)
      apply Int.ediv_le_of_le_mul (by omega)
      have : (2000000000000000000 + 2) * c.S ≥ 2000000000000000000 * 1 + 2 * c.S := by
        have h6 : (2000000000000000000 + 2) * c.S = 2000000000000000000 * c.S + 2 * c.S := Int.add_mul _ _ _
        have h7 : 2000000000000000000 * c.S ≥ 2000000000000000000 * 1 := Int.mul_le_mul_of_nonneg_left hS (by omega)
        omega
      omega
    omega
theorem reach_c (c : Cu) (ok : Ok c) (x : Int) (hx : 0 ≤ x ∧ x ≤ 2000000000000000000) (h0 : c.S = 0 → fpos c.V x < c.V.length) (v : Value) (own : Nat → Prop) (W : World) (hl : ∀ b, own b → b < W.heap.size) (hv : Has own W (IsCu · v c)) :
    Calls Try.prog 57 ⟨[v, .int .i64 x]⟩ W (Ret W fun r _ => r = .int .i64 (rch c x)) := by
  obtain ⟨a0, c0, rfl, hV, l1, l2⟩ := isCu_open hv
  have hM := (Mm.start hl).known hV
  have k0 := ok.l0
  have k1 := ok.l1
  have ks := ok.s
  have kf := fpos_le c.V x
  have kb := rch_bd ok hx.2 h0
  obtain ⟨y, hy⟩ := get_of_lt (l := c.V) (i := c.V.length - 1) (by omega)
  obtain ⟨ad, rfl⟩ := rd_some hM (by (repeat (first | exact List.mem_cons_self | refine List.mem_cons_of_mem _ ?_))) hy
  have hy' : c.V[((c.V.length : Int) - 1).toNat]? = some y := by rw [show ((c.V.length : Int) - 1).toNat = c.V.length - 1 by omega]; exact hy
  have hyb := ok.v y (List.mem_of_getElem? hy)
  have hyd : c.V.getD (c.V.length - 1) 0 = y := by rw [List.getD_eq_getElem?_getD, hy]; rfl
  refine f_start Try.func57 rfl Try.ntmps57 rfl rfl ?_; intro a hF
  by_cases hin : fpos c.V x < c.V.length
  · (repeat' (first | (with_reducible refine w_seq ?_) | (with_reducible refine c_region ?_) | (with_reducible refine s_nil ?_) | ((with_reducible apply s_call (f := 68) hF hM); exact rfl; exact rfl; exact rfl; exact rfl; exact rfl; exact (binarySearch_c c.V x ok.m _ _ _ _ hM.lt (by omega) (hM.facts _ (by (repeat (first | exact List.mem_cons_self | refine List.mem_cons_of_mem _ ?_))))); clear hF hM a; rintro v w a ⟨fnd, rfl⟩ - hM hF) | (with_reducible refine q_then_n ?_) | ((with_reducible apply s_pure hF); exact rfl; exact rfl; exact rfl; (first | exact trivial | omega | decide); clear hF a; intro a hF) | ((with_reducible apply s_load hF hM); exact rfl; exact rfl; (repeat (first | exact List.mem_cons_self | refine List.mem_cons_of_mem _ ?_)); exact rfl; exact rfl; clear hF a; intro a hF) | ((with_reducible apply s_box hF hM); exact rfl; exact rfl; exact rfl; exact rfl; clear hF hM a; intro b w a hM hF) | (with_reducible refine w_ret ?_) | (with_reducible refine q_then_r ?_) | ((with_reducible apply c_dec hF); exact rfl; all_goals intro hc; all_goals (try (exfalso; omega)))))
    (apply f_ret Try.results57 hF hM; (repeat (first | exact RL.nil | (apply RL.tmp; exact rfl) | (apply RL.cell; exact rfl; (repeat (first | exact List.mem_cons_self | refine List.mem_cons_of_mem _ ?_)); exact rfl))); refine Ret.mk hM.since ?_; dsimp only [resV])
    unfold rch
    rw [if_pos hin]
  · have hS : 1 ≤ c.S := by
      by_cases e : c.S = 0
      · exact absurd (h0 e) hin
      · omega
    unfold rch at kb
    rw [if_neg hin, hyd] at kb
    have hyx : y < x := fpos_lt (l := c.V) (j := c.V.length - 1) (by omega) hy
    (repeat' (first | (with_reducible refine w_seq ?_) | (with_reducible refine c_region ?_) | (with_reducible refine s_nil ?_) | ((with_reducible apply s_call (f := 68) hF hM); exact rfl; exact rfl; exact rfl; exact rfl; exact rfl; exact (binarySearch_c c.V x ok.m _ _ _ _ hM.lt (by omega) (hM.facts _ (by (repeat (first | exact List.mem_cons_self | refine List.mem_cons_of_mem _ ?_))))); clear hF hM a; rintro v w a ⟨fnd, rfl⟩ - hM hF) | (with_reducible refine q_then_n ?_) | ((with_reducible apply s_pure hF); exact rfl; exact rfl; exact rfl; (first | exact trivial | omega | decide); clear hF a; intro a hF) | ((with_reducible apply s_load hF hM); exact rfl; exact rfl; (repeat (first | exact List.mem_cons_self | refine List.mem_cons_of_mem _ ?_)); exact rfl; exact rfl; clear hF a; intro a hF) | ((with_reducible apply s_box hF hM); exact rfl; exact rfl; exact rfl; exact rfl; clear hF hM a; intro b w a hM hF) | (with_reducible refine w_skip ?_) | ((with_reducible apply c_dec hF); exact rfl; all_goals intro hc; all_goals (try (exfalso; omega)))))
    refine c_draw (fun i => Nat.ble 20 i) hM ?_; clear hM; intro w hM
    (first | (refine t_pure (i := 0) hF rfl rfl rfl rfl (by kernel_rfl) hM.sm (fun _ _ _ h => h) ?_ ?_; (first | exact trivial | omega | decide); clear hF a; intro a hF))
    (first | (refine t_pure (i := 1) hF rfl rfl rfl rfl (by kernel_rfl) hM.sm (fun _ _ _ h => h) ?_ ?_; (first | exact trivial | omega | decide); clear hF a; intro a hF))
    (first | (refine t_pure (i := 2) hF rfl rfl rfl rfl (by kernel_rfl) hM.sm (fun _ _ _ h => h) ?_ ?_; (first | exact trivial | omega | decide); clear hF a; intro a hF))
    (first | (refine t_pure (i := 3) hF rfl rfl rfl rfl (by kernel_rfl) hM.sm (fun _ _ _ h => h) ?_ ?_; (first | exact trivial | omega | decide); clear hF a; intro a hF))
    (first | (apply t_load (i := 4) hF rfl rfl rfl; (repeat (first | exact List.mem_cons_self | refine List.mem_cons_of_mem _ ?_)); exact rfl; exact rfl; kernel_rfl; exact hM.sm; exact (fun _ _ _ h => h); clear hF a; intro a hF))
    (first | (refine t_pure (i := 5) hF rfl rfl rfl rfl (by kernel_rfl) hM.sm (fun _ _ _ h => h) ?_ ?_; (first | exact trivial | omega | decide); clear hF a; intro a hF))
    (first | (refine t_pure (i := 6) hF rfl rfl rfl rfl (by kernel_rfl) hM.sm (fun _ _ _ h => h) ?_ ?_; (first | exact trivial | omega | decide); clear hF a; intro a hF))
    (first | (apply t_loadF (i := 7) hF rfl rfl rfl; (repeat (first | exact List.mem_cons_self | refine List.mem_cons_of_mem _ ?_)); (first | with_reducible assumption | (simp only [Int.toNat_natCast]; with_reducible assumption)); exact rfl; exact rfl; kernel_rfl; exact hM.sm; exact (fun _ _ _ h => h); clear hF a; intro a hF))
    (first | (refine t_pure (i := 8) hF rfl rfl rfl rfl (by kernel_rfl) hM.sm (fun _ _ _ h => h) ?_ ?_; (first | exact trivial | omega | decide); clear hF a; intro a hF))
    (first | (refine t_pure (i := 9) hF rfl rfl rfl rfl (by kernel_rfl) hM.sm (fun _ _ _ h => h) ?_ ?_; (first | exact trivial | omega | decide); clear hF a; intro a hF))
    (first | (refine t_pure (i := 10) hF rfl rfl rfl rfl (by kernel_rfl) hM.sm (fun _ _ _ h => h) ?_ ?_; (first | exact trivial | omega | decide); clear hF a; intro a hF))
    (first | (apply t_load (i := 11) hF rfl rfl rfl; (repeat (first | exact List.mem_cons_self | refine List.mem_cons_of_mem _ ?_)); exact rfl; exact rfl; kernel_rfl; exact hM.sm; exact (fun _ _ _ h => h); clear hF a; intro a hF))
    (first | (refine t_pure (i := 12) hF rfl rfl rfl rfl (by kernel_rfl) hM.sm (fun _ _ _ h => h) ?_ ?_; (first | exact trivial | omega | decide); clear hF a; intro a hF))
    (first | (refine t_pure (i := 13) hF rfl rfl rfl rfl (by kernel_rfl) hM.sm (fun _ _ _ h => h) ?_ ?_; (first | exact trivial | omega | decide); clear hF a; intro a hF))
    (first | (refine t_pure (i := 14) hF rfl rfl rfl rfl (by kernel_rfl) hM.sm (fun _ _ _ h => h) ?_ ?_; (first | exact trivial | omega | decide); clear hF a; intro a hF))
    (first | (refine t_pure (i := 15) hF rfl rfl rfl rfl (by kernel_rfl) hM.sm (fun _ _ _ h => h) ?_ ?_; (first | exact trivial | omega | decide); clear hF a; intro a hF))
    (first | (apply t_load (i := 16) hF rfl rfl rfl; (repeat (first | exact List.mem_cons_self | refine List.mem_cons_of_mem _ ?_)); exact rfl; exact rfl; kernel_rfl; exact hM.sm; exact (fun _ _ _ h => h); clear hF a; intro a hF))
    (first | (refine t_pure (i := 17) hF rfl rfl rfl rfl (by kernel_rfl) hM.sm (fun _ _ _ h => h) ?_ ?_; (first | exact trivial | omega | decide); clear hF a; intro a hF))
    (first | (refine t_pure (i := 18) hF rfl rfl rfl rfl (by kernel_rfl) hM.sm (fun _ _ _ h => h) ?_ ?_; (first | exact trivial | omega | decide); clear hF a; intro a hF))
    (first | (refine t_pure (i := 19) hF rfl rfl rfl rfl (by kernel_rfl) hM.sm (fun _ _ _ h => h) ?_ ?_; (first | exact trivial | omega | decide); clear hF a; intro a hF))
    refine t_done (by kernel_rfl) ?_
    (repeat (first | (with_reducible refine q_then_n ?_) | (with_reducible refine w_ret ?_)))
    (apply f_ret Try.results57 hF hM; (repeat (first | exact RL.nil | (apply RL.tmp; exact rfl) | (apply RL.cell; exact rfl; (repeat (first | exact List.mem_cons_self | refine List.mem_cons_of_mem _ ?_)); exact rfl))); refine Ret.mk hM.since ?_; dsimp only [resV])
    unfold rch
    rw [if_neg hin, hyd]
end Go.Proofs.Ytpkledpnicocmaa
