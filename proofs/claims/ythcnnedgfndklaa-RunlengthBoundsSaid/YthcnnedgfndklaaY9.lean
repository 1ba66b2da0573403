/- Layer 5's law of repetition. -/
import Derived.Test.YthcnnedgfndklaaY8
set_option linter.unusedSimpArgs false
set_option linter.unusedVariables false
set_option linter.unusedSectionVars false
namespace Go.Proofs.Ythcnnedgfndklaa
open Go.RowKit Go.Shelf
section
variable {own : Nat → Prop} {W : World} {a0 a1 : Option Addr} {n m c0 c1 : Nat}
theorem Enc_i {l : List (List Int)} {y : List Int} (hv : Has own W (RdF (Value.int .u8) a0 l.flatten)) (he : enc l = y) (hw : W8 l) (hn : l.length = n) (hlen : n ≤ 30000) (hc : n ≤ c0) (hl : ∀ b, own b → b < W.heap.size) :
    Calls Try.prog 11 ⟨[.slice a0 n c0]⟩ W (Ret W (Sl (Value.int .u8) own y y.length)) := Encode_e hl l he hw (by omega) a0 n c0 hn hc hv
theorem Dec_ok {xs : List Int} {ls : List (List Int)} {most : Int} (hv : Has own W (RdF (Value.int .u8) a0 xs)) (he : dec (mst most) xs = .ok ls) (hb : By xs) (hn : xs.length = n) (hlen : n ≤ 1000000) (hc : n ≤ c0) (hl : ∀ b, own b → b < W.heap.size) :
    Calls Try.prog 15 ⟨[.slice a0 n c0, .int .i64 most]⟩ W (Ret W fun v w' => ∃ a' c', v = .tuple #[.slice a' ls.length c', .int .i64 0] ∧ ls.length ≤ c' ∧ Has own w' (RdF (Value.int .u8) a' ls.flatten)) := decf_ok (Decode_f hl xs hb (by omega) most a0 n c0 hn hc hv) he
theorem Dec_err {xs : List Int} {e : Int} {most : Int} (hv : Has own W (RdF (Value.int .u8) a0 xs)) (he : dec (mst most) xs = .error e) (hb : By xs) (hn : xs.length = n) (hlen : n ≤ 1000000) (hc : n ≤ c0) (hl : ∀ b, own b → b < W.heap.size) :
    Calls Try.prog 15 ⟨[.slice a0 n c0, .int .i64 most]⟩ W (Ret W fun v _ => v = .tuple #[.slice none 0 0, .int .i64 e]) := decf_err (Decode_f hl xs hb (by omega) most a0 n c0 hn hc hv) he
theorem SameS_n {xs ys : List (List Int)} (hv1 : Has own W (RdF (Value.int .u8) a0 xs.flatten)) (hv2 : Has own W (RdF (Value.int .u8) a1 ys.flatten)) (hw1 : W8 xs) (hw2 : W8 ys) (he : xs ≠ ys) (h1 : xs.length = n) (h2 : ys.length = m) (hq : n ≤ 1000000) (hl : ∀ b, own b → b < W.heap.size) :
    Calls Try.prog 17 ⟨[.slice a0 n c0, .slice a1 m c1]⟩ W (Ret W fun v _ => v = .bool false) := SameS_no hl hw1 hw2 he a0 a1 n m c0 c1 h1 h2 hq hv1 hv2
theorem Eq_y {xs : List Int} (hv1 : Has own W (RdF (Value.int .u8) a0 xs)) (hv2 : Has own W (RdF (Value.int .u8) a1 xs)) (hb : By xs) (h1 : xs.length = n) (h2 : xs.length = m) (hl : ∀ b, own b → b < W.heap.size) :
    Calls Try.prog 12 ⟨[.slice a0 n c0, .slice a1 m c1]⟩ W (Ret W fun v _ => v = .bool true) := equalB_t hl hb rfl a0 a1 n m c0 c1 h1 h2 hv1 hv2
end
theorem rdN_errs : ∀ (f i : Nat) (n : Int) (xs : List Int), (rdN xs f i n).2.1 = 0 ∨ (rdN xs f i n).2.1 = 3 ∨ (rdN xs f i n).2.1 = 10
  | 0, _, _, _ => .inr (.inl rfl)
  | f + 1, i, n, xs => by
    rw [rdN]
    split
    · exact .inr (.inr rfl)
    · split
      · exact rdN_errs f _ _ xs
      · split
        · exact .inr (.inl rfl)
        · exact .inl rfl
theorem grpD_errs {most : Nat} {xs : List Int} {ls : List (List Int)} {e : Int} (h : grpD most xs ls = .error e) : e = 3 ∨ e = 5 ∨ e = 10 := by
  unfold grpD at h
  split at h
  · rename_i h1
    injection h with h
    subst h
    have := rdN_errs 8 0 0 xs
    unfold rdNum at h1 ⊢
    omega
  · simp only at h
    repeat (first | (split at h) | (injection h with h; omega) | cases h)
theorem decF_errs {most : Nat} : ∀ {f : Nat} {xs : List Int} {ls : List (List Int)} {e : Int}, decF most f xs ls = .error e → e = 3 ∨ e = 5 ∨ e = 10
  | 0, _, _, _, h => by cases h
  | f + 1, xs, ls, e, h => by
    rw [decF] at h
    split at h
    · cases h
    · split at h
      · rename_i hg
        injection h with h
        subst h
        exact grpD_errs hg
      · exact decF_errs h
theorem dec_errs {most : Nat} {b : List Int} {e : Int} (h : dec most b = .error e) : e = 3 ∨ e = 5 ∨ e = 10 := by
  unfold dec at h
  split at h
  · rename_i hd
    injection h with h
    subst h
    exact decF_errs hd
  · split at h
    · cases h
    · injection h with h; omega
set_option maxRecDepth 20000 in
theorem repeats_c (b : List Int) (hb : By b) (a0 : Option Addr) (c0 : Nat) (hc0 : b.length ≤ c0) (W : World) (hv : Has (fun _ => False) W (RdF (Value.int .u8) a0 b)) (m : Int) (hm : 0 ≤ m ∧ m ≤ 255) : Calls Try.prog 6 ⟨[.slice a0 b.length c0, .int .u8 m]⟩ W (Ret W fun x _ => x = .bool true) := by
  have hM := (Mm.start (fun _ h => h.elim)).known hv
  have hms : (mst m : Int) = m := by unfold mst; omega
  refine f_start Try.func6 rfl Try.ntmps6 rfl rfl ?_; intro a hF
  cases hd : dec (mst m) b with
  | error e =>
    have := dec_errs hd
    (repeat' (first | (with_reducible refine w_seq ?_) | (with_reducible refine c_region ?_) | (with_reducible refine s_nil ?_) | ((with_reducible apply s_call (f := 10) hF hM); exact rfl; exact rfl; exact rfl; exact rfl; exact rfl; exact (awake_c _ _ hM.lt); clear hF hM a; rintro v w a rfl - hM hF) | ((with_reducible apply s_call (f := 15) hF hM); exact rfl; exact rfl; exact rfl; exact rfl; exact rfl; exact (Dec_err (hM.facts _ (by with_reducible (repeat (first | exact List.mem_cons_self | refine List.mem_cons_of_mem _ ?_)))) hd hb rfl (by omega) hc0 hM.lt); clear hF hM a; rintro v w a rfl - hM hF) | (with_reducible refine q_then_n ?_) | ((with_reducible apply s_pure hF); exact rfl; exact rfl; exact rfl; (first | exact trivial | omega | decide); clear hF a; intro a hF) | (with_reducible refine w_skip ?_) | (with_reducible refine w_ret ?_) | (with_reducible refine q_then_r ?_) | ((with_reducible apply c_dec hF); exact rfl; all_goals intro hc; all_goals (try (exfalso; omega)))))
    all_goals (apply f_ret Try.results6 hF hM; (repeat (first | exact RL.nil | (apply RL.tmp; exact rfl) | (apply RL.cell; exact rfl; (repeat (first | exact List.mem_cons_self | refine List.mem_cons_of_mem _ ?_)); exact rfl))); refine Ret.mk hM.since ?_; dsimp only [resV])
  | ok ls =>
    obtain ⟨g1, g2, g3, g4⟩ := dec_good hd
    by_cases h0 : b.length = 0
    · have hls : ls.length = 0 := by
        rcases Nat.eq_zero_or_pos ls.length with h | h
        · exact h
        · have := enc_pos h; rw [g4] at this; omega
      (repeat' (first | (with_reducible refine w_seq ?_) | (with_reducible refine c_region ?_) | (with_reducible refine s_nil ?_) | ((with_reducible apply s_call (f := 10) hF hM); exact rfl; exact rfl; exact rfl; exact rfl; exact rfl; exact (awake_c _ _ hM.lt); clear hF hM a; rintro v w a rfl - hM hF) | ((with_reducible apply s_call (f := 15) hF hM); exact rfl; exact rfl; exact rfl; exact rfl; exact rfl; exact (Dec_ok (hM.facts _ (by with_reducible (repeat (first | exact List.mem_cons_self | refine List.mem_cons_of_mem _ ?_)))) hd hb rfl (by omega) hc0 hM.lt); clear hF hM a; rintro v w a ⟨a', c', rfl, hc, hx⟩ - hM hF; replace hM := hM.addFact hx) | ((with_reducible apply s_call (f := 11) hF hM); exact rfl; exact rfl; exact rfl; exact rfl; exact rfl; exact (Enc_i (hM.facts _ (by with_reducible (repeat (first | exact List.mem_cons_self | refine List.mem_cons_of_mem _ ?_)))) g4 g2 rfl (by omega) (by omega) hM.lt); clear hF hM a; rintro v w a ⟨a', c', rfl, hc, hx⟩ - hM hF; replace hM := hM.addFact hx) | ((with_reducible apply s_call (f := 12) hF hM); exact rfl; exact rfl; exact rfl; exact rfl; exact rfl; exact (Eq_y (hM.facts _ (by with_reducible (repeat (first | exact List.mem_cons_self | refine List.mem_cons_of_mem _ ?_)))) (hM.facts _ (by with_reducible (repeat (first | exact List.mem_cons_self | refine List.mem_cons_of_mem _ ?_)))) hb rfl rfl hM.lt); clear hF hM a; rintro v w a rfl - hM hF) | (with_reducible refine q_then_n ?_) | ((with_reducible apply s_pure hF); exact rfl; exact rfl; exact rfl; (first | exact trivial | omega | decide); clear hF a; intro a hF) | (with_reducible refine w_skip ?_) | (with_reducible refine w_ret ?_) | (with_reducible refine q_then_r ?_) | ((with_reducible apply c_false hF); exact rfl) | ((with_reducible apply g_dec hF); exact rfl; exact rfl; all_goals (clear hF; intro hc hF); all_goals (try (exfalso; omega))) | ((with_reducible apply c_dec hF); exact rfl; all_goals intro hc; all_goals (try (exfalso; omega)))))
      all_goals (apply f_ret Try.results6 hF hM; (repeat (first | exact RL.nil | (apply RL.tmp; exact rfl) | (apply RL.cell; exact rfl; (repeat (first | exact List.mem_cons_self | refine List.mem_cons_of_mem _ ?_)); exact rfl))); refine Ret.mk hM.since ?_; dsimp only [resV])
    · have hk : (b.take (b.length - 1)).length = (((b.length : Int) - 1).toNat - (0 : Int).toNat) := by rw [List.length_take]; omega
      have ht := RdF.take (hM.facts (RdF (Value.int .u8) a0 b) (by (repeat (first | exact List.mem_cons_self | refine List.mem_cons_of_mem _ ?_)))) (b.length - 1)
      rw [← sadr_zero a0 c0 1] at ht
      replace hM := hM.addFact (f := RdF (Value.int .u8) (sadr a0 (0 : Int).toNat c0 1) (b.take (b.length - 1))) ht
      clear ht
      have hbt := hb.take (b.length - 1)
      have hne : b.take (b.length - 1) ≠ b := by
        intro e
        have := congrArg List.length e
        rw [List.length_take] at this
        omega
      generalize b.take (b.length - 1) = bt at *
      cases hd2 : dec (mst m) bt with
      | error e =>
        have := dec_errs hd2
        (repeat' (first | (with_reducible refine w_seq ?_) | (with_reducible refine c_region ?_) | (with_reducible refine s_nil ?_) | ((with_reducible apply s_call (f := 10) hF hM); exact rfl; exact rfl; exact rfl; exact rfl; exact rfl; exact (awake_c _ _ hM.lt); clear hF hM a; rintro v w a rfl - hM hF) | ((with_reducible apply s_call (f := 15) hF hM); exact rfl; exact rfl; exact rfl; exact rfl; exact rfl; exact (Dec_ok (hM.facts _ (by with_reducible (repeat (first | exact List.mem_cons_self | refine List.mem_cons_of_mem _ ?_)))) hd hb rfl (by omega) hc0 hM.lt); clear hF hM a; rintro v w a ⟨a', c', rfl, hc, hx⟩ - hM hF; replace hM := hM.addFact hx) | ((with_reducible apply s_call (f := 15) hF hM); exact rfl; exact rfl; exact rfl; exact rfl; exact rfl; exact (Dec_err (hM.facts _ (by with_reducible (repeat (first | exact List.mem_cons_self | refine List.mem_cons_of_mem _ ?_)))) hd2 hbt hk (by omega) (by omega) hM.lt); clear hF hM a; rintro v w a rfl - hM hF) | ((with_reducible apply s_call (f := 11) hF hM); exact rfl; exact rfl; exact rfl; exact rfl; exact rfl; exact (Enc_i (hM.facts _ (by with_reducible (repeat (first | exact List.mem_cons_self | refine List.mem_cons_of_mem _ ?_)))) g4 g2 rfl (by omega) (by omega) hM.lt); clear hF hM a; rintro v w a ⟨a', c', rfl, hc, hx⟩ - hM hF; replace hM := hM.addFact hx) | ((with_reducible apply s_call (f := 12) hF hM); exact rfl; exact rfl; exact rfl; exact rfl; exact rfl; exact (Eq_y (hM.facts _ (by with_reducible (repeat (first | exact List.mem_cons_self | refine List.mem_cons_of_mem _ ?_)))) (hM.facts _ (by with_reducible (repeat (first | exact List.mem_cons_self | refine List.mem_cons_of_mem _ ?_)))) hb rfl rfl hM.lt); clear hF hM a; rintro v w a rfl - hM hF) | (with_reducible refine q_then_n ?_) | ((with_reducible apply s_pure hF); exact rfl; exact rfl; exact rfl; (first | exact trivial | omega | decide); clear hF a; intro a hF) | (with_reducible refine w_skip ?_) | (with_reducible refine w_ret ?_) | (with_reducible refine q_then_r ?_) | ((with_reducible apply c_false hF); exact rfl) | ((with_reducible apply s_skip hF); exact rfl; exact rfl; clear hF a; intro a hF) | ((with_reducible apply g_dec hF); exact rfl; exact rfl; all_goals (clear hF; intro hc hF); all_goals (try (exfalso; omega))) | ((with_reducible apply c_dec hF); exact rfl; all_goals intro hc; all_goals (try (exfalso; omega)))))
        all_goals (apply f_ret Try.results6 hF hM; (repeat (first | exact RL.nil | (apply RL.tmp; exact rfl) | (apply RL.cell; exact rfl; (repeat (first | exact List.mem_cons_self | refine List.mem_cons_of_mem _ ?_)); exact rfl))); refine Ret.mk hM.since ?_; dsimp only [resV])
      | ok l2 =>
        obtain ⟨k1, k2, k3, k4⟩ := dec_good hd2
        have hne2 : l2 ≠ ls := by
          intro e
          subst e
          exact hne (k4.symm.trans g4)
        (repeat' (first | (with_reducible refine w_seq ?_) | (with_reducible refine c_region ?_) | (with_reducible refine s_nil ?_) | ((with_reducible apply s_call (f := 10) hF hM); exact rfl; exact rfl; exact rfl; exact rfl; exact rfl; exact (awake_c _ _ hM.lt); clear hF hM a; rintro v w a rfl - hM hF) | ((with_reducible apply s_call (f := 15) hF hM); exact rfl; exact rfl; exact rfl; exact rfl; exact rfl; exact (Dec_ok (hM.facts _ (by with_reducible (repeat (first | exact List.mem_cons_self | refine List.mem_cons_of_mem _ ?_)))) hd hb rfl (by omega) hc0 hM.lt); clear hF hM a; rintro v w a ⟨a', c', rfl, hc, hx⟩ - hM hF; replace hM := hM.addFact hx) | ((with_reducible apply s_call (f := 15) hF hM); exact rfl; exact rfl; exact rfl; exact rfl; exact rfl; exact (Dec_ok (hM.facts _ (by with_reducible (repeat (first | exact List.mem_cons_self | refine List.mem_cons_of_mem _ ?_)))) hd2 hbt hk (by omega) (by omega) hM.lt); clear hF hM a; rintro v w a ⟨a', c', rfl, hc, hx⟩ - hM hF; replace hM := hM.addFact hx) | ((with_reducible apply s_call (f := 11) hF hM); exact rfl; exact rfl; exact rfl; exact rfl; exact rfl; exact (Enc_i (hM.facts _ (by with_reducible (repeat (first | exact List.mem_cons_self | refine List.mem_cons_of_mem _ ?_)))) g4 g2 rfl (by omega) (by omega) hM.lt); clear hF hM a; rintro v w a ⟨a', c', rfl, hc, hx⟩ - hM hF; replace hM := hM.addFact hx) | ((with_reducible apply s_call (f := 12) hF hM); exact rfl; exact rfl; exact rfl; exact rfl; exact rfl; exact (Eq_y (hM.facts _ (by with_reducible (repeat (first | exact List.mem_cons_self | refine List.mem_cons_of_mem _ ?_)))) (hM.facts _ (by with_reducible (repeat (first | exact List.mem_cons_self | refine List.mem_cons_of_mem _ ?_)))) hb rfl rfl hM.lt); clear hF hM a; rintro v w a rfl - hM hF) | ((with_reducible apply s_call (f := 17) hF hM); exact rfl; exact rfl; exact rfl; exact rfl; exact rfl; exact (SameS_n (hM.facts _ (by with_reducible (repeat (first | exact List.mem_cons_self | refine List.mem_cons_of_mem _ ?_)))) (hM.facts _ (by with_reducible (repeat (first | exact List.mem_cons_self | refine List.mem_cons_of_mem _ ?_)))) k2 g2 hne2 rfl rfl (by omega) hM.lt); clear hF hM a; rintro v w a rfl - hM hF) | (with_reducible refine q_then_n ?_) | ((with_reducible apply s_pure hF); exact rfl; exact rfl; exact rfl; (first | exact trivial | omega | decide); clear hF a; intro a hF) | (with_reducible refine w_skip ?_) | (with_reducible refine w_ret ?_) | (with_reducible refine q_then_r ?_) | ((with_reducible apply c_false hF); exact rfl) | ((with_reducible apply g_dec hF); exact rfl; exact rfl; all_goals (clear hF; intro hc hF); all_goals (try (exfalso; omega))) | ((with_reducible apply c_dec hF); exact rfl; all_goals intro hc; all_goals (try (exfalso; omega)))))
        all_goals (apply f_ret Try.results6 hF hM; (repeat (first | exact RL.nil | (apply RL.tmp; exact rfl) | (apply RL.cell; exact rfl; (repeat (first | exact List.mem_cons_self | refine List.mem_cons_of_mem _ ?_)); exact rfl))); refine Ret.mk hM.since ?_; dsimp only [resV])
end Go.Proofs.Ythcnnedgfndklaa
