/- Layer 5's laws of lengths and of ranges. -/
import Derived.Test.YthcnnedgfndklaaY9
set_option linter.unusedSimpArgs false
set_option linter.unusedVariables false
set_option linter.unusedSectionVars false
namespace Go.Proofs.Ythcnnedgfndklaa
open Go.RowKit Go.Shelf
section
variable {own : Nat → Prop} {W : World} {a0 : Option Addr} {n m c0 c1 : Nat}
theorem Size_i {l : List (List Int)} (hv : Has own W (RdF (Value.int .u8) a0 l.flatten)) (hw : W8 l) (hn : l.length = n) (hlen : n ≤ 30000) (hc : n ≤ c0) (hl : ∀ b, own b → b < W.heap.size) :
    Calls Try.prog 14 ⟨[.slice a0 n c0]⟩ W (Ret W fun v _ => v = .int .i64 (enc l).length) := Size_f hl l hw (by omega) a0 n c0 hn hc hv
end
set_option maxRecDepth 20000 in
theorem bounds_c (l : List (List Int)) (hw : W8 l) (a0 : Option Addr) (c0 : Nat) (hc0 : l.length ≤ c0) (W : World) (hv : Has (fun _ => False) W (RdF (Value.int .u8) a0 l.flatten)) (s : List Int) (hs8 : s.length = 8) (q : Int) (hq : 0 ≤ q ∧ q ≤ 65535) :
    Calls Try.prog 7 ⟨[.slice a0 l.length c0, .agg (s.map (Value.int .u8)).toArray, .int .u16 q]⟩ W (Ret W fun x _ => x = .bool true) := by
  have hM := (Mm.start (fun _ h => h.elim)).known hv
  obtain ⟨c, hqc⟩ : ∃ c : Nat, q % 4097 = c := ⟨(q % 4097).toNat, by omega⟩
  have hc4 : c ≤ 4096 := by omega
  have hsame := enc_same hs8 hc4
  have hst := fun k h => mixL_step hs8 (c := c) (n := k) (q := 1) h
  have hz : zerosL [.int .u8 0, .int .u8 0, .int .u8 0, .int .u8 0, .int .u8 0, .int .u8 0, .int .u8 0, .int .u8 0] c = ((mixL s c 0).flatten).map (Value.int .u8) := by
    have := zerosL_ints (k := .u8) (m := 8) c
    unfold mixL
    rw [List.replicate_zero, List.nil_append, Nat.sub_zero]
    exact this
  have hrep8 : W8 (List.replicate c s) := W8.rep hs8 c
  obtain ⟨x0, x1, x2, x3, x4, x5, x6, x7, rfl⟩ := len8 hs8
  refine f_start Try.func7 rfl Try.ntmps7 rfl rfl ?_; intro a hF
  by_cases hlen : l.length ≤ 300
  case neg =>
    (repeat' (first | (with_reducible refine w_seq ?_) | (with_reducible refine c_region ?_) | (with_reducible refine s_nil ?_) | ((with_reducible apply s_call (f := 10) hF hM); exact rfl; exact rfl; exact rfl; exact rfl; exact rfl; exact (awake_c _ _ hM.lt); clear hF hM a; rintro v w a rfl - hM hF) | (with_reducible refine q_then_n ?_) | ((with_reducible apply s_pure hF); exact rfl; exact rfl; exact rfl; (first | exact trivial | omega | decide); clear hF a; intro a hF) | ((with_reducible apply s_box hF hM); exact rfl; exact rfl; exact rfl; exact rfl; clear hF hM a; intro b w a hM hF) | (with_reducible refine w_ret ?_) | (with_reducible refine q_then_r ?_) | ((with_reducible apply c_dec hF); exact rfl; all_goals intro hc; all_goals (try (exfalso; omega)))))
    all_goals (apply f_ret Try.results7 hF hM; (repeat (first | exact RL.nil | (apply RL.tmp; exact rfl) | (apply RL.cell; exact rfl; (repeat (first | exact List.mem_cons_self | refine List.mem_cons_of_mem _ ?_)); exact rfl))); refine Ret.mk hM.since ?_; dsimp only [resV])
  have hel := enc_le hw hlen
  have hep : 0 < l.length → 0 < (enc l).length := enc_pos
  (repeat' (first | (with_reducible refine w_seq ?_) | (with_reducible refine c_region ?_) | (with_reducible refine s_nil ?_) | ((with_reducible apply s_call (f := 14) hF hM); exact rfl; exact rfl; exact rfl; exact rfl; exact rfl; exact (Size_i (hM.facts _ (by with_reducible (repeat (first | exact List.mem_cons_self | refine List.mem_cons_of_mem _ ?_)))) hw rfl (by omega) hc0 hM.lt); clear hF hM a; rintro v w a rfl - hM hF) | (with_reducible refine q_then_n ?_) | ((with_reducible apply s_pure hF); exact rfl; exact rfl; exact rfl; (first | exact trivial | omega | decide); clear hF a; intro a hF) | ((with_reducible apply s_box hF hM); exact rfl; exact rfl; exact rfl; exact rfl; clear hF hM a; intro b w a hM hF) | (with_reducible refine w_skip ?_) | ((with_reducible apply c_false hF); exact rfl) | ((with_reducible apply s_skip hF); exact rfl; exact rfl; clear hF a; intro a hF) | ((with_reducible apply g_dec hF); exact rfl; exact rfl; all_goals (clear hF; intro hc hF); all_goals (try (exfalso; omega))) | ((with_reducible apply c_dec hF); exact rfl; all_goals intro hc; all_goals (try (exfalso; omega)))))
  all_goals
    rw [hqc] at hF
    apply s_makeZ c hF hM
    iterate 6 exact rfl
    · exact rfl
    · exact rfl
    · omega
    clear hF hM a
    intro gb w a hM hF
    rw [hz] at hM
    (repeat (first | (with_reducible refine w_seq ?_) | (with_reducible refine c_region ?_) | (with_reducible refine s_nil ?_) | (with_reducible refine q_then_n ?_) | ((with_reducible apply s_pure hF); exact rfl; exact rfl; exact rfl; (first | exact trivial | omega | decide); clear hF a; intro a hF) | (with_reducible refine w_block ?_)))
    refine c_loop (m := c) (fun m a w' => ∃ (i : Nat) (b4 : Nat), m + i = c ∧ Fr 54 [] [(40, .int .i64 i), (39, .int .i64 c), (8, .slice (some ⟨gb, 0, none⟩) c c), (4, .pointer (some ⟨b4, 0, none⟩))] a ∧
      Mm (fun _ => False) W [⟨b4, ⟨[.int .u8 x0, .int .u8 x1, .int .u8 x2, .int .u8 x3, .int .u8 x4, .int .u8 x5, .int .u8 x6, .int .u8 x7]⟩, 38⟩] [⟨38, 8, .slice (some ⟨gb, 0, none⟩) c c, c, ((mixL [x0, x1, x2, x3, x4, x5, x6, x7] c i).flatten).map (Value.int .u8)⟩] [] w') ⟨0, _, by omega, hF.sub (by repeat (first | exact Sub.nil | refine Sub.cons rfl (by first | with_reducible rfl | (refine congrArg (Value.int _) ?_; omega) | exact rfl) ?_)), hM.sub (.refl _) (.refl _) (by simp)⟩ ?_
    clear hF hM a
    rintro m a w' ⟨i, b4, hm, hF, hM⟩
    by_cases hi : i < c
    · (repeat' (first | (with_reducible refine w_seq ?_) | (with_reducible refine c_region ?_) | (with_reducible refine s_nil ?_) | (with_reducible refine q_then_n ?_) | ((with_reducible apply s_pure hF); exact rfl; exact rfl; exact rfl; (first | exact trivial | omega | decide); clear hF a; intro a hF) | ((with_reducible apply s_load hF hM); exact rfl; exact rfl; (repeat (first | exact List.mem_cons_self | refine List.mem_cons_of_mem _ ?_)); exact rfl; exact rfl; clear hF a; intro a hF) | (with_reducible refine w_skip ?_) | (with_reducible refine w_block ?_) | ((with_reducible apply c_dec hF); exact rfl; all_goals intro hc; all_goals (try (exfalso; omega)))))
      apply s_storeN (dst := none) hF hM
      · exact rfl
      · exact rfl
      · exact .z
      iterate 5 exact rfl
      · omega
      clear hM
      intro w hM
      dsimp only [List.set] at hM
      rw [Int.toNat_natCast] at hM
      have e := hst i (by omega)
      simp only [List.replicate_one, List.flatten_cons, List.flatten_nil, List.append_nil] at e
      rw [show [Value.int .u8 x0, Value.int .u8 x1, Value.int .u8 x2, Value.int .u8 x3, Value.int .u8 x4, Value.int .u8 x5, Value.int .u8 x6, Value.int .u8 x7] = [x0, x1, x2, x3, x4, x5, x6, x7].map (Value.int .u8) from rfl, e] at hM
      (repeat' (first | (with_reducible refine c_region ?_) | (with_reducible refine s_nil ?_) | (with_reducible refine q_then_n ?_) | ((with_reducible apply s_pure hF); exact rfl; exact rfl; exact rfl; (first | exact trivial | omega | decide); clear hF a; intro a hF) | (with_reducible refine q_blk_n ?_)))
      exact ⟨m - 1, by omega, i + 1, b4, by omega, hF.sub (by repeat (first | exact Sub.nil | refine Sub.cons rfl (by first | with_reducible rfl | (refine congrArg (Value.int _) ?_; omega) | exact rfl) ?_)), hM⟩
    · obtain rfl : i = c := by omega
      unfold mixL at hM
      rw [Nat.sub_self, List.replicate_zero, List.append_nil] at hM
      have hfr := hM.freezeN
      clear hM
      have hM := hfr
      clear hfr
      have hrl : (List.replicate i [x0, x1, x2, x3, x4, x5, x6, x7]).length = i := List.length_replicate
      (repeat' (first | (with_reducible refine w_seq ?_) | (with_reducible refine c_region ?_) | (with_reducible refine s_nil ?_) | ((with_reducible apply s_call (f := 10) hF hM); exact rfl; exact rfl; exact rfl; exact rfl; exact rfl; exact (awake_c _ _ hM.lt); clear hF hM a; rintro v w a rfl - hM hF) | ((with_reducible apply s_call (f := 14) hF hM); exact rfl; exact rfl; exact rfl; exact rfl; exact rfl; exact (Size_i (hM.facts _ (by with_reducible (repeat (first | exact List.mem_cons_self | refine List.mem_cons_of_mem _ ?_)))) hrep8 hrl (by omega) (by omega) hM.lt); clear hF hM a; rintro v w a rfl - hM hF) | (with_reducible refine q_then_n ?_) | ((with_reducible apply s_pure hF); exact rfl; exact rfl; exact rfl; (first | exact trivial | omega | decide); clear hF a; intro a hF) | (with_reducible refine w_exit ?_) | (with_reducible refine w_ret ?_) | (with_reducible refine q_then_x ?_) | (with_reducible refine q_blk_x ?_) | ((with_reducible apply g_dec hF); exact rfl; exact rfl; all_goals (clear hF; intro hc hF); all_goals (try (exfalso; omega))) | ((with_reducible apply c_dec hF); exact rfl; all_goals intro hc; all_goals (try (exfalso; omega)))))
      all_goals (apply f_ret Try.results7 hF hM; (repeat (first | exact RL.nil | (apply RL.tmp; exact rfl) | (apply RL.cell; exact rfl; (repeat (first | exact List.mem_cons_self | refine List.mem_cons_of_mem _ ?_)); exact rfl))); refine Ret.mk hM.since ?_; dsimp only [resV])
end Go.Proofs.Ythcnnedgfndklaa
