/- bytes.Equal, bits.Mul, slices.Repeat of sectors. -/
import Derived.Test.YthcnnedgfndklaaGu
import Derived.Test.YthcnnedgfndklaaU3
set_option linter.unusedSimpArgs false
set_option linter.unusedVariables false
set_option linter.unusedSectionVars false
namespace Go.Proofs.Ythcnnedgfndklaa
open Go.RowKit Go.Shelf
set_option maxRecDepth 20000 in
theorem equalB_c (xs ys : List Int) (hx : ∀ x ∈ xs, 0 ≤ x ∧ x < 256) (hy : ∀ y ∈ ys, 0 ≤ y ∧ y < 256) (a1 a2 : Option Addr) (m1 m2 c1 c2 : Nat) (h1 : xs.length = m1) (h2 : ys.length = m2) (own : Nat → Prop) (W : World) (hl : ∀ b, own b → b < W.heap.size) (hv1 : Has own W (RdF (Value.int .u8) a1 xs)) (hv2 : Has own W (RdF (Value.int .u8) a2 ys)) :
    Calls Try.prog 12 ⟨[.slice a1 m1 c1, .slice a2 m2 c2]⟩ W (Ret W fun v _ => v = .bool (decide (xs = ys))) := by
  have hM := ((Mm.start hl).known hv1).known hv2
  refine f_start Try.func12 rfl Try.ntmps12 rfl rfl ?_; intro a hF
  (repeat (first | (with_reducible refine w_seq ?_) | (with_reducible refine c_region ?_) | (with_reducible refine s_nil ?_) | ((with_reducible apply s_b2s hF hM); exact rfl; exact rfl; (repeat (first | exact List.mem_cons_self | refine List.mem_cons_of_mem _ ?_)); exact rfl; exact rfl; exact rfl; exact rfl; (first | with_reducible assumption | rfl); clear hF a; intro a hF) | ((with_reducible apply s_eqS hF); exact rfl; exact rfl; exact rfl; kernel_rfl; exact rfl; (with_reducible assumption); (with_reducible assumption); clear hF a; intro a hF) | (with_reducible refine q_then_n ?_) | ((with_reducible apply s_pure hF); exact rfl; exact rfl; exact rfl; (first | exact trivial | omega | decide); clear hF a; intro a hF) | (with_reducible refine w_ret ?_)))
  (apply f_ret Try.results12 hF hM; (repeat (first | exact RL.nil | (apply RL.tmp; exact rfl) | (apply RL.cell; exact rfl; (repeat (first | exact List.mem_cons_self | refine List.mem_cons_of_mem _ ?_)); exact rfl))); refine Ret.mk hM.since ?_; dsimp only [resV])
set_option maxRecDepth 20000 in
theorem mul64_c (c : Nat) (hc : c < 4294967296) (W : World) : Calls Try.prog 48 ⟨[.int .u64 1, .int .u64 c]⟩ W (Ret W fun v _ => v = .tuple #[.int .u64 0, .int .u64 c]) := by
  have hM : Mm (fun _ => False) W [] [] [] W := Mm.start (fun _ h => h.elim)
  refine f_start Try.func48 rfl Try.ntmps48 rfl rfl ?_; intro a hF
  (repeat (first | (with_reducible refine w_seq ?_) | (with_reducible refine c_region ?_) | (with_reducible refine s_nil ?_) | ((with_reducible apply s_and32 hF); exact rfl; exact rfl; exact rfl; exact rfl; omega; clear hF a; intro a hF) | ((with_reducible apply s_shr32 hF); exact rfl; exact rfl; exact rfl; exact rfl; exact rfl; omega; clear hF a; intro a hF) | (with_reducible refine q_then_n ?_) | ((with_reducible apply s_pure hF); exact rfl; exact rfl; exact rfl; (first | exact trivial | omega | decide); clear hF a; intro a hF) | (with_reducible refine w_ret ?_)))
  (apply f_ret Try.results48 hF hM; (repeat (first | exact RL.nil | (apply RL.tmp; exact rfl) | (apply RL.cell; exact rfl; (repeat (first | exact List.mem_cons_self | refine List.mem_cons_of_mem _ ?_)); exact rfl))); refine Ret.mk hM.since ?_; dsimp only [resV])
  simp
  omega
set_option maxRecDepth 20000 in
theorem mul_c (c : Nat) (hc : c < 4294967296) (x q : Int) (hx : x = 1) (hq : q = c) (W : World) : Calls Try.prog 44 ⟨[.int .u64 x, .int .u64 q]⟩ W (Ret W fun v _ => v = .tuple #[.int .u64 0, .int .u64 c]) := by
  have hM : Mm (fun _ => False) W [] [] [] W := Mm.start (fun _ h => h.elim)
  subst hx hq
  refine f_start Try.func44 rfl Try.ntmps44 rfl rfl ?_; intro a hF
  (repeat' (first | (with_reducible refine w_seq ?_) | (with_reducible refine c_region ?_) | (with_reducible refine s_nil ?_) | ((with_reducible apply s_call (f := 48) hF hM); exact rfl; exact rfl; exact rfl; exact rfl; exact rfl; exact (mul64_c c hc _); clear hF hM a; rintro v w a rfl - hM hF) | (with_reducible refine q_then_n ?_) | ((with_reducible apply s_pure hF); exact rfl; exact rfl; exact rfl; (first | exact trivial | omega | decide); clear hF a; intro a hF) | (with_reducible refine w_skip ?_) | (with_reducible refine w_ret ?_) | ((with_reducible apply c_false hF); exact rfl)))
  (apply f_ret Try.results44 hF hM; (repeat (first | exact RL.nil | (apply RL.tmp; exact rfl) | (apply RL.cell; exact rfl; (repeat (first | exact List.mem_cons_self | refine List.mem_cons_of_mem _ ?_)); exact rfl))); refine Ret.mk hM.since ?_; dsimp only [resV])
theorem flat_take : ∀ {l : List (List Int)} (_ : W8 l) (i : Nat), (l.take i).flatten = l.flatten.take (i * 8)
  | [], _, i => by simp
  | s :: l, h, 0 => by simp
  | s :: l, h, i + 1 => by
    have hs : s.length = 8 := h s (by simp)
    rw [List.take_succ_cons, List.flatten_cons, flat_take (l := l) (fun y hy => h y (List.mem_cons_of_mem _ hy)) i, List.flatten_cons, List.take_append, List.take_of_length_le (by omega : s.length ≤ (i + 1) * 8), hs, show (i + 1) * 8 - 8 = i * 8 by omega]
/-- n sectors s, the rest zero. -/
def mixL (s : List Int) (c n : Nat) : List (List Int) := List.replicate n s ++ List.replicate (c - n) zr
theorem mixL_8 {s : List Int} (hs8 : s.length = 8) (c n : Nat) : W8 (mixL s c n) := by
  intro y hy
  rcases List.mem_append.1 hy with h | h
  · rw [List.eq_of_mem_replicate h]; exact hs8
  · rw [List.eq_of_mem_replicate h]; rfl
theorem mixL_step {s : List Int} (hs8 : s.length = 8) {c n q : Nat} (hq : n + q ≤ c) :
    (((mixL s c n).flatten).map (Value.int .u8)).take (n * 8) ++ ((List.replicate q s).flatten).map (Value.int .u8) ++ (((mixL s c n).flatten).map (Value.int .u8)).drop (n * 8 + (((List.replicate q s).flatten).map (Value.int .u8)).length) = ((mixL s c (n + q)).flatten).map (Value.int .u8) := by
  have hr : ((List.replicate q s).flatten).length = q * 8 := by
    rw [flat_len (fun y hy => by rw [List.eq_of_mem_replicate hy]; exact hs8), List.length_replicate]
  rw [List.length_map, hr, ← List.map_take, ← List.map_drop, ← List.map_append, ← List.map_append, ← flat_take (mixL_8 hs8 c n), ← Nat.add_mul, ← flat_drop (mixL_8 hs8 c n), ← List.flatten_append, ← List.flatten_append]
  congr 2
  unfold mixL
  rw [List.take_left' (by simp), List.drop_append, List.length_replicate, List.drop_eq_nil_of_le (by simp), List.nil_append, show n + q - n = q by omega, List.drop_replicate, List.replicate_append_replicate]
  congr 2
  omega
theorem mixL_pre {s : List Int} {c n q : Nat} (hq : q ≤ n) {i : Nat} {v : Value} (h : (((List.replicate q s).flatten).map (Value.int .u8))[i]? = some v) : (((mixL s c n).flatten).map (Value.int .u8))[i]? = some v := by
  have e : mixL s c n = List.replicate q s ++ (List.replicate (n - q) s ++ List.replicate (c - n) zr) := by
    unfold mixL
    rw [← List.append_assoc]
    congr 1
    rw [List.replicate_append_replicate]
    congr 1
    omega
  rw [e, List.flatten_append, List.map_append, List.getElem?_append_left (List.getElem?_eq_some_iff.1 h).1]
  exact h
set_option maxRecDepth 20000 in
theorem repeat_c (s : List Int) (hs8 : s.length = 8) (c : Nat) (hc0 : 1 ≤ c) (hc : c ≤ 1000000) (a0 : Option Addr) (c1 : Nat) (own : Nat → Prop) (W : World) (hl : ∀ b, own b → b < W.heap.size) (hv : Has own W (RdF (Value.int .u8) a0 s)) :
    Calls Try.prog 40 ⟨[.slice a0 1 c1, .int .i64 c]⟩ W (Ret W fun v w' => ∃ a' c', v = .slice a' c c' ∧ Owns w' W.heap.size [⟨38, 8, .slice a' c c', c, (List.replicate c s).flatten.map (Value.int .u8)⟩]) := by
  have hM := (Mm.start hl).known hv
  refine f_start Try.func40 rfl Try.ntmps40 rfl rfl ?_; intro a hF
  (repeat' (first | (with_reducible refine w_seq ?_) | (with_reducible refine c_region ?_) | (with_reducible refine s_nil ?_) | ((with_reducible apply s_call (f := 44) hF hM); exact rfl; exact rfl; exact rfl; exact rfl; exact rfl; exact (mul_c c (by omega) _ _ (by omega) (by omega) _); clear hF hM a; rintro v w a rfl - hM hF) | (with_reducible refine q_then_n ?_) | ((with_reducible apply s_pure hF); exact rfl; exact rfl; exact rfl; (first | exact trivial | omega | decide); clear hF a; intro a hF) | (with_reducible refine w_skip ?_) | ((with_reducible apply c_false hF); exact rfl) | ((with_reducible apply c_dec hF); exact rfl; all_goals intro hc; all_goals (try (exfalso; omega)))))
  apply s_makeZ c hF hM
  iterate 6 exact rfl
  · omega
  · omega
  · omega
  clear hF hM a
  intro b w a hM hF
  obtain ⟨s0, hs0⟩ : ∃ s0, s[0]? = some s0 := ⟨_, List.getElem?_eq_getElem (by omega)⟩
  obtain ⟨ad, rfl⟩ := rd_some hM (by (repeat (first | exact List.mem_cons_self | refine List.mem_cons_of_mem _ ?_))) hs0
  (repeat (first | (with_reducible refine w_seq ?_) | (with_reducible refine c_region ?_) | (with_reducible refine s_nil ?_) | (with_reducible refine q_then_n ?_) | ((with_reducible apply s_pure hF); exact rfl; exact rfl; exact rfl; (first | exact trivial | omega | decide); clear hF a; intro a hF)))
  refine s_op hF rfl fun K hK => ?_
  have hz : zerosL [.int .u8 0, .int .u8 0, .int .u8 0, .int .u8 0, .int .u8 0, .int .u8 0, .int .u8 0, .int .u8 0] c = ((mixL s c 0).flatten).map (Value.int .u8) := by
    have := zerosL_ints (k := .u8) (m := 8) c
    unfold mixL
    rw [List.replicate_zero, List.nil_append, Nat.sub_zero]
    exact this
  rw [hz] at hM
  have hml : ∀ k, (((mixL s c k).flatten).map (Value.int .u8)).length = (mixL s c k).length * 8 := fun k => by rw [List.length_map, flat_len (mixL_8 hs8 c k)]
  have h1c : Nat.min 1 c = 1 := Nat.min_eq_left hc0
  refine e_copyR hF hM (cs := ((List.replicate 1 s).flatten).map (Value.int .u8)) (off := 0) rfl rfl rfl ?_ .z ?_ ?_ ?_ ?_
  · intro v hv
    obtain ⟨y, _, rfl⟩ := List.mem_map.1 hv
    rfl
  · rw [h1c]; simp [hs8]
  · intro i v hi
    have hrd := hM.fact (f := RdF (Value.int .u8) (some ad) s) (by (repeat (first | exact List.mem_cons_self | refine List.mem_cons_of_mem _ ?_)))
    simp only [List.replicate_one, List.flatten_cons, List.flatten_nil, List.append_nil, List.getElem?_map] at hi
    cases hy : s[i]? with
    | none => rw [hy] at hi; cases hi
    | some y =>
      rw [hy] at hi
      injection hi with hi
      subst hi
      obtain ⟨b', off', e4, _, e5⟩ := hrd i y hy
      injection e4 with e4
      subst e4
      rw [add_lit]
      exact e5
  · simp [hs8]; omega
  intro w2 hM
  have hst := mixL_step hs8 (c := c) (n := 0) (q := 1) (by omega)
  rw [Nat.zero_mul] at hst
  rw [h1c]
  dsimp only [List.set] at hM
  rw [hst] at hM
  refine hK _ _ ?_
  clear hK
  have hF := hF.put (d := 33) rfl (.int .i64 ((1 : Nat) : Int))
  generalize a.put (some 33) _ = a at *
  (repeat (first | (with_reducible refine w_seq ?_) | (with_reducible refine s_nil ?_) | (with_reducible refine q_then_n ?_) | ((with_reducible apply s_pure hF); exact rfl; exact rfl; exact rfl; (first | exact trivial | omega | decide); clear hF a; intro a hF) | (with_reducible refine w_block ?_)))
  refine c_loop (m := c - 1) (fun m a w' => ∃ k : Nat, m + k = c ∧ 1 ≤ k ∧ k ≤ c ∧ Fr 48 [] [(8, .int .i64 k), (7, .slice (some ⟨b, 0, none⟩) c c)] a ∧
    Mm own W [] [⟨38, 8, .slice (some ⟨b, 0, none⟩) c c, c, ((mixL s c k).flatten).map (Value.int .u8)⟩] [RdF (Value.int .u8) (some ad) s] w') ⟨1, by omega, by omega, by omega, hF.sub (by repeat (first | exact Sub.nil | refine Sub.cons rfl (by first | with_reducible rfl | (refine congrArg (Value.int _) ?_; omega) | exact rfl) ?_)), hM⟩ ?_
  clear hF hM a
  rintro m a w' ⟨k, hm, hk1, hkc, hF, hM⟩
  by_cases hlt : k < c
  · obtain ⟨q, hq⟩ : ∃ q, Nat.min k (c - k) = q := ⟨_, rfl⟩
    have hq1 : q ≤ k := by rw [← hq]; exact Nat.min_le_left _ _
    have hq2 : q ≤ c - k := by rw [← hq]; exact Nat.min_le_right _ _
    have hq3 : 1 ≤ q := by rw [← hq]; exact Nat.le_min.2 ⟨hk1, by omega⟩
    have hone : ∀ v ∈ ((List.replicate q s).flatten).map (Value.int .u8), v.oneCell' = true := by
      intro v hv
      obtain ⟨y, _, rfl⟩ := List.mem_map.1 hv
      rfl
    have hrl : (((List.replicate q s).flatten).map (Value.int .u8)).length = q * 8 := by
      rw [List.length_map, flat_len (fun y hy => by rw [List.eq_of_mem_replicate hy]; exact hs8), List.length_replicate]
    have hs1 : sadr (some ⟨b, 0, none⟩) k c 8 = some ⟨b, k * 8, none⟩ := by
      unfold sadr
      rw [if_neg (by omega)]
      simp [add_lit]
    have hs2 : sadr (some ⟨b, 0, none⟩) 0 c 8 = some ⟨b, 0, none⟩ := by
      unfold sadr
      rw [if_neg (by omega)]
      simp [add_lit]
    have hst := mixL_step hs8 (c := c) (n := k) (q := q) (by omega)
    with_reducible refine w_seq ?_
    refine c_cut (fun a' w1 => w1 = w' ∧ Fr 48 [] [(8, .int .i64 k), (7, .slice (some ⟨b, 0, none⟩) c c)] a') ?_ ?_
    · (repeat' (first | (with_reducible refine w_seq ?_) | (with_reducible refine c_region ?_) | (with_reducible refine s_nil ?_) | (with_reducible refine q_then_n ?_) | ((with_reducible apply s_pure hF); exact rfl; exact rfl; exact rfl; (first | exact trivial | omega | decide); clear hF a; intro a hF) | (with_reducible refine w_skip ?_) | ((with_reducible apply c_dec hF); exact rfl; all_goals intro hc; all_goals (try (exfalso; omega)))))
      exact q_cut ⟨rfl, hF.sub (by repeat (first | exact Sub.nil | refine Sub.cons rfl (by first | with_reducible rfl | (refine congrArg (Value.int _) ?_; omega) | exact rfl) ?_))⟩
    clear hF a
    rintro a w1 ⟨rfl, hF⟩
    with_reducible refine w_block ?_
    refine c_draw (fun i => Nat.ble 10 i) hM ?_; clear hM; intro w hM
    (first | (refine t_pure (i := 0) hF rfl rfl rfl rfl (by kernel_rfl) hM.sm (fun _ _ _ h => h) ?_ ?_; (first | exact trivial | omega | decide); clear hF a; intro a hF))
    (first | (refine t_pure (i := 1) hF rfl rfl rfl rfl (by kernel_rfl) hM.sm (fun _ _ _ h => h) ?_ ?_; (first | exact trivial | omega | decide); clear hF a; intro a hF))
    (first | (refine t_pure (i := 2) hF rfl rfl rfl rfl (by kernel_rfl) hM.sm (fun _ _ _ h => h) ?_ ?_; (first | exact trivial | omega | decide); clear hF a; intro a hF))
    (first | (refine t_pure (i := 3) hF rfl rfl rfl rfl (by kernel_rfl) hM.sm (fun _ _ _ h => h) ?_ ?_; (first | exact trivial | omega | decide); clear hF a; intro a hF))
    replace hF := Fr.same (t := 41) (u := .slice (some ⟨b, k * 8, none⟩) (c - k) (c - k)) hF rfl (by rw [Int.toNat_natCast, hs1]; simp)
    (first | (refine t_pure (i := 4) hF rfl rfl rfl rfl (by kernel_rfl) (hM.sm.sub (fun x hx => by repeat (first | exact hx | refine List.mem_cons_of_mem _ ?_)) (fun _ h => by repeat (first | exact h | refine List.mem_cons_of_mem _ ?_))) (fun _ _ _ h => h) ?_ ?_; (first | exact trivial | omega | decide); clear hF a; intro a hF))
    (first | (refine t_pure (i := 5) hF rfl rfl rfl rfl (by kernel_rfl) (hM.sm.sub (fun x hx => by repeat (first | exact hx | refine List.mem_cons_of_mem _ ?_)) (fun _ h => by repeat (first | exact h | refine List.mem_cons_of_mem _ ?_))) (fun _ _ _ h => h) ?_ ?_; (first | exact trivial | omega | decide); clear hF a; intro a hF))
    (first | (refine t_pure (i := 6) hF rfl rfl rfl rfl (by kernel_rfl) (hM.sm.sub (fun x hx => by repeat (first | exact hx | refine List.mem_cons_of_mem _ ?_)) (fun _ h => by repeat (first | exact h | refine List.mem_cons_of_mem _ ?_))) (fun _ _ _ h => h) ?_ ?_; (first | exact trivial | omega | decide); clear hF a; intro a hF))
    replace hF := Fr.same (t := 44) (u := .slice (some ⟨b, 0, none⟩) k c) hF rfl (by rw [show ((0 : Int)).toNat = 0 from rfl, hs2]; simp)
    refine t_one (i := 7) hF rfl (by kernel_rfl) rfl ?_
    intro K hK
    (refine e_copyR hF hM (cs := ((List.replicate q s).flatten).map (Value.int .u8)) (off := k * 8) rfl rfl rfl hone .z (by rw [hrl, hq]) (fun i v hi => (hM.mem.own.own _ List.mem_cons_self).cells (g := b) rfl i v (mixL_pre hq1 hi)) (by rw [hrl]; omega) ?_; clear hM; intro w hM; dsimp only [List.set] at hM; rw [hst] at hM; rw [hq]; replace hF := hF.put (d := 45) rfl (.int .i64 (q : Nat)); generalize a.put (some 45) _ = a at *)
    refine hK _ _ (fun _ => (hM.sm.sub (fun x hx => by repeat (first | exact hx | refine List.mem_cons_of_mem _ ?_)) (fun _ h => by repeat (first | exact h | refine List.mem_cons_of_mem _ ?_)))) ?_; clear hK
    (first | (refine t_pure (i := 8) hF rfl rfl rfl rfl (by kernel_rfl) (hM.sm.sub (fun x hx => by repeat (first | exact hx | refine List.mem_cons_of_mem _ ?_)) (fun _ h => by repeat (first | exact h | refine List.mem_cons_of_mem _ ?_))) (fun _ _ _ h => h) ?_ ?_; (first | exact trivial | omega | decide); clear hF a; intro a hF))
    (first | (refine t_pure (i := 9) hF rfl rfl rfl rfl (by kernel_rfl) (hM.sm.sub (fun x hx => by repeat (first | exact hx | refine List.mem_cons_of_mem _ ?_)) (fun _ h => by repeat (first | exact h | refine List.mem_cons_of_mem _ ?_))) (fun _ _ _ h => h) ?_ ?_; (first | exact trivial | omega | decide); clear hF a; intro a hF))
    refine t_done (by kernel_rfl) ?_
    (repeat' (first | (with_reducible refine q_then_n ?_) | (with_reducible refine q_blk_n ?_)))
    exact ⟨m - q, by omega, k + q, by omega, by omega, by omega, hF.sub (by repeat (first | exact Sub.nil | refine Sub.cons rfl (by first | with_reducible rfl | (refine congrArg (Value.int _) ?_; omega) | exact rfl) ?_)), hM⟩
  · obtain rfl : k = c := by omega
    (repeat' (first | (with_reducible refine w_seq ?_) | (with_reducible refine c_region ?_) | (with_reducible refine s_nil ?_) | (with_reducible refine q_then_n ?_) | ((with_reducible apply s_pure hF); exact rfl; exact rfl; exact rfl; (first | exact trivial | omega | decide); clear hF a; intro a hF) | (with_reducible refine w_exit ?_) | (with_reducible refine w_ret ?_) | (with_reducible refine q_then_x ?_) | (with_reducible refine q_blk_x ?_) | ((with_reducible apply c_dec hF); exact rfl; all_goals intro hc; all_goals (try (exfalso; omega)))))
    (apply f_ret Try.results40 hF hM; (repeat (first | exact RL.nil | (apply RL.tmp; exact rfl) | (apply RL.cell; exact rfl; (repeat (first | exact List.mem_cons_self | refine List.mem_cons_of_mem _ ?_)); exact rfl))); refine Ret.mk hM.since ?_; dsimp only [resV])
    refine ⟨some ⟨b, 0, none⟩, k, rfl, ?_⟩
    have hO := hM.mem.own
    unfold mixL at hO
    rw [Nat.sub_self, List.replicate_zero, List.append_nil] at hO
    exact hO
end Go.Proofs.Ythcnnedgfndklaa
