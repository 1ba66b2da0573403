/- Texts of this seat, one behind the other: Ka Kb Ke Kf Kn Kg Kh Va Vb Vc Ki Pl2 Kj V4 Kk Kl Ko Kp Chunk Pl3 Ql1 Pl4 Pl5 Pl6 Search Pl7 Ql2. -/
import Derived.Deep.QuietTactic
import Derived.BigQuiet
import Derived.RangeFuncBox
import Derived.RangeFuncLeaves
import Derived.RangeFuncNested
import Derived.RangeFuncBound
import Derived.RangeFuncCalls
import Derived.Shelf.Abstract
import Derived.Shelf.RegionOpen
import Derived.WalkKit
import Derived.OwnWalkIn
import Derived.TacticsInMore
import Derived.LoopNIn
import Derived.LoopIn
import Derived.BigRegionIn
import Derived.Deep.RegionLaw
import Derived.StillTactics
import Derived.Laws.Pointers
import Derived.Laws.EntriesVeiled
import Derived.Test.YtabfhoipclbeeaaQVBc
set_option linter.unusedSimpArgs false
set_option linter.unusedVariables false
set_option linter.unusedSectionVars false
set_option maxRecDepth 3000
/- certificate: growth; slices.Repeat of a number. -/
namespace Go.Proofs.Ytabfhoipclbeeaa
open Go.RowKit Go.Shelf C55 K57
set_option maxRecDepth 20000 in
theorem mul64_c (c : Nat) (hc : c < 4294967296) (W : World) : Calls Try.prog 125 ⟨[.int .u64 1, .int .u64 c]⟩ W (Ret W fun v _ => v = .tuple #[.int .u64 0, .int .u64 c]) := by
  have hM : Mm (fun _ => False) W [] [] [] W := Mm.start (fun _ h => h.elim)
  refine f_start Try.func125 rfl Try.ntmps125 rfl rfl ?_; intro a hF
  (repeat (first | (with_reducible refine w_seq ?_) | (with_reducible refine c_region ?_) | (with_reducible refine s_nil ?_) | ((with_reducible apply s_and32 hF); exact rfl; exact rfl; exact rfl; exact rfl; omega; clear hF a; intro a hF) | ((with_reducible apply s_shr32 hF); exact rfl; exact rfl; exact rfl; exact rfl; exact rfl; omega; clear hF a; intro a hF) | (with_reducible refine q_then_n ?_) | ((with_reducible apply s_pure hF); exact rfl; exact rfl; exact rfl; (first | exact trivial | omega | exact ⟨Int.natCast_nonneg _, Int.ofNat_lt.2 (by assumption)⟩ | decide); clear hF a; intro a hF) | (with_reducible refine w_ret ?_)))
  (apply f_ret Try.results125 hF hM; (repeat (first | exact RL.nil | (apply RL.tmp; exact rfl) | (apply RL.cell; exact rfl; (repeat (first | exact List.mem_cons_self | refine List.mem_cons_of_mem _ ?_)); exact rfl))); refine Ret.mk hM.since ?_; dsimp only [resV])
  simp
  omega
set_option maxRecDepth 20000 in
theorem mul_c (c : Nat) (hc : c < 4294967296) (x q : Int) (hx : x = 1) (hq : q = c) (W : World) : Calls Try.prog 98 ⟨[.int .u64 x, .int .u64 q]⟩ W (Ret W fun v _ => v = .tuple #[.int .u64 0, .int .u64 c]) := by
  have hM : Mm (fun _ => False) W [] [] [] W := Mm.start (fun _ h => h.elim)
  subst hx hq
  refine f_start Try.func98 rfl Try.ntmps98 rfl rfl ?_; intro a hF
  (repeat' (first | (with_reducible refine w_seq ?_) | (with_reducible refine c_region ?_) | (with_reducible refine s_nil ?_) | ((with_reducible apply s_call (f := 125) hF hM); exact rfl; exact rfl; exact rfl; exact rfl; exact rfl; exact (mul64_c c hc _); clear hF hM a; rintro v w a rfl - hM hF) | (with_reducible refine q_then_n ?_) | ((with_reducible apply s_pure hF); exact rfl; exact rfl; exact rfl; (first | exact trivial | omega | exact ⟨Int.natCast_nonneg _, Int.ofNat_lt.2 (by assumption)⟩ | decide); clear hF a; intro a hF) | (with_reducible refine w_skip ?_) | (with_reducible refine w_ret ?_) | ((with_reducible apply c_false2 hF); exact rfl; (first | with_reducible rfl | (refine congrArg Value.bool ?_; focus (simp; done))))))
  (apply f_ret Try.results98 hF hM; (repeat (first | exact RL.nil | (apply RL.tmp; exact rfl) | (apply RL.cell; exact rfl; (repeat (first | exact List.mem_cons_self | refine List.mem_cons_of_mem _ ?_)); exact rfl))); refine Ret.mk hM.since ?_; dsimp only [resV])
/-- n numbers x, the rest zero. -/
def mixI (x : Int) (c n : Nat) : List Int := List.replicate n x ++ List.replicate (c - n) 0
theorem mixI_step {x : Int} {c n q : Nat} (hq : n + q ≤ c) :
    ((mixI x c n).map (Value.int .i64)).take n ++ (List.replicate q x).map (Value.int .i64) ++ ((mixI x c n).map (Value.int .i64)).drop (n + ((List.replicate q x).map (Value.int .i64)).length) = (mixI x c (n + q)).map (Value.int .i64) := by
  rw [List.length_map, List.length_replicate, ← List.map_take, ← List.map_drop, ← List.map_append, ← List.map_append]
  congr 1
  unfold mixI
  rw [List.take_left' (by simp), List.drop_append, List.length_replicate, List.drop_eq_nil_of_le (by simp), List.nil_append, show n + q - n = q by omega, List.drop_replicate, List.replicate_append_replicate]
  congr 2
  omega
theorem mixI_pre {x : Int} {c n q : Nat} (hq : q ≤ n) {i : Nat} {v : Value} (h : ((List.replicate q x).map (Value.int .i64))[i]? = some v) : ((mixI x c n).map (Value.int .i64))[i]? = some v := by
  have e : mixI x c n = List.replicate q x ++ (List.replicate (n - q) x ++ List.replicate (c - n) 0) := by
    unfold mixI
    rw [← List.append_assoc]
    congr 1
    rw [List.replicate_append_replicate]
    congr 1
    omega
  rw [e, List.map_append, List.getElem?_append_left (List.getElem?_eq_some_iff.1 h).1]
  exact h
set_option maxRecDepth 20000 in
set_option maxHeartbeats 1000000 in
theorem repeatI_c (x : Int) (c : Nat) (z : Int) (hz : z = c) (hc0 : 1 ≤ c) (hc : c ≤ 1000000) (a0 : Option Addr) (c1 : Nat) (own : Nat → Prop) (W : World) (hl : ∀ b, own b → b < W.heap.size) (hv : Has own W (RdF (Value.int .i64) a0 [x])) :
    Calls Try.prog 59 ⟨[.slice a0 1 c1, .int .i64 z]⟩ W (Ret W fun v w' => ∃ a' c', v = .slice a' c c' ∧ Owns w' W.heap.size [⟨3, 1, .slice a' c c', c, (List.replicate c x).map (Value.int .i64)⟩]) := by
  subst hz
  have hM := (Mm.start hl).known hv
  refine f_start Try.func59 rfl Try.ntmps59 rfl rfl ?_; intro a hF
  (repeat' (first | (with_reducible refine w_seq ?_) | (with_reducible refine c_region ?_) | (with_reducible refine s_nil ?_) | ((with_reducible apply s_call (f := 98) hF hM); exact rfl; exact rfl; exact rfl; exact rfl; exact rfl; exact (mul_c c (by omega) _ _ (by omega) (by omega) _); clear hF hM a; rintro v w a rfl - hM hF) | (with_reducible refine q_then_n ?_) | ((with_reducible apply s_pure hF); exact rfl; exact rfl; exact rfl; (first | exact trivial | omega | exact ⟨Int.natCast_nonneg _, Int.ofNat_lt.2 (by assumption)⟩ | decide); clear hF a; intro a hF) | (with_reducible refine w_skip ?_) | ((with_reducible apply c_false2 hF); exact rfl; (first | with_reducible rfl | (refine congrArg Value.bool ?_; focus (simp; done)))) | ((with_reducible apply c_dec hF); exact rfl; all_goals intro hc; all_goals (try (exfalso; omega)))))
  apply s_make c hF hM
  iterate 5 exact rfl
  · omega
  · omega
  · omega
  clear hF hM a
  intro b w a hM hF
  obtain ⟨ad, rfl⟩ := rd_some hM (xs := [x]) (k := 0) (by (repeat (first | exact List.mem_cons_self | refine List.mem_cons_of_mem _ ?_))) rfl
  (repeat (first | (with_reducible refine w_seq ?_) | (with_reducible refine c_region ?_) | (with_reducible refine s_nil ?_) | (with_reducible refine q_then_n ?_) | ((with_reducible apply s_pure hF); exact rfl; exact rfl; exact rfl; (first | exact trivial | omega | exact ⟨Int.natCast_nonneg _, Int.ofNat_lt.2 (by assumption)⟩ | decide); clear hF a; intro a hF)))
  refine s_op hF rfl fun K hK => ?_
  have hz : List.replicate c (Value.int .i64 0) = (mixI x c 0).map (Value.int .i64) := by
    unfold mixI
    rw [List.replicate_zero, List.nil_append, Nat.sub_zero]
    simp
  rw [hz] at hM
  have h1c : Nat.min 1 c = 1 := Nat.min_eq_left hc0
  refine e_copyR hF hM (cs := (List.replicate 1 x).map (Value.int .i64)) (off := 0) rfl rfl rfl ?_ .z ?_ ?_ ?_ ?_
  · intro v hv
    obtain ⟨y, _, rfl⟩ := List.mem_map.1 hv
    rfl
  · rw [h1c]; simp
  · intro i v hi
    have hrd := hM.fact (f := RdF (Value.int .i64) (some ad) [x]) (by (repeat (first | exact List.mem_cons_self | refine List.mem_cons_of_mem _ ?_)))
    simp only [List.replicate_one, List.getElem?_map] at hi
    cases hy : [x][i]? with
    | none => rw [hy] at hi; cases hi
    | some y =>
      rw [hy] at hi
      injection hi with hi
      subst hi
      obtain ⟨b', off', e4, _, e5⟩ := hrd i y hy
      injection e4 with e4
      subst e4
      rw [add_lit]
      exact e5
  · simp; omega
  intro w2 hM
  have hst := mixI_step (x := x) (c := c) (n := 0) (q := 1) (by omega)
  rw [h1c]
  dsimp only [List.set] at hM
  rw [hst] at hM
  refine hK _ _ ?_
  clear hK
  have hF := hF.put (d := 33) rfl (.int .i64 ((1 : Nat) : Int))
  generalize a.put (some 33) _ = a at *
  (repeat (first | (with_reducible refine w_seq ?_) | (with_reducible refine s_nil ?_) | (with_reducible refine q_then_n ?_) | ((with_reducible apply s_pure hF); exact rfl; exact rfl; exact rfl; (first | exact trivial | omega | exact ⟨Int.natCast_nonneg _, Int.ofNat_lt.2 (by assumption)⟩ | decide); clear hF a; intro a hF) | (with_reducible refine w_block ?_)))
  refine c_loop (m := c - 1) (fun m a w' => ∃ k : Nat, m + k = c ∧ 1 ≤ k ∧ k ≤ c ∧ Fr 48 [] [(8, .int .i64 k), (7, .slice (some ⟨b, 0, none⟩) c c)] a ∧
    Mm own W [] [⟨3, 1, .slice (some ⟨b, 0, none⟩) c c, c, (mixI x c k).map (Value.int .i64)⟩] [RdF (Value.int .i64) (some ad) [x]] w') ⟨1, by omega, by omega, by omega, hF.sub (by repeat (first | exact Sub.nil | refine Sub.cons rfl (by first | with_reducible rfl | (refine congrArg (Value.int _) ?_; omega) | exact rfl) ?_)), hM⟩ ?_
  clear hF hM a
  rintro m a w' ⟨k, hm, hk1, hkc, hF, hM⟩
  by_cases hlt : k < c
  · obtain ⟨q, hq⟩ : ∃ q, Nat.min k (c - k) = q := ⟨_, rfl⟩
    have hq1 : q ≤ k := by rw [← hq]; exact Nat.min_le_left _ _
    have hq2 : q ≤ c - k := by rw [← hq]; exact Nat.min_le_right _ _
    have hq3 : 1 ≤ q := by rw [← hq]; exact Nat.le_min.2 ⟨hk1, by omega⟩
    have hone : ∀ v ∈ (List.replicate q x).map (Value.int .i64), v.oneCell' = true := by
      intro v hv
      obtain ⟨y, _, rfl⟩ := List.mem_map.1 hv
      rfl
    have hrl : ((List.replicate q x).map (Value.int .i64)).length = q := by simp
    have hs1 : sadr (some ⟨b, 0, none⟩) k c 1 = some ⟨b, k, none⟩ := by
      unfold sadr
      rw [if_neg (by omega)]
      simp [add_lit]
    have hs2 : sadr (some ⟨b, 0, none⟩) 0 c 1 = some ⟨b, 0, none⟩ := by
      unfold sadr
      rw [if_neg (by omega)]
      simp [add_lit]
    have hst := mixI_step (x := x) (c := c) (n := k) (q := q) (by omega)
    with_reducible refine w_seq ?_
    refine c_cut (fun a' w1 => w1 = w' ∧ Fr 48 [] [(8, .int .i64 k), (7, .slice (some ⟨b, 0, none⟩) c c)] a') ?_ ?_
    · (repeat' (first | (with_reducible refine w_seq ?_) | (with_reducible refine c_region ?_) | (with_reducible refine s_nil ?_) | (with_reducible refine q_then_n ?_) | ((with_reducible apply s_pure hF); exact rfl; exact rfl; exact rfl; (first | exact trivial | omega | exact ⟨Int.natCast_nonneg _, Int.ofNat_lt.2 (by assumption)⟩ | decide); clear hF a; intro a hF) | (with_reducible refine w_skip ?_) | ((with_reducible apply c_dec hF); exact rfl; all_goals intro hc; all_goals (try (exfalso; omega)))))
      exact q_cut ⟨rfl, hF.sub (by repeat (first | exact Sub.nil | refine Sub.cons rfl (by first | with_reducible rfl | (refine congrArg (Value.int _) ?_; omega) | exact rfl) ?_))⟩
    clear hF a
    rintro a w1 ⟨rfl, hF⟩
    with_reducible refine w_block ?_
    refine c_draw (fun i => Nat.ble 10 i) hM ?_; clear hM; intro w hM
    (first | (refine t_pure (i := 0) hF rfl rfl rfl rfl (by kernel_rfl) hM.sm (fun _ _ _ h => h) ?_ ?_; (first | exact trivial | omega | decide); clear hF a; intro a hF))
    (first | (refine t_pure (i := 1) hF rfl rfl rfl rfl (by kernel_rfl) hM.sm (fun _ _ _ h => h) ?_ ?_; (first | exact trivial | omega | decide); clear hF a; intro a hF))
    (first | (refine t_pure (i := 2) hF rfl rfl rfl rfl (by kernel_rfl) hM.sm (fun _ _ _ h => h) ?_ ?_; (first | exact trivial | omega | decide); clear hF a; intro a hF))
    (first | (refine t_pure (i := 3) hF rfl rfl rfl rfl (by kernel_rfl) hM.sm (fun _ _ _ h => h) ?_ ?_; (first | exact trivial | omega | decide); clear hF a; intro a hF))
    replace hF := Fr.same (t := 41) (u := .slice (some ⟨b, k, none⟩) (c - k) (c - k)) hF rfl (by rw [Int.toNat_natCast, hs1]; simp)
    (first | (refine t_pure (i := 4) hF rfl rfl rfl rfl (by kernel_rfl) (hM.sm.sub (fun x hx => by repeat (first | exact hx | refine List.mem_cons_of_mem _ ?_)) (fun _ h => by repeat (first | exact h | refine List.mem_cons_of_mem _ ?_))) (fun _ _ _ h => h) ?_ ?_; (first | exact trivial | omega | decide); clear hF a; intro a hF))
    (first | (refine t_pure (i := 5) hF rfl rfl rfl rfl (by kernel_rfl) (hM.sm.sub (fun x hx => by repeat (first | exact hx | refine List.mem_cons_of_mem _ ?_)) (fun _ h => by repeat (first | exact h | refine List.mem_cons_of_mem _ ?_))) (fun _ _ _ h => h) ?_ ?_; (first | exact trivial | omega | decide); clear hF a; intro a hF))
    (first | (refine t_pure (i := 6) hF rfl rfl rfl rfl (by kernel_rfl) (hM.sm.sub (fun x hx => by repeat (first | exact hx | refine List.mem_cons_of_mem _ ?_)) (fun _ h => by repeat (first | exact h | refine List.mem_cons_of_mem _ ?_))) (fun _ _ _ h => h) ?_ ?_; (first | exact trivial | omega | decide); clear hF a; intro a hF))
    replace hF := Fr.same (t := 44) (u := .slice (some ⟨b, 0, none⟩) k c) hF rfl (by rw [show ((0 : Int)).toNat = 0 from rfl, hs2]; simp)
    refine t_one (i := 7) hF rfl (by kernel_rfl) rfl ?_
    intro K hK
    (refine e_copyR hF hM (cs := (List.replicate q x).map (Value.int .i64)) (off := k) rfl rfl rfl hone .z (by rw [hrl, hq, Nat.mul_one]) (fun i v hi => (hM.mem.own.own _ List.mem_cons_self).cells (g := b) rfl i v (mixI_pre hq1 hi)) (by rw [hrl]; omega) ?_; clear hM; intro w hM; dsimp only [List.set] at hM; rw [hst] at hM; rw [hq]; replace hF := hF.put (d := 45) rfl (.int .i64 (q : Nat)); generalize a.put (some 45) _ = a at *)
    refine hK _ _ (fun _ => (hM.sm.sub (fun x hx => by repeat (first | exact hx | refine List.mem_cons_of_mem _ ?_)) (fun _ h => by repeat (first | exact h | refine List.mem_cons_of_mem _ ?_)))) ?_; clear hK
    (first | (refine t_pure (i := 8) hF rfl rfl rfl rfl (by kernel_rfl) (hM.sm.sub (fun x hx => by repeat (first | exact hx | refine List.mem_cons_of_mem _ ?_)) (fun _ h => by repeat (first | exact h | refine List.mem_cons_of_mem _ ?_))) (fun _ _ _ h => h) ?_ ?_; (first | exact trivial | omega | decide); clear hF a; intro a hF))
    (first | (refine t_pure (i := 9) hF rfl rfl rfl rfl (by kernel_rfl) (hM.sm.sub (fun x hx => by repeat (first | exact hx | refine List.mem_cons_of_mem _ ?_)) (fun _ h => by repeat (first | exact h | refine List.mem_cons_of_mem _ ?_))) (fun _ _ _ h => h) ?_ ?_; (first | exact trivial | omega | decide); clear hF a; intro a hF))
    refine t_done (by kernel_rfl) ?_
    (repeat' (first | (with_reducible refine q_then_n ?_) | (with_reducible refine q_blk_n ?_)))
    exact ⟨m - q, by omega, k + q, by omega, by omega, by omega, hF.sub (by repeat (first | exact Sub.nil | refine Sub.cons rfl (by first | with_reducible rfl | (refine congrArg (Value.int _) ?_; omega) | exact rfl) ?_)), hM⟩
  · obtain rfl : k = c := by omega
    (repeat' (first | (with_reducible refine w_seq ?_) | (with_reducible refine c_region ?_) | (with_reducible refine s_nil ?_) | (with_reducible refine q_then_n ?_) | ((with_reducible apply s_pure hF); exact rfl; exact rfl; exact rfl; (first | exact trivial | omega | exact ⟨Int.natCast_nonneg _, Int.ofNat_lt.2 (by assumption)⟩ | decide); clear hF a; intro a hF) | (with_reducible refine w_exit ?_) | (with_reducible refine w_ret ?_) | (with_reducible refine q_then_x ?_) | (with_reducible refine q_blk_x ?_) | ((with_reducible apply c_false2 hF); exact rfl; (first | with_reducible rfl | (refine congrArg Value.bool ?_; focus (simp; done))))))
    (apply f_ret Try.results59 hF hM; (repeat (first | exact RL.nil | (apply RL.tmp; exact rfl) | (apply RL.cell; exact rfl; (repeat (first | exact List.mem_cons_self | refine List.mem_cons_of_mem _ ?_)); exact rfl))); refine Ret.mk hM.since ?_; dsimp only [resV])
    refine ⟨some ⟨b, 0, none⟩, k, rfl, ?_⟩
    have hO := hM.mem.own
    unfold mixI at hO
    rw [Nat.sub_self, List.replicate_zero, List.append_nil] at hO
    exact hO
/-- What a curve grows by. -/
def gr (c : Cu) (t : Nat) : Int := vl c (t + 1) - vl c t
set_option maxHeartbeats 1000000 in
theorem growth_c (c : Cu) (ok : Ok c) (n : Nat) (z : Int) (hz : z = n) (hn : n ≤ 100000) (v : Value) (own : Nat → Prop) (W : World) (hl : ∀ b, own b → b < W.heap.size) (hv : Has own W (IsCu · v c)) :
    Calls Try.prog 60 ⟨[v, .int .i64 z]⟩ W (Ret W fun v w' => ∃ a' c', v = .slice a' n c' ∧ n ≤ c' ∧ Has own w' (RdF (Value.int .i64) a' (tab (gr c) n))) := by
  subst hz
  obtain ⟨a0, c0, rfl, hV, l1, l2⟩ := isCu_open hv
  have hM := ((Mm.start hl).known hV).nilRow 3 1
  refine f_start Try.func60 rfl Try.ntmps60 rfl rfl ?_; intro a hF
  (repeat' (first | (with_reducible refine w_seq ?_) | (with_reducible refine c_region ?_) | (with_reducible refine s_nil ?_) | (with_reducible refine q_then_n ?_) | ((with_reducible apply s_pure hF); exact rfl; exact rfl; exact rfl; (first | exact trivial | omega | exact ⟨Int.natCast_nonneg _, Int.ofNat_lt.2 (by assumption)⟩ | decide); clear hF a; intro a hF) | ((with_reducible apply s_box hF hM); exact rfl; exact rfl; exact rfl; exact rfl; clear hF hM a; intro b w a hM hF) | (with_reducible refine w_block ?_)))
  generalize b = b2 at *
  refine c_loop (m := n) (fun m a w' => ∃ (k : Nat) (rv : Value), m + k = n ∧
    Fr 24 [] [(8, .int .i64 k), (7, .int .i64 n), (5, rv), (2, .pointer (some ⟨b2, 0, none⟩))] a ∧
    Mm own W [⟨b2, ⟨[.slice a0 c.V.length c0, .int .i64 c.S]⟩, 24⟩] [⟨3, 1, rv, k, (tab (gr c) k).map (Value.int .i64)⟩] [RdF (Value.int .i64) a0 c.V] w')
    ⟨0, _, by omega, hF.sub (by repeat (first | exact Sub.nil | refine Sub.cons rfl (by first | with_reducible rfl | (refine congrArg (Value.int _) ?_; omega) | exact rfl) ?_)), hM⟩ ?_
  clear hF hM a
  rintro m a w' ⟨k, rv, hm, hF, hM⟩
  by_cases hk : k < n
  · have e1 : atT c ((k : Int) + 1) = vl c (k + 1) := by rw [show (k : Int) + 1 = ((k + 1 : Nat) : Int) by omega]; exact at_vl ok (by omega)
    have e2 : atT c (k : Int) = vl c k := at_vl ok (by omega)
    have r1 := vl_rg ok (k := k + 1) (by omega)
    have r2 := vl_rg ok (k := k) (by omega)
    have e : (tab (gr c) (k + 1)).map (Value.int .i64) = (tab (gr c) k).map (Value.int .i64) ++ [.int .i64 (vl c (k + 1) - vl c k)] := by
      rw [tab_succ, List.map_append]; rfl
    (repeat' (first | (with_reducible refine w_seq ?_) | (with_reducible refine c_region ?_) | (with_reducible refine s_nil ?_) | (with_reducible refine q_then_n ?_) | ((with_reducible apply s_pure hF); exact rfl; exact rfl; exact rfl; (first | exact trivial | omega | exact ⟨Int.natCast_nonneg _, Int.ofNat_lt.2 (by assumption)⟩ | decide); clear hF a; intro a hF) | (with_reducible refine w_skip ?_) | (with_reducible refine w_block ?_) | ((with_reducible apply c_dec hF); exact rfl; all_goals intro hc; all_goals (try (exfalso; omega)))))
    refine c_draw (fun i => Nat.ble 12 i) hM ?_; clear hM; intro w hM
    (first | (refine t_pure (i := 0) hF rfl rfl rfl rfl (by kernel_rfl) hM.sm (fun _ _ _ h => h) ?_ ?_; (first | exact trivial | omega | decide); clear hF a; intro a hF))
    (first | (apply t_load (i := 1) hF rfl rfl rfl; (repeat (first | exact List.mem_cons_self | refine List.mem_cons_of_mem _ ?_)); exact rfl; exact rfl; kernel_rfl; exact hM.sm; exact (fun _ _ _ h => h); clear hF a; intro a hF))
    (first | (refine t_pure (i := 2) hF rfl rfl rfl rfl (by kernel_rfl) hM.sm (fun _ _ _ h => h) ?_ ?_; (first | exact trivial | omega | decide); clear hF a; intro a hF))
    (first | (refine t_pure (i := 3) hF rfl rfl rfl rfl (by kernel_rfl) hM.sm (fun _ _ _ h => h) ?_ ?_; (first | exact trivial | omega | decide); clear hF a; intro a hF))
    (first | (apply t_load (i := 5) hF rfl rfl rfl; (repeat (first | exact List.mem_cons_self | refine List.mem_cons_of_mem _ ?_)); exact rfl; exact rfl; kernel_rfl; exact hM.sm; exact (fun _ _ _ h => h); clear hF a; intro a hF))
    (first | (refine t_pure (i := 6) hF rfl rfl rfl rfl (by kernel_rfl) hM.sm (fun _ _ _ h => h) ?_ ?_; (first | exact trivial | omega | decide); clear hF a; intro a hF))
    refine t_one (i := 4) hF rfl (by kernel_rfl) rfl ?_
    intro K hK
    (apply x_call hF hM; exact rfl; exact rfl; exact rfl; exact rfl; exact (At_c c ((k : Int) + 1) _ _ _ hM.lt (isCu_mk (hM.facts (RdF (Value.int .i64) a0 c.V) (by (repeat (first | exact List.mem_cons_self | refine List.mem_cons_of_mem _ ?_)))) l1 l2)); clear hF hM a; rintro v w a rfl - hM hF)
    rw [e1] at hF
    refine hK _ _ (fun _ => (hM.sm.sub (fun x hx => by repeat (first | exact hx | refine List.mem_cons_of_mem _ ?_)) (fun _ h => by repeat (first | exact h | refine List.mem_cons_of_mem _ ?_)))) ?_; clear hK
    refine t_one (i := 7) hF rfl (by kernel_rfl) rfl ?_
    intro K hK
    (apply x_call hF hM; exact rfl; exact rfl; exact rfl; exact rfl; exact (At_c c k _ _ _ hM.lt (isCu_mk (hM.facts (RdF (Value.int .i64) a0 c.V) (by (repeat (first | exact List.mem_cons_self | refine List.mem_cons_of_mem _ ?_)))) l1 l2)); clear hF hM a; rintro v w a rfl - hM hF)
    rw [e2] at hF
    refine hK _ _ (fun _ => (hM.sm.sub (fun x hx => by repeat (first | exact hx | refine List.mem_cons_of_mem _ ?_)) (fun _ h => by repeat (first | exact h | refine List.mem_cons_of_mem _ ?_)))) ?_; clear hK
    (first | (refine t_pure (i := 8) hF rfl rfl rfl rfl (by kernel_rfl) (hM.sm.sub (fun x hx => by repeat (first | exact hx | refine List.mem_cons_of_mem _ ?_)) (fun _ h => by repeat (first | exact h | refine List.mem_cons_of_mem _ ?_))) (fun _ _ _ h => h) ?_ ?_; (first | exact trivial | omega | decide); clear hF a; intro a hF))
    refine t_one (i := 9) hF rfl (by kernel_rfl) rfl ?_
    intro K hK
    (refine x_lit hF hM rfl rfl rfl ?_; clear hF hM a; intro bl w a hM hF)
    refine hK _ _ (fun _ => (hM.sm.sub (fun x hx => by repeat (first | exact hx | refine List.mem_cons_of_mem _ ?_)) (fun _ h => by repeat (first | exact h | refine List.mem_cons_of_mem _ ?_)))) ?_; clear hK
    refine t_one (i := 10) hF rfl (by kernel_rfl) rfl ?_
    intro K hK
    (apply x_app hF hM rfl rfl rfl; (repeat (first | exact List.mem_cons_self | refine List.mem_cons_of_mem _ ?_)); (repeat (first | exact Kth.z | apply Kth.s)); exact rfl; exact rfl; exact rfl; exact rfl; omega; clear hF hM a; intro g cap w a hM hF; dsimp only [List.set] at hM)
    refine hK _ _ (fun _ => (hM.sm.sub (fun x hx => by repeat (first | exact hx | refine List.mem_cons_of_mem _ ?_)) (fun _ h => by repeat (first | exact h | refine List.mem_cons_of_mem _ ?_)))) ?_; clear hK
    (first | (refine t_pure (i := 11) hF rfl rfl rfl rfl (by kernel_rfl) (hM.sm.sub (fun x hx => by repeat (first | exact hx | refine List.mem_cons_of_mem _ ?_)) (fun _ h => by repeat (first | exact h | refine List.mem_cons_of_mem _ ?_))) (fun _ _ _ h => h) ?_ ?_; (first | exact trivial | omega | decide); clear hF a; intro a hF))
    refine t_done (by kernel_rfl) ?_
    (repeat' (first | (with_reducible refine c_region ?_) | (with_reducible refine s_nil ?_) | (with_reducible refine q_then_n ?_) | ((with_reducible apply s_pure hF); exact rfl; exact rfl; exact rfl; (first | exact trivial | omega | exact ⟨Int.natCast_nonneg _, Int.ofNat_lt.2 (by assumption)⟩ | decide); clear hF a; intro a hF) | (with_reducible refine q_blk_n ?_)))
    refine ⟨m - 1, by omega, k + 1, _, by omega, hF.sub (by repeat (first | exact Sub.nil | refine Sub.cons rfl (by first | with_reducible rfl | (refine congrArg (Value.int _) ?_; omega) | exact rfl) ?_)), ?_⟩
    rw [e]
    exact hM.sub (.cons _ (.refl _)) (.refl _) (fun _ h => h)
  · obtain rfl : k = n := by omega
    obtain ⟨a', c', rfl, hcap, _⟩ := OffR.shape hM (k := 0) rfl (OffR.plain hM List.mem_cons_self)
    (repeat' (first | (with_reducible refine w_seq ?_) | (with_reducible refine c_region ?_) | (with_reducible refine s_nil ?_) | (with_reducible refine q_then_n ?_) | ((with_reducible apply s_pure hF); exact rfl; exact rfl; exact rfl; (first | exact trivial | omega | exact ⟨Int.natCast_nonneg _, Int.ofNat_lt.2 (by assumption)⟩ | decide); clear hF a; intro a hF) | (with_reducible refine w_exit ?_) | (with_reducible refine w_ret ?_) | (with_reducible refine q_then_x ?_) | (with_reducible refine q_blk_x ?_) | ((with_reducible apply c_false2 hF); exact rfl; (first | with_reducible rfl | (refine congrArg Value.bool ?_; focus (simp; done))))))
    (apply f_ret Try.results60 hF hM; (repeat (first | exact RL.nil | (apply RL.tmp; exact rfl) | (apply RL.cell; exact rfl; (repeat (first | exact List.mem_cons_self | refine List.mem_cons_of_mem _ ?_)); exact rfl))); refine Ret.mk hM.since ?_; dsimp only [resV])
    exact ⟨a', c', rfl, hcap, hM.rowFact List.mem_cons_self⟩
end Go.Proofs.Ytabfhoipclbeeaa


/- certificate: Worst. -/
namespace Go.Proofs.Ytabfhoipclbeeaa
open Go.RowKit Go.Shelf C55 K57
namespace K57
def wrsE (c : Ce) (n : Int) : Int := if chkE c ≠ 0 then chkE c else if ¬ (c.P ≤ n ∧ n ≤ 4096) then 2 else if 4096 < c.P + c.S.V.length then 5 else 0
def wrsT (c : Ce) (n : Nat) : P56.Tr := ⟨tab (gr c.A) n, List.replicate c.P.toNat 4096 ++ tab (gr c.S) c.S.V.length, c.P, c.L, c.D⟩
theorem wrsE_ok {c : Ce} {n : Int} (h : wrsE c n = 0) : chkE c = 0 ∧ c.P ≤ n ∧ n ≤ 4096 ∧ c.P + c.S.V.length ≤ 4096 := by
  unfold wrsE at h
  split at h
  · omega
  split at h
  · omega
  split at h
  · omega
  · omega
theorem wrsT_W (c : Ce) (n : Nat) : (wrsT c n).W.length = n := tab_len _ _
theorem wrsT_C (c : Ce) (n : Nat) : (wrsT c n).C.length = c.P.toNat + c.S.V.length := by unfold wrsT; rw [List.length_append, List.length_replicate, tab_len]
end K57
abbrev trZ : List Value := [.slice none 0 0, .slice none 0 0, .int .i64 0, .int .i64 0, .int .i64 0]
/-- What Worst answers. -/
def WrR (own : Nat → Prop) (c : Ce) (n : Int) (v : Value) (w' : World) : Prop :=
  (wrsE c n ≠ 0 ∧ v = .tuple #[.agg ⟨trZ⟩, .int .i64 (wrsE c n)]) ∨
  (wrsE c n = 0 ∧ ∃ aw cw ac cc, v = .tuple #[.agg ⟨trL (wrsT c n.toNat) aw cw ac cc⟩, .int .i64 0] ∧ Has own w' (RdF (Value.int .i64) aw (wrsT c n.toNat).W) ∧ Has own w' (RdF (Value.int .i64) ac (wrsT c n.toNat).C) ∧ (wrsT c n.toNat).W.length ≤ cw ∧ (wrsT c n.toNat).C.length ≤ cc)
theorem RdF.cells {α : Type} {enc : α → Value} {ad : Addr} {xs : List α} {w : World} (h : RdF enc (some ad) xs w) : ∀ (j : Nat) (u : Value), (xs.map enc)[j]? = some u → w.cell? (ad.add j) = some u := by
  intro j u hu
  rw [List.getElem?_map] at hu
  cases hy : xs[j]? with
  | none => rw [hy] at hu; cases hu
  | some y =>
    rw [hy] at hu
    injection hu with hu
    obtain ⟨b, off, e1, _, e2⟩ := h j y hy
    injection e1 with e1
    subst e1
    rw [add_lit, e2, hu]
theorem row_ad' {own : Nat → Prop} {w w0 : World} {bs : List BoxE} {L : List Ent} {Fs : List (World → Prop)} {e : TypeId} {size k c : Nat} {ao : Option Addr} {xs : List Value} (hM : Mm own w0 bs L Fs w) {i : Nat} (h : L[i]? = some ⟨e, size, .slice ao k c, k, xs⟩) : k ≤ c := by
  obtain ⟨ao', c', e1, h1, _⟩ := OffR.shape hM h (OffR.plain hM (List.mem_of_getElem? h))
  injection e1 with e1 _ e2
  subst e1 e2
  exact h1
section
variable (c : Ce) (a1 a2 : Option Addr) (c1 c2 : Nat) (l1 : c.A.V.length ≤ 9223372036854775807) (m1 : c.A.V.length ≤ c1) (l2 : c.S.V.length ≤ 9223372036854775807) (m2 : c.S.V.length ≤ c2)
include l1 m1 l2 m2
section
variable {own : Nat → Prop} {w0 W : World} {bs : List BoxE} {L : List Ent} {Fs : List (World → Prop)} (bg bn bc : Nat) (e2 n : Int) (xb : BoxE)
  (hM : Mm own w0 (⟨bg, ⟨[.int .i64 e2]⟩, 32⟩ :: xb :: ⟨bn, ⟨[.int .i64 n]⟩, 3⟩ :: ⟨bc, ⟨ceL c a1 c1 a2 c2⟩, 29⟩ :: bs) L (RdF (Value.int .i64) a2 c.S.V :: RdF (Value.int .i64) a1 c.A.V :: Fs) W)
include hM
theorem wrs1_ok (h : wrsE c n = 0) : Calls Try.prog 57 ⟨[.pointer (some ⟨bc, 0, none⟩), .pointer (some ⟨bn, 0, none⟩)]⟩ W (Rtn fun _ w' => Mm own w0 (⟨bg, ⟨[.int .i64 e2]⟩, 32⟩ :: xb :: ⟨bn, ⟨[.int .i64 n]⟩, 3⟩ :: ⟨bc, ⟨ceL c a1 c1 a2 c2⟩, 29⟩ :: bs) L (RdF (Value.int .i64) a2 c.S.V :: RdF (Value.int .i64) a1 c.A.V :: Fs) w') := by
  obtain ⟨h1, h2, h3, h4⟩ := wrsE_ok h
  have hP := (chk_bok h1).1.num
  refine f_start Try.func57 rfl Try.ntmps57 rfl rfl ?_; intro a hF
  (repeat' (first | (with_reducible refine w_seq ?_) | (with_reducible refine c_region ?_) | (with_reducible refine s_nil ?_) | ((with_reducible apply s_call (f := 56) hF hM); exact rfl; exact rfl; exact rfl; exact rfl; exact rfl; exact (RetP.ok (ceChk_c c a1 a2 c1 c2 l1 m1 l2 m2 _ _ hM.lt (hM.facts (RdF (Value.int .i64) a1 c.A.V) (by (repeat (first | exact List.mem_cons_self | refine List.mem_cons_of_mem _ ?_)))) (hM.facts (RdF (Value.int .i64) a2 c.S.V) (by (repeat (first | exact List.mem_cons_self | refine List.mem_cons_of_mem _ ?_))))) h1); clear hF hM a; rintro v w a - - hM hF) | ((with_reducible apply s_call (f := 58) hF hM); exact rfl; exact rfl; exact rfl; exact rfl; exact rfl; exact (demand_t _ _ _ hM.lt (by first | rfl | exact decide_eq_true (by omega))); clear hF hM a; rintro v w a - - hM hF) | (with_reducible refine q_then_n ?_) | ((with_reducible apply s_pure hF); exact rfl; exact rfl; exact rfl; (first | exact trivial | omega | exact ⟨Int.natCast_nonneg _, Int.ofNat_lt.2 (by assumption)⟩ | decide); clear hF a; intro a hF) | ((with_reducible apply s_load hF hM); exact rfl; exact rfl; (repeat (first | exact List.mem_cons_self | refine List.mem_cons_of_mem _ ?_)); exact rfl; exact rfl; clear hF a; intro a hF) | ((fail_if_success ((with_reducible refine g_known true hF ?_ ?_); focus exact rfl)); (fail_if_success ((with_reducible refine g_known false hF ?_ ?_); focus exact rfl)); (with_reducible apply g_dec hF); exact rfl; exact rfl; all_goals (clear hF; intro hc hF); all_goals (try (exfalso; omega)))))
  (apply f_end Try.results57 hF hM; (repeat (first | exact RL.nil | (apply RL.tmp; exact rfl) | (apply RL.cell; exact rfl; (repeat (first | exact List.mem_cons_self | refine List.mem_cons_of_mem _ ?_)); exact rfl))); try dsimp only [resV])
  exact hM
theorem wrs1_err (h : wrsE c n ≠ 0) : Calls Try.prog 57 ⟨[.pointer (some ⟨bc, 0, none⟩), .pointer (some ⟨bn, 0, none⟩)]⟩ W (Both (fun _ _ => False) fun p w' => p = failK (wrsE c n) ∧ Mm own w0 (⟨bg, ⟨[.int .i64 e2]⟩, 32⟩ :: xb :: ⟨bn, ⟨[.int .i64 n]⟩, 3⟩ :: ⟨bc, ⟨ceL c a1 c1 a2 c2⟩, 29⟩ :: bs) L (RdF (Value.int .i64) a2 c.S.V :: RdF (Value.int .i64) a1 c.A.V :: Fs) w') := by
  refine f_start Try.func57 rfl Try.ntmps57 rfl rfl ?_; intro a hF
  by_cases h1 : chkE c = 0
  case neg =>
    have he : wrsE c n = chkE c := by unfold wrsE; rw [if_pos h1]
    rw [he]
    (repeat' (first | (with_reducible refine w_seq ?_) | (with_reducible refine c_region ?_) | ((with_reducible apply s_callE (f := 56) hF hM); exact rfl; exact rfl; exact rfl; exact rfl; exact (RetP.err (ceChk_c c a1 a2 c1 c2 l1 m1 l2 m2 _ _ hM.lt (hM.facts (RdF (Value.int .i64) a1 c.A.V) (by (repeat (first | exact List.mem_cons_self | refine List.mem_cons_of_mem _ ?_)))) (hM.facts (RdF (Value.int .i64) a2 c.S.V) (by (repeat (first | exact List.mem_cons_self | refine List.mem_cons_of_mem _ ?_))))) h1); clear hF hM a; intro w a hM hF) | (with_reducible refine q_then_p ?_) | ((with_reducible apply s_load hF hM); exact rfl; exact rfl; (repeat (first | exact List.mem_cons_self | refine List.mem_cons_of_mem _ ?_)); exact rfl; exact rfl; clear hF a; intro a hF)))
    refine f_panic hF ?_
    exact ⟨rfl, hM⟩
  have hP := (chk_bok h1).1.num
  have hl := (chk_bok h1).1.S.l1
  by_cases h2 : c.P ≤ n ∧ n ≤ 4096
  case neg =>
    have he : wrsE c n = 2 := by unfold wrsE; rw [if_neg (by omega), if_pos h2]
    rw [he]
    (repeat' (first | (with_reducible refine w_seq ?_) | (with_reducible refine c_region ?_) | (with_reducible refine s_nil ?_) | ((with_reducible apply s_call (f := 56) hF hM); exact rfl; exact rfl; exact rfl; exact rfl; exact rfl; exact (RetP.ok (ceChk_c c a1 a2 c1 c2 l1 m1 l2 m2 _ _ hM.lt (hM.facts (RdF (Value.int .i64) a1 c.A.V) (by (repeat (first | exact List.mem_cons_self | refine List.mem_cons_of_mem _ ?_)))) (hM.facts (RdF (Value.int .i64) a2 c.S.V) (by (repeat (first | exact List.mem_cons_self | refine List.mem_cons_of_mem _ ?_))))) h1); clear hF hM a; rintro v w a - - hM hF) | ((with_reducible apply s_callE (f := 58) hF hM); exact rfl; exact rfl; exact rfl; exact rfl; exact (demand_f _ _ _ hM.lt (by first | rfl | exact decide_eq_false (by omega))); clear hF hM a; intro w a hM hF) | (with_reducible refine q_then_p ?_) | (with_reducible refine q_then_n ?_) | ((with_reducible apply s_pure hF); exact rfl; exact rfl; exact rfl; (first | exact trivial | omega | exact ⟨Int.natCast_nonneg _, Int.ofNat_lt.2 (by assumption)⟩ | decide); clear hF a; intro a hF) | ((with_reducible apply s_load hF hM); exact rfl; exact rfl; (repeat (first | exact List.mem_cons_self | refine List.mem_cons_of_mem _ ?_)); exact rfl; exact rfl; clear hF a; intro a hF) | ((with_reducible apply s_skip hF); exact rfl; exact rfl; clear hF a; intro a hF) | ((fail_if_success ((with_reducible refine g_known true hF ?_ ?_); focus exact rfl)); (fail_if_success ((with_reducible refine g_known false hF ?_ ?_); focus exact rfl)); (with_reducible apply g_dec hF); exact rfl; exact rfl; all_goals (clear hF; intro hc hF); all_goals (try (exfalso; omega)))))
    all_goals refine f_panic hF ?_
    all_goals exact ⟨rfl, hM⟩
  have h3 : 4096 < c.P + c.S.V.length := by
    apply Classical.byContradiction
    intro hn
    apply h
    unfold wrsE
    rw [if_neg (by omega), if_neg (fun hq => hq h2), if_neg hn]
  have he : wrsE c n = 5 := by unfold wrsE; rw [if_neg (by omega), if_neg (fun hq => hq h2), if_pos h3]
  rw [he]
  (repeat' (first | (with_reducible refine w_seq ?_) | (with_reducible refine c_region ?_) | (with_reducible refine s_nil ?_) | ((with_reducible apply s_call (f := 56) hF hM); exact rfl; exact rfl; exact rfl; exact rfl; exact rfl; exact (RetP.ok (ceChk_c c a1 a2 c1 c2 l1 m1 l2 m2 _ _ hM.lt (hM.facts (RdF (Value.int .i64) a1 c.A.V) (by (repeat (first | exact List.mem_cons_self | refine List.mem_cons_of_mem _ ?_)))) (hM.facts (RdF (Value.int .i64) a2 c.S.V) (by (repeat (first | exact List.mem_cons_self | refine List.mem_cons_of_mem _ ?_))))) h1); clear hF hM a; rintro v w a - - hM hF) | ((with_reducible apply s_call (f := 58) hF hM); exact rfl; exact rfl; exact rfl; exact rfl; exact rfl; exact (demand_t _ _ _ hM.lt (by first | rfl | exact decide_eq_true (by omega))); clear hF hM a; rintro v w a - - hM hF) | ((with_reducible apply s_callE (f := 58) hF hM); exact rfl; exact rfl; exact rfl; exact rfl; exact (demand_f _ _ _ hM.lt (by first | rfl | exact decide_eq_false (by omega))); clear hF hM a; intro w a hM hF) | (with_reducible refine q_then_n ?_) | ((with_reducible apply s_pure hF); exact rfl; exact rfl; exact rfl; (first | exact trivial | omega | exact ⟨Int.natCast_nonneg _, Int.ofNat_lt.2 (by assumption)⟩ | decide); clear hF a; intro a hF) | ((with_reducible apply s_load hF hM); exact rfl; exact rfl; (repeat (first | exact List.mem_cons_self | refine List.mem_cons_of_mem _ ?_)); exact rfl; exact rfl; clear hF a; intro a hF) | ((fail_if_success ((with_reducible refine g_known true hF ?_ ?_); focus exact rfl)); (fail_if_success ((with_reducible refine g_known false hF ?_ ?_); focus exact rfl)); (with_reducible apply g_dec hF); exact rfl; exact rfl; all_goals (clear hF; intro hc hF); all_goals (try (exfalso; omega)))))
  refine f_panic hF ?_
  exact ⟨rfl, hM⟩
end
set_option maxHeartbeats 2000000 in
theorem worst_c (n : Int) (own : Nat → Prop) (W : World) (hl : ∀ b, own b → b < W.heap.size) (hA : Has own W (RdF (Value.int .i64) a1 c.A.V)) (hS : Has own W (RdF (Value.int .i64) a2 c.S.V)) :
    Calls Try.prog 21 ⟨[.agg ⟨ceL c a1 c1 a2 c2⟩, .int .i64 n]⟩ W (Ret W (WrR own c n)) := by
  have hM := ((Mm.start hl).known hA).known hS
  refine f_start Try.func21 rfl Try.ntmps21 rfl rfl ?_; intro a hF
  (repeat (first | (with_reducible refine w_seq ?_) | (with_reducible refine c_region ?_) | (with_reducible refine s_nil ?_) | (with_reducible refine q_then_n ?_) | ((with_reducible apply s_pure hF); exact rfl; exact rfl; exact rfl; (first | exact trivial | omega | exact ⟨Int.natCast_nonneg _, Int.ofNat_lt.2 (by assumption)⟩ | decide); clear hF a; intro a hF) | ((with_reducible apply s_alloc hF hM); exact rfl; exact rfl; exact rfl; clear hF hM a; intro b w a hM hF) | ((with_reducible apply s_box hF hM); exact rfl; exact rfl; exact rfl; exact rfl; clear hF hM a; intro b w a hM hF)))
  rename_i bce _ bn _
  by_cases h : wrsE c n = 0
  case neg =>
    (repeat' (first | (with_reducible refine w_seq ?_) | (with_reducible refine c_region ?_) | (with_reducible refine s_nil ?_) | ((with_reducible apply s_callM (f := 46) hF); exact rfl; exact rfl; exact rfl; exact rfl; exact rfl; exact (guardedM_err _ _ (wrsE c n) rfl hM (fun b2 W' h' => wrs1_err c a1 a2 c1 c2 l1 m1 l2 m2 b2 _ _ 0 n _ h' h)); clear hF hM a; rintro v w a ⟨rfl, hM⟩ hF) | (with_reducible refine q_then_n ?_) | ((with_reducible apply s_pure hF); exact rfl; exact rfl; exact rfl; (first | exact trivial | omega | exact ⟨Int.natCast_nonneg _, Int.ofNat_lt.2 (by assumption)⟩ | decide); clear hF a; intro a hF) | ((with_reducible apply s_store hF hM); exact rfl; exact rfl; exact rfl; exact rfl; (repeat (first | exact Upd.z | apply Upd.s)); exact rfl; exact rfl; exact rfl; clear hM; intro w hM) | (with_reducible refine w_ret ?_) | (with_reducible refine q_then_r ?_) | ((with_reducible apply c_dec hF); exact rfl; all_goals intro hc; all_goals (try (exfalso; omega)))))
    (apply f_ret Try.results21 hF hM; (repeat (first | exact RL.nil | (apply RL.tmp; exact rfl) | (apply RL.cell; exact rfl; (repeat (first | exact List.mem_cons_self | refine List.mem_cons_of_mem _ ?_)); exact rfl))); refine Ret.mk hM.since ?_; dsimp only [resV])
    exact .inl ⟨h, rfl⟩
  obtain ⟨h1, h2, h3, h4⟩ := wrsE_ok h
  have hb := (chk_bok h1).1
  have hP := hb.num
  have hl0 := hb.S.l0
  obtain ⟨p, hp⟩ : ∃ p : Nat, c.P = p := ⟨c.P.toNat, by omega⟩
  obtain ⟨k, hk⟩ : ∃ k : Nat, n = k := ⟨n.toNat, by omega⟩
  (repeat' (first | (with_reducible refine w_seq ?_) | (with_reducible refine c_region ?_) | (with_reducible refine s_nil ?_) | ((with_reducible apply s_callM (f := 46) hF); exact rfl; exact rfl; exact rfl; exact rfl; exact rfl; exact (guardedM_ok _ _ rfl hM (fun b2 W' h' => wrs1_ok c a1 a2 c1 c2 l1 m1 l2 m2 b2 _ _ 0 n _ h' h)); clear hF hM a; rintro v w a ⟨rfl, hM⟩ hF) | ((with_reducible apply s_lit hF hM); exact rfl; exact rfl; exact rfl; exact rfl; clear hF hM a; intro bl w a hM hF; replace hM := Mm.freeze hM) | ((with_reducible apply s_callO (f := 59) hF); exact rfl; exact rfl; exact rfl; exact rfl; exact rfl; exact (repeatI_c 4096 p _ hp (by omega) (by omega) _ _ _ _ hM.lt (Has.ints (hM.facts _ List.mem_cons_self) [4096] rfl)); clear hF a; rintro v wn a ⟨a7, c7, rfl, hO⟩ hS hF; replace hM := hM.addRows hS hO; clear hS hO; dsimp only [List.cons_append, List.nil_append] at hM) | (with_reducible refine q_then_n ?_) | ((with_reducible apply s_pure hF); exact rfl; exact rfl; exact rfl; (first | exact trivial | omega | exact ⟨Int.natCast_nonneg _, Int.ofNat_lt.2 (by assumption)⟩ | decide); clear hF a; intro a hF) | ((with_reducible apply s_load hF hM); exact rfl; exact rfl; (repeat (first | exact List.mem_cons_self | refine List.mem_cons_of_mem _ ?_)); exact rfl; exact rfl; clear hF a; intro a hF) | (with_reducible refine w_skip ?_) | ((with_reducible apply c_false2 hF); exact rfl; (first | with_reducible rfl | (refine congrArg Value.bool ?_; focus (simp; done))))))
  have hone : ∀ u ∈ (tab (gr c.S) c.S.V.length).map (Value.int .i64), u.oneCell' = true := by
    intro u hu
    obtain ⟨y, _, rfl⟩ := List.mem_map.1 hu
    rfl
  refine c_draw (fun i => Nat.ble 20 i) hM ?_; clear hM; intro w hM
  (first | (refine t_pure (i := 0) hF rfl rfl rfl rfl (by kernel_rfl) hM.sm (fun _ _ _ h => h) ?_ ?_; (first | exact trivial | omega | decide); clear hF a; intro a hF))
  (first | (apply t_load (i := 1) hF rfl rfl rfl; (repeat (first | exact List.mem_cons_self | refine List.mem_cons_of_mem _ ?_)); exact rfl; exact rfl; kernel_rfl; exact hM.sm; exact (fun _ _ _ h => h); clear hF a; intro a hF))
  (first | (apply t_load (i := 2) hF rfl rfl rfl; (repeat (first | exact List.mem_cons_self | refine List.mem_cons_of_mem _ ?_)); exact rfl; exact rfl; kernel_rfl; exact hM.sm; exact (fun _ _ _ h => h); clear hF a; intro a hF))
  (first | (refine t_pure (i := 4) hF rfl rfl rfl rfl (by kernel_rfl) hM.sm (fun _ _ _ h => h) ?_ ?_; (first | exact trivial | omega | decide); clear hF a; intro a hF))
  (first | (refine t_pure (i := 5) hF rfl rfl rfl rfl (by kernel_rfl) hM.sm (fun _ _ _ h => h) ?_ ?_; (first | exact trivial | omega | decide); clear hF a; intro a hF))
  (first | (apply t_load (i := 6) hF rfl rfl rfl; (repeat (first | exact List.mem_cons_self | refine List.mem_cons_of_mem _ ?_)); exact rfl; exact rfl; kernel_rfl; exact hM.sm; exact (fun _ _ _ h => h); clear hF a; intro a hF))
  (first | (refine t_pure (i := 7) hF rfl rfl rfl rfl (by kernel_rfl) hM.sm (fun _ _ _ h => h) ?_ ?_; (first | exact trivial | omega | decide); clear hF a; intro a hF))
  (first | (refine t_pure (i := 8) hF rfl rfl rfl rfl (by kernel_rfl) hM.sm (fun _ _ _ h => h) ?_ ?_; (first | exact trivial | omega | decide); clear hF a; intro a hF))
  (first | (apply t_load (i := 9) hF rfl rfl rfl; (repeat (first | exact List.mem_cons_self | refine List.mem_cons_of_mem _ ?_)); exact rfl; exact rfl; kernel_rfl; exact hM.sm; exact (fun _ _ _ h => h); clear hF a; intro a hF))
  (first | (refine t_pure (i := 10) hF rfl rfl rfl rfl (by kernel_rfl) hM.sm (fun _ _ _ h => h) ?_ ?_; (first | exact trivial | omega | decide); clear hF a; intro a hF))
  (first | (refine t_pure (i := 13) hF rfl rfl rfl rfl (by kernel_rfl) hM.sm (fun _ _ _ h => h) ?_ ?_; (first | exact trivial | omega | decide); clear hF a; intro a hF))
  (first | (apply t_load (i := 14) hF rfl rfl rfl; (repeat (first | exact List.mem_cons_self | refine List.mem_cons_of_mem _ ?_)); exact rfl; exact rfl; kernel_rfl; exact hM.sm; exact (fun _ _ _ h => h); clear hF a; intro a hF))
  (first | (refine t_pure (i := 15) hF rfl rfl rfl rfl (by kernel_rfl) hM.sm (fun _ _ _ h => h) ?_ ?_; (first | exact trivial | omega | decide); clear hF a; intro a hF))
  (first | (apply t_load (i := 16) hF rfl rfl rfl; (repeat (first | exact List.mem_cons_self | refine List.mem_cons_of_mem _ ?_)); exact rfl; exact rfl; kernel_rfl; exact hM.sm; exact (fun _ _ _ h => h); clear hF a; intro a hF))
  (first | (refine t_pure (i := 17) hF rfl rfl rfl rfl (by kernel_rfl) hM.sm (fun _ _ _ h => h) ?_ ?_; (first | exact trivial | omega | decide); clear hF a; intro a hF))
  (first | (apply t_load (i := 18) hF rfl rfl rfl; (repeat (first | exact List.mem_cons_self | refine List.mem_cons_of_mem _ ?_)); exact rfl; exact rfl; kernel_rfl; exact hM.sm; exact (fun _ _ _ h => h); clear hF a; intro a hF))
  refine t_one (i := 3) hF rfl (by kernel_rfl) rfl ?_
  intro K hK
  (apply x_call hF hM; exact rfl; exact rfl; exact rfl; exact rfl; exact (growth_c c.A hb.A k _ hk (by omega) _ _ _ hM.lt (isCu_mk (hM.facts (RdF (Value.int .i64) a1 c.A.V) (by (repeat (first | exact List.mem_cons_self | refine List.mem_cons_of_mem _ ?_)))) l1 m1)); clear hF hM a; rintro v w a ⟨a8, c8, rfl, k8, h8⟩ - hM hF)
  replace hM := hM.addFact h8
  refine hK _ _ (fun _ => (hM.sm.sub (fun x hx => by repeat (first | exact hx | refine List.mem_cons_of_mem _ ?_)) (fun _ h => by repeat (first | exact h | refine List.mem_cons_of_mem _ ?_)))) ?_; clear hK
  refine t_one (i := 11) hF rfl (by kernel_rfl) rfl ?_
  intro K hK
  (apply x_call hF hM; exact rfl; exact rfl; exact rfl; exact rfl; exact (growth_c c.S hb.S c.S.V.length _ rfl (by omega) _ _ _ hM.lt (isCu_mk (hM.facts (RdF (Value.int .i64) a2 c.S.V) (by (repeat (first | exact List.mem_cons_self | refine List.mem_cons_of_mem _ ?_)))) l2 m2)); clear hF hM a; rintro v w a ⟨a9, c9, rfl, k9, h9⟩ - hM hF)
  replace hM := hM.addFact h9
  refine hK _ _ (fun _ => (hM.sm.sub (fun x hx => by repeat (first | exact hx | refine List.mem_cons_of_mem _ ?_)) (fun _ h => by repeat (first | exact h | refine List.mem_cons_of_mem _ ?_)))) ?_; clear hK
  refine t_one (i := 12) hF rfl (by kernel_rfl) rfl ?_
  intro K hK
  (obtain ⟨ad9, rfl⟩ := rd_some hM (a := a9) (xs := tab (gr c.S) c.S.V.length) (k := 0) (by (repeat (first | with_reducible exact List.mem_cons_self | refine List.mem_cons_of_mem _ ?_))) (tab_get (by omega)); refine e_app (k := 0) (ys := (tab (gr c.S) c.S.V.length).map (Value.int .i64)) hF hM rfl rfl rfl .z (by rw [List.length_map, tab_len, Nat.mul_one]) ((hM.fact (f := RdF (Value.int .i64) (some ad9) (tab (gr c.S) c.S.V.length)) (by (repeat (first | with_reducible exact List.mem_cons_self | refine List.mem_cons_of_mem _ ?_)))).cells) hone (by omega) ⟨by omega, by omega⟩ ?_; clear hM; intro gA cap w hM; dsimp only [List.set] at hM; replace hF := hF.put (d := 30) rfl (.slice (some ⟨gA, 0, none⟩) (p + c.S.V.length) cap); generalize a.put (some 30) _ = a at *)
  refine hK _ _ (fun _ => (hM.sm.sub (fun x hx => by repeat (first | exact hx | refine List.mem_cons_of_mem _ ?_)) (fun _ h => by repeat (first | exact h | refine List.mem_cons_of_mem _ ?_)))) ?_; clear hK
  (first | (refine t_pure (i := 19) hF rfl rfl rfl rfl (by kernel_rfl) (hM.sm.sub (fun x hx => by repeat (first | exact hx | refine List.mem_cons_of_mem _ ?_)) (fun _ h => by repeat (first | exact h | refine List.mem_cons_of_mem _ ?_))) (fun _ _ _ h => h) ?_ ?_; (first | exact trivial | omega | decide); clear hF a; intro a hF))
  refine t_one (i := 20) hF rfl (by kernel_rfl) rfl ?_
  intro K hK
  (apply x_store hF hM rfl rfl rfl; (repeat (first | exact Upd.z | apply Upd.s)); exact rfl; exact rfl; exact rfl; clear hF hM a; intro w a hM hF)
  refine hK _ _ (fun h => by cases h) ?_; clear hK
  refine t_one (i := 21) hF rfl (by kernel_rfl) rfl ?_
  intro K hK
  (first | (refine x_pure hF hM rfl rfl ?_ ?_; (first | exact trivial | omega | decide); clear hF a; intro a hF) | (apply x_load hF hM rfl; (repeat (first | exact List.mem_cons_self | refine List.mem_cons_of_mem _ ?_)); exact rfl; exact rfl; clear hF a; intro a hF))
  refine hK _ _ (fun h => by cases h) ?_; clear hK
  refine t_done (by kernel_rfl) ?_
  (repeat' (first | (with_reducible refine q_then_n ?_) | (with_reducible refine w_ret ?_)))
  (apply f_ret Try.results21 hF hM; (repeat (first | exact RL.nil | (apply RL.tmp; exact rfl) | (apply RL.cell; exact rfl; (repeat (first | exact List.mem_cons_self | refine List.mem_cons_of_mem _ ?_)); exact rfl))); refine Ret.mk hM.since ?_; dsimp only [resV])
  have e1 : (wrsT c n.toNat).W.length = k := by rw [wrsT_W]; omega
  have e2 : (wrsT c n.toNat).C.length = p + c.S.V.length := by rw [wrsT_C]; omega
  have e3 : (wrsT c n.toNat).C = List.replicate p 4096 ++ tab (gr c.S) c.S.V.length := by unfold wrsT; simp only; rw [hp, Int.toNat_natCast]
  have e4 : (wrsT c n.toNat).W = tab (gr c.A) k := by unfold wrsT; simp only; rw [hk, Int.toNat_natCast]
  refine .inr ⟨h, a8, c8, some ⟨gA, 0, none⟩, cap, ?_, ?_, ?_, ?_, ?_⟩
  · unfold trL; rw [e1, e2]; rfl
  · rw [e4]; exact hM.factOut (f := RdF (Value.int .i64) a8 (tab (gr c.A) k)) (by (repeat (first | with_reducible exact List.mem_cons_self | refine List.mem_cons_of_mem _ ?_)))
  · rw [e3]
    rw [← List.map_append] at hM
    exact hM.rowFact List.mem_cons_self
  · rw [e1]; exact k8
  · rw [e2]
    exact (row_ad' hM (i := 0) rfl)
end
end Go.Proofs.Ytabfhoipclbeeaa


/- certificate: Encode. -/
namespace Go.Proofs.Ytabfhoipclbeeaa
open Go.RowKit Go.Shelf C55 K57
namespace K57
def encCu (c : Cu) : List Int := putsL c.V ++ puts c.S.toNat
def encB (c : Ce) : List Int := encCu c.A ++ encCu c.S ++ puts c.P.toNat ++ puts c.L.toNat ++ puts c.D.toNat ++ puts c.B.toNat
def encE (c : Ce) : Int := if chkE c ≠ 0 then chkE c else if 65536 < (encB c).length then 5 else 0
end K57
theorem PutIntF_c (n : Nat) (q : Int) (hq : q = n) (hn : n ≤ 9007199254740991) (a0 : Option Addr) (c0 : Nat) (ys : List Int) (m : Nat) (hm : ys.length = m) (own : Nat → Prop) (W : World) (hl : ∀ b, own b → b < W.heap.size) (hv : Has own W (RdF (Value.int .u8) a0 ys)) (hb : m ≤ 10000000000) :
    Calls Try.prog 64 ⟨[.slice a0 m c0, .int .i64 q]⟩ W (Ret W fun v w' => ∃ a' c', v = .slice a' (m + (puts n).length) c' ∧ Has own w' (RdF (Value.int .u8) a' (ys ++ puts n)) ∧ m + (puts n).length ≤ c') :=
  (PutInt_z n q hq hn a0 c0 ys m hm own W hl hv hb).mono fun _ _ ⟨v, h1, h2, a', c', h3, hO⟩ => ⟨v, h1, h2, a', c', h3, hO.fact hl⟩
set_option maxHeartbeats 4000000 in
theorem ceEncode_c (c : Ce) (a1 a2 : Option Addr) (c1 c2 : Nat) (l1 : c.A.V.length ≤ 9223372036854775807) (m1 : c.A.V.length ≤ c1) (l2 : c.S.V.length ≤ 9223372036854775807) (m2 : c.S.V.length ≤ c2) (own : Nat → Prop) (W : World) (hl : ∀ b, own b → b < W.heap.size) (hA : Has own W (RdF (Value.int .i64) a1 c.A.V)) (hS : Has own W (RdF (Value.int .i64) a2 c.S.V)) :
    Calls Try.prog 28 ⟨[.agg ⟨ceL c a1 c1 a2 c2⟩]⟩ W (Ret W fun v w' => (encE c ≠ 0 ∧ v = .tuple #[.slice none 0 0, .int .i64 (encE c)]) ∨ (encE c = 0 ∧ ∃ a' c', v = .tuple #[.slice a' (encB c).length c', .int .i64 0] ∧ Has own w' (RdF (Value.int .u8) a' (encB c)) ∧ (encB c).length ≤ c')) := by
  have hM := ((Mm.start hl).known hA).known hS
  have hK := fun {own : Nat → Prop} (W : World) (hl : ∀ b, own b → b < W.heap.size) (hA : Has own W (RdF (Value.int .i64) a1 c.A.V)) (hS : Has own W (RdF (Value.int .i64) a2 c.S.V)) => ceCheck_c c a1 a2 c1 c2 l1 m1 l2 m2 own W hl hA hS
  refine f_start Try.func28 rfl Try.ntmps28 rfl rfl ?_; intro a hF
  by_cases hc : chkE c = 0
  case neg =>
    have he : encE c = chkE c := by unfold encE; rw [if_pos hc]
    rw [he]
    (repeat' (first | (with_reducible refine w_seq ?_) | (with_reducible refine c_region ?_) | (with_reducible refine s_nil ?_) | ((with_reducible apply s_call (f := 19) hF hM); exact rfl; exact rfl; exact rfl; exact rfl; exact rfl; exact (hK _ hM.lt (hM.facts (RdF (Value.int .i64) a1 c.A.V) (by (repeat (first | exact List.mem_cons_self | refine List.mem_cons_of_mem _ ?_)))) (hM.facts (RdF (Value.int .i64) a2 c.S.V) (by (repeat (first | exact List.mem_cons_self | refine List.mem_cons_of_mem _ ?_))))); clear hF hM a; rintro v w a rfl - hM hF) | (with_reducible refine q_then_n ?_) | ((with_reducible apply s_pure hF); exact rfl; exact rfl; exact rfl; (first | exact trivial | omega | exact ⟨Int.natCast_nonneg _, Int.ofNat_lt.2 (by assumption)⟩ | decide); clear hF a; intro a hF) | ((with_reducible apply s_load hF hM); exact rfl; exact rfl; (repeat (first | exact List.mem_cons_self | refine List.mem_cons_of_mem _ ?_)); exact rfl; exact rfl; clear hF a; intro a hF) | ((with_reducible apply s_box hF hM); exact rfl; exact rfl; exact rfl; exact rfl; clear hF hM a; intro b w a hM hF) | (with_reducible refine w_ret ?_) | (with_reducible refine q_then_r ?_) | ((with_reducible apply c_dec hF); exact rfl; all_goals intro hc; all_goals (try (exfalso; omega)))))
    (apply f_ret Try.results28 hF hM; (repeat (first | exact RL.nil | (apply RL.tmp; exact rfl) | (apply RL.cell; exact rfl; (repeat (first | exact List.mem_cons_self | refine List.mem_cons_of_mem _ ?_)); exact rfl))); refine Ret.mk hM.since ?_; dsimp only [resV])
    exact .inl ⟨hc, rfl⟩
  obtain ⟨hb, hB⟩ := chk_bok hc
  have hP := hb.num
  have htr := hb.tr
  have hAs := hb.A.s
  have hSs := hb.S.s
  have hA1 := hb.A.l1
  have hS1 := hb.S.l1
  have htr0 : 0 ≤ tr c := (rch_bd hb.S (x := most c) (by have := most_rg hb.A ⟨hP.1, hP.2.1⟩; omega) (fun e => by
    have := fpos_le c.S.V (most c)
    rcases Nat.lt_or_ge (fpos c.S.V (most c)) c.S.V.length with h | h
    · exact h
    · have hnv := hb.nv
      unfold never at hnv
      rw [decide_eq_true (by omega), decide_eq_true e] at hnv
      cases hnv)).1
  have hBr : 0 ≤ c.B ∧ c.B ≤ 9007199254740991 := by unfold bndV at hB; omega
  have vA : ∀ x ∈ c.A.V, 0 ≤ x ∧ x ≤ 9007199254740991 := fun x hx => by have := hb.A.v x hx; omega
  have vS : ∀ x ∈ c.S.V, 0 ≤ x ∧ x ≤ 9007199254740991 := fun x hx => by have := hb.S.v x hx; omega
  have n1 : (putsL c.A.V).length ≤ 40000 := by
    have h1 := puts_len8 (n := c.A.V.length) (by omega)
    have h2 := flat_len8 vA
    unfold putsL
    rw [List.length_append]
    omega
  have n2 : (putsL c.S.V).length ≤ 40000 := by
    have h1 := puts_len8 (n := c.S.V.length) (by omega)
    have h2 := flat_len8 vS
    unfold putsL
    rw [List.length_append]
    omega
  have p1 := puts_len8 (n := c.A.S.toNat) (by omega)
  have p2 := puts_len8 (n := c.S.S.toNat) (by omega)
  have p3 := puts_len8 (n := c.P.toNat) (by omega)
  have p4 := puts_len8 (n := c.L.toNat) (by omega)
  have p5 := puts_len8 (n := c.D.toNat) (by omega)
  rw [hc] at hK
  (repeat (first | (with_reducible refine w_seq ?_) | (with_reducible refine c_region ?_) | (with_reducible refine s_nil ?_) | ((with_reducible apply s_call (f := 19) hF hM); exact rfl; exact rfl; exact rfl; exact rfl; exact rfl; exact (hK _ hM.lt (hM.facts (RdF (Value.int .i64) a1 c.A.V) (by (repeat (first | exact List.mem_cons_self | refine List.mem_cons_of_mem _ ?_)))) (hM.facts (RdF (Value.int .i64) a2 c.S.V) (by (repeat (first | exact List.mem_cons_self | refine List.mem_cons_of_mem _ ?_))))); clear hF hM a; rintro v w a rfl - hM hF) | (with_reducible refine q_then_n ?_) | ((with_reducible apply s_pure hF); exact rfl; exact rfl; exact rfl; (first | exact trivial | omega | exact ⟨Int.natCast_nonneg _, Int.ofNat_lt.2 (by assumption)⟩ | decide); clear hF a; intro a hF) | ((with_reducible apply s_load hF hM); exact rfl; exact rfl; (repeat (first | exact List.mem_cons_self | refine List.mem_cons_of_mem _ ?_)); exact rfl; exact rfl; clear hF a; intro a hF) | ((with_reducible apply s_box hF hM); exact rfl; exact rfl; exact rfl; exact rfl; clear hF hM a; intro b w a hM hF) | ((with_reducible apply s_lit hF hM); exact rfl; exact rfl; exact rfl; exact rfl; clear hF hM a; intro bl w a hM hF) | (with_reducible refine w_skip ?_) | (with_reducible refine w_block ?_) | ((with_reducible apply c_false2 hF); exact rfl; (first | with_reducible rfl | (refine congrArg Value.bool ?_; focus (simp; done))))))
  refine c_roll 3 ?_
  (repeat (first | (with_reducible refine w_seq ?_) | (with_reducible refine c_region ?_) | (with_reducible refine s_nil ?_) | (with_reducible refine q_then_n ?_) | ((with_reducible apply s_pure hF); exact rfl; exact rfl; exact rfl; (first | exact trivial | omega | exact ⟨Int.natCast_nonneg _, Int.ofNat_lt.2 (by assumption)⟩ | decide); clear hF a; intro a hF) | ((with_reducible apply s_loadB hF hM); exact rfl; exact rfl; (repeat (first | exact List.mem_cons_self | refine List.mem_cons_of_mem _ ?_)); exact rfl; exact rfl; clear hF a; intro a hF) | ((with_reducible apply s_store hF hM); exact rfl; exact rfl; exact rfl; exact rfl; (repeat (first | exact Upd.z | apply Upd.s)); exact rfl; exact rfl; exact rfl; clear hM; intro w hM) | ((with_reducible apply s_alloc hF hM); exact rfl; exact rfl; exact rfl; clear hF hM a; intro b w a hM hF) | (with_reducible refine w_skip ?_) | (with_reducible refine r_succ ?_) | (with_reducible refine w_block ?_) | ((with_reducible apply c_true2 hF); exact rfl; (first | with_reducible rfl | (refine congrArg Value.bool ?_; focus (simp; done))))))
  refine c_draw (fun i => Nat.ble 8 i) hM ?_; clear hM; intro w hM
  (first | (refine t_pure (i := 0) hF rfl rfl rfl rfl (by kernel_rfl) hM.sm (fun _ _ _ h => h) ?_ ?_; (first | exact trivial | omega | decide); clear hF a; intro a hF))
  (first | (refine t_pure (i := 1) hF rfl rfl rfl rfl (by kernel_rfl) hM.sm (fun _ _ _ h => h) ?_ ?_; (first | exact trivial | omega | decide); clear hF a; intro a hF))
  (first | (apply t_load (i := 2) hF rfl rfl rfl; (repeat (first | exact List.mem_cons_self | refine List.mem_cons_of_mem _ ?_)); exact rfl; exact rfl; kernel_rfl; exact hM.sm; exact (fun _ _ _ h => h); clear hF a; intro a hF))
  (first | (refine t_pure (i := 4) hF rfl rfl rfl rfl (by kernel_rfl) hM.sm (fun _ _ _ h => h) ?_ ?_; (first | exact trivial | omega | decide); clear hF a; intro a hF))
  (first | (apply t_load (i := 5) hF rfl rfl rfl; (repeat (first | exact List.mem_cons_self | refine List.mem_cons_of_mem _ ?_)); exact rfl; exact rfl; kernel_rfl; exact hM.sm; exact (fun _ _ _ h => h); clear hF a; intro a hF))
  refine t_one (i := 3) hF rfl (by kernel_rfl) rfl ?_
  intro K hK
  (apply x_call hF hM; exact rfl; exact rfl; exact rfl; exact rfl; exact (PutInts_c c.A.V vA (by omega) [] (by simp) none a1 0 0 c1 rfl _ _ hM.lt RdF.nil (hM.facts (RdF (Value.int .i64) a1 c.A.V) (by (repeat (first | with_reducible exact List.mem_cons_self | refine List.mem_cons_of_mem _ ?_))))); clear hF hM a; rintro v w a ⟨a3, c3, rfl, h3, k3⟩ - hM hF)
  replace hM := hM.addFact h3
  refine hK _ _ (fun _ => (hM.sm.sub (fun x hx => by repeat (first | exact hx | refine List.mem_cons_of_mem _ ?_)) (fun _ h => by repeat (first | exact h | refine List.mem_cons_of_mem _ ?_)))) ?_; clear hK
  refine t_one (i := 6) hF rfl (by kernel_rfl) rfl ?_
  intro K hK
  (apply x_call hF hM; exact rfl; exact rfl; exact rfl; exact rfl; exact (PutIntF_c c.A.S.toNat _ (by omega) (by omega) a3 c3 ([] ++ putsL c.A.V) _ (by simp) _ _ hM.lt (hM.facts (RdF (Value.int .u8) a3 ([] ++ putsL c.A.V)) (by (repeat (first | with_reducible exact List.mem_cons_self | refine List.mem_cons_of_mem _ ?_)))) (by omega)); clear hF hM a; rintro v w a ⟨a4, c4, rfl, h4, k4⟩ - hM hF)
  replace hM := hM.addFact (f := RdF (Value.int .u8) a4 (encCu c.A)) (by simpa [encCu] using h4); rw [show 0 + (putsL c.A.V).length + (puts c.A.S.toNat).length = (encCu c.A).length by simp [encCu]] at hF
  refine hK _ _ (fun _ => (hM.sm.sub (fun x hx => by repeat (first | exact hx | refine List.mem_cons_of_mem _ ?_)) (fun _ h => by repeat (first | exact h | refine List.mem_cons_of_mem _ ?_)))) ?_; clear hK
  (first | (refine t_pure (i := 7) hF rfl rfl rfl rfl (by kernel_rfl) (hM.sm.sub (fun x hx => by repeat (first | exact hx | refine List.mem_cons_of_mem _ ?_)) (fun _ h => by repeat (first | exact h | refine List.mem_cons_of_mem _ ?_))) (fun _ _ _ h => h) ?_ ?_; (first | exact trivial | omega | decide); clear hF a; intro a hF))
  refine t_done (by kernel_rfl) ?_
  have q1 : (encCu c.A).length ≤ 40008 := by unfold encCu; rw [List.length_append]; omega
  (repeat (first | (with_reducible refine w_seq ?_) | (with_reducible refine c_region ?_) | (with_reducible refine s_nil ?_) | (with_reducible refine q_then_n ?_) | ((with_reducible apply s_pure hF); exact rfl; exact rfl; exact rfl; (first | exact trivial | omega | exact ⟨Int.natCast_nonneg _, Int.ofNat_lt.2 (by assumption)⟩ | decide); clear hF a; intro a hF) | ((with_reducible apply s_loadB hF hM); exact rfl; exact rfl; (repeat (first | exact List.mem_cons_self | refine List.mem_cons_of_mem _ ?_)); exact rfl; exact rfl; clear hF a; intro a hF) | ((with_reducible apply s_store hF hM); exact rfl; exact rfl; exact rfl; exact rfl; (repeat (first | exact Upd.z | apply Upd.s)); exact rfl; exact rfl; exact rfl; clear hM; intro w hM) | ((with_reducible apply s_alloc hF hM); exact rfl; exact rfl; exact rfl; clear hF hM a; intro b w a hM hF) | (with_reducible refine w_skip ?_) | (with_reducible refine r_succ ?_) | (with_reducible refine w_block ?_) | (with_reducible refine q_blk_n ?_) | ((with_reducible apply c_true2 hF); exact rfl; (first | with_reducible rfl | (refine congrArg Value.bool ?_; focus (simp; done))))))
  refine c_draw (fun i => Nat.ble 8 i) hM ?_; clear hM; intro w hM
  (first | (refine t_pure (i := 0) hF rfl rfl rfl rfl (by kernel_rfl) hM.sm (fun _ _ _ h => h) ?_ ?_; (first | exact trivial | omega | decide); clear hF a; intro a hF))
  (first | (refine t_pure (i := 1) hF rfl rfl rfl rfl (by kernel_rfl) hM.sm (fun _ _ _ h => h) ?_ ?_; (first | exact trivial | omega | decide); clear hF a; intro a hF))
  (first | (apply t_load (i := 2) hF rfl rfl rfl; (repeat (first | exact List.mem_cons_self | refine List.mem_cons_of_mem _ ?_)); exact rfl; exact rfl; kernel_rfl; exact hM.sm; exact (fun _ _ _ h => h); clear hF a; intro a hF))
  (first | (refine t_pure (i := 4) hF rfl rfl rfl rfl (by kernel_rfl) hM.sm (fun _ _ _ h => h) ?_ ?_; (first | exact trivial | omega | decide); clear hF a; intro a hF))
  (first | (apply t_load (i := 5) hF rfl rfl rfl; (repeat (first | exact List.mem_cons_self | refine List.mem_cons_of_mem _ ?_)); exact rfl; exact rfl; kernel_rfl; exact hM.sm; exact (fun _ _ _ h => h); clear hF a; intro a hF))
  refine t_one (i := 3) hF rfl (by kernel_rfl) rfl ?_
  intro K hK
  (apply x_call hF hM; exact rfl; exact rfl; exact rfl; exact rfl; exact (PutInts_c c.S.V vS (by omega) (encCu c.A) (by omega) a4 a2 _ c4 c2 rfl _ _ hM.lt (hM.facts (RdF (Value.int .u8) a4 (encCu c.A)) (by (repeat (first | with_reducible exact List.mem_cons_self | refine List.mem_cons_of_mem _ ?_)))) (hM.facts (RdF (Value.int .i64) a2 c.S.V) (by (repeat (first | with_reducible exact List.mem_cons_self | refine List.mem_cons_of_mem _ ?_))))); clear hF hM a; rintro v w a ⟨a5, c5, rfl, h5, k5⟩ - hM hF)
  replace hM := hM.addFact h5
  refine hK _ _ (fun _ => (hM.sm.sub (fun x hx => by repeat (first | exact hx | refine List.mem_cons_of_mem _ ?_)) (fun _ h => by repeat (first | exact h | refine List.mem_cons_of_mem _ ?_)))) ?_; clear hK
  refine t_one (i := 6) hF rfl (by kernel_rfl) rfl ?_
  intro K hK
  (apply x_call hF hM; exact rfl; exact rfl; exact rfl; exact rfl; exact (PutIntF_c c.S.S.toNat _ (by omega) (by omega) a5 c5 (encCu c.A ++ putsL c.S.V) _ (by simp) _ _ hM.lt (hM.facts (RdF (Value.int .u8) a5 (encCu c.A ++ putsL c.S.V)) (by (repeat (first | with_reducible exact List.mem_cons_self | refine List.mem_cons_of_mem _ ?_)))) (by omega)); clear hF hM a; rintro v w a ⟨a6, c6, rfl, h6, k6⟩ - hM hF)
  replace hM := hM.addFact (f := RdF (Value.int .u8) a6 (encCu c.A ++ encCu c.S)) (by simpa [encCu] using h6); rw [show (encCu c.A).length + (putsL c.S.V).length + (puts c.S.S.toNat).length = (encCu c.A ++ encCu c.S).length by simp [encCu]; omega] at hF
  refine hK _ _ (fun _ => (hM.sm.sub (fun x hx => by repeat (first | exact hx | refine List.mem_cons_of_mem _ ?_)) (fun _ h => by repeat (first | exact h | refine List.mem_cons_of_mem _ ?_)))) ?_; clear hK
  (first | (refine t_pure (i := 7) hF rfl rfl rfl rfl (by kernel_rfl) (hM.sm.sub (fun x hx => by repeat (first | exact hx | refine List.mem_cons_of_mem _ ?_)) (fun _ h => by repeat (first | exact h | refine List.mem_cons_of_mem _ ?_))) (fun _ _ _ h => h) ?_ ?_; (first | exact trivial | omega | decide); clear hF a; intro a hF))
  refine t_done (by kernel_rfl) ?_
  have q2 : (encCu c.S).length ≤ 40008 := by unfold encCu; rw [List.length_append]; omega
  have q3 : (encCu c.A ++ encCu c.S).length ≤ 80016 := by rw [List.length_append]; omega
  (repeat (first | (with_reducible refine w_seq ?_) | (with_reducible refine c_region ?_) | (with_reducible refine s_nil ?_) | (with_reducible refine q_then_n ?_) | ((with_reducible apply s_pure hF); exact rfl; exact rfl; exact rfl; (first | exact trivial | omega | exact ⟨Int.natCast_nonneg _, Int.ofNat_lt.2 (by assumption)⟩ | decide); clear hF a; intro a hF) | ((with_reducible apply s_load hF hM); exact rfl; exact rfl; (repeat (first | exact List.mem_cons_self | refine List.mem_cons_of_mem _ ?_)); exact rfl; exact rfl; clear hF a; intro a hF) | ((with_reducible apply s_lit hF hM); exact rfl; exact rfl; exact rfl; exact rfl; clear hF hM a; intro bl w a hM hF) | (with_reducible refine r_succ ?_) | (with_reducible refine w_block ?_) | (with_reducible refine w_exit ?_) | (with_reducible refine q_then_x ?_) | (with_reducible refine q_blk_n ?_) | (with_reducible refine q_blk_x ?_) | ((with_reducible apply c_false2 hF); exact rfl; (first | with_reducible rfl | (refine congrArg Value.bool ?_; focus (simp; done))))))
  refine c_roll 5 ?_
  (repeat (first | (with_reducible refine w_seq ?_) | (with_reducible refine c_region ?_) | (with_reducible refine s_nil ?_) | (with_reducible refine q_then_n ?_) | ((with_reducible apply s_pure hF); exact rfl; exact rfl; exact rfl; (first | exact trivial | omega | exact ⟨Int.natCast_nonneg _, Int.ofNat_lt.2 (by assumption)⟩ | decide); clear hF a; intro a hF) | ((with_reducible apply s_loadB hF hM); exact rfl; exact rfl; (repeat (first | exact List.mem_cons_self | refine List.mem_cons_of_mem _ ?_)); exact rfl; exact rfl; clear hF a; intro a hF) | (with_reducible refine w_skip ?_) | (with_reducible refine r_succ ?_) | (with_reducible refine w_block ?_) | ((with_reducible apply c_true2 hF); exact rfl; (first | with_reducible rfl | (refine congrArg Value.bool ?_; focus (simp; done))))))
  (((with_reducible apply s_call (f := 64) hF hM); exact rfl; exact rfl; exact rfl; exact rfl; exact rfl; exact (PutIntF_c c.P.toNat _ (by omega) (by omega) a6 c6 (encCu c.A ++ encCu c.S) _ rfl _ _ hM.lt (hM.facts (RdF (Value.int .u8) a6 (encCu c.A ++ encCu c.S)) (by (repeat (first | with_reducible exact List.mem_cons_self | refine List.mem_cons_of_mem _ ?_)))) (by omega)); clear hF hM a; rintro v w a ⟨a7, c7, rfl, h7, k7⟩ - hM hF; replace hM := hM.addFact h7; rw [← List.length_append] at hF))
  have q7 : (encCu c.A ++ encCu c.S ++ puts c.P.toNat).length ≤ 80024 := by rw [List.length_append]; omega
  (repeat (first | (with_reducible refine w_seq ?_) | (with_reducible refine c_region ?_) | (with_reducible refine s_nil ?_) | (with_reducible refine q_then_n ?_) | ((with_reducible apply s_pure hF); exact rfl; exact rfl; exact rfl; (first | exact trivial | omega | exact ⟨Int.natCast_nonneg _, Int.ofNat_lt.2 (by assumption)⟩ | decide); clear hF a; intro a hF) | ((with_reducible apply s_loadB hF hM); exact rfl; exact rfl; (repeat (first | exact List.mem_cons_self | refine List.mem_cons_of_mem _ ?_)); exact rfl; exact rfl; clear hF a; intro a hF) | (with_reducible refine w_skip ?_) | (with_reducible refine r_succ ?_) | (with_reducible refine w_block ?_) | (with_reducible refine q_blk_n ?_) | ((with_reducible apply c_true2 hF); exact rfl; (first | with_reducible rfl | (refine congrArg Value.bool ?_; focus (simp; done))))))
  (((with_reducible apply s_call (f := 64) hF hM); exact rfl; exact rfl; exact rfl; exact rfl; exact rfl; exact (PutIntF_c c.L.toNat _ (by omega) (by omega) a7 c7 (encCu c.A ++ encCu c.S ++ puts c.P.toNat) _ rfl _ _ hM.lt (hM.facts (RdF (Value.int .u8) a7 (encCu c.A ++ encCu c.S ++ puts c.P.toNat)) (by (repeat (first | with_reducible exact List.mem_cons_self | refine List.mem_cons_of_mem _ ?_)))) (by omega)); clear hF hM a; rintro v w a ⟨a8, c8, rfl, h8, k8⟩ - hM hF; replace hM := hM.addFact h8; rw [← List.length_append] at hF))
  have q8 : (encCu c.A ++ encCu c.S ++ puts c.P.toNat ++ puts c.L.toNat).length ≤ 80032 := by rw [List.length_append]; omega
  (repeat (first | (with_reducible refine w_seq ?_) | (with_reducible refine c_region ?_) | (with_reducible refine s_nil ?_) | (with_reducible refine q_then_n ?_) | ((with_reducible apply s_pure hF); exact rfl; exact rfl; exact rfl; (first | exact trivial | omega | exact ⟨Int.natCast_nonneg _, Int.ofNat_lt.2 (by assumption)⟩ | decide); clear hF a; intro a hF) | ((with_reducible apply s_loadB hF hM); exact rfl; exact rfl; (repeat (first | exact List.mem_cons_self | refine List.mem_cons_of_mem _ ?_)); exact rfl; exact rfl; clear hF a; intro a hF) | (with_reducible refine w_skip ?_) | (with_reducible refine r_succ ?_) | (with_reducible refine w_block ?_) | (with_reducible refine q_blk_n ?_) | ((with_reducible apply c_true2 hF); exact rfl; (first | with_reducible rfl | (refine congrArg Value.bool ?_; focus (simp; done))))))
  (((with_reducible apply s_call (f := 64) hF hM); exact rfl; exact rfl; exact rfl; exact rfl; exact rfl; exact (PutIntF_c c.D.toNat _ (by omega) (by omega) a8 c8 (encCu c.A ++ encCu c.S ++ puts c.P.toNat ++ puts c.L.toNat) _ rfl _ _ hM.lt (hM.facts (RdF (Value.int .u8) a8 (encCu c.A ++ encCu c.S ++ puts c.P.toNat ++ puts c.L.toNat)) (by (repeat (first | with_reducible exact List.mem_cons_self | refine List.mem_cons_of_mem _ ?_)))) (by omega)); clear hF hM a; rintro v w a ⟨a9, c9, rfl, h9, k9⟩ - hM hF; replace hM := hM.addFact h9; rw [← List.length_append] at hF))
  have q9 : (encCu c.A ++ encCu c.S ++ puts c.P.toNat ++ puts c.L.toNat ++ puts c.D.toNat).length ≤ 80040 := by rw [List.length_append]; omega
  (repeat (first | (with_reducible refine w_seq ?_) | (with_reducible refine c_region ?_) | (with_reducible refine s_nil ?_) | (with_reducible refine q_then_n ?_) | ((with_reducible apply s_pure hF); exact rfl; exact rfl; exact rfl; (first | exact trivial | omega | exact ⟨Int.natCast_nonneg _, Int.ofNat_lt.2 (by assumption)⟩ | decide); clear hF a; intro a hF) | ((with_reducible apply s_loadB hF hM); exact rfl; exact rfl; (repeat (first | exact List.mem_cons_self | refine List.mem_cons_of_mem _ ?_)); exact rfl; exact rfl; clear hF a; intro a hF) | (with_reducible refine w_skip ?_) | (with_reducible refine r_succ ?_) | (with_reducible refine w_block ?_) | (with_reducible refine q_blk_n ?_) | ((with_reducible apply c_true2 hF); exact rfl; (first | with_reducible rfl | (refine congrArg Value.bool ?_; focus (simp; done))))))
  (((with_reducible apply s_call (f := 64) hF hM); exact rfl; exact rfl; exact rfl; exact rfl; exact rfl; exact (PutIntF_c c.B.toNat _ (by omega) (by omega) a9 c9 (encCu c.A ++ encCu c.S ++ puts c.P.toNat ++ puts c.L.toNat ++ puts c.D.toNat) _ rfl _ _ hM.lt (hM.facts (RdF (Value.int .u8) a9 (encCu c.A ++ encCu c.S ++ puts c.P.toNat ++ puts c.L.toNat ++ puts c.D.toNat)) (by (repeat (first | with_reducible exact List.mem_cons_self | refine List.mem_cons_of_mem _ ?_)))) (by omega)); clear hF hM a; rintro v w a ⟨a10, c10, rfl, h10, k10⟩ - hM hF; replace hM := hM.addFact h10; rw [← List.length_append] at hF))
  have hE : encCu c.A ++ encCu c.S ++ puts c.P.toNat ++ puts c.L.toNat ++ puts c.D.toNat ++ puts c.B.toNat = encB c := rfl
  rw [hE] at hM hF
  by_cases hlen : 65536 < (encB c).length
  · have he : encE c = 5 := by unfold encE; rw [if_neg (by omega), if_pos hlen]
    rw [he]
    (repeat' (first | (with_reducible refine w_seq ?_) | (with_reducible refine c_region ?_) | (with_reducible refine s_nil ?_) | (with_reducible refine q_then_n ?_) | ((with_reducible apply s_pure hF); exact rfl; exact rfl; exact rfl; (first | exact trivial | omega | exact ⟨Int.natCast_nonneg _, Int.ofNat_lt.2 (by assumption)⟩ | decide); clear hF a; intro a hF) | (with_reducible refine r_succ ?_) | (with_reducible refine w_exit ?_) | (with_reducible refine w_ret ?_) | (with_reducible refine q_then_x ?_) | (with_reducible refine q_then_r ?_) | (with_reducible refine q_blk_n ?_) | (with_reducible refine q_blk_x ?_) | ((with_reducible apply c_false2 hF); exact rfl; (first | with_reducible rfl | (refine congrArg Value.bool ?_; focus (simp; done)))) | ((with_reducible apply c_dec hF); exact rfl; all_goals intro hc; all_goals (try (exfalso; omega)))))
    (apply f_ret Try.results28 hF hM; (repeat (first | exact RL.nil | (apply RL.tmp; exact rfl) | (apply RL.cell; exact rfl; (repeat (first | exact List.mem_cons_self | refine List.mem_cons_of_mem _ ?_)); exact rfl))); refine Ret.mk hM.since ?_; dsimp only [resV])
    exact .inl ⟨by decide, rfl⟩
  · have he : encE c = 0 := by unfold encE; rw [if_neg (by omega), if_neg hlen]
    rw [he]
    (repeat' (first | (with_reducible refine w_seq ?_) | (with_reducible refine c_region ?_) | (with_reducible refine s_nil ?_) | (with_reducible refine q_then_n ?_) | ((with_reducible apply s_pure hF); exact rfl; exact rfl; exact rfl; (first | exact trivial | omega | exact ⟨Int.natCast_nonneg _, Int.ofNat_lt.2 (by assumption)⟩ | decide); clear hF a; intro a hF) | (with_reducible refine w_skip ?_) | (with_reducible refine r_succ ?_) | (with_reducible refine w_exit ?_) | (with_reducible refine w_ret ?_) | (with_reducible refine q_then_x ?_) | (with_reducible refine q_blk_n ?_) | (with_reducible refine q_blk_x ?_) | ((with_reducible apply c_false2 hF); exact rfl; (first | with_reducible rfl | (refine congrArg Value.bool ?_; focus (simp; done)))) | ((with_reducible apply c_dec hF); exact rfl; all_goals intro hc; all_goals (try (exfalso; omega)))))
    (apply f_ret Try.results28 hF hM; (repeat (first | exact RL.nil | (apply RL.tmp; exact rfl) | (apply RL.cell; exact rfl; (repeat (first | exact List.mem_cons_self | refine List.mem_cons_of_mem _ ?_)); exact rfl))); refine Ret.mk hM.since ?_; dsimp only [resV])
    rw [← List.length_append, hE] at k10
    exact .inr ⟨rfl, a10, c10, rfl, hM.factOut (f := RdF (Value.int .u8) a10 (encB c)) (by (repeat (first | with_reducible exact List.mem_cons_self | refine List.mem_cons_of_mem _ ?_))), k10⟩
end Go.Proofs.Ytabfhoipclbeeaa


/- certificate: Decode. -/
namespace Go.Proofs.Ytabfhoipclbeeaa
open Go.RowKit Go.Shelf C55 K57
/-- A number that is read. -/
def rdI (xs : List Int) : Except Int (Int × List Int) := if (rdNum xs).2.1 ≠ 0 then .error (rdNum xs).2.1 else .ok ((rdNum xs).1, xs.drop (rdNum xs).2.2)
section
variable (xs : List Int) (hxb : ∀ x ∈ xs, 0 ≤ x ∧ x < 256) (hlen : xs.length ≤ 1000000) (a0 : Option Addr) (c0 : Nat) (hc0 : xs.length ≤ c0) (own : Nat → Prop) (W : World) (hl : ∀ b, own b → b < W.heap.size) (hv : Has own W (RdF (Value.int .u8) a0 xs))
include hxb hlen hc0 hl hv
theorem IntF_ok {n : Int} {ys : List Int} (h : rdI xs = .ok (n, ys)) : Calls Try.prog 70 ⟨[.slice a0 xs.length c0]⟩ W (Ret W fun v w' => ∃ a' c', v = .tuple #[.int .i64 n, .slice a' ys.length c', .int .i64 0] ∧ Has own w' (RdF (Value.int .u8) a' ys) ∧ ys.length ≤ c') := by
  unfold rdI at h
  split at h
  · cases h
  · rename_i he
    injection h with h
    injection h with h1 h2
    subst h1 h2
    exact (Int_ok xs hxb hlen a0 c0 hc0 own W hl hv (by omega)).mono fun _ _ ⟨v, e1, e2, a', c', e3, hO⟩ => ⟨v, e1, e2, a', c', e3, hO.fact hl⟩
theorem IntF_err {e : Int} (h : rdI xs = .error e) : Calls Try.prog 70 ⟨[.slice a0 xs.length c0]⟩ W (Ret W fun v _ => v = .tuple #[.int .i64 0, .slice none 0 0, .int .i64 e]) := by
  unfold rdI at h
  split at h
  · rename_i he
    injection h with h
    subst h
    exact Int_err xs hxb hlen a0 c0 hc0 own W hl hv he
  · cases h
end
theorem rdI_err {xs : List Int} {e : Int} (h : rdI xs = .error e) : e ≠ 0 := by
  unfold rdI at h
  split at h
  · rename_i he
    injection h with h
    rw [← h]
    exact he
  · cases h
theorem rdI_ok {xs ys : List Int} {n : Int} (hb : ∀ x ∈ xs, 0 ≤ x ∧ x < 256) (h : rdI xs = .ok (n, ys)) : (∀ y ∈ ys, 0 ≤ y ∧ y < 256) ∧ ys.length ≤ xs.length ∧ 0 ≤ n ∧ n ≤ 9007199254740991 := by
  have hnn := rdNum_nn hb
  unfold rdI at h
  split at h
  · cases h
  · injection h with h
    injection h with h1 h2
    subst h1 h2
    exact ⟨fun y hy => hb y (List.mem_of_mem_drop hy), by simp, hnn⟩
namespace K57
def dec8 (xs : List Int) : Except Int (Ce × List Int) := match rdInts xs with
  | .error e => .error e
  | .ok (v1, xs) => match rdI xs with
  | .error e => .error e
  | .ok (s1, xs) => match rdInts xs with
  | .error e => .error e
  | .ok (v2, xs) => match rdI xs with
  | .error e => .error e
  | .ok (s2, xs) => match rdI xs with
  | .error e => .error e
  | .ok (p, xs) => match rdI xs with
  | .error e => .error e
  | .ok (l, xs) => match rdI xs with
  | .error e => .error e
  | .ok (d, xs) => match rdI xs with
  | .error e => .error e
  | .ok (b, xs) => .ok (⟨⟨v1, s1⟩, ⟨v2, s2⟩, p, l, d, b⟩, xs)
def decC (xs : List Int) : Except Int Ce := if 65536 < xs.length then .error 5 else match dec8 xs with
  | .error e => .error e
  | .ok (c, ys) => if ys.length ≠ 0 then .error 3 else if chkE c ≠ 0 then .error (chkE c) else .ok c
end K57
section
variable (xs : List Int) (hxb : ∀ x ∈ xs, 0 ≤ x ∧ x < 256) (hlen : xs.length ≤ 1000000) (a0 : Option Addr) (c0 : Nat) (hc0 : xs.length ≤ c0) {own : Nat → Prop} {w0 W : World} {L : List Ent} {Fs : List (World → Prop)} (be bc bb : Nat) (xg xr x1 x2 : BoxE) (v0 v1 v2 v3 v4 v5 v6 v7 : Value)
include hxb hlen hc0
theorem num1_ok {n : Int} {ys : List Int} (h : rdI xs = .ok (n, ys)) (hM : Mm own w0 (x1 :: ⟨be, ⟨[.int .i64 0]⟩, 32⟩ :: xg :: ⟨bc, ⟨[v0, v1, v2, v3, v4, v5, v6, v7]⟩, 29⟩ :: xr :: ⟨bb, ⟨[.slice a0 xs.length c0]⟩, 57⟩ :: []) L (RdF (Value.int .u8) a0 xs :: Fs) W) : Calls Try.prog 69 ⟨[.pointer (some ⟨bc, 1, none⟩), .pointer (some ⟨bb, 0, none⟩), .pointer (some ⟨be, 0, none⟩)]⟩ W (Rtn fun _ w' => ∃ a' c', ys.length ≤ c' ∧ Mm own w0 (x1 :: ⟨be, ⟨[.int .i64 0]⟩, 32⟩ :: xg :: ⟨bc, ⟨[v0, .int .i64 n, v2, v3, v4, v5, v6, v7]⟩, 29⟩ :: xr :: ⟨bb, ⟨[.slice a' ys.length c']⟩, 57⟩ :: []) L (RdF (Value.int .u8) a' ys :: RdF (Value.int .u8) a0 xs :: Fs) w') := by
  refine f_start Try.func69 rfl Try.ntmps69 rfl rfl ?_; intro a hF
  (repeat' (first | (with_reducible refine w_seq ?_) | (with_reducible refine c_region ?_) | (with_reducible refine s_nil ?_) | ((with_reducible apply s_call (f := 70) hF hM); exact rfl; exact rfl; exact rfl; exact rfl; exact rfl; exact (IntF_ok xs hxb hlen a0 c0 hc0 _ _ hM.lt (hM.facts (RdF (Value.int .u8) a0 xs) List.mem_cons_self) h); clear hF hM a; rintro v w a ⟨a', c', rfl, hf, hc⟩ - hM hF; replace hM := hM.addFact hf) | ((with_reducible apply s_call (f := 71) hF hM); exact rfl; exact rfl; exact rfl; exact rfl; exact rfl; exact (right_t _ _ hM.lt rfl); clear hF hM a; rintro v w a - - hM hF) | (with_reducible refine q_then_n ?_) | ((with_reducible apply s_pure hF); exact rfl; exact rfl; exact rfl; (first | exact trivial | omega | exact ⟨Int.natCast_nonneg _, Int.ofNat_lt.2 (by assumption)⟩ | decide); clear hF a; intro a hF) | ((with_reducible apply s_load hF hM); exact rfl; exact rfl; (repeat (first | exact List.mem_cons_self | refine List.mem_cons_of_mem _ ?_)); exact rfl; exact rfl; clear hF a; intro a hF) | ((with_reducible apply s_store hF hM); exact rfl; exact rfl; exact rfl; exact rfl; (repeat (first | exact Upd.z | apply Upd.s)); exact rfl; exact rfl; exact rfl; clear hM; intro w hM)))
  (apply f_end Try.results69 hF hM; (repeat (first | exact RL.nil | (apply RL.tmp; exact rfl) | (apply RL.cell; exact rfl; (repeat (first | exact List.mem_cons_self | refine List.mem_cons_of_mem _ ?_)); exact rfl))); try dsimp only [resV])
  exact ⟨a', c', hc, hM⟩
theorem num1_err {e : Int} (h : rdI xs = .error e) (hM : Mm own w0 (x1 :: ⟨be, ⟨[.int .i64 0]⟩, 32⟩ :: xg :: ⟨bc, ⟨[v0, v1, v2, v3, v4, v5, v6, v7]⟩, 29⟩ :: xr :: ⟨bb, ⟨[.slice a0 xs.length c0]⟩, 57⟩ :: []) L (RdF (Value.int .u8) a0 xs :: Fs) W) : Calls Try.prog 69 ⟨[.pointer (some ⟨bc, 1, none⟩), .pointer (some ⟨bb, 0, none⟩), .pointer (some ⟨be, 0, none⟩)]⟩ W (Both (fun _ _ => False) fun p w' => p = failK e ∧ ∃ cs1 cs2, Mm own w0 (xg :: ⟨bc, cs1, 29⟩ :: xr :: ⟨bb, cs2, 57⟩ :: []) L (RdF (Value.int .u8) a0 xs :: Fs) w') := by
  have he := rdI_err h
  refine f_start Try.func69 rfl Try.ntmps69 rfl rfl ?_; intro a hF
  (repeat' (first | (with_reducible refine w_seq ?_) | (with_reducible refine c_region ?_) | (with_reducible refine s_nil ?_) | ((with_reducible apply s_call (f := 70) hF hM); exact rfl; exact rfl; exact rfl; exact rfl; exact rfl; exact (IntF_err xs hxb hlen a0 c0 hc0 _ _ hM.lt (hM.facts (RdF (Value.int .u8) a0 xs) List.mem_cons_self) h); clear hF hM a; rintro v w a rfl - hM hF) | ((with_reducible apply s_callE (f := 71) hF hM); exact rfl; exact rfl; exact rfl; exact rfl; exact (right_f _ _ hM.lt he); clear hF hM a; intro w a hM hF) | (with_reducible refine q_then_n ?_) | ((with_reducible apply s_pure hF); exact rfl; exact rfl; exact rfl; (first | exact trivial | omega | exact ⟨Int.natCast_nonneg _, Int.ofNat_lt.2 (by assumption)⟩ | decide); clear hF a; intro a hF) | ((with_reducible apply s_load hF hM); exact rfl; exact rfl; (repeat (first | exact List.mem_cons_self | refine List.mem_cons_of_mem _ ?_)); exact rfl; exact rfl; clear hF a; intro a hF) | ((with_reducible apply s_store hF hM); exact rfl; exact rfl; exact rfl; exact rfl; (repeat (first | exact Upd.z | apply Upd.s)); exact rfl; exact rfl; exact rfl; clear hM; intro w hM)))
  refine f_panic hF ?_
  exact ⟨rfl, _, _, hM.sub (.cons _ (.cons _ (.refl _))) (.refl _) (fun _ h => h)⟩
theorem num3_ok {n : Int} {ys : List Int} (h : rdI xs = .ok (n, ys)) (hM : Mm own w0 (x1 :: ⟨be, ⟨[.int .i64 0]⟩, 32⟩ :: xg :: ⟨bc, ⟨[v0, v1, v2, v3, v4, v5, v6, v7]⟩, 29⟩ :: xr :: ⟨bb, ⟨[.slice a0 xs.length c0]⟩, 57⟩ :: []) L (RdF (Value.int .u8) a0 xs :: Fs) W) : Calls Try.prog 69 ⟨[.pointer (some ⟨bc, 3, none⟩), .pointer (some ⟨bb, 0, none⟩), .pointer (some ⟨be, 0, none⟩)]⟩ W (Rtn fun _ w' => ∃ a' c', ys.length ≤ c' ∧ Mm own w0 (x1 :: ⟨be, ⟨[.int .i64 0]⟩, 32⟩ :: xg :: ⟨bc, ⟨[v0, v1, v2, .int .i64 n, v4, v5, v6, v7]⟩, 29⟩ :: xr :: ⟨bb, ⟨[.slice a' ys.length c']⟩, 57⟩ :: []) L (RdF (Value.int .u8) a' ys :: RdF (Value.int .u8) a0 xs :: Fs) w') := by
  refine f_start Try.func69 rfl Try.ntmps69 rfl rfl ?_; intro a hF
  (repeat' (first | (with_reducible refine w_seq ?_) | (with_reducible refine c_region ?_) | (with_reducible refine s_nil ?_) | ((with_reducible apply s_call (f := 70) hF hM); exact rfl; exact rfl; exact rfl; exact rfl; exact rfl; exact (IntF_ok xs hxb hlen a0 c0 hc0 _ _ hM.lt (hM.facts (RdF (Value.int .u8) a0 xs) List.mem_cons_self) h); clear hF hM a; rintro v w a ⟨a', c', rfl, hf, hc⟩ - hM hF; replace hM := hM.addFact hf) | ((with_reducible apply s_call (f := 71) hF hM); exact rfl; exact rfl; exact rfl; exact rfl; exact rfl; exact (right_t _ _ hM.lt rfl); clear hF hM a; rintro v w a - - hM hF) | (with_reducible refine q_then_n ?_) | ((with_reducible apply s_pure hF); exact rfl; exact rfl; exact rfl; (first | exact trivial | omega | exact ⟨Int.natCast_nonneg _, Int.ofNat_lt.2 (by assumption)⟩ | decide); clear hF a; intro a hF) | ((with_reducible apply s_load hF hM); exact rfl; exact rfl; (repeat (first | exact List.mem_cons_self | refine List.mem_cons_of_mem _ ?_)); exact rfl; exact rfl; clear hF a; intro a hF) | ((with_reducible apply s_store hF hM); exact rfl; exact rfl; exact rfl; exact rfl; (repeat (first | exact Upd.z | apply Upd.s)); exact rfl; exact rfl; exact rfl; clear hM; intro w hM)))
  (apply f_end Try.results69 hF hM; (repeat (first | exact RL.nil | (apply RL.tmp; exact rfl) | (apply RL.cell; exact rfl; (repeat (first | exact List.mem_cons_self | refine List.mem_cons_of_mem _ ?_)); exact rfl))); try dsimp only [resV])
  exact ⟨a', c', hc, hM⟩
theorem num3_err {e : Int} (h : rdI xs = .error e) (hM : Mm own w0 (x1 :: ⟨be, ⟨[.int .i64 0]⟩, 32⟩ :: xg :: ⟨bc, ⟨[v0, v1, v2, v3, v4, v5, v6, v7]⟩, 29⟩ :: xr :: ⟨bb, ⟨[.slice a0 xs.length c0]⟩, 57⟩ :: []) L (RdF (Value.int .u8) a0 xs :: Fs) W) : Calls Try.prog 69 ⟨[.pointer (some ⟨bc, 3, none⟩), .pointer (some ⟨bb, 0, none⟩), .pointer (some ⟨be, 0, none⟩)]⟩ W (Both (fun _ _ => False) fun p w' => p = failK e ∧ ∃ cs1 cs2, Mm own w0 (xg :: ⟨bc, cs1, 29⟩ :: xr :: ⟨bb, cs2, 57⟩ :: []) L (RdF (Value.int .u8) a0 xs :: Fs) w') := by
  have he := rdI_err h
  refine f_start Try.func69 rfl Try.ntmps69 rfl rfl ?_; intro a hF
  (repeat' (first | (with_reducible refine w_seq ?_) | (with_reducible refine c_region ?_) | (with_reducible refine s_nil ?_) | ((with_reducible apply s_call (f := 70) hF hM); exact rfl; exact rfl; exact rfl; exact rfl; exact rfl; exact (IntF_err xs hxb hlen a0 c0 hc0 _ _ hM.lt (hM.facts (RdF (Value.int .u8) a0 xs) List.mem_cons_self) h); clear hF hM a; rintro v w a rfl - hM hF) | ((with_reducible apply s_callE (f := 71) hF hM); exact rfl; exact rfl; exact rfl; exact rfl; exact (right_f _ _ hM.lt he); clear hF hM a; intro w a hM hF) | (with_reducible refine q_then_n ?_) | ((with_reducible apply s_pure hF); exact rfl; exact rfl; exact rfl; (first | exact trivial | omega | exact ⟨Int.natCast_nonneg _, Int.ofNat_lt.2 (by assumption)⟩ | decide); clear hF a; intro a hF) | ((with_reducible apply s_load hF hM); exact rfl; exact rfl; (repeat (first | exact List.mem_cons_self | refine List.mem_cons_of_mem _ ?_)); exact rfl; exact rfl; clear hF a; intro a hF) | ((with_reducible apply s_store hF hM); exact rfl; exact rfl; exact rfl; exact rfl; (repeat (first | exact Upd.z | apply Upd.s)); exact rfl; exact rfl; exact rfl; clear hM; intro w hM)))
  refine f_panic hF ?_
  exact ⟨rfl, _, _, hM.sub (.cons _ (.cons _ (.refl _))) (.refl _) (fun _ h => h)⟩
theorem num4_ok {n : Int} {ys : List Int} (h : rdI xs = .ok (n, ys)) (hM : Mm own w0 (x2 :: x1 :: ⟨be, ⟨[.int .i64 0]⟩, 32⟩ :: xg :: ⟨bc, ⟨[v0, v1, v2, v3, v4, v5, v6, v7]⟩, 29⟩ :: xr :: ⟨bb, ⟨[.slice a0 xs.length c0]⟩, 57⟩ :: []) L (RdF (Value.int .u8) a0 xs :: Fs) W) : Calls Try.prog 69 ⟨[.pointer (some ⟨bc, 4, none⟩), .pointer (some ⟨bb, 0, none⟩), .pointer (some ⟨be, 0, none⟩)]⟩ W (Rtn fun _ w' => ∃ a' c', ys.length ≤ c' ∧ Mm own w0 (x2 :: x1 :: ⟨be, ⟨[.int .i64 0]⟩, 32⟩ :: xg :: ⟨bc, ⟨[v0, v1, v2, v3, .int .i64 n, v5, v6, v7]⟩, 29⟩ :: xr :: ⟨bb, ⟨[.slice a' ys.length c']⟩, 57⟩ :: []) L (RdF (Value.int .u8) a' ys :: RdF (Value.int .u8) a0 xs :: Fs) w') := by
  refine f_start Try.func69 rfl Try.ntmps69 rfl rfl ?_; intro a hF
  (repeat' (first | (with_reducible refine w_seq ?_) | (with_reducible refine c_region ?_) | (with_reducible refine s_nil ?_) | ((with_reducible apply s_call (f := 70) hF hM); exact rfl; exact rfl; exact rfl; exact rfl; exact rfl; exact (IntF_ok xs hxb hlen a0 c0 hc0 _ _ hM.lt (hM.facts (RdF (Value.int .u8) a0 xs) List.mem_cons_self) h); clear hF hM a; rintro v w a ⟨a', c', rfl, hf, hc⟩ - hM hF; replace hM := hM.addFact hf) | ((with_reducible apply s_call (f := 71) hF hM); exact rfl; exact rfl; exact rfl; exact rfl; exact rfl; exact (right_t _ _ hM.lt rfl); clear hF hM a; rintro v w a - - hM hF) | (with_reducible refine q_then_n ?_) | ((with_reducible apply s_pure hF); exact rfl; exact rfl; exact rfl; (first | exact trivial | omega | exact ⟨Int.natCast_nonneg _, Int.ofNat_lt.2 (by assumption)⟩ | decide); clear hF a; intro a hF) | ((with_reducible apply s_load hF hM); exact rfl; exact rfl; (repeat (first | exact List.mem_cons_self | refine List.mem_cons_of_mem _ ?_)); exact rfl; exact rfl; clear hF a; intro a hF) | ((with_reducible apply s_store hF hM); exact rfl; exact rfl; exact rfl; exact rfl; (repeat (first | exact Upd.z | apply Upd.s)); exact rfl; exact rfl; exact rfl; clear hM; intro w hM)))
  (apply f_end Try.results69 hF hM; (repeat (first | exact RL.nil | (apply RL.tmp; exact rfl) | (apply RL.cell; exact rfl; (repeat (first | exact List.mem_cons_self | refine List.mem_cons_of_mem _ ?_)); exact rfl))); try dsimp only [resV])
  exact ⟨a', c', hc, hM⟩
theorem num4_err {e : Int} (h : rdI xs = .error e) (hM : Mm own w0 (x2 :: x1 :: ⟨be, ⟨[.int .i64 0]⟩, 32⟩ :: xg :: ⟨bc, ⟨[v0, v1, v2, v3, v4, v5, v6, v7]⟩, 29⟩ :: xr :: ⟨bb, ⟨[.slice a0 xs.length c0]⟩, 57⟩ :: []) L (RdF (Value.int .u8) a0 xs :: Fs) W) : Calls Try.prog 69 ⟨[.pointer (some ⟨bc, 4, none⟩), .pointer (some ⟨bb, 0, none⟩), .pointer (some ⟨be, 0, none⟩)]⟩ W (Both (fun _ _ => False) fun p w' => p = failK e ∧ ∃ cs1 cs2, Mm own w0 (xg :: ⟨bc, cs1, 29⟩ :: xr :: ⟨bb, cs2, 57⟩ :: []) L (RdF (Value.int .u8) a0 xs :: Fs) w') := by
  have he := rdI_err h
  refine f_start Try.func69 rfl Try.ntmps69 rfl rfl ?_; intro a hF
  (repeat' (first | (with_reducible refine w_seq ?_) | (with_reducible refine c_region ?_) | (with_reducible refine s_nil ?_) | ((with_reducible apply s_call (f := 70) hF hM); exact rfl; exact rfl; exact rfl; exact rfl; exact rfl; exact (IntF_err xs hxb hlen a0 c0 hc0 _ _ hM.lt (hM.facts (RdF (Value.int .u8) a0 xs) List.mem_cons_self) h); clear hF hM a; rintro v w a rfl - hM hF) | ((with_reducible apply s_callE (f := 71) hF hM); exact rfl; exact rfl; exact rfl; exact rfl; exact (right_f _ _ hM.lt he); clear hF hM a; intro w a hM hF) | (with_reducible refine q_then_n ?_) | ((with_reducible apply s_pure hF); exact rfl; exact rfl; exact rfl; (first | exact trivial | omega | exact ⟨Int.natCast_nonneg _, Int.ofNat_lt.2 (by assumption)⟩ | decide); clear hF a; intro a hF) | ((with_reducible apply s_load hF hM); exact rfl; exact rfl; (repeat (first | exact List.mem_cons_self | refine List.mem_cons_of_mem _ ?_)); exact rfl; exact rfl; clear hF a; intro a hF) | ((with_reducible apply s_store hF hM); exact rfl; exact rfl; exact rfl; exact rfl; (repeat (first | exact Upd.z | apply Upd.s)); exact rfl; exact rfl; exact rfl; clear hM; intro w hM)))
  refine f_panic hF ?_
  exact ⟨rfl, _, _, hM.sub (.cons _ (.cons _ (.cons _ (.refl _)))) (.refl _) (fun _ h => h)⟩
theorem num5_ok {n : Int} {ys : List Int} (h : rdI xs = .ok (n, ys)) (hM : Mm own w0 (x2 :: x1 :: ⟨be, ⟨[.int .i64 0]⟩, 32⟩ :: xg :: ⟨bc, ⟨[v0, v1, v2, v3, v4, v5, v6, v7]⟩, 29⟩ :: xr :: ⟨bb, ⟨[.slice a0 xs.length c0]⟩, 57⟩ :: []) L (RdF (Value.int .u8) a0 xs :: Fs) W) : Calls Try.prog 69 ⟨[.pointer (some ⟨bc, 5, none⟩), .pointer (some ⟨bb, 0, none⟩), .pointer (some ⟨be, 0, none⟩)]⟩ W (Rtn fun _ w' => ∃ a' c', ys.length ≤ c' ∧ Mm own w0 (x2 :: x1 :: ⟨be, ⟨[.int .i64 0]⟩, 32⟩ :: xg :: ⟨bc, ⟨[v0, v1, v2, v3, v4, .int .i64 n, v6, v7]⟩, 29⟩ :: xr :: ⟨bb, ⟨[.slice a' ys.length c']⟩, 57⟩ :: []) L (RdF (Value.int .u8) a' ys :: RdF (Value.int .u8) a0 xs :: Fs) w') := by
  refine f_start Try.func69 rfl Try.ntmps69 rfl rfl ?_; intro a hF
  (repeat' (first | (with_reducible refine w_seq ?_) | (with_reducible refine c_region ?_) | (with_reducible refine s_nil ?_) | ((with_reducible apply s_call (f := 70) hF hM); exact rfl; exact rfl; exact rfl; exact rfl; exact rfl; exact (IntF_ok xs hxb hlen a0 c0 hc0 _ _ hM.lt (hM.facts (RdF (Value.int .u8) a0 xs) List.mem_cons_self) h); clear hF hM a; rintro v w a ⟨a', c', rfl, hf, hc⟩ - hM hF; replace hM := hM.addFact hf) | ((with_reducible apply s_call (f := 71) hF hM); exact rfl; exact rfl; exact rfl; exact rfl; exact rfl; exact (right_t _ _ hM.lt rfl); clear hF hM a; rintro v w a - - hM hF) | (with_reducible refine q_then_n ?_) | ((with_reducible apply s_pure hF); exact rfl; exact rfl; exact rfl; (first | exact trivial | omega | exact ⟨Int.natCast_nonneg _, Int.ofNat_lt.2 (by assumption)⟩ | decide); clear hF a; intro a hF) | ((with_reducible apply s_load hF hM); exact rfl; exact rfl; (repeat (first | exact List.mem_cons_self | refine List.mem_cons_of_mem _ ?_)); exact rfl; exact rfl; clear hF a; intro a hF) | ((with_reducible apply s_store hF hM); exact rfl; exact rfl; exact rfl; exact rfl; (repeat (first | exact Upd.z | apply Upd.s)); exact rfl; exact rfl; exact rfl; clear hM; intro w hM)))
  (apply f_end Try.results69 hF hM; (repeat (first | exact RL.nil | (apply RL.tmp; exact rfl) | (apply RL.cell; exact rfl; (repeat (first | exact List.mem_cons_self | refine List.mem_cons_of_mem _ ?_)); exact rfl))); try dsimp only [resV])
  exact ⟨a', c', hc, hM⟩
theorem num5_err {e : Int} (h : rdI xs = .error e) (hM : Mm own w0 (x2 :: x1 :: ⟨be, ⟨[.int .i64 0]⟩, 32⟩ :: xg :: ⟨bc, ⟨[v0, v1, v2, v3, v4, v5, v6, v7]⟩, 29⟩ :: xr :: ⟨bb, ⟨[.slice a0 xs.length c0]⟩, 57⟩ :: []) L (RdF (Value.int .u8) a0 xs :: Fs) W) : Calls Try.prog 69 ⟨[.pointer (some ⟨bc, 5, none⟩), .pointer (some ⟨bb, 0, none⟩), .pointer (some ⟨be, 0, none⟩)]⟩ W (Both (fun _ _ => False) fun p w' => p = failK e ∧ ∃ cs1 cs2, Mm own w0 (xg :: ⟨bc, cs1, 29⟩ :: xr :: ⟨bb, cs2, 57⟩ :: []) L (RdF (Value.int .u8) a0 xs :: Fs) w') := by
  have he := rdI_err h
  refine f_start Try.func69 rfl Try.ntmps69 rfl rfl ?_; intro a hF
  (repeat' (first | (with_reducible refine w_seq ?_) | (with_reducible refine c_region ?_) | (with_reducible refine s_nil ?_) | ((with_reducible apply s_call (f := 70) hF hM); exact rfl; exact rfl; exact rfl; exact rfl; exact rfl; exact (IntF_err xs hxb hlen a0 c0 hc0 _ _ hM.lt (hM.facts (RdF (Value.int .u8) a0 xs) List.mem_cons_self) h); clear hF hM a; rintro v w a rfl - hM hF) | ((with_reducible apply s_callE (f := 71) hF hM); exact rfl; exact rfl; exact rfl; exact rfl; exact (right_f _ _ hM.lt he); clear hF hM a; intro w a hM hF) | (with_reducible refine q_then_n ?_) | ((with_reducible apply s_pure hF); exact rfl; exact rfl; exact rfl; (first | exact trivial | omega | exact ⟨Int.natCast_nonneg _, Int.ofNat_lt.2 (by assumption)⟩ | decide); clear hF a; intro a hF) | ((with_reducible apply s_load hF hM); exact rfl; exact rfl; (repeat (first | exact List.mem_cons_self | refine List.mem_cons_of_mem _ ?_)); exact rfl; exact rfl; clear hF a; intro a hF) | ((with_reducible apply s_store hF hM); exact rfl; exact rfl; exact rfl; exact rfl; (repeat (first | exact Upd.z | apply Upd.s)); exact rfl; exact rfl; exact rfl; clear hM; intro w hM)))
  refine f_panic hF ?_
  exact ⟨rfl, _, _, hM.sub (.cons _ (.cons _ (.cons _ (.refl _)))) (.refl _) (fun _ h => h)⟩
theorem num6_ok {n : Int} {ys : List Int} (h : rdI xs = .ok (n, ys)) (hM : Mm own w0 (x2 :: x1 :: ⟨be, ⟨[.int .i64 0]⟩, 32⟩ :: xg :: ⟨bc, ⟨[v0, v1, v2, v3, v4, v5, v6, v7]⟩, 29⟩ :: xr :: ⟨bb, ⟨[.slice a0 xs.length c0]⟩, 57⟩ :: []) L (RdF (Value.int .u8) a0 xs :: Fs) W) : Calls Try.prog 69 ⟨[.pointer (some ⟨bc, 6, none⟩), .pointer (some ⟨bb, 0, none⟩), .pointer (some ⟨be, 0, none⟩)]⟩ W (Rtn fun _ w' => ∃ a' c', ys.length ≤ c' ∧ Mm own w0 (x2 :: x1 :: ⟨be, ⟨[.int .i64 0]⟩, 32⟩ :: xg :: ⟨bc, ⟨[v0, v1, v2, v3, v4, v5, .int .i64 n, v7]⟩, 29⟩ :: xr :: ⟨bb, ⟨[.slice a' ys.length c']⟩, 57⟩ :: []) L (RdF (Value.int .u8) a' ys :: RdF (Value.int .u8) a0 xs :: Fs) w') := by
  refine f_start Try.func69 rfl Try.ntmps69 rfl rfl ?_; intro a hF
  (repeat' (first | (with_reducible refine w_seq ?_) | (with_reducible refine c_region ?_) | (with_reducible refine s_nil ?_) | ((with_reducible apply s_call (f := 70) hF hM); exact rfl; exact rfl; exact rfl; exact rfl; exact rfl; exact (IntF_ok xs hxb hlen a0 c0 hc0 _ _ hM.lt (hM.facts (RdF (Value.int .u8) a0 xs) List.mem_cons_self) h); clear hF hM a; rintro v w a ⟨a', c', rfl, hf, hc⟩ - hM hF; replace hM := hM.addFact hf) | ((with_reducible apply s_call (f := 71) hF hM); exact rfl; exact rfl; exact rfl; exact rfl; exact rfl; exact (right_t _ _ hM.lt rfl); clear hF hM a; rintro v w a - - hM hF) | (with_reducible refine q_then_n ?_) | ((with_reducible apply s_pure hF); exact rfl; exact rfl; exact rfl; (first | exact trivial | omega | exact ⟨Int.natCast_nonneg _, Int.ofNat_lt.2 (by assumption)⟩ | decide); clear hF a; intro a hF) | ((with_reducible apply s_load hF hM); exact rfl; exact rfl; (repeat (first | exact List.mem_cons_self | refine List.mem_cons_of_mem _ ?_)); exact rfl; exact rfl; clear hF a; intro a hF) | ((with_reducible apply s_store hF hM); exact rfl; exact rfl; exact rfl; exact rfl; (repeat (first | exact Upd.z | apply Upd.s)); exact rfl; exact rfl; exact rfl; clear hM; intro w hM)))
  (apply f_end Try.results69 hF hM; (repeat (first | exact RL.nil | (apply RL.tmp; exact rfl) | (apply RL.cell; exact rfl; (repeat (first | exact List.mem_cons_self | refine List.mem_cons_of_mem _ ?_)); exact rfl))); try dsimp only [resV])
  exact ⟨a', c', hc, hM⟩
theorem num6_err {e : Int} (h : rdI xs = .error e) (hM : Mm own w0 (x2 :: x1 :: ⟨be, ⟨[.int .i64 0]⟩, 32⟩ :: xg :: ⟨bc, ⟨[v0, v1, v2, v3, v4, v5, v6, v7]⟩, 29⟩ :: xr :: ⟨bb, ⟨[.slice a0 xs.length c0]⟩, 57⟩ :: []) L (RdF (Value.int .u8) a0 xs :: Fs) W) : Calls Try.prog 69 ⟨[.pointer (some ⟨bc, 6, none⟩), .pointer (some ⟨bb, 0, none⟩), .pointer (some ⟨be, 0, none⟩)]⟩ W (Both (fun _ _ => False) fun p w' => p = failK e ∧ ∃ cs1 cs2, Mm own w0 (xg :: ⟨bc, cs1, 29⟩ :: xr :: ⟨bb, cs2, 57⟩ :: []) L (RdF (Value.int .u8) a0 xs :: Fs) w') := by
  have he := rdI_err h
  refine f_start Try.func69 rfl Try.ntmps69 rfl rfl ?_; intro a hF
  (repeat' (first | (with_reducible refine w_seq ?_) | (with_reducible refine c_region ?_) | (with_reducible refine s_nil ?_) | ((with_reducible apply s_call (f := 70) hF hM); exact rfl; exact rfl; exact rfl; exact rfl; exact rfl; exact (IntF_err xs hxb hlen a0 c0 hc0 _ _ hM.lt (hM.facts (RdF (Value.int .u8) a0 xs) List.mem_cons_self) h); clear hF hM a; rintro v w a rfl - hM hF) | ((with_reducible apply s_callE (f := 71) hF hM); exact rfl; exact rfl; exact rfl; exact rfl; exact (right_f _ _ hM.lt he); clear hF hM a; intro w a hM hF) | (with_reducible refine q_then_n ?_) | ((with_reducible apply s_pure hF); exact rfl; exact rfl; exact rfl; (first | exact trivial | omega | exact ⟨Int.natCast_nonneg _, Int.ofNat_lt.2 (by assumption)⟩ | decide); clear hF a; intro a hF) | ((with_reducible apply s_load hF hM); exact rfl; exact rfl; (repeat (first | exact List.mem_cons_self | refine List.mem_cons_of_mem _ ?_)); exact rfl; exact rfl; clear hF a; intro a hF) | ((with_reducible apply s_store hF hM); exact rfl; exact rfl; exact rfl; exact rfl; (repeat (first | exact Upd.z | apply Upd.s)); exact rfl; exact rfl; exact rfl; clear hM; intro w hM)))
  refine f_panic hF ?_
  exact ⟨rfl, _, _, hM.sub (.cons _ (.cons _ (.cons _ (.refl _)))) (.refl _) (fun _ h => h)⟩
theorem num7_ok {n : Int} {ys : List Int} (h : rdI xs = .ok (n, ys)) (hM : Mm own w0 (x2 :: x1 :: ⟨be, ⟨[.int .i64 0]⟩, 32⟩ :: xg :: ⟨bc, ⟨[v0, v1, v2, v3, v4, v5, v6, v7]⟩, 29⟩ :: xr :: ⟨bb, ⟨[.slice a0 xs.length c0]⟩, 57⟩ :: []) L (RdF (Value.int .u8) a0 xs :: Fs) W) : Calls Try.prog 69 ⟨[.pointer (some ⟨bc, 7, none⟩), .pointer (some ⟨bb, 0, none⟩), .pointer (some ⟨be, 0, none⟩)]⟩ W (Rtn fun _ w' => ∃ a' c', ys.length ≤ c' ∧ Mm own w0 (x2 :: x1 :: ⟨be, ⟨[.int .i64 0]⟩, 32⟩ :: xg :: ⟨bc, ⟨[v0, v1, v2, v3, v4, v5, v6, .int .i64 n]⟩, 29⟩ :: xr :: ⟨bb, ⟨[.slice a' ys.length c']⟩, 57⟩ :: []) L (RdF (Value.int .u8) a' ys :: RdF (Value.int .u8) a0 xs :: Fs) w') := by
  refine f_start Try.func69 rfl Try.ntmps69 rfl rfl ?_; intro a hF
  (repeat' (first | (with_reducible refine w_seq ?_) | (with_reducible refine c_region ?_) | (with_reducible refine s_nil ?_) | ((with_reducible apply s_call (f := 70) hF hM); exact rfl; exact rfl; exact rfl; exact rfl; exact rfl; exact (IntF_ok xs hxb hlen a0 c0 hc0 _ _ hM.lt (hM.facts (RdF (Value.int .u8) a0 xs) List.mem_cons_self) h); clear hF hM a; rintro v w a ⟨a', c', rfl, hf, hc⟩ - hM hF; replace hM := hM.addFact hf) | ((with_reducible apply s_call (f := 71) hF hM); exact rfl; exact rfl; exact rfl; exact rfl; exact rfl; exact (right_t _ _ hM.lt rfl); clear hF hM a; rintro v w a - - hM hF) | (with_reducible refine q_then_n ?_) | ((with_reducible apply s_pure hF); exact rfl; exact rfl; exact rfl; (first | exact trivial | omega | exact ⟨Int.natCast_nonneg _, Int.ofNat_lt.2 (by assumption)⟩ | decide); clear hF a; intro a hF) | ((with_reducible apply s_load hF hM); exact rfl; exact rfl; (repeat (first | exact List.mem_cons_self | refine List.mem_cons_of_mem _ ?_)); exact rfl; exact rfl; clear hF a; intro a hF) | ((with_reducible apply s_store hF hM); exact rfl; exact rfl; exact rfl; exact rfl; (repeat (first | exact Upd.z | apply Upd.s)); exact rfl; exact rfl; exact rfl; clear hM; intro w hM)))
  (apply f_end Try.results69 hF hM; (repeat (first | exact RL.nil | (apply RL.tmp; exact rfl) | (apply RL.cell; exact rfl; (repeat (first | exact List.mem_cons_self | refine List.mem_cons_of_mem _ ?_)); exact rfl))); try dsimp only [resV])
  exact ⟨a', c', hc, hM⟩
theorem num7_err {e : Int} (h : rdI xs = .error e) (hM : Mm own w0 (x2 :: x1 :: ⟨be, ⟨[.int .i64 0]⟩, 32⟩ :: xg :: ⟨bc, ⟨[v0, v1, v2, v3, v4, v5, v6, v7]⟩, 29⟩ :: xr :: ⟨bb, ⟨[.slice a0 xs.length c0]⟩, 57⟩ :: []) L (RdF (Value.int .u8) a0 xs :: Fs) W) : Calls Try.prog 69 ⟨[.pointer (some ⟨bc, 7, none⟩), .pointer (some ⟨bb, 0, none⟩), .pointer (some ⟨be, 0, none⟩)]⟩ W (Both (fun _ _ => False) fun p w' => p = failK e ∧ ∃ cs1 cs2, Mm own w0 (xg :: ⟨bc, cs1, 29⟩ :: xr :: ⟨bb, cs2, 57⟩ :: []) L (RdF (Value.int .u8) a0 xs :: Fs) w') := by
  have he := rdI_err h
  refine f_start Try.func69 rfl Try.ntmps69 rfl rfl ?_; intro a hF
  (repeat' (first | (with_reducible refine w_seq ?_) | (with_reducible refine c_region ?_) | (with_reducible refine s_nil ?_) | ((with_reducible apply s_call (f := 70) hF hM); exact rfl; exact rfl; exact rfl; exact rfl; exact rfl; exact (IntF_err xs hxb hlen a0 c0 hc0 _ _ hM.lt (hM.facts (RdF (Value.int .u8) a0 xs) List.mem_cons_self) h); clear hF hM a; rintro v w a rfl - hM hF) | ((with_reducible apply s_callE (f := 71) hF hM); exact rfl; exact rfl; exact rfl; exact rfl; exact (right_f _ _ hM.lt he); clear hF hM a; intro w a hM hF) | (with_reducible refine q_then_n ?_) | ((with_reducible apply s_pure hF); exact rfl; exact rfl; exact rfl; (first | exact trivial | omega | exact ⟨Int.natCast_nonneg _, Int.ofNat_lt.2 (by assumption)⟩ | decide); clear hF a; intro a hF) | ((with_reducible apply s_load hF hM); exact rfl; exact rfl; (repeat (first | exact List.mem_cons_self | refine List.mem_cons_of_mem _ ?_)); exact rfl; exact rfl; clear hF a; intro a hF) | ((with_reducible apply s_store hF hM); exact rfl; exact rfl; exact rfl; exact rfl; (repeat (first | exact Upd.z | apply Upd.s)); exact rfl; exact rfl; exact rfl; clear hM; intro w hM)))
  refine f_panic hF ?_
  exact ⟨rfl, _, _, hM.sub (.cons _ (.cons _ (.cons _ (.refl _)))) (.refl _) (fun _ h => h)⟩
end
/-- How the reading ends. -/
def D1R (own : Nat → Prop) (w0 : World) (L : List Ent) (bg bc br bb : Nat) (r : Except Int Ce) : Ending → World → Prop := match r with
  | .error e => Both (fun _ _ => False) fun p w' => p = failK e ∧ ∃ bs' L' Fs', (∃ cs1 cs2, bs' = [⟨bc, cs1, 29⟩, ⟨br, ⟨ceZ⟩, 29⟩, ⟨bb, cs2, 57⟩]) ∧ Mm own w0 (⟨bg, ⟨[.int .i64 0]⟩, 32⟩ :: bs') L' Fs' w'
  | .ok c => Rtn fun _ w' => ∃ bs' L' Fs', (∃ a1 c1 a2 c2 cs2 Fs2, bs' = [⟨bc, ⟨ceL c a1 c1 a2 c2⟩, 29⟩, ⟨br, ⟨ceZ⟩, 29⟩, ⟨bb, cs2, 57⟩] ∧ Fs' = RdF (Value.int .i64) a1 c.A.V :: RdF (Value.int .i64) a2 c.S.V :: Fs2 ∧ c.A.V.length ≤ c1 ∧ c.S.V.length ≤ c2) ∧ Mm own w0 (⟨bg, ⟨[.int .i64 0]⟩, 32⟩ :: bs') L' Fs' w'
set_option maxHeartbeats 8000000 in
theorem dec1_c (xs : List Int) (hxb : ∀ x ∈ xs, 0 ≤ x ∧ x < 256) (hlen : xs.length ≤ 1000000) (a0 : Option Addr) (c0 : Nat) (hc0 : xs.length ≤ c0) {own : Nat → Prop} {w0 W : World} {L : List Ent} {Fs : List (World → Prop)} (bg bc br bb : Nat) (hM : Mm own w0 (⟨bg, ⟨[.int .i64 0]⟩, 32⟩ :: ⟨bc, ⟨ceZ⟩, 29⟩ :: ⟨br, ⟨ceZ⟩, 29⟩ :: ⟨bb, ⟨[.slice a0 xs.length c0]⟩, 57⟩ :: []) L (RdF (Value.int .u8) a0 xs :: Fs) W) :
    Calls Try.prog 68 ⟨[.pointer (some ⟨bb, 0, none⟩), .pointer (some ⟨bc, 0, none⟩)]⟩ W (D1R own w0 L bg bc br bb (decC xs)) := by
  refine f_start Try.func68 rfl Try.ntmps68 rfl rfl ?_; intro a hF
  unfold decC
  by_cases hbig : 65536 < xs.length
  · rw [if_pos hbig]
    (repeat' (first | (with_reducible refine w_seq ?_) | (with_reducible refine c_region ?_) | ((with_reducible apply s_callE (f := 58) hF hM); exact rfl; exact rfl; exact rfl; exact rfl; exact (demand_f _ _ _ hM.lt (decide_eq_false (by omega))); clear hF hM a; intro w a hM hF) | (with_reducible refine q_then_p ?_) | ((with_reducible apply s_pure hF); exact rfl; exact rfl; exact rfl; (first | exact trivial | omega | exact ⟨Int.natCast_nonneg _, Int.ofNat_lt.2 (by assumption)⟩ | decide); clear hF a; intro a hF) | ((with_reducible apply s_load hF hM); exact rfl; exact rfl; (repeat (first | exact List.mem_cons_self | refine List.mem_cons_of_mem _ ?_)); exact rfl; exact rfl; clear hF a; intro a hF)))
    refine f_panic hF ?_
    exact ⟨rfl, _, _, _, ⟨_, _, rfl⟩, hM⟩
  rw [if_neg hbig]
  (repeat' (first | (with_reducible refine w_seq ?_) | (with_reducible refine c_region ?_) | (with_reducible refine s_nil ?_) | ((with_reducible apply s_call (f := 58) hF hM); exact rfl; exact rfl; exact rfl; exact rfl; exact rfl; exact (demand_t _ _ _ hM.lt (decide_eq_true (by omega))); clear hF hM a; rintro v w a - - hM hF) | (with_reducible refine q_then_n ?_) | ((with_reducible apply s_pure hF); exact rfl; exact rfl; exact rfl; (first | exact trivial | omega | exact ⟨Int.natCast_nonneg _, Int.ofNat_lt.2 (by assumption)⟩ | decide); clear hF a; intro a hF) | ((with_reducible apply s_load hF hM); exact rfl; exact rfl; (repeat (first | exact List.mem_cons_self | refine List.mem_cons_of_mem _ ?_)); exact rfl; exact rfl; clear hF a; intro a hF) | ((with_reducible apply s_alloc hF hM); exact rfl; exact rfl; exact rfl; clear hF hM a; intro b w a hM hF) | ((with_reducible apply s_lit hF hM); exact rfl; exact rfl; exact rfl; exact rfl; clear hF hM a; intro bl w a hM hF) | (with_reducible refine w_block ?_)))
  refine c_roll 3 ?_
  (repeat (first | (with_reducible refine w_seq ?_) | (with_reducible refine c_region ?_) | (with_reducible refine s_nil ?_) | (with_reducible refine q_then_n ?_) | ((with_reducible apply s_pure hF); exact rfl; exact rfl; exact rfl; (first | exact trivial | omega | exact ⟨Int.natCast_nonneg _, Int.ofNat_lt.2 (by assumption)⟩ | decide); clear hF a; intro a hF) | ((with_reducible apply s_load hF hM); exact rfl; exact rfl; (repeat (first | exact List.mem_cons_self | refine List.mem_cons_of_mem _ ?_)); exact rfl; exact rfl; clear hF a; intro a hF) | ((with_reducible apply s_loadB hF hM); exact rfl; exact rfl; (repeat (first | exact List.mem_cons_self | refine List.mem_cons_of_mem _ ?_)); exact rfl; exact rfl; clear hF a; intro a hF) | (with_reducible refine w_skip ?_) | (with_reducible refine r_succ ?_) | (with_reducible refine w_block ?_) | ((with_reducible apply c_true2 hF); exact rfl; (first | with_reducible rfl | (refine congrArg Value.bool ?_; focus (simp; done))))))
  generalize b = be at *
  generalize bl = b1 at *
  cases g1 : rdInts xs with
  | error e =>
    have hde : dec8 xs = .error e := by unfold dec8; simp only [g1]
    rw [hde]
    (((with_reducible apply s_call (f := 72) hF hM); exact rfl; exact rfl; exact rfl; exact rfl; exact rfl; exact (Ints_err xs hxb hlen a0 c0 hc0 _ _ hM.lt (hM.facts (RdF (Value.int .u8) a0 xs) (by (repeat (first | with_reducible exact List.mem_cons_self | refine List.mem_cons_of_mem _ ?_)))) g1); clear hF hM a; rintro v w a ⟨rfl, hne⟩ - hM hF))
    (repeat' (first | (with_reducible refine w_seq ?_) | (with_reducible refine c_region ?_) | (with_reducible refine s_nil ?_) | ((with_reducible apply s_callE (f := 71) hF hM); exact rfl; exact rfl; exact rfl; exact rfl; exact (right_f _ _ hM.lt hne); clear hF hM a; intro w a hM hF) | (with_reducible refine q_then_p ?_) | (with_reducible refine q_blk_p ?_) | (with_reducible refine q_then_n ?_) | ((with_reducible apply s_pure hF); exact rfl; exact rfl; exact rfl; (first | exact trivial | omega | exact ⟨Int.natCast_nonneg _, Int.ofNat_lt.2 (by assumption)⟩ | decide); clear hF a; intro a hF) | ((with_reducible apply s_load hF hM); exact rfl; exact rfl; (repeat (first | exact List.mem_cons_self | refine List.mem_cons_of_mem _ ?_)); exact rfl; exact rfl; clear hF a; intro a hF) | ((with_reducible apply s_store hF hM); exact rfl; exact rfl; exact rfl; exact rfl; (repeat (first | exact Upd.z | apply Upd.s)); exact rfl; exact rfl; exact rfl; clear hM; intro w hM)))
    refine f_panic hF ?_
    exact ⟨rfl, _, _, _, ⟨_, _, rfl⟩, hM.sub (.cons _ (.cons _ (.refl _))) (.refl _) (fun _ h => h)⟩
  | ok pr =>
  obtain ⟨l1, y1⟩ := pr
  (((with_reducible apply s_call (f := 72) hF hM); exact rfl; exact rfl; exact rfl; exact rfl; exact rfl; exact (Ints_ok xs hxb hlen a0 c0 hc0 _ _ hM.lt (hM.facts (RdF (Value.int .u8) a0 xs) (by (repeat (first | with_reducible exact List.mem_cons_self | refine List.mem_cons_of_mem _ ?_)))) g1); clear hF hM a; rintro v w a ⟨p1, q1, r1, d1, rfl, f1, f1', k1, hc1, m1, hb1, hl1⟩ - hM hF; replace hM := (hM.addFact f1).addFact f1'))
  (repeat (first | (with_reducible refine w_seq ?_) | (with_reducible refine c_region ?_) | (with_reducible refine s_nil ?_) | ((with_reducible apply s_call (f := 71) hF hM); exact rfl; exact rfl; exact rfl; exact rfl; exact rfl; exact (right_t _ _ hM.lt rfl); clear hF hM a; rintro v w a - - hM hF) | (with_reducible refine q_then_n ?_) | ((with_reducible apply s_pure hF); exact rfl; exact rfl; exact rfl; (first | exact trivial | omega | exact ⟨Int.natCast_nonneg _, Int.ofNat_lt.2 (by assumption)⟩ | decide); clear hF a; intro a hF) | ((with_reducible apply s_load hF hM); exact rfl; exact rfl; (repeat (first | exact List.mem_cons_self | refine List.mem_cons_of_mem _ ?_)); exact rfl; exact rfl; clear hF a; intro a hF) | ((with_reducible apply s_store hF hM); exact rfl; exact rfl; exact rfl; exact rfl; (repeat (first | exact Upd.z | apply Upd.s)); exact rfl; exact rfl; exact rfl; clear hM; intro w hM)))
  have hy1 : y1.length ≤ 1000000 := by omega
  cases g2 : rdI y1 with
  | error e =>
    have hde : dec8 xs = .error e := by unfold dec8; simp only [g1, g2]
    rw [hde]
    refine s_callcB hF rfl rfl rfl rfl rfl rfl rfl (num1_err y1 hb1 hy1 r1 d1 hc1 be bc bb _ _ _ _ _ _ _ _ _ _ _ g2 hM) ?_ (fun _ _ _ h => h.elim)
    clear hF hM a
    rintro p w a ⟨rfl, cs1, cs2, hM⟩ hF
    (repeat' (first | (with_reducible refine q_then_p ?_) | (with_reducible refine q_blk_p ?_)))
    refine f_panic hF ?_
    exact ⟨rfl, _, _, _, ⟨_, _, rfl⟩, hM⟩
  | ok pr =>
  obtain ⟨n2, y2⟩ := pr
  refine s_callcM hF rfl rfl rfl rfl rfl rfl rfl (num1_ok y1 hb1 hy1 r1 d1 hc1 be bc bb _ _ _ _ _ _ _ _ _ _ _ g2 hM) ?_
  clear hF hM a
  rintro v w a ⟨r2, d2, hc2, hM⟩ hF
  obtain ⟨hb2, hz2, hn2, hn2'⟩ := rdI_ok hb1 g2
  have hy2 : y2.length ≤ 1000000 := by omega
  (repeat (first | (with_reducible refine w_seq ?_) | (with_reducible refine c_region ?_) | (with_reducible refine s_nil ?_) | (with_reducible refine q_then_n ?_) | ((with_reducible apply s_pure hF); exact rfl; exact rfl; exact rfl; (first | exact trivial | omega | exact ⟨Int.natCast_nonneg _, Int.ofNat_lt.2 (by assumption)⟩ | decide); clear hF a; intro a hF) | ((with_reducible apply s_load hF hM); exact rfl; exact rfl; (repeat (first | exact List.mem_cons_self | refine List.mem_cons_of_mem _ ?_)); exact rfl; exact rfl; clear hF a; intro a hF) | ((with_reducible apply s_loadB hF hM); exact rfl; exact rfl; (repeat (first | exact List.mem_cons_self | refine List.mem_cons_of_mem _ ?_)); exact rfl; exact rfl; clear hF a; intro a hF) | (with_reducible refine w_skip ?_) | (with_reducible refine r_succ ?_) | (with_reducible refine w_block ?_) | (with_reducible refine q_blk_n ?_) | ((with_reducible apply c_true2 hF); exact rfl; (first | with_reducible rfl | (refine congrArg Value.bool ?_; focus (simp; done))))))
  cases g3 : rdInts y2 with
  | error e =>
    have hde : dec8 xs = .error e := by unfold dec8; simp only [g1, g2, g3]
    rw [hde]
    (((with_reducible apply s_call (f := 72) hF hM); exact rfl; exact rfl; exact rfl; exact rfl; exact rfl; exact (Ints_err y2 hb2 hy2 r2 d2 hc2 _ _ hM.lt (hM.facts (RdF (Value.int .u8) r2 y2) (by (repeat (first | with_reducible exact List.mem_cons_self | refine List.mem_cons_of_mem _ ?_)))) g3); clear hF hM a; rintro v w a ⟨rfl, hne⟩ - hM hF))
    (repeat' (first | (with_reducible refine w_seq ?_) | (with_reducible refine c_region ?_) | (with_reducible refine s_nil ?_) | ((with_reducible apply s_callE (f := 71) hF hM); exact rfl; exact rfl; exact rfl; exact rfl; exact (right_f _ _ hM.lt hne); clear hF hM a; intro w a hM hF) | (with_reducible refine q_then_p ?_) | (with_reducible refine q_blk_p ?_) | (with_reducible refine q_then_n ?_) | ((with_reducible apply s_pure hF); exact rfl; exact rfl; exact rfl; (first | exact trivial | omega | exact ⟨Int.natCast_nonneg _, Int.ofNat_lt.2 (by assumption)⟩ | decide); clear hF a; intro a hF) | ((with_reducible apply s_load hF hM); exact rfl; exact rfl; (repeat (first | exact List.mem_cons_self | refine List.mem_cons_of_mem _ ?_)); exact rfl; exact rfl; clear hF a; intro a hF) | ((with_reducible apply s_store hF hM); exact rfl; exact rfl; exact rfl; exact rfl; (repeat (first | exact Upd.z | apply Upd.s)); exact rfl; exact rfl; exact rfl; clear hM; intro w hM)))
    refine f_panic hF ?_
    exact ⟨rfl, _, _, _, ⟨_, _, rfl⟩, hM.sub (.cons _ (.cons _ (.refl _))) (.refl _) (fun _ h => h)⟩
  | ok pr =>
  obtain ⟨l3, y3⟩ := pr
  (((with_reducible apply s_call (f := 72) hF hM); exact rfl; exact rfl; exact rfl; exact rfl; exact rfl; exact (Ints_ok y2 hb2 hy2 r2 d2 hc2 _ _ hM.lt (hM.facts (RdF (Value.int .u8) r2 y2) (by (repeat (first | with_reducible exact List.mem_cons_self | refine List.mem_cons_of_mem _ ?_)))) g3); clear hF hM a; rintro v w a ⟨p3, q3, r3, d3, rfl, f3, f3', k3, hc3, m3, hb3, hl3⟩ - hM hF; replace hM := (hM.addFact f3).addFact f3'))
  (repeat (first | (with_reducible refine w_seq ?_) | (with_reducible refine c_region ?_) | (with_reducible refine s_nil ?_) | ((with_reducible apply s_call (f := 71) hF hM); exact rfl; exact rfl; exact rfl; exact rfl; exact rfl; exact (right_t _ _ hM.lt rfl); clear hF hM a; rintro v w a - - hM hF) | (with_reducible refine q_then_n ?_) | ((with_reducible apply s_pure hF); exact rfl; exact rfl; exact rfl; (first | exact trivial | omega | exact ⟨Int.natCast_nonneg _, Int.ofNat_lt.2 (by assumption)⟩ | decide); clear hF a; intro a hF) | ((with_reducible apply s_load hF hM); exact rfl; exact rfl; (repeat (first | exact List.mem_cons_self | refine List.mem_cons_of_mem _ ?_)); exact rfl; exact rfl; clear hF a; intro a hF) | ((with_reducible apply s_store hF hM); exact rfl; exact rfl; exact rfl; exact rfl; (repeat (first | exact Upd.z | apply Upd.s)); exact rfl; exact rfl; exact rfl; clear hM; intro w hM)))
  have hy3 : y3.length ≤ 1000000 := by omega
  cases g4 : rdI y3 with
  | error e =>
    have hde : dec8 xs = .error e := by unfold dec8; simp only [g1, g2, g3, g4]
    rw [hde]
    refine s_callcB hF rfl rfl rfl rfl rfl rfl rfl (num3_err y3 hb3 hy3 r3 d3 hc3 be bc bb _ _ _ _ _ _ _ _ _ _ _ g4 hM) ?_ (fun _ _ _ h => h.elim)
    clear hF hM a
    rintro p w a ⟨rfl, cs1, cs2, hM⟩ hF
    (repeat' (first | (with_reducible refine q_then_p ?_) | (with_reducible refine q_blk_p ?_)))
    refine f_panic hF ?_
    exact ⟨rfl, _, _, _, ⟨_, _, rfl⟩, hM⟩
  | ok pr =>
  obtain ⟨n4, y4⟩ := pr
  refine s_callcM hF rfl rfl rfl rfl rfl rfl rfl (num3_ok y3 hb3 hy3 r3 d3 hc3 be bc bb _ _ _ _ _ _ _ _ _ _ _ g4 hM) ?_
  clear hF hM a
  rintro v w a ⟨r4, d4, hc4, hM⟩ hF
  obtain ⟨hb4, hz4, hn4, hn4'⟩ := rdI_ok hb3 g4
  have hy4 : y4.length ≤ 1000000 := by omega
  (repeat (first | (with_reducible refine w_seq ?_) | (with_reducible refine c_region ?_) | (with_reducible refine s_nil ?_) | (with_reducible refine q_then_n ?_) | ((with_reducible apply s_pure hF); exact rfl; exact rfl; exact rfl; (first | exact trivial | omega | exact ⟨Int.natCast_nonneg _, Int.ofNat_lt.2 (by assumption)⟩ | decide); clear hF a; intro a hF) | ((with_reducible apply s_lit hF hM); exact rfl; exact rfl; exact rfl; exact rfl; clear hF hM a; intro bl w a hM hF) | (with_reducible refine r_succ ?_) | (with_reducible refine w_block ?_) | (with_reducible refine w_exit ?_) | (with_reducible refine q_then_x ?_) | (with_reducible refine q_blk_n ?_) | (with_reducible refine q_blk_x ?_) | ((with_reducible apply c_false2 hF); exact rfl; (first | with_reducible rfl | (refine congrArg Value.bool ?_; focus (simp; done))))))
  refine c_roll 5 ?_
  (repeat (first | (with_reducible refine w_seq ?_) | (with_reducible refine c_region ?_) | (with_reducible refine s_nil ?_) | (with_reducible refine q_then_n ?_) | ((with_reducible apply s_pure hF); exact rfl; exact rfl; exact rfl; (first | exact trivial | omega | exact ⟨Int.natCast_nonneg _, Int.ofNat_lt.2 (by assumption)⟩ | decide); clear hF a; intro a hF) | ((with_reducible apply s_loadB hF hM); exact rfl; exact rfl; (repeat (first | exact List.mem_cons_self | refine List.mem_cons_of_mem _ ?_)); exact rfl; exact rfl; clear hF a; intro a hF) | (with_reducible refine w_skip ?_) | (with_reducible refine r_succ ?_) | (with_reducible refine w_block ?_) | ((with_reducible apply c_true2 hF); exact rfl; (first | with_reducible rfl | (refine congrArg Value.bool ?_; focus (simp; done))))))
  generalize bl = b2 at *
  cases g5 : rdI y4 with
  | error e =>
    have hde : dec8 xs = .error e := by unfold dec8; simp only [g1, g2, g3, g4, g5]
    rw [hde]
    refine s_callcB hF rfl rfl rfl rfl rfl rfl rfl (num4_err y4 hb4 hy4 r4 d4 hc4 be bc bb _ _ _ _ _ _ _ _ _ _ _ _ g5 hM) ?_ (fun _ _ _ h => h.elim)
    clear hF hM a
    rintro p w a ⟨rfl, cs1, cs2, hM⟩ hF
    (repeat' (first | (with_reducible refine q_then_p ?_) | (with_reducible refine q_blk_p ?_)))
    refine f_panic hF ?_
    exact ⟨rfl, _, _, _, ⟨_, _, rfl⟩, hM⟩
  | ok pr =>
  obtain ⟨n5, y5⟩ := pr
  refine s_callcM hF rfl rfl rfl rfl rfl rfl rfl (num4_ok y4 hb4 hy4 r4 d4 hc4 be bc bb _ _ _ _ _ _ _ _ _ _ _ _ g5 hM) ?_
  clear hF hM a
  rintro v w a ⟨r5, d5, hc5, hM⟩ hF
  obtain ⟨hb5, hz5, hn5, hn5'⟩ := rdI_ok hb4 g5
  have hy5 : y5.length ≤ 1000000 := by omega
  (repeat (first | (with_reducible refine w_seq ?_) | (with_reducible refine c_region ?_) | (with_reducible refine s_nil ?_) | (with_reducible refine q_then_n ?_) | ((with_reducible apply s_pure hF); exact rfl; exact rfl; exact rfl; (first | exact trivial | omega | exact ⟨Int.natCast_nonneg _, Int.ofNat_lt.2 (by assumption)⟩ | decide); clear hF a; intro a hF) | ((with_reducible apply s_loadB hF hM); exact rfl; exact rfl; (repeat (first | exact List.mem_cons_self | refine List.mem_cons_of_mem _ ?_)); exact rfl; exact rfl; clear hF a; intro a hF) | (with_reducible refine w_skip ?_) | (with_reducible refine r_succ ?_) | (with_reducible refine w_block ?_) | (with_reducible refine q_blk_n ?_) | ((with_reducible apply c_true2 hF); exact rfl; (first | with_reducible rfl | (refine congrArg Value.bool ?_; focus (simp; done))))))
  cases g6 : rdI y5 with
  | error e =>
    have hde : dec8 xs = .error e := by unfold dec8; simp only [g1, g2, g3, g4, g5, g6]
    rw [hde]
    refine s_callcB hF rfl rfl rfl rfl rfl rfl rfl (num5_err y5 hb5 hy5 r5 d5 hc5 be bc bb _ _ _ _ _ _ _ _ _ _ _ _ g6 hM) ?_ (fun _ _ _ h => h.elim)
    clear hF hM a
    rintro p w a ⟨rfl, cs1, cs2, hM⟩ hF
    (repeat' (first | (with_reducible refine q_then_p ?_) | (with_reducible refine q_blk_p ?_)))
    refine f_panic hF ?_
    exact ⟨rfl, _, _, _, ⟨_, _, rfl⟩, hM⟩
  | ok pr =>
  obtain ⟨n6, y6⟩ := pr
  refine s_callcM hF rfl rfl rfl rfl rfl rfl rfl (num5_ok y5 hb5 hy5 r5 d5 hc5 be bc bb _ _ _ _ _ _ _ _ _ _ _ _ g6 hM) ?_
  clear hF hM a
  rintro v w a ⟨r6, d6, hc6, hM⟩ hF
  obtain ⟨hb6, hz6, hn6, hn6'⟩ := rdI_ok hb5 g6
  have hy6 : y6.length ≤ 1000000 := by omega
  (repeat (first | (with_reducible refine w_seq ?_) | (with_reducible refine c_region ?_) | (with_reducible refine s_nil ?_) | (with_reducible refine q_then_n ?_) | ((with_reducible apply s_pure hF); exact rfl; exact rfl; exact rfl; (first | exact trivial | omega | exact ⟨Int.natCast_nonneg _, Int.ofNat_lt.2 (by assumption)⟩ | decide); clear hF a; intro a hF) | ((with_reducible apply s_loadB hF hM); exact rfl; exact rfl; (repeat (first | exact List.mem_cons_self | refine List.mem_cons_of_mem _ ?_)); exact rfl; exact rfl; clear hF a; intro a hF) | (with_reducible refine w_skip ?_) | (with_reducible refine r_succ ?_) | (with_reducible refine w_block ?_) | (with_reducible refine q_blk_n ?_) | ((with_reducible apply c_true2 hF); exact rfl; (first | with_reducible rfl | (refine congrArg Value.bool ?_; focus (simp; done))))))
  cases g7 : rdI y6 with
  | error e =>
    have hde : dec8 xs = .error e := by unfold dec8; simp only [g1, g2, g3, g4, g5, g6, g7]
    rw [hde]
    refine s_callcB hF rfl rfl rfl rfl rfl rfl rfl (num6_err y6 hb6 hy6 r6 d6 hc6 be bc bb _ _ _ _ _ _ _ _ _ _ _ _ g7 hM) ?_ (fun _ _ _ h => h.elim)
    clear hF hM a
    rintro p w a ⟨rfl, cs1, cs2, hM⟩ hF
    (repeat' (first | (with_reducible refine q_then_p ?_) | (with_reducible refine q_blk_p ?_)))
    refine f_panic hF ?_
    exact ⟨rfl, _, _, _, ⟨_, _, rfl⟩, hM⟩
  | ok pr =>
  obtain ⟨n7, y7⟩ := pr
  refine s_callcM hF rfl rfl rfl rfl rfl rfl rfl (num6_ok y6 hb6 hy6 r6 d6 hc6 be bc bb _ _ _ _ _ _ _ _ _ _ _ _ g7 hM) ?_
  clear hF hM a
  rintro v w a ⟨r7, d7, hc7, hM⟩ hF
  obtain ⟨hb7, hz7, hn7, hn7'⟩ := rdI_ok hb6 g7
  have hy7 : y7.length ≤ 1000000 := by omega
  (repeat (first | (with_reducible refine w_seq ?_) | (with_reducible refine c_region ?_) | (with_reducible refine s_nil ?_) | (with_reducible refine q_then_n ?_) | ((with_reducible apply s_pure hF); exact rfl; exact rfl; exact rfl; (first | exact trivial | omega | exact ⟨Int.natCast_nonneg _, Int.ofNat_lt.2 (by assumption)⟩ | decide); clear hF a; intro a hF) | ((with_reducible apply s_loadB hF hM); exact rfl; exact rfl; (repeat (first | exact List.mem_cons_self | refine List.mem_cons_of_mem _ ?_)); exact rfl; exact rfl; clear hF a; intro a hF) | (with_reducible refine w_skip ?_) | (with_reducible refine r_succ ?_) | (with_reducible refine w_block ?_) | (with_reducible refine q_blk_n ?_) | ((with_reducible apply c_true2 hF); exact rfl; (first | with_reducible rfl | (refine congrArg Value.bool ?_; focus (simp; done))))))
  cases g8 : rdI y7 with
  | error e =>
    have hde : dec8 xs = .error e := by unfold dec8; simp only [g1, g2, g3, g4, g5, g6, g7, g8]
    rw [hde]
    refine s_callcB hF rfl rfl rfl rfl rfl rfl rfl (num7_err y7 hb7 hy7 r7 d7 hc7 be bc bb _ _ _ _ _ _ _ _ _ _ _ _ g8 hM) ?_ (fun _ _ _ h => h.elim)
    clear hF hM a
    rintro p w a ⟨rfl, cs1, cs2, hM⟩ hF
    (repeat' (first | (with_reducible refine q_then_p ?_) | (with_reducible refine q_blk_p ?_)))
    refine f_panic hF ?_
    exact ⟨rfl, _, _, _, ⟨_, _, rfl⟩, hM⟩
  | ok pr =>
  obtain ⟨n8, y8⟩ := pr
  refine s_callcM hF rfl rfl rfl rfl rfl rfl rfl (num7_ok y7 hb7 hy7 r7 d7 hc7 be bc bb _ _ _ _ _ _ _ _ _ _ _ _ g8 hM) ?_
  clear hF hM a
  rintro v w a ⟨r8, d8, hc8, hM⟩ hF
  obtain ⟨hb8, hz8, hn8, hn8'⟩ := rdI_ok hb7 g8
  have hy8 : y8.length ≤ 1000000 := by omega
  (repeat (first | (with_reducible refine w_seq ?_) | (with_reducible refine c_region ?_) | (with_reducible refine s_nil ?_) | (with_reducible refine q_then_n ?_) | ((with_reducible apply s_pure hF); exact rfl; exact rfl; exact rfl; (first | exact trivial | omega | exact ⟨Int.natCast_nonneg _, Int.ofNat_lt.2 (by assumption)⟩ | decide); clear hF a; intro a hF) | ((with_reducible apply s_load hF hM); exact rfl; exact rfl; (repeat (first | exact List.mem_cons_self | refine List.mem_cons_of_mem _ ?_)); exact rfl; exact rfl; clear hF a; intro a hF) | (with_reducible refine r_succ ?_) | (with_reducible refine w_exit ?_) | (with_reducible refine q_then_x ?_) | (with_reducible refine q_blk_n ?_) | (with_reducible refine q_blk_x ?_) | ((with_reducible apply c_false2 hF); exact rfl; (first | with_reducible rfl | (refine congrArg Value.bool ?_; focus (simp; done))))))
  obtain ⟨c, hc⟩ : ∃ c : Ce, c = ⟨⟨l1, n2⟩, ⟨l3, n4⟩, n5, n6, n7, n8⟩ := ⟨_, rfl⟩
  have hde : dec8 xs = .ok (c, y8) := by unfold dec8; simp only [g1, g2, g3, g4, g5, g6, g7, g8, hc]
  rw [hde]
  by_cases h0 : y8.length = 0
  case neg =>
    simp only [if_pos h0]
    (repeat' (first | ((with_reducible apply s_callE (f := 58) hF hM); exact rfl; exact rfl; exact rfl; exact rfl; exact (demand_f _ _ _ hM.lt (decide_eq_false (by omega))); clear hF hM a; intro w a hM hF) | (with_reducible refine q_then_p ?_)))
    refine f_panic hF ?_
    exact ⟨rfl, _, _, _, ⟨_, _, rfl⟩, hM.sub (.cons _ (.cons _ (.cons _ (.refl _)))) (.refl _) (fun _ h => h)⟩
  have h0' : ¬ y8.length ≠ 0 := by omega
  simp only [if_neg h0']
  have hl1 : c.A.V = l1 := by rw [hc]
  have hl3 : c.S.V = l3 := by rw [hc]
  by_cases hk : chkE c = 0
  · have hk' : ¬ chkE c ≠ 0 := by omega
    simp only [if_neg hk']
    subst hc
    (repeat' (first | (with_reducible refine c_region ?_) | (with_reducible refine s_nil ?_) | ((with_reducible apply s_call (f := 58) hF hM); exact rfl; exact rfl; exact rfl; exact rfl; exact rfl; exact (demand_t _ _ _ hM.lt (decide_eq_true (by omega))); clear hF hM a; rintro v w a - - hM hF) | ((with_reducible apply s_call (f := 56) hF hM); exact rfl; exact rfl; exact rfl; exact rfl; exact rfl; exact (RetP.ok (ceChk_c ⟨⟨l1, n2⟩, ⟨l3, n4⟩, n5, n6, n7, n8⟩ p1 p3 q1 q3 (show l1.length ≤ _ by omega) k1 (show l3.length ≤ _ by omega) k3 _ _ hM.lt (hM.facts (RdF (Value.int .i64) p1 l1) (by (repeat (first | with_reducible exact List.mem_cons_self | refine List.mem_cons_of_mem _ ?_)))) (hM.facts (RdF (Value.int .i64) p3 l3) (by (repeat (first | with_reducible exact List.mem_cons_self | refine List.mem_cons_of_mem _ ?_))))) hk); clear hF hM a; rintro v w a - - hM hF) | (with_reducible refine q_then_n ?_) | ((with_reducible apply s_load hF hM); exact rfl; exact rfl; (repeat (first | exact List.mem_cons_self | refine List.mem_cons_of_mem _ ?_)); exact rfl; exact rfl; clear hF a; intro a hF)))
    (apply f_end Try.results68 hF hM; (repeat (first | exact RL.nil | (apply RL.tmp; exact rfl) | (apply RL.cell; exact rfl; (repeat (first | exact List.mem_cons_self | refine List.mem_cons_of_mem _ ?_)); exact rfl))); try dsimp only [resV])
    exact ⟨_, _, _, ⟨p1, q1, p3, q3, _, [], rfl, rfl, k1, k3⟩, hM.sub (.cons _ (.cons _ (.cons _ (.refl _)))) (.refl _) (by intro f hf; simp only [List.mem_cons, List.not_mem_nil, or_false] at hf; (repeat (rcases hf with rfl | hf; · (repeat (first | exact List.mem_cons_self | refine List.mem_cons_of_mem _ ?_)))); first | (subst hf; (repeat (first | exact List.mem_cons_self | refine List.mem_cons_of_mem _ ?_)); done) | (repeat (first | exact hf | refine List.mem_cons_of_mem _ ?_)))⟩
  · simp only [if_pos hk]
    subst hc
    (repeat' (first | (with_reducible refine c_region ?_) | (with_reducible refine s_nil ?_) | ((with_reducible apply s_call (f := 58) hF hM); exact rfl; exact rfl; exact rfl; exact rfl; exact rfl; exact (demand_t _ _ _ hM.lt (decide_eq_true (by omega))); clear hF hM a; rintro v w a - - hM hF) | ((with_reducible apply s_callE (f := 56) hF hM); exact rfl; exact rfl; exact rfl; exact rfl; exact (RetP.err (ceChk_c ⟨⟨l1, n2⟩, ⟨l3, n4⟩, n5, n6, n7, n8⟩ p1 p3 q1 q3 (show l1.length ≤ _ by omega) k1 (show l3.length ≤ _ by omega) k3 _ _ hM.lt (hM.facts (RdF (Value.int .i64) p1 l1) (by (repeat (first | with_reducible exact List.mem_cons_self | refine List.mem_cons_of_mem _ ?_)))) (hM.facts (RdF (Value.int .i64) p3 l3) (by (repeat (first | with_reducible exact List.mem_cons_self | refine List.mem_cons_of_mem _ ?_))))) hk); clear hF hM a; intro w a hM hF) | (with_reducible refine q_then_n ?_) | ((with_reducible apply s_load hF hM); exact rfl; exact rfl; (repeat (first | exact List.mem_cons_self | refine List.mem_cons_of_mem _ ?_)); exact rfl; exact rfl; clear hF a; intro a hF)))
    refine f_panic hF ?_
    exact ⟨rfl, _, _, _, ⟨_, _, rfl⟩, hM.sub (.cons _ (.cons _ (.cons _ (.refl _)))) (.refl _) (fun _ h => h)⟩
end Go.Proofs.Ytabfhoipclbeeaa


/- certificate: Decode; what is read and put. -/
namespace Go.Proofs.Ytabfhoipclbeeaa
open Go.RowKit Go.Shelf C55 K57
theorem rdList_ne : ∀ {k : Nat} {xs : List Int} {e : Int}, rdList k xs = .error e → e ≠ 0
  | 0, _, _, h => by cases h
  | k + 1, xs, e, h => by
    rw [rdList] at h
    split at h
    · rename_i he
      injection h with h
      rw [← h]; exact he
    · split at h
      · rename_i e' h2
        injection h with h
        rw [← h]; exact rdList_ne h2
      · cases h
theorem rdInts_ne {xs : List Int} {e : Int} (h : rdInts xs = .error e) : e ≠ 0 := by
  unfold rdInts at h
  split at h
  · rename_i he
    injection h with h
    rw [← h]; exact he
  · split at h
    · injection h with h
      rw [← h]; decide
    · exact rdList_ne h
theorem dec8_ne {xs : List Int} {e : Int} (h : dec8 xs = .error e) : e ≠ 0 := by
  unfold dec8 at h
  repeat' split at h
  all_goals first | (injection h with h; subst h; first | exact rdInts_ne (by assumption) | exact rdI_err (by assumption)) | cases h
theorem decC_ne {xs : List Int} {e : Int} (h : decC xs = .error e) : e ≠ 0 := by
  unfold decC at h
  split at h
  · injection h with h; rw [← h]; decide
  · split at h
    · rename_i h2
      injection h with h
      rw [← h]; exact dec8_ne h2
    · split at h
      · injection h with h; rw [← h]; decide
      · split at h
        · rename_i h2
          injection h with h
          rw [← h]; exact h2
        · cases h
/-- What Decode answers. -/
def DcR (own : Nat → Prop) (r : Except Int Ce) (v : Value) (w' : World) : Prop := match r with
  | .error e => v = .tuple #[.agg ⟨ceZ⟩, .int .i64 e]
  | .ok c => ∃ a1 c1 a2 c2, v = .tuple #[.agg ⟨ceL c a1 c1 a2 c2⟩, .int .i64 0] ∧ Has own w' (RdF (Value.int .i64) a1 c.A.V) ∧ Has own w' (RdF (Value.int .i64) a2 c.S.V) ∧ c.A.V.length ≤ c1 ∧ c.S.V.length ≤ c2
set_option maxHeartbeats 1000000 in
theorem ceDecode_c (xs : List Int) (hxb : ∀ x ∈ xs, 0 ≤ x ∧ x < 256) (hlen : xs.length ≤ 1000000) (a0 : Option Addr) (c0 : Nat) (hc0 : xs.length ≤ c0) (own : Nat → Prop) (W : World) (hl : ∀ b, own b → b < W.heap.size) (hv : Has own W (RdF (Value.int .u8) a0 xs)) :
    Calls Try.prog 30 ⟨[.slice a0 xs.length c0]⟩ W (Ret W (DcR own (decC xs))) := by
  have hM := (Mm.start hl).known hv
  refine f_start Try.func30 rfl Try.ntmps30 rfl rfl ?_; intro a hF
  (repeat (first | (with_reducible refine w_seq ?_) | (with_reducible refine c_region ?_) | (with_reducible refine s_nil ?_) | (with_reducible refine q_then_n ?_) | ((with_reducible apply s_pure hF); exact rfl; exact rfl; exact rfl; (first | exact trivial | omega | exact ⟨Int.natCast_nonneg _, Int.ofNat_lt.2 (by assumption)⟩ | decide); clear hF a; intro a hF) | ((with_reducible apply s_alloc hF hM); exact rfl; exact rfl; exact rfl; clear hF hM a; intro b w a hM hF) | ((with_reducible apply s_box hF hM); exact rfl; exact rfl; exact rfl; exact rfl; clear hF hM a; intro b w a hM hF)))
  rename_i bb _ br _
  generalize b = bc at *
  have hD := fun bg W' h => dec1_c xs hxb hlen a0 c0 hc0 (own := own) (w0 := W) (W := W') (L := []) (Fs := []) bg bc br bb h
  cases hd : decC xs with
  | error e =>
    rw [hd] at hD
    have he := decC_ne hd
    (repeat' (first | (with_reducible refine w_seq ?_) | (with_reducible refine c_region ?_) | (with_reducible refine s_nil ?_) | ((with_reducible apply s_callM (f := 46) hF); exact rfl; exact rfl; exact rfl; exact rfl; exact rfl; exact (guarded_err (fun bs' L' Fs' => ∃ cs1 cs2, bs' = [⟨bc, cs1, 29⟩, ⟨br, ⟨ceZ⟩, 29⟩, ⟨bb, cs2, 57⟩]) _ _ e rfl hM hD); clear hF hM a; rintro v w a ⟨rfl, bs', L', Fs', ⟨cs1, cs2, rfl⟩, hM⟩ hF) | (with_reducible refine q_then_n ?_) | ((with_reducible apply s_pure hF); exact rfl; exact rfl; exact rfl; (first | exact trivial | omega | exact ⟨Int.natCast_nonneg _, Int.ofNat_lt.2 (by assumption)⟩ | decide); clear hF a; intro a hF) | ((with_reducible apply s_store hF hM); exact rfl; exact rfl; exact rfl; exact rfl; (repeat (first | exact Upd.z | apply Upd.s)); exact rfl; exact rfl; exact rfl; clear hM; intro w hM) | (with_reducible refine w_ret ?_) | (with_reducible refine q_then_r ?_) | ((with_reducible apply c_dec hF); exact rfl; all_goals intro hc; all_goals (try (exfalso; omega)))))
    (apply f_ret Try.results30 hF hM; (repeat (first | exact RL.nil | (apply RL.tmp; exact rfl) | (apply RL.cell; exact rfl; (repeat (first | exact List.mem_cons_self | refine List.mem_cons_of_mem _ ?_)); exact rfl))); refine Ret.mk hM.since ?_; dsimp only [resV])
    exact rfl
  | ok c =>
    rw [hd] at hD
    (repeat' (first | (with_reducible refine w_seq ?_) | (with_reducible refine c_region ?_) | (with_reducible refine s_nil ?_) | ((with_reducible apply s_callM (f := 46) hF); exact rfl; exact rfl; exact rfl; exact rfl; exact rfl; exact (guarded_ok (fun bs' L' Fs' => ∃ a1 c1 a2 c2 cs2 Fs2, bs' = [⟨bc, ⟨ceL c a1 c1 a2 c2⟩, 29⟩, ⟨br, ⟨ceZ⟩, 29⟩, ⟨bb, cs2, 57⟩] ∧ Fs' = RdF (Value.int .i64) a1 c.A.V :: RdF (Value.int .i64) a2 c.S.V :: Fs2 ∧ c.A.V.length ≤ c1 ∧ c.S.V.length ≤ c2) _ _ rfl hM hD); clear hF hM a; rintro v w a ⟨rfl, bs', L', Fs', ⟨a1, c1, a2, c2, cs2, Fs2, rfl, rfl, k1, k2⟩, hM⟩ hF) | (with_reducible refine q_then_n ?_) | ((with_reducible apply s_pure hF); exact rfl; exact rfl; exact rfl; (first | exact trivial | omega | exact ⟨Int.natCast_nonneg _, Int.ofNat_lt.2 (by assumption)⟩ | decide); clear hF a; intro a hF) | ((with_reducible apply s_load hF hM); exact rfl; exact rfl; (repeat (first | exact List.mem_cons_self | refine List.mem_cons_of_mem _ ?_)); exact rfl; exact rfl; clear hF a; intro a hF) | ((with_reducible apply s_store hF hM); exact rfl; exact rfl; exact rfl; exact rfl; (repeat (first | exact Upd.z | apply Upd.s)); exact rfl; exact rfl; exact rfl; clear hM; intro w hM) | (with_reducible refine w_skip ?_) | (with_reducible refine w_ret ?_) | ((with_reducible apply c_false2 hF); exact rfl; (first | with_reducible rfl | (refine congrArg Value.bool ?_; focus (simp; done))))))
    (apply f_ret Try.results30 hF hM; (repeat (first | exact RL.nil | (apply RL.tmp; exact rfl) | (apply RL.cell; exact rfl; (repeat (first | exact List.mem_cons_self | refine List.mem_cons_of_mem _ ?_)); exact rfl))); refine Ret.mk hM.since ?_; dsimp only [resV])
    exact ⟨a1, c1, a2, c2, rfl, hM.factOut (f := RdF (Value.int .i64) a1 c.A.V) (by (repeat (first | with_reducible exact List.mem_cons_self | refine List.mem_cons_of_mem _ ?_))), hM.factOut (f := RdF (Value.int .i64) a2 c.S.V) (by (repeat (first | with_reducible exact List.mem_cons_self | refine List.mem_cons_of_mem _ ?_))), k1, k2⟩
end Go.Proofs.Ytabfhoipclbeeaa


/- curve: the reference's Delay and Backlog; Same, Few. -/
namespace Go.Proofs.Ytabfhoipclbeeaa
open Go.RowKit Go.Shelf C55
/-- Whether two curves are the same. -/
theorem same_c (A B : Cu) (v u : Value) (own : Nat → Prop) (W : World) (hl : ∀ b, own b → b < W.heap.size) (hv : Has own W (IsCu · v A)) (hu : Has own W (IsCu · u B)) (hAB : A = B) :
    Calls Try.prog 54 ⟨[v, u]⟩ W (Ret W fun r _ => r = .bool true) := by
  subst hAB
  obtain ⟨a0, c0, rfl, hV, l1, l2⟩ := isCu_open hv
  obtain ⟨a1, c1, rfl, hU, m1, m2⟩ := isCu_open hu
  have hM := (((Mm.start hl).known hV).known hU)
  refine f_start Try.func54 rfl Try.ntmps54 rfl rfl ?_; intro a hF
  (repeat (first | (with_reducible refine w_seq ?_) | (with_reducible refine c_region ?_) | (with_reducible refine s_nil ?_) | (with_reducible refine q_then_n ?_) | ((with_reducible apply s_pure hF); exact rfl; exact rfl; exact rfl; (first | exact trivial | omega | exact ⟨Int.natCast_nonneg _, Int.ofNat_lt.2 (by assumption)⟩ | decide); clear hF a; intro a hF) | ((with_reducible apply s_load hF hM); exact rfl; exact rfl; (repeat (first | exact List.mem_cons_self | refine List.mem_cons_of_mem _ ?_)); exact rfl; exact rfl; clear hF a; intro a hF) | ((with_reducible apply s_box hF hM); exact rfl; exact rfl; exact rfl; exact rfl; clear hF hM a; intro b w a hM hF)))
  rename_i b2 _
  (repeat' (first | (with_reducible refine w_seq ?_) | (with_reducible refine c_region ?_) | (with_reducible refine s_nil ?_) | (with_reducible refine q_then_n ?_) | ((with_reducible apply s_pure hF); exact rfl; exact rfl; exact rfl; (first | exact trivial | omega | exact ⟨Int.natCast_nonneg _, Int.ofNat_lt.2 (by assumption)⟩ | decide); clear hF a; intro a hF) | ((with_reducible apply s_load hF hM); exact rfl; exact rfl; (repeat (first | exact List.mem_cons_self | refine List.mem_cons_of_mem _ ?_)); exact rfl; exact rfl; clear hF a; intro a hF) | (with_reducible refine w_skip ?_) | (with_reducible refine w_block ?_) | ((with_reducible apply c_false2 hF); exact rfl; (first | with_reducible rfl | (refine congrArg Value.bool ?_; focus (simp; done)))) | ((fail_if_success ((with_reducible refine g_known true hF ?_ ?_); focus exact rfl)); (fail_if_success ((with_reducible refine g_known false hF ?_ ?_); focus exact rfl)); (with_reducible apply g_dec hF); exact rfl; exact rfl; all_goals (clear hF; intro hc hF); all_goals (try (exfalso; omega)))))
  refine c_loop (m := A.V.length) (fun m a w' => ∃ (k : Nat), m + k = A.V.length ∧
    Fr _ [] [(5, .int .i64 k), (2, .pointer (some ⟨b2, 0, none⟩)), (3, .pointer (some ⟨b, 0, none⟩))] a ∧
    Mm own W [⟨b, ⟨[.slice a1 A.V.length c1, .int .i64 A.S]⟩, 24⟩, ⟨b2, ⟨[.slice a0 A.V.length c0, .int .i64 A.S]⟩, 24⟩] []
      [RdF (Value.int .i64) a1 A.V, RdF (Value.int .i64) a0 A.V] w') ⟨0, by omega, hF.sub (by repeat (first | exact Sub.nil | refine Sub.cons rfl (by first | with_reducible rfl | (refine congrArg (Value.int _) ?_; omega) | exact rfl) ?_)), hM⟩ ?_
  clear hF hM a
  rintro m a w' ⟨k, hk, hF, hM⟩
  by_cases hlt : k < A.V.length
  · obtain ⟨z, hz⟩ := get_of_lt hlt
    obtain ⟨ad, rfl⟩ := rd_some hM (a := a0) (by (repeat (first | exact List.mem_cons_self | refine List.mem_cons_of_mem _ ?_))) hz
    obtain ⟨ae, rfl⟩ := rd_some hM (a := a1) (by (repeat (first | exact List.mem_cons_self | refine List.mem_cons_of_mem _ ?_))) hz
    (repeat' (first | (with_reducible refine w_seq ?_) | (with_reducible refine c_region ?_) | (with_reducible refine s_nil ?_) | (with_reducible refine q_then_n ?_) | ((with_reducible apply s_pure hF); exact rfl; exact rfl; exact rfl; (first | exact trivial | omega | exact ⟨Int.natCast_nonneg _, Int.ofNat_lt.2 (by assumption)⟩ | decide); clear hF a; intro a hF) | ((with_reducible apply s_load hF hM); exact rfl; exact rfl; (repeat (first | exact List.mem_cons_self | refine List.mem_cons_of_mem _ ?_)); exact rfl; exact rfl; clear hF a; intro a hF) | (with_reducible refine w_skip ?_) | (with_reducible refine w_block ?_) | ((with_reducible apply c_dec hF); exact rfl; all_goals intro hc; all_goals (try (exfalso; omega)))))
    refine c_draw (fun i => Nat.ble 11 i) hM ?_; clear hM; intro w hM
    (first | (refine t_pure (i := 0) hF rfl rfl rfl rfl (by kernel_rfl) hM.sm (fun _ _ _ h => h) ?_ ?_; (first | exact trivial | omega | decide); clear hF a; intro a hF))
    (first | (apply t_load (i := 1) hF rfl rfl rfl; (repeat (first | exact List.mem_cons_self | refine List.mem_cons_of_mem _ ?_)); exact rfl; exact rfl; kernel_rfl; exact hM.sm; exact (fun _ _ _ h => h); clear hF a; intro a hF))
    (first | (refine t_pure (i := 2) hF rfl rfl rfl rfl (by kernel_rfl) hM.sm (fun _ _ _ h => h) ?_ ?_; (first | exact trivial | omega | decide); clear hF a; intro a hF))
    (first | (refine t_pure (i := 3) hF rfl rfl rfl rfl (by kernel_rfl) hM.sm (fun _ _ _ h => h) ?_ ?_; (first | exact trivial | omega | decide); clear hF a; intro a hF))
    (first | (apply t_loadF (i := 4) hF rfl rfl rfl; (repeat (first | exact List.mem_cons_self | refine List.mem_cons_of_mem _ ?_)); (first | with_reducible assumption | (simp only [Int.toNat_natCast]; with_reducible assumption)); exact rfl; exact rfl; kernel_rfl; exact hM.sm; exact (fun _ _ _ h => h); clear hF a; intro a hF))
    (first | (refine t_pure (i := 5) hF rfl rfl rfl rfl (by kernel_rfl) hM.sm (fun _ _ _ h => h) ?_ ?_; (first | exact trivial | omega | decide); clear hF a; intro a hF))
    (first | (apply t_load (i := 6) hF rfl rfl rfl; (repeat (first | exact List.mem_cons_self | refine List.mem_cons_of_mem _ ?_)); exact rfl; exact rfl; kernel_rfl; exact hM.sm; exact (fun _ _ _ h => h); clear hF a; intro a hF))
    (first | (refine t_pure (i := 7) hF rfl rfl rfl rfl (by kernel_rfl) hM.sm (fun _ _ _ h => h) ?_ ?_; (first | exact trivial | omega | decide); clear hF a; intro a hF))
    (first | (refine t_pure (i := 8) hF rfl rfl rfl rfl (by kernel_rfl) hM.sm (fun _ _ _ h => h) ?_ ?_; (first | exact trivial | omega | decide); clear hF a; intro a hF))
    (first | (apply t_loadF (i := 9) hF rfl rfl rfl; (repeat (first | exact List.mem_cons_self | refine List.mem_cons_of_mem _ ?_)); (first | with_reducible assumption | (simp only [Int.toNat_natCast]; with_reducible assumption)); exact rfl; exact rfl; kernel_rfl; exact hM.sm; exact (fun _ _ _ h => h); clear hF a; intro a hF))
    (first | (refine t_pure (i := 10) hF rfl rfl rfl rfl (by kernel_rfl) hM.sm (fun _ _ _ h => h) ?_ ?_; (first | exact trivial | omega | decide); clear hF a; intro a hF))
    refine t_done (by kernel_rfl) ?_
    (repeat' (first | (with_reducible refine c_region ?_) | (with_reducible refine s_nil ?_) | (with_reducible refine q_then_n ?_) | ((with_reducible apply s_pure hF); exact rfl; exact rfl; exact rfl; (first | exact trivial | omega | exact ⟨Int.natCast_nonneg _, Int.ofNat_lt.2 (by assumption)⟩ | decide); clear hF a; intro a hF) | (with_reducible refine w_skip ?_) | (with_reducible refine q_blk_n ?_) | ((with_reducible apply c_false2 hF); exact rfl; (first | with_reducible rfl | (refine congrArg Value.bool ?_; focus (simp; done))))))
    exact ⟨m - 1, by omega, k + 1, by omega, hF.sub (by repeat (first | exact Sub.nil | refine Sub.cons rfl (by first | with_reducible rfl | (refine congrArg (Value.int _) ?_; omega) | exact rfl) ?_)), hM⟩
  · obtain rfl : k = A.V.length := by omega
    (repeat' (first | (with_reducible refine w_seq ?_) | (with_reducible refine c_region ?_) | (with_reducible refine s_nil ?_) | (with_reducible refine q_then_n ?_) | ((with_reducible apply s_pure hF); exact rfl; exact rfl; exact rfl; (first | exact trivial | omega | exact ⟨Int.natCast_nonneg _, Int.ofNat_lt.2 (by assumption)⟩ | decide); clear hF a; intro a hF) | ((with_reducible apply s_load hF hM); exact rfl; exact rfl; (repeat (first | exact List.mem_cons_self | refine List.mem_cons_of_mem _ ?_)); exact rfl; exact rfl; clear hF a; intro a hF) | (with_reducible refine w_exit ?_) | (with_reducible refine w_ret ?_) | (with_reducible refine q_then_x ?_) | (with_reducible refine q_blk_x ?_) | ((with_reducible apply c_false2 hF); exact rfl; (first | with_reducible rfl | (refine congrArg Value.bool ?_; focus (simp; done))))))
    (apply f_ret Try.results54 hF hM; (repeat (first | exact RL.nil | (apply RL.tmp; exact rfl) | (apply RL.cell; exact rfl; (repeat (first | exact List.mem_cons_self | refine List.mem_cons_of_mem _ ?_)); exact rfl))); refine Ret.mk hM.since ?_; dsimp only [resV])
end Go.Proofs.Ytabfhoipclbeeaa


/- The reference's Check, Same, SameTrace, Few, FewTrace. -/
namespace Go.Proofs.Ytabfhoipclbeeaa
open Go.RowKit Go.Shelf C55 K57
theorem mkOk {f : FuncId} {args : Array Value} {W : World} {own : Nat → Prop} {c : Ce} (hb : bndE c = 0) (h : Calls Try.prog f args W (Ret W (MkR own c))) : Calls Try.prog f args W (Ret W fun v w' => ∃ a1 c1 a2 c2, v = .tuple #[.agg ⟨ceL { c with B := bndV c } a1 c1 a2 c2⟩, .int .i64 0] ∧ Has own w' (RdF (Value.int .i64) a1 c.A.V) ∧ Has own w' (RdF (Value.int .i64) a2 c.S.V) ∧ c.A.V.length ≤ c1 ∧ c.S.V.length ≤ c2) := by
  refine h.mono ?_
  rintro e w' ⟨v, rfl, hs, h | h⟩
  · exact absurd hb h.1
  · exact ⟨v, rfl, hs, h.2⟩
theorem mkErr {f : FuncId} {args : Array Value} {W : World} {own : Nat → Prop} {c : Ce} (hb : bndE c ≠ 0) (h : Calls Try.prog f args W (Ret W (MkR own c))) : Calls Try.prog f args W (Ret W fun v _ => v = .tuple #[.agg ⟨ceZ⟩, .int .i64 (bndE c)]) := by
  refine h.mono ?_
  rintro e w' ⟨v, rfl, hs, h | h⟩
  · exact ⟨v, rfl, hs, h.2⟩
  · exact absurd h.1 hb
section
variable (c : Ce) (a1 a2 : Option Addr) (c1 c2 : Nat) (l1 : c.A.V.length ≤ 9223372036854775807) (m1 : c.A.V.length ≤ c1) (l2 : c.S.V.length ≤ 9223372036854775807) (m2 : c.S.V.length ≤ c2) (own : Nat → Prop) (W : World) (hl : ∀ b, own b → b < W.heap.size) (hA : Has own W (RdF (Value.int .i64) a1 c.A.V)) (hS : Has own W (RdF (Value.int .i64) a2 c.S.V))
include l1 m1 l2 m2 hl hA hS
theorem refFew57_c : Calls Try.prog 14 ⟨[.agg ⟨ceL c a1 c1 a2 c2⟩]⟩ W (Ret W fun v _ => v = .bool (decide (c.A.V.length ≤ 40 ∧ c.S.V.length ≤ 40))) := by
  have hM := ((Mm.start hl).known hA).known hS
  refine f_start Try.func14 rfl Try.ntmps14 rfl rfl ?_; intro a hF
  (repeat' (first | (with_reducible refine w_seq ?_) | (with_reducible refine c_region ?_) | (with_reducible refine s_nil ?_) | (with_reducible refine q_then_n ?_) | ((with_reducible apply s_pure hF); exact rfl; exact rfl; exact rfl; (first | exact trivial | omega | exact ⟨Int.natCast_nonneg _, Int.ofNat_lt.2 (by assumption)⟩ | decide); clear hF a; intro a hF) | ((with_reducible apply s_load hF hM); exact rfl; exact rfl; (repeat (first | exact List.mem_cons_self | refine List.mem_cons_of_mem _ ?_)); exact rfl; exact rfl; clear hF a; intro a hF) | ((with_reducible apply s_box hF hM); exact rfl; exact rfl; exact rfl; exact rfl; clear hF hM a; intro b w a hM hF) | (with_reducible refine w_ret ?_) | ((with_reducible apply s_skip hF); exact rfl; exact rfl; clear hF a; intro a hF) | ((fail_if_success ((with_reducible refine g_known true hF ?_ ?_); focus exact rfl)); (fail_if_success ((with_reducible refine g_known false hF ?_ ?_); focus exact rfl)); (with_reducible apply g_dec hF); exact rfl; exact rfl; all_goals (clear hF; intro hc hF); all_goals (try (exfalso; omega)))))
  all_goals (apply f_ret Try.results14 hF hM; (repeat (first | exact RL.nil | (apply RL.tmp; exact rfl) | (apply RL.cell; exact rfl; (repeat (first | exact List.mem_cons_self | refine List.mem_cons_of_mem _ ?_)); exact rfl))); refine Ret.mk hM.since ?_; dsimp only [resV])
  all_goals first | (rw [decide_eq_false (by omega)]; done) | (congr 1; rw [decide_eq_decide]; omega)
end
set_option maxHeartbeats 1000000 in
theorem refSame57_c (c : Ce) (a1 a2 a3 a4 : Option Addr) (c1 c2 c3 c4 : Nat) (l1 : c.A.V.length ≤ 9223372036854775807) (m1 : c.A.V.length ≤ c1) (l2 : c.S.V.length ≤ 9223372036854775807) (m2 : c.S.V.length ≤ c2) (m3 : c.A.V.length ≤ c3) (m4 : c.S.V.length ≤ c4) (own : Nat → Prop) (W : World) (hl : ∀ b, own b → b < W.heap.size) (hA : Has own W (RdF (Value.int .i64) a1 c.A.V)) (hS : Has own W (RdF (Value.int .i64) a2 c.S.V)) (hA' : Has own W (RdF (Value.int .i64) a3 c.A.V)) (hS' : Has own W (RdF (Value.int .i64) a4 c.S.V)) :
    Calls Try.prog 18 ⟨[.agg ⟨ceL c a1 c1 a2 c2⟩, .agg ⟨ceL c a3 c3 a4 c4⟩]⟩ W (Ret W fun v _ => v = .bool true) := by
  have hM := ((((Mm.start hl).known hA).known hS).known hA').known hS'
  refine f_start Try.func18 rfl Try.ntmps18 rfl rfl ?_; intro a hF
  (repeat (first | (with_reducible refine w_seq ?_) | (with_reducible refine c_region ?_) | (with_reducible refine s_nil ?_) | (with_reducible refine q_then_n ?_) | ((with_reducible apply s_pure hF); exact rfl; exact rfl; exact rfl; (first | exact trivial | omega | exact ⟨Int.natCast_nonneg _, Int.ofNat_lt.2 (by assumption)⟩ | decide); clear hF a; intro a hF) | ((with_reducible apply s_load hF hM); exact rfl; exact rfl; (repeat (first | exact List.mem_cons_self | refine List.mem_cons_of_mem _ ?_)); exact rfl; exact rfl; clear hF a; intro a hF) | ((with_reducible apply s_box hF hM); exact rfl; exact rfl; exact rfl; exact rfl; clear hF hM a; intro b w a hM hF)))
  (((with_reducible apply s_call (f := 54) hF hM); exact rfl; exact rfl; exact rfl; exact rfl; exact rfl; exact (same_c c.A c.A _ _ _ _ hM.lt (isCu_mk (hM.facts (RdF (Value.int .i64) a1 c.A.V) (by (repeat (first | with_reducible exact List.mem_cons_self | refine List.mem_cons_of_mem _ ?_)))) l1 m1) (isCu_mk (hM.facts (RdF (Value.int .i64) a3 c.A.V) (by (repeat (first | with_reducible exact List.mem_cons_self | refine List.mem_cons_of_mem _ ?_)))) l1 m3) rfl); clear hF hM a; rintro v w a rfl - hM hF))
  (repeat (first | ((with_reducible apply s_pure hF); exact rfl; exact rfl; exact rfl; (first | exact trivial | omega | exact ⟨Int.natCast_nonneg _, Int.ofNat_lt.2 (by assumption)⟩ | decide); clear hF a; intro a hF) | ((with_reducible apply s_load hF hM); exact rfl; exact rfl; (repeat (first | exact List.mem_cons_self | refine List.mem_cons_of_mem _ ?_)); exact rfl; exact rfl; clear hF a; intro a hF)))
  (((with_reducible apply s_call (f := 54) hF hM); exact rfl; exact rfl; exact rfl; exact rfl; exact rfl; exact (same_c c.S c.S _ _ _ _ hM.lt (isCu_mk (hM.facts (RdF (Value.int .i64) a2 c.S.V) (by (repeat (first | with_reducible exact List.mem_cons_self | refine List.mem_cons_of_mem _ ?_)))) l2 m2) (isCu_mk (hM.facts (RdF (Value.int .i64) a4 c.S.V) (by (repeat (first | with_reducible exact List.mem_cons_self | refine List.mem_cons_of_mem _ ?_)))) l2 m4) rfl); clear hF hM a; rintro v w a rfl - hM hF))
  (repeat' (first | (with_reducible refine s_nil ?_) | (with_reducible refine q_then_n ?_) | ((with_reducible apply s_pure hF); exact rfl; exact rfl; exact rfl; (first | exact trivial | omega | exact ⟨Int.natCast_nonneg _, Int.ofNat_lt.2 (by assumption)⟩ | decide); clear hF a; intro a hF) | ((with_reducible apply s_load hF hM); exact rfl; exact rfl; (repeat (first | exact List.mem_cons_self | refine List.mem_cons_of_mem _ ?_)); exact rfl; exact rfl; clear hF a; intro a hF) | (with_reducible refine w_ret ?_) | ((fail_if_success ((with_reducible refine g_known true hF ?_ ?_); focus exact rfl)); (fail_if_success ((with_reducible refine g_known false hF ?_ ?_); focus exact rfl)); (with_reducible apply g_dec hF); exact rfl; exact rfl; all_goals (clear hF; intro hc hF); all_goals (try (exfalso; omega)))))
  all_goals (apply f_ret Try.results18 hF hM; (repeat (first | exact RL.nil | (apply RL.tmp; exact rfl) | (apply RL.cell; exact rfl; (repeat (first | exact List.mem_cons_self | refine List.mem_cons_of_mem _ ?_)); exact rfl))); refine Ret.mk hM.since ?_; dsimp only [resV])
  all_goals simp
end Go.Proofs.Ytabfhoipclbeeaa


/- The reference's Encode. -/
namespace Go.Proofs.Ytabfhoipclbeeaa
open Go.RowKit Go.Shelf C55 K57
theorem enc_rg {c : Ce} (hc : chkE c = 0) : (∀ x ∈ c.A.V, 0 ≤ x ∧ x ≤ 9007199254740991) ∧ (∀ x ∈ c.S.V, 0 ≤ x ∧ x ≤ 9007199254740991) ∧ (0 ≤ c.B ∧ c.B ≤ 9007199254740991) ∧ (putsL c.A.V).length ≤ 40000 ∧ (putsL c.S.V).length ≤ 40000 := by
  obtain ⟨hb, hB⟩ := chk_bok hc
  have hP := hb.num
  have htr := hb.tr
  have hA1 := hb.A.l1
  have hS1 := hb.S.l1
  have htr0 : 0 ≤ tr c := (rch_bd hb.S (x := most c) (by have := most_rg hb.A ⟨hP.1, hP.2.1⟩; omega) (fun e => by
    have := fpos_le c.S.V (most c)
    rcases Nat.lt_or_ge (fpos c.S.V (most c)) c.S.V.length with h | h
    · exact h
    · have hnv := hb.nv
      unfold never at hnv
      rw [decide_eq_true (by omega), decide_eq_true e] at hnv
      cases hnv)).1
  have vA : ∀ x ∈ c.A.V, 0 ≤ x ∧ x ≤ 9007199254740991 := fun x hx => by have := hb.A.v x hx; omega
  have vS : ∀ x ∈ c.S.V, 0 ≤ x ∧ x ≤ 9007199254740991 := fun x hx => by have := hb.S.v x hx; omega
  refine ⟨vA, vS, by unfold bndV at hB; omega, ?_, ?_⟩
  · have h1 := puts_len8 (n := c.A.V.length) (by omega)
    have h2 := flat_len8 vA
    unfold putsL
    rw [List.length_append]
    omega
  · have h1 := puts_len8 (n := c.S.V.length) (by omega)
    have h2 := flat_len8 vS
    unfold putsL
    rw [List.length_append]
    omega
end Go.Proofs.Ytabfhoipclbeeaa


/- slices.Chunk at slices of int: the function that it returns calls yield with one part after another. -/
namespace Go.Proofs.Ytabfhoipclbeeaa
open Go.RowKit Go.Shelf
attribute [local go_sem] Oper.semAt_some
namespace Chunk
/-- Part k of a slice of len elements at b, off; p elements each. -/
def cpart (b off len p k : Nat) : Value := .slice (some ⟨b, off + k * p, none⟩) (min p (len - k * p)) (min p (len - k * p))
/-- What a round keeps: what lay below n₀, and the two boxes. -/
def Kept (n₀ Bs Bp : Nat) (W W' : World) : Prop := Below n₀ W W' ∧ W'.cell? ⟨Bs, 0, none⟩ = W.cell? ⟨Bs, 0, none⟩ ∧ W'.cell? ⟨Bp, 0, none⟩ = W.cell? ⟨Bp, 0, none⟩
theorem Kept.refl (n₀ Bs Bp : Nat) (W : World) : Kept n₀ Bs Bp W W := ⟨Below.refl _ _, rfl, rfl⟩
theorem Kept.trans {n₀ Bs Bp : Nat} {A B C : World} (h : Kept n₀ Bs Bp A B) (k : Kept n₀ Bs Bp B C) : Kept n₀ Bs Bp A C := ⟨h.1.trans k.1, k.2.1.trans h.2.1, k.2.2.trans h.2.2⟩
theorem Kept.drew {n₀ Bs Bp : Nat} {A B : World} (h : Kept n₀ Bs Bp A B) : Kept n₀ Bs Bp A B.drew := ⟨h.1.drew, h.2.1, h.2.2⟩
theorem cell_putObj {W : World} {l b : Nat} (o : Obj) (h : b ≠ l) : (W.putObj l o).cell? ⟨b, 0, none⟩ = W.cell? ⟨b, 0, none⟩ :=
  World.cell?_of_block (World.putObj_heap_other (fun e => h e))
end Chunk
open Chunk
set_option maxRecDepth 100000 in
set_option maxHeartbeats 2000000 in
theorem chunk1_in (F : Fence) (n : Nat) (h7 : F.fn 132) (hro : F.round = none) (hn : 1 ≤ n) (l Bs Bp n₀ b off len cap p N : Nat) (hlen : len ≤ 4096) (hp0 : 1 ≤ p) (hp : p ≤ 4096) (hN : N = (len + p - 1) / p) (hcap : len ≤ cap) (J Jx : List Nat → World → Prop)
    (hY : ∀ pre x W, J pre W → pre.length < N → YieldAt F (n - 1) Try.prog l #[cpart b off len p x] W fun e W' =>
      (e = .returned (.bool true) ∧ J (pre ++ [x]) W' ∧ Chunk.Kept n₀ Bs Bp W W') ∨ (e = .returned (.bool false) ∧ Jx (pre ++ [x]) W'))
    (hJd : ∀ pre W, J pre W → J pre W.drew)
    (W : World) (hBs : W.cell? ⟨Bs, 0, none⟩ = some (.slice (some ⟨b, off, none⟩) len cap)) (hBp : W.cell? ⟨Bp, 0, none⟩ = some (.int .i64 p)) (h0 : J [] W) :
    CallsIn F n Try.prog 132 #[.func (.yield l) #[] #[], .pointer (some ⟨Bs, 0, none⟩), .pointer (some ⟨Bp, 0, none⟩)] W fun e W' => (∃ v, e = .returned v) ∧
      ((∃ ys, ys = List.range N ∧ J ys W') ∨ (∃ pre, (∃ k, k ≤ N ∧ pre = List.range k) ∧ Jx pre W')) := by
  refine callsIn_of_wp Try.func132 rfl h7 ?_ hro
  simp only [Try.ntmps132, List.size_toArray, List.length_cons, List.length_nil, Nat.reduceAdd, Nat.reduceSub, Array.replicate_succ, Array.replicate_zero, List.push_toArray, List.append_toArray, List.nil_append, List.cons_append]
  gi_wp2
  gi_loopw [4] (fun i wr => ∃ k : Nat, k ≤ N ∧ i = .int .i64 ((k * p : Nat) : Int) ∧ J (List.range k) wr ∧ Chunk.Kept n₀ Bs Bp W wr)
    (fun i _ => len - (intOf i).toNat)
  case atStart => exact ⟨0, Nat.zero_le _, by simp, h0, Chunk.Kept.refl _ _ _ _⟩
  case round =>
    obtain ⟨k, hk, rfl, hJs, hnx⟩ := hrel
    have hc1 : wr.cell? ⟨Bs, 0, none⟩ = some (.slice (some ⟨b, off, none⟩) len cap) := hnx.2.1.trans hBs
    have hc2 : wr.cell? ⟨Bp, 0, none⟩ = some (.int .i64 p) := hnx.2.2.trans hBp
    by_cases hlt : k < N
    · have hql : k * p < len := by
        have h1 : k + 1 ≤ (len + p - 1) / p := by omega
        have h2 := (Nat.le_div_iff_mul_le (by omega)).1 h1
        rw [Nat.succ_mul] at h2
        omega
      have hsucc : (k + 1) * p = k * p + p := Nat.succ_mul _ _
      have hpart : cpart b off len p k = .slice (some ⟨b, off + k * p, none⟩) (min p (len - k * p)) (min p (len - k * p)) := rfl
      have hps : List.range (k + 1) = List.range k ++ [k] := List.range_succ
      have HJS := Lib.hid hJs
      have hYk := hY _ k wr.drew (hJd _ _ HJS.out) (by rw [List.length_range]; exact hlt)
      rw [hpart] at hYk
      clear hY hJs hpart
      generalize k * p = q at *
      obtain ⟨e, he⟩ : ∃ e, min p (len - q) = e := ⟨_, rfl⟩
      rw [he] at hYk
      have HPS := Lib.hid hps
      clear hps
      have hqz : (q : Int) < (len : Int) := by omega
      have hmin : (if (p : Int) < (len : Int) - (q : Int) then (p : Int) else (len : Int) - (q : Int)) = (e : Int) := by split <;> omega
      have hmin2 : (if (len : Int) - (q : Int) < (p : Int) then (len : Int) - (q : Int) else (p : Int)) = (e : Int) := by split <;> omega
      have hmin3 : (if len - q < p then ((len - q : Nat) : Int) else (p : Int)) = (e : Int) := by split <;> omega
      have heq : q + e ≤ len := by omega
      obtain ⟨fn, tmps, assign, body, hy, hR⟩ := hYk
      clear he hmin hmin2
      gi_wp2
      gi_region
      all_goals gi_wp2
      all_goals
        refine hR.mono ?_
        rintro e2 W3 (⟨rfl, hJ3, hk3⟩ | ⟨rfl, hJx3⟩)
        · have hc3 : W3.cell? ⟨Bp, 0, none⟩ = some (.int .i64 p) := hk3.2.2.trans hc2
          have HJ3 := Lib.hid hJ3
          have HK3 := Lib.hid (hnx.drew.trans hk3)
          clear hJ3 hk3
          gi_wp2
          go_roundw
          case rel => exact ⟨k + 1, by omega, by rw [hsucc]; go_num, by rw [HPS.out]; exact HJ3.out, HK3.out⟩
          case measure => simp [intOf]; omega
        · gi_wp2
          refine bodyPost_ret (results_none rfl _ _ _) rfl ?_
          exact ⟨⟨_, rfl⟩, .inr ⟨_, ⟨k + 1, by omega, HPS.out.symm⟩, hJx3⟩⟩
    · have hkN : k = N := by omega
      have hql : ¬ k * p < len := by
        rw [hkN, hN]
        have h2 : (len + p - 1) / p + 1 > (len + p - 1) / p := by omega
        have h3 := (Nat.div_lt_iff_lt_mul (show 0 < p by omega)).1 h2
        rw [Nat.succ_mul] at h3
        omega
      rw [hkN] at hJs
      have HJ := Lib.hid hJs
      clear hJs hN
      generalize k * p = q at *
      have hqz : ¬ (q : Int) < (len : Int) := by omega
      gi_wp2
      go_end0
      exact ⟨⟨_, rfl⟩, .inl HJ.out⟩
set_option maxHeartbeats 1000000 in
/-- No round at an empty slice. -/
theorem chunk1_nil_in (F : Fence) (n : Nat) (h7 : F.fn 132) (hro : F.round = none) (l Bs Bp cap : Nat) (a : Option Addr) (J : List Nat → World → Prop) (W : World) (hBs : W.cell? ⟨Bs, 0, none⟩ = some (.slice a 0 cap)) (h0 : J [] W) :
    CallsIn F n Try.prog 132 #[.func (.yield l) #[] #[], .pointer (some ⟨Bs, 0, none⟩), .pointer (some ⟨Bp, 0, none⟩)] W fun e W' => (∃ v, e = .returned v) ∧ J [] W' := by
  refine callsIn_of_wp Try.func132 rfl h7 ?_ hro
  simp only [Try.ntmps132, List.size_toArray, List.length_cons, List.length_nil, Nat.reduceAdd, Nat.reduceSub, Array.replicate_succ, Array.replicate_zero, List.push_toArray, List.append_toArray, List.nil_append, List.cons_append]
  gi_wp2
  gi_loopw [4] (fun i wr => i = .int .i64 0 ∧ J [] wr ∧ wr = W) (fun _ _ => 0)
  case atStart => exact ⟨rfl, h0, rfl⟩
  case round =>
    obtain ⟨rfl, hJs, rfl⟩ := hrel
    gi_wp2
    go_end0
    exact ⟨⟨_, rfl⟩, hJs⟩
set_option maxHeartbeats 1000000 in
/-- slices.Chunk: both arguments are boxed; the function value captures the boxes. -/
theorem chunk_in (F : Fence) (n : Nat) (h5 : F.fn 128) (hro : F.round = none) (a : Option Addr) (len cap p : Nat) (hp0 : 1 ≤ p) (w : World) :
    CallsIn F n Try.prog 128 #[.slice a len cap, .int .i64 p] w fun e w' => e = .returned (.func (.func 132) #[] #[.pointer (some ⟨w.heap.size, 0, none⟩), .pointer (some ⟨w.heap.size + 1, 0, none⟩)]) ∧ w' = (w.alloc (.cells #[.slice a len cap] 22)).alloc (.cells #[.int .i64 p] 3) := by
  have hpz : ¬ (p : Int) < 1 := by omega
  refine callsIn_of_wp Try.func128 rfl h5 ?_ hro
  simp only [Try.ntmps128, List.size_toArray, List.length_cons, List.length_nil, Nat.reduceAdd, Nat.reduceSub, Array.replicate_succ, Array.replicate_zero, List.push_toArray, List.append_toArray, List.nil_append, List.cons_append]
  gi_wp2
  go_ret
  exact ⟨rfl, rfl⟩
/-- What slices.Chunk returns calls yield with all parts, or with the first ones. -/
theorem chunk_stops (F : Fence) (n : Nat) (h7 : F.fn 132) (hro : F.round = none) (hn : 1 ≤ n) (Bs Bp n₀ b off len cap p N : Nat) (hlen : len ≤ 4096) (hp0 : 1 ≤ p) (hp : p ≤ 4096) (hN : N = (len + p - 1) / p) (hcap : len ≤ cap)
    (w : World) (hbs : Bs < w.heap.size) (hbp : Bp < w.heap.size) (hBs : w.cell? ⟨Bs, 0, none⟩ = some (.slice (some ⟨b, off, none⟩) len cap)) (hBp : w.cell? ⟨Bp, 0, none⟩ = some (.int .i64 p)) :
    SeqStopsK F n Try.prog 132 #[.pointer (some ⟨Bs, 0, none⟩), .pointer (some ⟨Bp, 0, none⟩)] (fun k : Nat => #[cpart b off len p k]) (Chunk.Kept n₀ Bs Bp) (fun ys => ys = List.range N) (fun pre => ∃ k, k ≤ N ∧ pre = List.range k) N w := fun l J Jx W hW hJ _ hY h0 =>
  chunk1_in F n h7 hro hn l Bs Bp n₀ b off len cap p N hlen hp0 hp hN hcap J Jx hY
    (fun pre W hj => hJ pre W W.drew none hj ⟨rfl, rfl, rfl, Nat.le_refl _, fun _ _ _ => rfl⟩ (fun r e => by cases e)) W
    ((hW.cell (p := ⟨Bs, 0, none⟩) hbs).trans hBs) ((hW.cell (p := ⟨Bp, 0, none⟩) hbp).trans hBp) h0
/-- Part k, wherever the slice lies. -/
def apart (a : Option Addr) (len p k : Nat) : Value := match a with | some d => Chunk.cpart d.block d.off len p k | none => .slice none 0 0
/-- The contract of slices.Chunk's function at a slice that can be read. -/
theorem chunk_reads (F : Fence) (n : Nat) (h7 : F.fn 132) (hro : F.round = none) (hn : 1 ≤ n) (Bs Bp n₀ cap p : Nat) (a : Option Addr) (l : List Int) (hlen : l.length ≤ 4096) (hp0 : 1 ≤ p) (hp : p ≤ 4096) (hcap : l.length ≤ cap)
    (w0 w : World) (hbs : Bs < w.heap.size) (hbp : Bp < w.heap.size) (hr : Reads (Value.int .i64) w0 a l) (hBs : w.cell? ⟨Bs, 0, none⟩ = some (.slice a l.length cap)) (hBp : w.cell? ⟨Bp, 0, none⟩ = some (.int .i64 p)) :
    SeqStopsK F n Try.prog 132 #[.pointer (some ⟨Bs, 0, none⟩), .pointer (some ⟨Bp, 0, none⟩)] (fun k : Nat => #[apart a l.length p k]) (Chunk.Kept n₀ Bs Bp) (fun ys => ys = List.range ((l.length + p - 1) / p)) (fun pre => ∃ k, k ≤ ((l.length + p - 1) / p) ∧ pre = List.range k) ((l.length + p - 1) / p) w := by
  by_cases h0 : l.length = 0
  · intro lp J Jx W hW hJ _ hY hj
    rw [h0] at hBs
    refine (chunk1_nil_in F n h7 hro lp Bs Bp cap a J W ((hW.cell (p := ⟨Bs, 0, none⟩) hbs).trans hBs) hj).mono ?_
    rintro e W' ⟨he, hJ'⟩
    refine ⟨he, .inl ⟨_, rfl, ?_⟩⟩
    rw [h0, show (0 + p - 1) / p = 0 from Nat.div_eq_of_lt (by omega)]
    exact hJ'
  · obtain ⟨x, hx⟩ := get_of_lt (l := l) (i := 0) (by omega)
    obtain ⟨b, off, rfl, hb, hc⟩ := hr 0 x hx
    exact chunk_stops F n h7 hro hn Bs Bp n₀ b off l.length cap p _ hlen hp0 hp rfl hcap w hbs hbp hBs hBp
end Go.Proofs.Ytabfhoipclbeeaa


/- Same, Few, fewPlan, and the reference's Size and finish: what each call returns. -/
namespace Go.Proofs.Ytabfhoipclbeeaa
open Go.RowKit Go.Shelf

/-- The value v is the plan p, in memory. -/
def IsPl (w : World) (v : Value) (p : P56.Pl) : Prop :=
  ∃ a1 a2 a3 a4 c1 c2 c3 c4, v = .agg #[.slice a1 p.close.length c1, .slice a2 p.start.length c2, .slice a3 p.fin.length c3, .slice a4 p.applied.length c4, .int .i64 p.bound] ∧
    Reads (Value.int .i64) w a1 p.close ∧ Reads (Value.int .i64) w a2 p.start ∧ Reads (Value.int .i64) w a3 p.fin ∧ Reads (Value.int .i64) w a4 p.applied ∧
    p.close.length ≤ 9223372036854775807 ∧ p.start.length ≤ 9223372036854775807 ∧ p.fin.length ≤ 9223372036854775807 ∧ p.applied.length ≤ 9223372036854775807
theorem IsPl.since {w w' : World} {v : Value} {p : P56.Pl} (h : IsPl w v p) (hs : Since w w') : IsPl w' v p := by
  obtain ⟨a1, a2, a3, a4, c1, c2, c3, c4, h1, h2, h3, h4, h5, h6⟩ := h
  exact ⟨a1, a2, a3, a4, c1, c2, c3, c4, h1, h2.since hs, h3.since hs, h4.since hs, h5.since hs, h6⟩
end Go.Proofs.Ytabfhoipclbeeaa


/- The planner: bound. -/
namespace Go.Proofs.Ytabfhoipclbeeaa
open Go.RowKit Go.Shelf
def bdL (A C : List Int) : Nat → Int
  | 0 => 0
  | k + 1 => max (if k = 0 ∨ A.getD (k - 1) 0 < A.getD k 0 then max (bdL A C k) (A.getD k 0 - 1 - (if k = 0 then 0 else C.getD (k - 1) 0)) else bdL A C k) (A.getD k 0 - C.getD k 0)
theorem getD_bd {A : List Int} {m : Int} (hm : 0 ≤ m) (hA : ∀ x ∈ A, 0 ≤ x ∧ x ≤ m) (k : Nat) : 0 ≤ A.getD k 0 ∧ A.getD k 0 ≤ m := by
  rw [List.getD_eq_getElem?_getD]
  cases h : A[k]? with
  | none => simp [hm]
  | some x => exact hA x (List.mem_of_getElem? h)
theorem getD_get {A : List Int} {k : Nat} {x : Int} (h : A[k]? = some x) : A.getD k 0 = x := by rw [List.getD_eq_getElem?_getD, h]; rfl
theorem bdL_bd {A C : List Int} (hA : ∀ x ∈ A, 0 ≤ x ∧ x ≤ 100000000000000) (hC : ∀ x ∈ C, 0 ≤ x ∧ x ≤ 100000000000000) (k : Nat) : 0 ≤ bdL A C k ∧ bdL A C k ≤ 100000000000000 := by
  have gA := getD_bd (by decide) hA
  have gC := getD_bd (by decide) hC
  induction k with
  | zero => simp [bdL]
  | succ k ih =>
    have h1 := gA k; have h2 := gC k; have h3 := gC (k - 1)
    unfold bdL
    have e1 : 0 ≤ (if k = 0 then 0 else C.getD (k - 1) 0) := by split <;> omega
    generalize (if k = 0 then 0 else C.getD (k - 1) 0) = q at *
    have e2 : 0 ≤ (if k = 0 ∨ A.getD (k - 1) 0 < A.getD k 0 then max (bdL A C k) (A.getD k 0 - 1 - q) else bdL A C k) ∧ (if k = 0 ∨ A.getD (k - 1) 0 < A.getD k 0 then max (bdL A C k) (A.getD k 0 - 1 - q) else bdL A C k) ≤ 100000000000000 := by split <;> omega
    omega
def clL (C : List Int) (k : Nat) : Int := if k = 0 then 0 else C.getD (k - 1) 0
theorem clL_succ {C : List Int} {k : Nat} {y : Int} (hy : C[k]? = some y) : y = clL C (k + 1) := by simp [clL, hy]
theorem clL_bd {C : List Int} {m : Int} (hm : 0 ≤ m) (hC : ∀ x ∈ C, 0 ≤ x ∧ x ≤ m) (k : Nat) : 0 ≤ clL C k ∧ clL C k ≤ m := by unfold clL; split; omega; exact getD_bd hm hC _
theorem bdL_yes {A C : List Int} {k : Nat} {x y : Int} (hx : A[k]? = some x) (hy : C[k]? = some y) (h : k = 0 ∨ A.getD (k - 1) 0 < x) : max (max (bdL A C k) (x - 1 - clL C k)) (x - y) = bdL A C (k + 1) := by
  rw [bdL, getD_get hx, getD_get hy, if_pos h]; rfl
theorem bdL_no {A C : List Int} {k : Nat} {x y : Int} (hx : A[k]? = some x) (hy : C[k]? = some y) (h : ¬ (k = 0 ∨ A.getD (k - 1) 0 < x)) : max (bdL A C k) (x - y) = bdL A C (k + 1) := by
  rw [bdL, getD_get hx, getD_get hy, if_neg h]
theorem isPl_open {own : Nat → Prop} {w : World} {v : Value} {p : P56.Pl} (h : Has own w (IsPl · v p)) : ∃ a1 a2 a3 a4 c1 c2 c3 c4, v = .agg #[.slice a1 p.close.length c1, .slice a2 p.start.length c2, .slice a3 p.fin.length c3, .slice a4 p.applied.length c4, .int .i64 p.bound] ∧
    Has own w (RdF (Value.int .i64) a1 p.close) ∧ Has own w (RdF (Value.int .i64) a2 p.start) ∧ Has own w (RdF (Value.int .i64) a3 p.fin) ∧ Has own w (RdF (Value.int .i64) a4 p.applied) ∧
    p.close.length ≤ 9223372036854775807 ∧ p.start.length ≤ 9223372036854775807 ∧ p.fin.length ≤ 9223372036854775807 ∧ p.applied.length ≤ 9223372036854775807 := by
  obtain ⟨a1, a2, a3, a4, c1, c2, c3, c4, hv, -, -, -, -, h5⟩ := h.get
  have key : ∀ w', IsPl w' v p → Reads (Value.int .i64) w' a1 p.close ∧ Reads (Value.int .i64) w' a2 p.start ∧ Reads (Value.int .i64) w' a3 p.fin ∧ Reads (Value.int .i64) w' a4 p.applied := by
    rintro w' ⟨b1, b2, b3, b4, d1, d2, d3, d4, e, q1, q2, q3, q4, -⟩
    rw [hv] at e
    simp only [Value.agg.injEq, Array.mk.injEq, List.cons.injEq, Value.slice.injEq, true_and, and_true] at e
    obtain ⟨⟨rfl, -⟩, ⟨rfl, -⟩, ⟨rfl, -⟩, rfl, -⟩ := e
    exact ⟨q1, q2, q3, q4⟩
  exact ⟨a1, a2, a3, a4, c1, c2, c3, c4, hv, h.imp fun w' k => (key w' k).1, h.imp fun w' k => (key w' k).2.1, h.imp fun w' k => (key w' k).2.2.1, h.imp fun w' k => (key w' k).2.2.2, h5⟩
set_option maxHeartbeats 1000000 in
theorem bound_any (p : P56.Pl) (v : Value) (own : Nat → Prop) (w : World) (hl : ∀ b, own b → b < w.heap.size) (hv : Has own w (IsPl · v p)) (hlen : p.close.length = p.applied.length) (hlen2 : p.applied.length ≤ 4096)
    (hA : ∀ x ∈ p.applied, 0 ≤ x ∧ x ≤ 100000000000000) (hC : ∀ x ∈ p.close, 0 ≤ x ∧ x ≤ 100000000000000) :
    Calls Try.prog 112 ⟨[v]⟩ w (Ret w fun u _ => u = .int .i64 (bdL p.applied p.close p.applied.length)) := by
  obtain ⟨a1, a2, a3, a4, c1, c2, c3, c4, rfl, r1, -, -, r4, l1, l2, l3, l4⟩ := isPl_open hv
  have hM := ((Mm.start hl).known r1).known r4
  refine f_start Try.func112 rfl Try.ntmps112 rfl rfl ?_; intro a hF
  (repeat (first | (with_reducible refine w_seq ?_) | (with_reducible refine c_region ?_) | (with_reducible refine s_nil ?_) | (with_reducible refine q_then_n ?_) | ((with_reducible apply s_pure hF); exact rfl; exact rfl; exact rfl; (first | exact trivial | omega | exact ⟨Int.natCast_nonneg _, Int.ofNat_lt.2 (by assumption)⟩ | decide); clear hF a; intro a hF) | ((with_reducible apply s_load hF hM); exact rfl; exact rfl; (repeat (first | exact List.mem_cons_self | refine List.mem_cons_of_mem _ ?_)); exact rfl; exact rfl; clear hF a; intro a hF) | ((with_reducible apply s_box hF hM); exact rfl; exact rfl; exact rfl; exact rfl; clear hF hM a; intro b w a hM hF) | (with_reducible refine w_block ?_)))
  refine c_loop (m := p.applied.length) (fun m a w' => ∃ k : Nat, m + k = p.applied.length ∧ Fr _ [] [(3, .int .i64 (bdL p.applied p.close k)), (4, .int .i64 (clL p.close k)), (10, .int .i64 k), (9, .int .i64 (p.applied.length : Int)), (8, .slice a4 p.applied.length c4), (1, .pointer (some ⟨b, 0, none⟩))] a ∧ Mm _ _ _ _ _ w') ⟨0, by omega, hF.sub (by repeat (first | exact Sub.nil | refine Sub.cons rfl (by first | with_reducible rfl | (refine congrArg (Value.int _) ?_; omega) | exact rfl) ?_)), hM⟩ ?_
  clear hF hM a
  rintro m a w' ⟨k, hk, hF, hM⟩
  have hb := bdL_bd hA hC k
  by_cases hlt : k < p.applied.length
  · obtain ⟨x, hx⟩ := get_of_lt hlt
    obtain ⟨y, hy⟩ := get_of_lt (l := p.close) (show k < p.close.length by omega)
    obtain ⟨ad, rfl⟩ := rd_some hM (by (repeat (first | exact List.mem_cons_self | refine List.mem_cons_of_mem _ ?_))) hx
    obtain ⟨ad1, rfl⟩ := rd_some hM (by (repeat (first | exact List.mem_cons_self | refine List.mem_cons_of_mem _ ?_))) hy
    have hxb := hA x (List.mem_of_getElem? hx)
    have hyb := hC y (List.mem_of_getElem? hy)
    have hcb := clL_bd (by decide) hC k
    obtain ⟨z, hz⟩ := get_of_lt (l := p.applied) (show k - 1 < p.applied.length by omega)
    have hz' : ¬ (k : Int) = 0 → p.applied[((k : Int) - 1).toNat]? = some z := fun _ => by rw [show ((k : Int) - 1).toNat = k - 1 by omega]; exact hz
    have hzz := getD_get hz
    by_cases hk0 : (k : Int) = 0
    · (repeat' (first | (with_reducible refine w_seq ?_) | (with_reducible refine c_region ?_) | (with_reducible refine s_nil ?_) | (with_reducible refine q_then_n ?_) | ((with_reducible apply s_pure hF); exact rfl; exact rfl; exact rfl; (first | exact trivial | omega | exact ⟨Int.natCast_nonneg _, Int.ofNat_lt.2 (by assumption)⟩ | decide); clear hF a; intro a hF) | ((with_reducible apply s_load hF hM); exact rfl; exact rfl; (repeat (first | exact List.mem_cons_self | refine List.mem_cons_of_mem _ ?_)); exact rfl; exact rfl; clear hF a; intro a hF) | ((with_reducible apply s_loadF hF hM); exact rfl; exact rfl; (repeat (first | exact List.mem_cons_self | refine List.mem_cons_of_mem _ ?_)); exact rfl; exact rfl; (first | with_reducible assumption | (simp only [Int.toNat_natCast]; with_reducible assumption)); clear hF a; intro a hF) | (with_reducible refine w_skip ?_) | (with_reducible refine w_block ?_) | (with_reducible refine q_blk_n ?_) | ((with_reducible apply c_true2 hF); exact rfl; (first | with_reducible rfl | (refine congrArg Value.bool ?_; focus (simp; done)))) | ((with_reducible apply s_skip hF); exact rfl; exact rfl; clear hF a; intro a hF) | ((fail_if_success ((with_reducible refine g_known true hF ?_ ?_); focus exact rfl)); (fail_if_success ((with_reducible refine g_known false hF ?_ ?_); focus exact rfl)); (with_reducible apply g_dec hF); exact rfl; exact rfl; all_goals (clear hF; intro hc hF); all_goals (try (exfalso; omega))) | ((with_reducible apply c_dec hF); exact rfl; all_goals intro hc; all_goals (try (exfalso; omega)))))
      exact ⟨m - 1, by omega, k + 1, by omega, hF.sub (by repeat (first | exact Sub.nil | refine Sub.cons rfl (by first | with_reducible rfl | (refine congrArg (Value.int _) ?_; omega) | (rw [bdL_yes hx hy (.inl (by omega))]) | (exact congrArg _ (clL_succ hy)) | exact rfl) ?_)), hM⟩
    · replace hz' := hz' hk0
      (repeat' (first | (with_reducible refine w_seq ?_) | (with_reducible refine c_region ?_) | (with_reducible refine s_nil ?_) | (with_reducible refine q_then_n ?_) | ((with_reducible apply s_pure hF); exact rfl; exact rfl; exact rfl; (first | exact trivial | omega | exact ⟨Int.natCast_nonneg _, Int.ofNat_lt.2 (by assumption)⟩ | decide); clear hF a; intro a hF) | ((with_reducible apply s_load hF hM); exact rfl; exact rfl; (repeat (first | exact List.mem_cons_self | refine List.mem_cons_of_mem _ ?_)); exact rfl; exact rfl; clear hF a; intro a hF) | ((with_reducible apply s_loadF hF hM); exact rfl; exact rfl; (repeat (first | exact List.mem_cons_self | refine List.mem_cons_of_mem _ ?_)); exact rfl; exact rfl; (first | with_reducible assumption | (simp only [Int.toNat_natCast]; with_reducible assumption)); clear hF a; intro a hF) | (with_reducible refine w_skip ?_) | (with_reducible refine w_block ?_) | (with_reducible refine q_blk_n ?_) | ((fail_if_success ((with_reducible refine g_known true hF ?_ ?_); focus exact rfl)); (fail_if_success ((with_reducible refine g_known false hF ?_ ?_); focus exact rfl)); (with_reducible apply g_dec hF); exact rfl; exact rfl; all_goals (clear hF; intro hc hF); all_goals (try (exfalso; omega))) | ((with_reducible apply c_dec hF); exact rfl; all_goals intro hc; all_goals (try (exfalso; omega)))))
      · exact ⟨m - 1, by omega, k + 1, by omega, hF.sub (by repeat (first | exact Sub.nil | refine Sub.cons rfl (by first | with_reducible rfl | (refine congrArg (Value.int _) ?_; omega) | (rw [bdL_yes hx hy (.inr (by omega))]) | (exact congrArg _ (clL_succ hy)) | exact rfl) ?_)), hM⟩
      · exact ⟨m - 1, by omega, k + 1, by omega, hF.sub (by repeat (first | exact Sub.nil | refine Sub.cons rfl (by first | with_reducible rfl | (refine congrArg (Value.int _) ?_; omega) | (rw [bdL_no hx hy (by omega)]) | (exact congrArg _ (clL_succ hy)) | exact rfl) ?_)), hM⟩
  · (repeat' (first | (with_reducible refine w_seq ?_) | (with_reducible refine c_region ?_) | (with_reducible refine s_nil ?_) | (with_reducible refine q_then_n ?_) | ((with_reducible apply s_pure hF); exact rfl; exact rfl; exact rfl; (first | exact trivial | omega | exact ⟨Int.natCast_nonneg _, Int.ofNat_lt.2 (by assumption)⟩ | decide); clear hF a; intro a hF) | (with_reducible refine w_exit ?_) | (with_reducible refine w_ret ?_) | (with_reducible refine q_then_x ?_) | (with_reducible refine q_blk_x ?_) | ((with_reducible apply c_dec hF); exact rfl; all_goals intro hc; all_goals (try (exfalso; omega)))))
    (apply f_ret Try.results112 hF hM; (repeat (first | exact RL.nil | (apply RL.tmp; exact rfl) | (apply RL.cell; exact rfl; (repeat (first | exact List.mem_cons_self | refine List.mem_cons_of_mem _ ?_)); exact rfl))); refine Ret.mk hM.since ?_; dsimp only [resV])
    rw [show k = p.applied.length by omega]
end Go.Proofs.Ytabfhoipclbeeaa


/- The reference's finish: the end of a transfer. -/
namespace Go.Proofs.Ytabfhoipclbeeaa
open Go.RowKit Go.Shelf
theorem ret_ib {a b : Int} {x y : Bool} (h : a = b) (k : x = y) : Ending.returned (.tuple #[.int .i64 a, .bool x]) = Ending.returned (.tuple #[.int .i64 b, .bool y]) := by rw [h, k]
end Go.Proofs.Ytabfhoipclbeeaa


/- The reference's Plan. -/
namespace Go.Proofs.Ytabfhoipclbeeaa
open Go.RowKit Go.Shelf
attribute [local go_sem ↓] Go.wp_at_zero Go.wp_at_succ
/-- The empty plan, in cells. -/
theorem isPl_none (w : World) : IsPl w (.agg #[.slice none 0 0, .slice none 0 0, .slice none 0 0, .slice none 0 0, .int .i64 0]) P56.none :=
  ⟨none, none, none, none, 0, 0, 0, 0, rfl, Reads.nil _ _ _, Reads.nil _ _ _, Reads.nil _ _ _, Reads.nil _ _ _, by decide, by decide, by decide, by decide⟩
theorem isPl_lists {t : P56.Tr} {n : Nat} {b : Int} {w : World} {a1 a2 a3 a4 : Option Addr} {c1 c2 c3 c4 : Nat} (q1 : Reads (Value.int .i64) w a1 (P56.cls t n)) (q2 : Reads (Value.int .i64) w a2 (P56.sts t n))
    (q3 : Reads (Value.int .i64) w a3 (P56.ens t n)) (q4 : Reads (Value.int .i64) w a4 (P56.aps t n)) (hn : n ≤ 4096) : IsPl w (.agg #[.slice a1 n c1, .slice a2 n c2, .slice a3 n c3, .slice a4 n c4, .int .i64 b]) (P56.lists t n b) := by
  have e1 := P56.cls_length t n
  have e2 := P56.sts_length t n
  have e3 := P56.ens_length t n
  have e4 := P56.aps_length t n
  refine ⟨a1, a2, a3, a4, c1, c2, c3, c4, ?_, q1, q2, q3, q4, ?_, ?_, ?_, ?_⟩
  · rw [P56.lists_eq]; simp only [e1, e2, e3, e4]
  all_goals (rw [P56.lists_eq]; simp only [e1, e2, e3, e4]; omega)
end Go.Proofs.Ytabfhoipclbeeaa


/- The planner's carrier: newCarrier and before. -/
namespace Go.Proofs.Ytabfhoipclbeeaa
open Go.RowKit Go.Shelf
attribute [local go_sem ↓] Go.wp_at_zero Go.wp_at_succ
namespace Car
/-- The sums of the first capacities. -/
def sums (C : List Int) (k : Nat) : List Int := (List.range (k + 1)).map fun j => (C.take j).sum
theorem sums_succ (C : List Int) (k : Nat) : sums C (k + 1) = sums C k ++ [(C.take (k + 1)).sum] := by simp [sums, List.range_succ]
theorem sums_get (C : List Int) {k j : Nat} (h : j ≤ k) : (sums C k)[j]? = some (C.take j).sum := by
  rw [sums, List.getElem?_map, List.getElem?_range (by omega)]; rfl
theorem last_step {C : List Int} {k : Nat} {x : Int} (h : C[k]? = some x) : (C.take (k + 1)).getLastD 0 = x := by
  rw [List.take_add_one, h]; simp
end Car
/-- The value points to a carrier of the link C. -/
def IsCar (w : World) (v : Value) (C : List Int) : Prop :=
  ∃ b a c, v = .pointer (some ⟨b, 0, none⟩) ∧ Box w b #[.slice a (C.length + 1) c, .int .i64 (P56.last C)] 158 ∧ Reads (Value.int .i64) w a (Car.sums C C.length)
theorem IsCar.since {w w' : World} {v : Value} {C : List Int} (h : IsCar w v C) (hs : Since w w') : IsCar w' v C := by
  obtain ⟨b, a, c, h1, h2, h3⟩ := h
  exact ⟨b, a, c, h1, h2.since hs, h3.since hs⟩
theorem Car.carr_small {C : List Int} {t : Nat} (h : t ≤ C.length) : (C.take t).sum = P56.carr C t := by
  unfold P56.carr; rw [show t - C.length = 0 from by omega]; simp
theorem Car.carr_big {C : List Int} {t : Nat} (h : C.length ≤ t) : (C.take C.length).sum + ((t : Int) - (C.length : Int)) * P56.last C = P56.carr C t := by
  unfold P56.carr; rw [List.take_of_length_le (Nat.le_refl _), List.take_of_length_le h, Int.ofNat_sub h]
set_option maxHeartbeats 1000000 in
theorem before_any (C : List Int) (v : Value) (t : Nat) (w : World) (hv : IsCar w v C) (hl : C.length ≤ 4096) (hC : ∀ x ∈ C, 0 ≤ x ∧ x ≤ 4096) (ht : t ≤ 1000000000000) :
    Calls Try.prog 113 #[v, .int .i64 t] w fun e w' => e = .returned (.int .i64 (P56.carr C t)) ∧ Since w w' := by
  obtain ⟨b, a, c, rfl, hb, hr⟩ := hv
  have HCB := Lib.hid (P56.carr_bd hC t)
  have hlast := P56.last_nonneg hC
  have rb := hb.rules
  by_cases hle : t ≤ C.length
  · obtain ⟨b1, o1, rfl, hb1, hc1⟩ := hr t _ (Car.sums_get C hle)
    rw [← Car.carr_small hle]
    have hlez : (t : Int) ≤ (C.length : Int) := by omega
    clear hr hb hC
    go_enter Try.func113, Try.ntmps113
    go_wp2
    go_ret
    exact ⟨rfl, Since.refl _⟩
  · obtain ⟨b1, o1, rfl, hb1, hc1⟩ := hr C.length _ (Car.sums_get C (Nat.le_refl _))
    have hbig := Car.carr_big (C := C) (t := t) (by omega)
    have hsb := P56.sum_take_bd hC C.length hl
    have hlez : ¬ (t : Int) ≤ (C.length : Int) := by omega
    have hprod : 0 ≤ ((t : Int) - (C.length : Int)) * P56.last C ∧ ((t : Int) - (C.length : Int)) * P56.last C ≤ 4096000000000000 := by
      constructor
      · exact Int.mul_nonneg (by omega) hlast.1
      · have h1 := Int.mul_le_mul_of_nonneg_left hlast.2 (show 0 ≤ (t : Int) - (C.length : Int) by omega)
        omega
    generalize (C.take C.length).sum = S at hc1 hbig hsb
    have HBIG := Lib.hid hbig
    clear hr hb hC hbig
    go_enter Try.func113, Try.ntmps113
    go_wp2_with (first | go_quiet (fail))
    go_ret
    exact ⟨ret_int HBIG.out, by (repeat (first | with_reducible exact Since.refl _ | with_reducible assumption | with_reducible refine Since.alloc ?_ _ | with_reducible refine Since.drew ?_ | with_reducible refine Since.drewN ?_ _ | (with_reducible refine Since.setCell ?_ ?_ _; rotate_left; (first | (dsimp only; omega) | (simp; done) | (simp; omega))) | with_reducible refine Since.trans ?_ (by with_reducible assumption)))⟩
end Go.Proofs.Ytabfhoipclbeeaa


/- sort.Search with a function that only makes new memory. -/
namespace Go.Proofs.Ytabfhoipclbeeaa
open Go.RowKit Go.Shelf
/-- r is the first place below n at which p holds; n if there is none; from there on p holds. -/
structure IsFirst (p : Nat → Bool) (n r : Nat) : Prop where
  le : r ≤ n
  below : ∀ t, t < r → p t = false
  above : ∀ t, r ≤ t → t < n → p t = true
/-- What a function of a number below n answers, in every world that has grown from w. -/
def PredAt (P : Program) (g : Nat) (lb : Array Value) (n : Nat) (p : Nat → Bool) (w : World) : Prop :=
  ∀ (i : Nat) w', i < n → Since w w' → Calls P g (#[.int .i64 i] ++ lb) w' fun e w'' => e = .returned (.bool (p i)) ∧ Since w' w''
theorem PredAt.since {P : Program} {g : Nat} {lb : Array Value} {n : Nat} {p : Nat → Bool} {w w' : World} (h : PredAt P g lb n p w) (hs : Since w w') : PredAt P g lb n p w' :=
  fun i w2 hi h2 => h i w2 hi (hs.trans h2)
set_option maxHeartbeats 1000000 in
theorem search_any (g : Nat) (lb : Array Value) (p : Nat → Bool) (n r : Nat) (w : World) (hn : n ≤ 4000000000000000000) (hf : PredAt Try.prog g lb n p w) (hr : IsFirst p n r)
    (eg : ∀ args w, (callFunc g args).run Try.prog w = .ok (.enter g args) w) :
    Calls Try.prog 114 #[.int .i64 n, .func (.func g) #[] lb] w fun e w' => e = .returned (.int .i64 r) ∧ Since w w' := by
  have HF := Lib.hid hf
  have HR := Lib.hid hr
  clear hf hr
  go_enter Try.func114, Try.ntmps114
  go_wp2
  go_loopg [5, 6] n (fun kx s5 s6 wr => ∃ (lo hi : Nat), s5 = .int .i64 lo ∧ s6 = .int .i64 hi ∧ hi ≤ n ∧ hi - lo ≤ kx ∧ Since w wr ∧ Aside (lo ≤ r ∧ r ≤ hi))
  case atStart => exact ⟨0, n, rfl, rfl, Nat.le_refl _, by omega, Since.refl _, (show _ ∧ _ from ⟨Nat.zero_le _, HR.out.le⟩)⟩
  case round =>
    obtain ⟨lo, hi, rfl, rfl, hin, hg, hs, I⟩ := hrel
    by_cases hlt : lo < hi
    · have hltz : (lo : Int) < (hi : Int) := by omega
      have hc := HF.out ((lo + hi) / 2) wr (by omega) hs
      rw [show (((lo + hi) / 2 : Nat) : Int) = ((lo : Int) + (hi : Int)) / 2 by omega] at hc
      have HS := Lib.hid hs
      clear hs
      cases hp : p ((lo + hi) / 2) <;> rw [hp] at hc
      · have HP := Lib.hid hp
        clear hp
        go_wp2_with (go_at_fn g; refine hc.mono ?_; rintro e w' ⟨rfl, hs1⟩)
        go_roundg (hi - ((lo + hi) / 2 + 1))
        case measure => omega
        case rel =>
          refine ⟨(lo + hi) / 2 + 1, hi, by go_num, rfl, by omega, by omega, HS.out.trans hs1, (show _ ∧ _ from ⟨?_, I.out.2⟩)⟩
          by_cases hrr : r ≤ (lo + hi) / 2
          · have := HR.out.above _ hrr (by omega); rw [HP.out] at this; cases this
          · omega
      · have HP := Lib.hid hp
        clear hp
        go_wp2_with (go_at_fn g; refine hc.mono ?_; rintro e w' ⟨rfl, hs1⟩)
        go_roundg ((lo + hi) / 2 - lo)
        case measure => omega
        case rel =>
          refine ⟨lo, (lo + hi) / 2, rfl, by go_num, by omega, by omega, HS.out.trans hs1, (show _ ∧ _ from ⟨I.out.1, ?_⟩)⟩
          by_cases hrr : (lo + hi) / 2 < r
          · have := HR.out.below _ hrr; rw [HP.out] at this; cases this
          · omega
    · have hltz : ¬ (lo : Int) < (hi : Int) := by omega
      have HS := Lib.hid hs
      clear hs
      go_wp2
      go_ret
      exact ⟨by rw [show r = lo from by have := I.out; omega]; rfl, HS.out⟩
end Go.Proofs.Ytabfhoipclbeeaa


/- The planner's end: the end of a transfer, by search and by division. -/
namespace Go.Proofs.Ytabfhoipclbeeaa
open Go.RowKit Go.Shelf
namespace Car
open P56
variable {C : List Int} (hC : ∀ x ∈ C, 0 ≤ x ∧ x ≤ 4096)
include hC
theorem fin_zero (s : Nat) : finish C s 0 = some s := finish_of_isEnd hC ⟨Nat.le_refl _, by omega, fun x h1 h2 => by omega⟩
theorem fin_search {s m : Nat} {n : Int} (hm : m = max s C.length) (hn : 0 < n) (h : carr C s + n ≤ carr C m) :
    ∃ r : Nat, finish C s n = some (s + r) ∧ s < C.length ∧ IsFirst (fun i => decide (carr C s + n ≤ carr C (s + i))) (C.length - s) r := by
  have hs : s < C.length := by
    rcases Nat.lt_or_ge s C.length with g | g
    · exact g
    · rw [show m = s from by omega] at h; omega
  rw [show m = C.length from by omega] at h
  cases hf : finish C s n with
  | none => have := (finish_none hC hf).2 C.length (by omega); omega
  | some e =>
    have he := finish_some hC hf
    have hel : e ≤ C.length := by
      rcases Nat.lt_or_ge C.length e with g | g
      · have := he.first C.length (by omega) g; omega
      · exact g
    have := he.le
    refine ⟨e - s, by congr 1; omega, hs, by omega, fun t ht => ?_, fun t ht _ => ?_⟩
    · have := he.first (s + t) (by omega) (by omega)
      simp; omega
    · have h1 := he.enough
      have h2 := carr_mono hC (show e ≤ s + t by omega)
      simp; omega
theorem fin_never {s m : Nat} {n : Int} (hm : m = max s C.length) (hl : last C = 0) (h : ¬ carr C s + n ≤ carr C m) : finish C s n = Option.none := by
  refine finish_of_never hC fun x hx => ?_
  by_cases hxm : x ≤ m
  · have := carr_mono hC hxm; omega
  · have := carr_far C m (x - m) (by omega)
    rw [show m + (x - m) = x from by omega, hl] at this
    omega
theorem fin_far {s m : Nat} {n : Int} (hm : m = max s C.length) (hl : last C ≠ 0) (h : ¬ carr C s + n ≤ carr C m) :
    ∃ d : Nat, finish C s n = some (m + d) ∧ (carr C s + n - carr C m + last C - 1) / last C = (d : Int) ∧ (d : Int) ≤ carr C s + n - carr C m := by
  have hl' := last_nonneg hC
  obtain ⟨c1, c2, c3⟩ := ceil_spec (a := carr C s + n - carr C m) (b := last C) (by omega) (by omega)
  generalize hq : (carr C s + n - carr C m + last C - 1) / last C = q at c1 c2 c3
  obtain ⟨d, rfl⟩ : ∃ d : Nat, q = d := ⟨q.toNat, by omega⟩
  have hfar := carr_far C m d (by omega)
  have hd1 : (d : Int) - 1 ≤ ((d : Int) - 1) * last C := by
    have := Int.mul_le_mul_of_nonneg_left (show (1 : Int) ≤ last C by omega) (show (0 : Int) ≤ (d : Int) - 1 by omega)
    omega
  refine ⟨d, finish_of_isEnd hC ⟨by omega, by omega, fun x hx hx' => ?_⟩, rfl, by omega⟩
  by_cases hxm : x ≤ m
  · have := carr_mono hC hxm; omega
  · have hfar2 := carr_far C m (x - m) (by omega)
    rw [show m + (x - m) = x from by omega] at hfar2
    have hle : ((x - m : Nat) : Int) ≤ (d : Int) - 1 := by omega
    have := Int.mul_le_mul_of_nonneg_right hle (by omega : 0 ≤ last C)
    omega
end Car
set_option maxHeartbeats 1000000 in
theorem endc_any (C : List Int) (v : Value) (s : Nat) (g : Int) (b8 b4 b9 : Nat) (w : World) (hv : IsCar w v C) (hl : C.length ≤ 4096) (hC : ∀ x ∈ C, 0 ≤ x ∧ x ≤ 4096) (hs : s ≤ C.length)
    (h8 : Box w b8 #[.func (.func 113) #[v] #[]] 154) (h4 : Box w b4 #[.int .i64 s] 3) (h9 : Box w b9 #[.int .i64 g] 3) :
    PredAt Try.prog 115 #[.pointer (some ⟨b8, 0, none⟩), .pointer (some ⟨b4, 0, none⟩), .pointer (some ⟨b9, 0, none⟩)] (C.length - s) (fun i => decide (g ≤ P56.carr C (s + i))) w := by
  intro i w' hi hsw
  dsimp only
  have hcall : ∀ w2, Since w' w2 → Calls Try.prog 113 #[v, .int .i64 ((s : Int) + (i : Int))] w2 (fun e w3 => e = .returned (.int .i64 (P56.carr C (s + i))) ∧ Since w2 w3) := by
    intro w2 h2
    have := before_any C v (s + i) w2 ((hv.since hsw).since h2) hl hC (by omega)
    rw [Int.natCast_add] at this
    exact this
  obtain ⟨hc8, hf8, hz8⟩ := (h8.since hsw).rules
  obtain ⟨hc4, hf4, hz4⟩ := (h4.since hsw).rules
  obtain ⟨hc9, hf9, hz9⟩ := (h9.since hsw).rules
  generalize P56.carr C (s + i) = r at hcall ⊢
  have HCALL := Lib.hid hcall
  clear h8 h4 h9 hv hC hsw hcall
  go_enter Try.func115, Try.ntmps115
  have hwk : IntKind.i64.wrap ((s : Int) + (i : Int)) = (s : Int) + (i : Int) := IntWalk.i64_in _ (by omega)
  go_upto_region 1 with fail
  go_region_held3 (fun w' => w'.cell? ⟨b8, 0, none⟩ = some (.func (.func 113) #[v] #[]) ∧ w'.cell? ⟨b4, 0, none⟩ = some (.int .i64 s) ∧ w'.cell? ⟨b9, 0, none⟩ = some (.int .i64 g))
    (simp [*])
    (first | (go_at_call 113; refine (HCALL.out _ ?_).mono ?_; ((repeat (first | with_reducible exact Since.refl _ | with_reducible assumption | with_reducible refine Since.alloc ?_ _ | with_reducible refine Since.drew ?_ | with_reducible refine Since.drewN ?_ _ | (with_reducible refine Since.setCell ?_ ?_ _; rotate_left; (first | (dsimp only; omega) | (simp; done) | (simp; omega))) | with_reducible refine Since.trans ?_ (by with_reducible assumption)))); rintro e x1 ⟨rfl, hs2⟩; obtain ⟨kc_hs2_0, kf_hs2_0, kz_hs2_0⟩ := hs2.at (β := b8) (by first | assumption | omega | (simp only [World.size_alloc, World.size_setCell, World.size_drew, World.heap_drewN]; omega) | (simp; omega)); obtain ⟨kc_hs2_1, kf_hs2_1, kz_hs2_1⟩ := hs2.at (β := b4) (by first | assumption | omega | (simp only [World.size_alloc, World.size_setCell, World.size_drew, World.heap_drewN]; omega) | (simp; omega)); obtain ⟨kc_hs2_2, kf_hs2_2, kz_hs2_2⟩ := hs2.at (β := b9) (by first | assumption | omega | (simp only [World.size_alloc, World.size_setCell, World.size_drew, World.heap_drewN]; omega) | (simp; omega))))
  all_goals go_wp2
  all_goals go_ret
  all_goals exact ⟨rfl, by (repeat (first | with_reducible exact Since.refl _ | with_reducible assumption | with_reducible refine Since.alloc ?_ _ | with_reducible refine Since.drew ?_ | with_reducible refine Since.drewN ?_ _ | (with_reducible refine Since.setCell ?_ ?_ _; rotate_left; (first | (dsimp only; omega) | (simp; done) | (simp; omega))) | with_reducible refine Since.trans ?_ (by with_reducible assumption)))⟩
theorem fin_ret {o : Option Nat} {x : Int} {b : Bool} {a : Nat} (h : o = some a) (hx : x = (a : Int)) (hb : b = true) : Ending.returned (.tuple #[.int .i64 x, .bool b]) = Ending.returned (.tuple #[.int .i64 (o.getD 0 : Nat), .bool o.isSome]) := by rw [h, hx, hb]; rfl
set_option maxRecDepth 100000 in
set_option maxHeartbeats 2000000 in
theorem end_any (C : List Int) (v : Value) (s : Nat) (n : Int) (w : World) (hv : IsCar w v C) (hl : C.length ≤ 4096) (hC : ∀ x ∈ C, 0 ≤ x ∧ x ≤ 4096) (hs : s ≤ 900000000000) (hn0 : 0 ≤ n) (hn : n ≤ 16777216) :
    Calls Try.prog 83 #[v, .int .i64 s, .int .i64 n] w fun e w' => e = .returned (.tuple #[.int .i64 ((P56.finish C s n).getD 0 : Nat), .bool (P56.finish C s n).isSome]) ∧ Since w w' := by
  have call : ∀ (t : Nat) w2, t ≤ 1000000000000 → Since w w2 → Calls Try.prog 113 #[v, .int .i64 t] w2 (fun e w3 => e = .returned (.int .i64 (P56.carr C t)) ∧ Since w2 w3) :=
    fun t w2 ht h2 => before_any C v t w2 (hv.since h2) hl hC ht
  have FZ := Lib.hid (fun (h : n = 0) => (show P56.finish C s n = some s from by subst h; exact Car.fin_zero hC s))
  obtain ⟨m, hm⟩ : ∃ m, m = max s C.length := ⟨_, rfl⟩
  have FS := Lib.hid (Car.fin_search (n := n) hC hm)
  have FN := Lib.hid (Car.fin_never (n := n) hC hm)
  have FF := Lib.hid (Car.fin_far (n := n) hC hm)
  have ENDC := Lib.hid (fun (g : Int) (b8 b4 b9 : Nat) w2 (h2 : Since w w2) (hs : s ≤ C.length) => endc_any C v s g b8 b4 b9 w2 (hv.since h2) hl hC hs)
  have hlast := P56.last_nonneg hC
  have hbs := P56.carr_bd hC s
  have hbm := P56.carr_bd hC m
  have hmx : (if (s : Int) < (C.length : Int) then (C.length : Int) else (s : Int)) = (m : Int) := by split <;> omega
  have hmn : (if s < C.length then (C.length : Int) else (s : Int)) = (m : Int) := by split <;> omega
  obtain ⟨b, a, c, rfl, hb, hr⟩ := hv
  obtain ⟨rc, rf, rz⟩ := hb.rules
  generalize P56.finish C s n = F at *
  have callS := call s
  have callM := call m
  have HBB := Lib.hid hb
  generalize hq1 : P56.carr C s = S at *
  generalize hq2 : P56.carr C m = M at *
  have CALLS := Lib.hid callS
  have CALLM := Lib.hid callM
  clear call callS callM
  have HQ1 := Lib.hid hq1
  have HQ2 := Lib.hid hq2
  clear hr hb hC hq1 hq2
  by_cases hz0 : n = 0
  · have hz1 : (n == 0) = true := by simp [hz0]
    have HZ := Lib.hid hz0
    clear hz0
    go_enter Try.func83, Try.ntmps83
    go_wp2_with (first
      | (go_at_call 113; refine (CALLS.out _ (by omega) ?_).mono ?_; ((repeat (first | with_reducible exact Since.refl _ | with_reducible assumption | with_reducible refine Since.alloc ?_ _ | with_reducible refine Since.drew ?_ | with_reducible refine Since.drewN ?_ _ | (with_reducible refine Since.setCell ?_ ?_ _; rotate_left; (first | (dsimp only; omega) | (simp; done) | (simp; omega))) | with_reducible refine Since.trans ?_ (by with_reducible assumption)))); rintro e w1 ⟨rfl, hs1⟩; obtain ⟨kc_hs1_0, kf_hs1_0, kz_hs1_0⟩ := hs1.at (β := b) (by first | assumption | omega | (simp only [World.size_alloc, World.size_setCell, World.size_drew, World.heap_drewN]; omega) | (simp; omega)); obtain ⟨kc_hs1_1, kf_hs1_1, kz_hs1_1⟩ := hs1.at (β := w.heap.size) (by first | assumption | omega | (simp only [World.size_alloc, World.size_setCell, World.size_drew, World.heap_drewN]; omega) | (simp; omega)); obtain ⟨kc_hs1_2, kf_hs1_2, kz_hs1_2⟩ := hs1.at (β := w.heap.size + 1) (by first | assumption | omega | (simp only [World.size_alloc, World.size_setCell, World.size_drew, World.heap_drewN]; omega) | (simp; omega))))
    go_ret2
    exact ⟨fin_ret (FZ.out HZ.out) rfl rfl, by (repeat (first | with_reducible exact Since.refl _ | with_reducible assumption | with_reducible refine Since.alloc ?_ _ | with_reducible refine Since.drew ?_ | with_reducible refine Since.drewN ?_ _ | (with_reducible refine Since.setCell ?_ ?_ _; rotate_left; (first | (dsimp only; omega) | (simp; done) | (simp; omega))) | with_reducible refine Since.trans ?_ (by with_reducible assumption)))⟩
  · have hz1 : (n == 0) = false := by simp [hz0]
    have hw1 : IntKind.i64.wrap (S + n) = S + n := IntWalk.i64_in _ (by omega)
    clear hmx hmn
    rcases Nat.lt_or_ge s C.length with hsl | hsl
    · have hme : m = C.length := by omega
      clear hm
      subst hme
      have hslz : (s : Int) < (C.length : Int) := by omega
      go_enter Try.func83, Try.ntmps83
      go_upto_region 6 with (first
        | (go_at_call 113; refine (CALLS.out _ (by omega) ?_).mono ?_; ((repeat (first | with_reducible exact Since.refl _ | with_reducible assumption | with_reducible refine Since.alloc ?_ _ | with_reducible refine Since.drew ?_ | with_reducible refine Since.drewN ?_ _ | (with_reducible refine Since.setCell ?_ ?_ _; rotate_left; (first | (dsimp only; omega) | (simp; done) | (simp; omega))) | with_reducible refine Since.trans ?_ (by with_reducible assumption)))); rintro e w1 ⟨rfl, hs1⟩; obtain ⟨kc_hs1_0, kf_hs1_0, kz_hs1_0⟩ := hs1.at (β := b) (by first | assumption | omega | (simp only [World.size_alloc, World.size_setCell, World.size_drew, World.heap_drewN]; omega) | (simp; omega)); obtain ⟨kc_hs1_1, kf_hs1_1, kz_hs1_1⟩ := hs1.at (β := w.heap.size) (by first | assumption | omega | (simp only [World.size_alloc, World.size_setCell, World.size_drew, World.heap_drewN]; omega) | (simp; omega)); obtain ⟨kc_hs1_2, kf_hs1_2, kz_hs1_2⟩ := hs1.at (β := w.heap.size + 1) (by first | assumption | omega | (simp only [World.size_alloc, World.size_setCell, World.size_drew, World.heap_drewN]; omega) | (simp; omega))))
      go_region_held3 (fun w' => w'.cell? ⟨w.heap.size + 1, 0, none⟩ = some (.func (.func 113) #[.pointer (some ⟨b, 0, none⟩)] #[]) ∧ w'.cell? ⟨w.heap.size, 0, none⟩ = some (.int .i64 s) ∧ w'.cell? ⟨w1.heap.size, 0, none⟩ = some (.int .i64 (S + n)))
        (simp [World.cell?_alloc_past, *])
        (first | (go_at_call 113; refine (CALLM.out _ (by omega) ?_).mono ?_; ((repeat (first | with_reducible exact Since.refl _ | with_reducible assumption | with_reducible refine Since.alloc ?_ _ | with_reducible refine Since.drew ?_ | with_reducible refine Since.drewN ?_ _ | (with_reducible refine Since.setCell ?_ ?_ _; rotate_left; (first | (dsimp only; omega) | (simp; done) | (simp; omega))) | with_reducible refine Since.trans ?_ (by with_reducible assumption)))); rintro e w2 ⟨rfl, hs2⟩; obtain ⟨kc_hs2_0, kf_hs2_0, kz_hs2_0⟩ := hs2.at (β := b) (by first | assumption | omega | (simp only [World.size_alloc, World.size_setCell, World.size_drew, World.heap_drewN]; omega) | (simp; omega)); obtain ⟨kc_hs2_1, kf_hs2_1, kz_hs2_1⟩ := hs2.at (β := w.heap.size) (by first | assumption | omega | (simp only [World.size_alloc, World.size_setCell, World.size_drew, World.heap_drewN]; omega) | (simp; omega)); obtain ⟨kc_hs2_2, kf_hs2_2, kz_hs2_2⟩ := hs2.at (β := w.heap.size + 1) (by first | assumption | omega | (simp only [World.size_alloc, World.size_setCell, World.size_drew, World.heap_drewN]; omega) | (simp; omega)); obtain ⟨kc_hs2_3, kf_hs2_3, kz_hs2_3⟩ := hs2.at (β := w1.heap.size) (by first | assumption | omega | (simp only [World.size_alloc, World.size_setCell, World.size_drew, World.heap_drewN]; omega) | (simp; omega))))
      have hbn : b ≠ w.heap.size + 1 := by omega
      have hbn0 : b ≠ w.heap.size := by omega
      by_cases hSM : S + n ≤ M
      · obtain ⟨r, hF, -, hfirst⟩ := FS.out (by omega) hSM
        have HF := Lib.hid hF
        have hrl := hfirst.le
        have hb4 := Box.at (w := w) rfl #[.int .i64 s] 3
        have hb8 := Box.at (w := w.alloc (.cells #[.int .i64 s] 3)) (b := w.heap.size + 1) (by simp) #[Value.func (.func 113) #[.pointer (some ⟨b, 0, none⟩)] #[]] 154
        have hb9 := Box.at (w := w1) rfl #[.int .i64 (S + n)] 3
        have hsz : ((C.length - s : Nat) : Int) = (C.length : Int) - (s : Int) := by omega
        have hwz : IntKind.i64.wrap ((C.length : Int) - (s : Int)) = (C.length : Int) - (s : Int) := IntWalk.i64_in _ (by omega)
        have hwr : IntKind.i64.wrap ((s : Int) + (r : Int)) = (s : Int) + (r : Int) := IntWalk.i64_in _ (by omega)
        have HB4 := Lib.hid hb4
        have HB8 := Lib.hid hb8
        have HB9 := Lib.hid hb9
        have SRCH : Hid (∀ w2, Since w w2 → Box w2 w.heap.size _ _ → Box w2 (w.heap.size + 1) _ _ → Box w2 w1.heap.size _ _ → Calls Try.prog 114 #[.int .i64 ((C.length : Int) - (s : Int)), _] w2 _) := fun w2 h2 h4 h8 h9 => hsz ▸ search_any _ _ _ _ r w2 (by omega) (ENDC.out (S + n) _ _ _ w2 h2 (by omega) h8 h4 h9) hfirst (enters_of Try.func115 (by kernel_rfl) rfl)
        clear hF hfirst hb4 hb8 hb9 hsz
        go_upto_region 7 with fail
        go_region_held3 (fun w' => w'.cell? ⟨w.heap.size, 0, none⟩ = some (.int .i64 s))
          (simp [World.cell?_alloc_past, *])
          (first | (go_at_call 114; refine (SRCH.out _ (by (repeat (first | with_reducible exact Since.refl _ | with_reducible assumption | with_reducible refine Since.alloc ?_ _ | with_reducible refine Since.drew ?_ | with_reducible refine Since.drewN ?_ _ | (with_reducible refine Since.setCell ?_ ?_ _; rotate_left; (first | (dsimp only; omega) | (simp; done) | (simp; omega))) | with_reducible refine Since.trans ?_ (by with_reducible assumption)))) (HB4.out.since (by (repeat (first | with_reducible exact Since.refl _ | with_reducible assumption | with_reducible refine Since.alloc ?_ _ | with_reducible refine Since.drew ?_ | with_reducible refine Since.drewN ?_ _ | (with_reducible refine Since.setCell ?_ ?_ _; rotate_left; (first | (dsimp only; omega) | (simp; done) | (simp; omega))) | with_reducible refine Since.trans ?_ (by with_reducible assumption))))) (HB8.out.since (by (repeat (first | with_reducible exact Since.refl _ | with_reducible assumption | with_reducible refine Since.alloc ?_ _ | with_reducible refine Since.drew ?_ | with_reducible refine Since.drewN ?_ _ | (with_reducible refine Since.setCell ?_ ?_ _; rotate_left; (first | (dsimp only; omega) | (simp; done) | (simp; omega))) | with_reducible refine Since.trans ?_ (by with_reducible assumption))))) (HB9.out.since (by (repeat (first | with_reducible exact Since.refl _ | with_reducible assumption | with_reducible refine Since.alloc ?_ _ | with_reducible refine Since.drew ?_ | with_reducible refine Since.drewN ?_ _ | (with_reducible refine Since.setCell ?_ ?_ _; rotate_left; (first | (dsimp only; omega) | (simp; done) | (simp; omega))) | with_reducible refine Since.trans ?_ (by with_reducible assumption)))))).mono ?_; rintro e w3 ⟨rfl, hs3⟩; obtain ⟨kc_hs3_0, kf_hs3_0, kz_hs3_0⟩ := hs3.at (β := b) (by first | assumption | omega | (simp only [World.size_alloc, World.size_setCell, World.size_drew, World.heap_drewN]; omega) | (simp; omega)); obtain ⟨kc_hs3_1, kf_hs3_1, kz_hs3_1⟩ := hs3.at (β := w.heap.size) (by first | assumption | omega | (simp only [World.size_alloc, World.size_setCell, World.size_drew, World.heap_drewN]; omega) | (simp; omega)); obtain ⟨kc_hs3_2, kf_hs3_2, kz_hs3_2⟩ := hs3.at (β := w.heap.size + 1) (by first | assumption | omega | (simp only [World.size_alloc, World.size_setCell, World.size_drew, World.heap_drewN]; omega) | (simp; omega)); obtain ⟨kc_hs3_3, kf_hs3_3, kz_hs3_3⟩ := hs3.at (β := w1.heap.size) (by first | assumption | omega | (simp only [World.size_alloc, World.size_setCell, World.size_drew, World.heap_drewN]; omega) | (simp; omega))))
        go_wp2
        go_ret2
        exact ⟨fin_ret HF.out (by simp) rfl, by (repeat (first | with_reducible exact Since.refl _ | with_reducible assumption | with_reducible refine Since.alloc ?_ _ | with_reducible refine Since.drew ?_ | with_reducible refine Since.drewN ?_ _ | (with_reducible refine Since.setCell ?_ ?_ _; rotate_left; (first | (dsimp only; omega) | (simp; done) | (simp; omega))) | with_reducible refine Since.trans ?_ (by with_reducible assumption)))⟩
      ·
        by_cases hl0 : P56.last C = 0
        · have HF : Hid (F = none) := FN.out hl0 (by omega)
          go_wp2
          go_ret2
          exact ⟨by rw [HF.out]; exact ret_ib rfl rfl, by (repeat (first | with_reducible exact Since.refl _ | with_reducible assumption | with_reducible refine Since.alloc ?_ _ | with_reducible refine Since.drew ?_ | with_reducible refine Since.drewN ?_ _ | (with_reducible refine Since.setCell ?_ ?_ _; rotate_left; (first | (dsimp only; omega) | (simp; done) | (simp; omega))) | with_reducible refine Since.trans ?_ (by with_reducible assumption)))⟩
        · obtain ⟨d, hF, hd, hdb⟩ := FF.out hl0 (by omega)
          have HF := Lib.hid hF
          have hw2 : IntKind.i64.wrap (S + n - M) = S + n - M := IntWalk.i64_in _ (by omega)
          have hw3 : IntKind.i64.wrap (S + n - M + P56.last C) = S + n - M + P56.last C := IntWalk.i64_in _ (by omega)
          have hw4 : IntKind.i64.wrap (S + n - M + P56.last C - 1) = S + n - M + P56.last C - 1 := IntWalk.i64_in _ (by omega)
          have hw5 : IntKind.i64.wrap ((S + n - M + P56.last C - 1).tdiv (P56.last C)) = d := (IntWalk.i64_quo _ _ (by omega)).trans hd
          have hw6 : IntKind.i64.wrap ((C.length : Int) + (d : Int)) = (C.length : Int) + (d : Int) := IntWalk.i64_in _ (by omega)
          have HD := Lib.hid hdb
          clear hF hd hdb
          have hcb := (HBB.out.since (w' := w2) (by (repeat (first | with_reducible exact Since.refl _ | with_reducible assumption | with_reducible refine Since.alloc ?_ _ | with_reducible refine Since.drew ?_ | with_reducible refine Since.drewN ?_ _ | (with_reducible refine Since.setCell ?_ ?_ _; rotate_left; (first | (dsimp only; omega) | (simp; done) | (simp; omega))) | with_reducible refine Since.trans ?_ (by with_reducible assumption))))).rules.1 1
          clear kc_hs2_0 kc_hs1_0
          go_upto_region 11 with fail
          go_region_held3 (fun w' => w'.cell? ⟨w.heap.size + 1, 0, none⟩ = some (.func (.func 113) #[.pointer (some ⟨b, 0, none⟩)] #[]) ∧ w'.cell? ⟨w1.heap.size, 0, none⟩ = some (.int .i64 (S + n)) ∧ w'.cell? ⟨b, 1, none⟩ = some (.int .i64 (P56.last C)))
            (simp [World.cell?_alloc_past, *])
            (first | (go_at_call 113; refine (CALLM.out _ (by omega) ?_).mono ?_; ((repeat (first | with_reducible exact Since.refl _ | with_reducible assumption | with_reducible refine Since.alloc ?_ _ | with_reducible refine Since.drew ?_ | with_reducible refine Since.drewN ?_ _ | (with_reducible refine Since.setCell ?_ ?_ _; rotate_left; (first | (dsimp only; omega) | (simp; done) | (simp; omega))) | with_reducible refine Since.trans ?_ (by with_reducible assumption)))); rintro e w3 ⟨rfl, hs3⟩; obtain ⟨kc_hs3_0, kf_hs3_0, kz_hs3_0⟩ := hs3.at (β := b) (by first | assumption | omega | (simp only [World.size_alloc, World.size_setCell, World.size_drew, World.heap_drewN]; omega) | (simp; omega)); obtain ⟨kc_hs3_1, kf_hs3_1, kz_hs3_1⟩ := hs3.at (β := w.heap.size) (by first | assumption | omega | (simp only [World.size_alloc, World.size_setCell, World.size_drew, World.heap_drewN]; omega) | (simp; omega)); obtain ⟨kc_hs3_2, kf_hs3_2, kz_hs3_2⟩ := hs3.at (β := w.heap.size + 1) (by first | assumption | omega | (simp only [World.size_alloc, World.size_setCell, World.size_drew, World.heap_drewN]; omega) | (simp; omega)); obtain ⟨kc_hs3_3, kf_hs3_3, kz_hs3_3⟩ := hs3.at (β := w1.heap.size) (by first | assumption | omega | (simp only [World.size_alloc, World.size_setCell, World.size_drew, World.heap_drewN]; omega) | (simp; omega))))
          go_wp2
          go_ret2
          exact ⟨fin_ret HF.out (by simp) rfl, by (repeat (first | with_reducible exact Since.refl _ | with_reducible assumption | with_reducible refine Since.alloc ?_ _ | with_reducible refine Since.drew ?_ | with_reducible refine Since.drewN ?_ _ | (with_reducible refine Since.setCell ?_ ?_ _; rotate_left; (first | (dsimp only; omega) | (simp; done) | (simp; omega))) | with_reducible refine Since.trans ?_ (by with_reducible assumption)))⟩
    · have hme : m = s := by omega
      clear hm
      subst hme
      have hslz : ¬ (m : Int) < (C.length : Int) := by omega
      have hsln : ¬ m < C.length := by omega
      have hbn : b ≠ w.heap.size + 1 := by omega
      have hbn0 : b ≠ w.heap.size := by omega
      have hSM : ¬ S + n ≤ M := by have h1 := HQ1.out; have h2 := HQ2.out; omega
      go_enter Try.func83, Try.ntmps83
      go_upto_region 6 with (first
        | (go_at_call 113; refine (CALLS.out _ (by omega) ?_).mono ?_; ((repeat (first | with_reducible exact Since.refl _ | with_reducible assumption | with_reducible refine Since.alloc ?_ _ | with_reducible refine Since.drew ?_ | with_reducible refine Since.drewN ?_ _ | (with_reducible refine Since.setCell ?_ ?_ _; rotate_left; (first | (dsimp only; omega) | (simp; done) | (simp; omega))) | with_reducible refine Since.trans ?_ (by with_reducible assumption)))); rintro e w1 ⟨rfl, hs1⟩; obtain ⟨kc_hs1_0, kf_hs1_0, kz_hs1_0⟩ := hs1.at (β := b) (by first | assumption | omega | (simp only [World.size_alloc, World.size_setCell, World.size_drew, World.heap_drewN]; omega) | (simp; omega)); obtain ⟨kc_hs1_1, kf_hs1_1, kz_hs1_1⟩ := hs1.at (β := w.heap.size) (by first | assumption | omega | (simp only [World.size_alloc, World.size_setCell, World.size_drew, World.heap_drewN]; omega) | (simp; omega)); obtain ⟨kc_hs1_2, kf_hs1_2, kz_hs1_2⟩ := hs1.at (β := w.heap.size + 1) (by first | assumption | omega | (simp only [World.size_alloc, World.size_setCell, World.size_drew, World.heap_drewN]; omega) | (simp; omega))))
      go_region_held3 (fun w' => w'.cell? ⟨w.heap.size + 1, 0, none⟩ = some (.func (.func 113) #[.pointer (some ⟨b, 0, none⟩)] #[]) ∧ w'.cell? ⟨w.heap.size, 0, none⟩ = some (.int .i64 m) ∧ w'.cell? ⟨w1.heap.size, 0, none⟩ = some (.int .i64 (S + n)))
        (simp [World.cell?_alloc_past, *])
        (first | (go_at_call 113; refine (CALLM.out _ (by omega) ?_).mono ?_; ((repeat (first | with_reducible exact Since.refl _ | with_reducible assumption | with_reducible refine Since.alloc ?_ _ | with_reducible refine Since.drew ?_ | with_reducible refine Since.drewN ?_ _ | (with_reducible refine Since.setCell ?_ ?_ _; rotate_left; (first | (dsimp only; omega) | (simp; done) | (simp; omega))) | with_reducible refine Since.trans ?_ (by with_reducible assumption)))); rintro e w2 ⟨rfl, hs2⟩; obtain ⟨kc_hs2_0, kf_hs2_0, kz_hs2_0⟩ := hs2.at (β := b) (by first | assumption | omega | (simp only [World.size_alloc, World.size_setCell, World.size_drew, World.heap_drewN]; omega) | (simp; omega)); obtain ⟨kc_hs2_1, kf_hs2_1, kz_hs2_1⟩ := hs2.at (β := w.heap.size) (by first | assumption | omega | (simp only [World.size_alloc, World.size_setCell, World.size_drew, World.heap_drewN]; omega) | (simp; omega)); obtain ⟨kc_hs2_2, kf_hs2_2, kz_hs2_2⟩ := hs2.at (β := w.heap.size + 1) (by first | assumption | omega | (simp only [World.size_alloc, World.size_setCell, World.size_drew, World.heap_drewN]; omega) | (simp; omega)); obtain ⟨kc_hs2_3, kf_hs2_3, kz_hs2_3⟩ := hs2.at (β := w1.heap.size) (by first | assumption | omega | (simp only [World.size_alloc, World.size_setCell, World.size_drew, World.heap_drewN]; omega) | (simp; omega))))
      by_cases hl0 : P56.last C = 0
      · have HF : Hid (F = none) := FN.out hl0 (by omega)
        go_wp2
        go_ret2
        exact ⟨by rw [HF.out]; exact ret_ib rfl rfl, by (repeat (first | with_reducible exact Since.refl _ | with_reducible assumption | with_reducible refine Since.alloc ?_ _ | with_reducible refine Since.drew ?_ | with_reducible refine Since.drewN ?_ _ | (with_reducible refine Since.setCell ?_ ?_ _; rotate_left; (first | (dsimp only; omega) | (simp; done) | (simp; omega))) | with_reducible refine Since.trans ?_ (by with_reducible assumption)))⟩
      · obtain ⟨d, hF, hd, hdb⟩ := FF.out hl0 (by omega)
        have HF := Lib.hid hF
        have hw2 : IntKind.i64.wrap (S + n - M) = S + n - M := IntWalk.i64_in _ (by omega)
        have hw3 : IntKind.i64.wrap (S + n - M + P56.last C) = S + n - M + P56.last C := IntWalk.i64_in _ (by omega)
        have hw4 : IntKind.i64.wrap (S + n - M + P56.last C - 1) = S + n - M + P56.last C - 1 := IntWalk.i64_in _ (by omega)
        have hw5 : IntKind.i64.wrap ((S + n - M + P56.last C - 1).tdiv (P56.last C)) = d := (IntWalk.i64_quo _ _ (by omega)).trans hd
        have hw6 : IntKind.i64.wrap ((m : Int) + (d : Int)) = (m : Int) + (d : Int) := IntWalk.i64_in _ (by omega)
        have HD := Lib.hid hdb
        clear hF hd hdb
        have hcb := (HBB.out.since (w' := w2) (by (repeat (first | with_reducible exact Since.refl _ | with_reducible assumption | with_reducible refine Since.alloc ?_ _ | with_reducible refine Since.drew ?_ | with_reducible refine Since.drewN ?_ _ | (with_reducible refine Since.setCell ?_ ?_ _; rotate_left; (first | (dsimp only; omega) | (simp; done) | (simp; omega))) | with_reducible refine Since.trans ?_ (by with_reducible assumption))))).rules.1 1
        clear kc_hs2_0 kc_hs1_0
        go_upto_region 11 with fail
        go_region_held3 (fun w' => w'.cell? ⟨w.heap.size + 1, 0, none⟩ = some (.func (.func 113) #[.pointer (some ⟨b, 0, none⟩)] #[]) ∧ w'.cell? ⟨w1.heap.size, 0, none⟩ = some (.int .i64 (S + n)) ∧ w'.cell? ⟨b, 1, none⟩ = some (.int .i64 (P56.last C)))
          (simp [World.cell?_alloc_past, *])
          (first | (go_at_call 113; refine (CALLM.out _ (by omega) ?_).mono ?_; ((repeat (first | with_reducible exact Since.refl _ | with_reducible assumption | with_reducible refine Since.alloc ?_ _ | with_reducible refine Since.drew ?_ | with_reducible refine Since.drewN ?_ _ | (with_reducible refine Since.setCell ?_ ?_ _; rotate_left; (first | (dsimp only; omega) | (simp; done) | (simp; omega))) | with_reducible refine Since.trans ?_ (by with_reducible assumption)))); rintro e w3 ⟨rfl, hs3⟩; obtain ⟨kc_hs3_0, kf_hs3_0, kz_hs3_0⟩ := hs3.at (β := b) (by first | assumption | omega | (simp only [World.size_alloc, World.size_setCell, World.size_drew, World.heap_drewN]; omega) | (simp; omega)); obtain ⟨kc_hs3_1, kf_hs3_1, kz_hs3_1⟩ := hs3.at (β := w.heap.size) (by first | assumption | omega | (simp only [World.size_alloc, World.size_setCell, World.size_drew, World.heap_drewN]; omega) | (simp; omega)); obtain ⟨kc_hs3_2, kf_hs3_2, kz_hs3_2⟩ := hs3.at (β := w.heap.size + 1) (by first | assumption | omega | (simp only [World.size_alloc, World.size_setCell, World.size_drew, World.heap_drewN]; omega) | (simp; omega)); obtain ⟨kc_hs3_3, kf_hs3_3, kz_hs3_3⟩ := hs3.at (β := w1.heap.size) (by first | assumption | omega | (simp only [World.size_alloc, World.size_setCell, World.size_drew, World.heap_drewN]; omega) | (simp; omega))))
        go_wp2
        go_ret2
        exact ⟨fin_ret HF.out (by simp) rfl, by (repeat (first | with_reducible exact Since.refl _ | with_reducible assumption | with_reducible refine Since.alloc ?_ _ | with_reducible refine Since.drew ?_ | with_reducible refine Since.drewN ?_ _ | (with_reducible refine Since.setCell ?_ ?_ _; rotate_left; (first | (dsimp only; omega) | (simp; done) | (simp; omega))) | with_reducible refine Since.trans ?_ (by with_reducible assumption)))⟩
end Go.Proofs.Ytabfhoipclbeeaa


/- The planner: newCarrier, as a fact for the caller. -/
namespace Go.Proofs.Ytabfhoipclbeeaa
open Go.RowKit Go.Shelf
set_option maxHeartbeats 2000000 in
theorem newCarrier_c (C : List Int) (a0 : Option Addr) (c : Nat) (own : Nat → Prop) (W : World) (hl : ∀ b, own b → b < W.heap.size) (hr : Has own W (RdF (Value.int .i64) a0 C)) (hlen : C.length ≤ 4096) (hC : ∀ x ∈ C, 0 ≤ x ∧ x ≤ 4096) :
    Calls Try.prog 82 ⟨[.slice a0 C.length c]⟩ W (Ret W fun u w' => Has own w' (IsCar · u C)) := by
  have hM := (Mm.start hl).known hr
  refine f_start Try.func82 rfl Try.ntmps82 rfl rfl ?_; intro a hF
  (repeat (first | (with_reducible refine w_seq ?_) | (with_reducible refine c_region ?_) | (with_reducible refine s_nil ?_) | (with_reducible refine q_then_n ?_) | ((with_reducible apply s_pure hF); exact rfl; exact rfl; exact rfl; (first | exact trivial | omega | exact ⟨Int.natCast_nonneg _, Int.ofNat_lt.2 (by assumption)⟩ | decide); clear hF a; intro a hF) | ((with_reducible apply s_box hF hM); exact rfl; exact rfl; exact rfl; exact rfl; clear hF hM a; intro b w a hM hF) | ((with_reducible apply s_lit hF hM); exact rfl; exact rfl; exact rfl; exact rfl; clear hF hM a; intro bl w a hM hF) | (with_reducible refine w_block ?_)))
  replace hM := (hM.perm (List.Perm.swap _ _ _)).boxRow 1 1 rfl (by decide)
  refine c_loop (m := C.length) (fun m a w' => ∃ (k : Nat) (u : Value), m + k = C.length ∧ Fr _ [] [(3, .pointer (some ⟨b, 0, none⟩)), (9, .slice a0 C.length c), (10, .int .i64 (C.length : Int)), (11, .int .i64 k)] a ∧
    Mm own W [⟨b, ⟨[u, .int .i64 ((C.take k).getLastD 0)]⟩, 158⟩] [⟨3, 1, u, k + 1, (Car.sums C k).map (Value.int .i64)⟩] [RdF (Value.int .i64) a0 C] w') ⟨0, _, by omega, hF.sub (by repeat (first | exact Sub.nil | refine Sub.cons rfl (by first | with_reducible rfl | (refine congrArg (Value.int _) ?_; omega) | exact rfl) ?_)), hM⟩ ?_
  clear hF hM a
  rintro m a w' ⟨k, u, hk, hF, hM⟩
  by_cases hlt : k < C.length
  · obtain ⟨x, hx⟩ := get_of_lt hlt
    obtain ⟨ad, rfl⟩ := rd_some hM (by (repeat (first | exact List.mem_cons_self | refine List.mem_cons_of_mem _ ?_))) hx
    obtain ⟨au, cu, rfl, hru, hlu⟩ := hM.row List.mem_cons_self
    obtain ⟨bu, ou, rfl, -, -⟩ := hru k _ (Car.sums_get C (Nat.le_refl k))
    have hs' : (Car.sums C k)[((((k + 1 : Nat) : Int)) - 1).toNat]? = some (C.take k).sum := by rw [show ((((k + 1 : Nat) : Int)) - 1).toNat = k by omega]; exact Car.sums_get C (Nat.le_refl k)
    have hx0 := hC x (List.mem_of_getElem? hx)
    have hsb := P56.sum_take_bd hC k hlen
    (repeat' (first | (with_reducible refine w_seq ?_) | (with_reducible refine c_region ?_) | (with_reducible refine s_nil ?_) | (with_reducible refine q_then_n ?_) | ((with_reducible apply s_pure hF); exact rfl; exact rfl; exact rfl; (first | exact trivial | omega | exact ⟨Int.natCast_nonneg _, Int.ofNat_lt.2 (by assumption)⟩ | decide); clear hF a; intro a hF) | ((with_reducible apply s_loadF hF hM); exact rfl; exact rfl; (repeat (first | exact List.mem_cons_self | refine List.mem_cons_of_mem _ ?_)); exact rfl; exact rfl; (first | with_reducible assumption | (simp only [Int.toNat_natCast]; with_reducible assumption)); clear hF a; intro a hF) | (with_reducible refine w_skip ?_) | (with_reducible refine w_block ?_) | ((with_reducible apply c_dec hF); exact rfl; all_goals intro hc; all_goals (try (exfalso; omega)))))
    refine c_draw (fun i => Nat.ble 23 i) hM ?_; clear hM; intro w hM
    (first | (refine t_pure (i := 0) hF rfl rfl rfl rfl (by kernel_rfl) hM.sm (fun _ _ _ h => h) ?_ ?_; (first | exact trivial | omega | decide); clear hF a; intro a hF))
    (first | (refine t_pure (i := 1) hF rfl rfl rfl rfl (by kernel_rfl) hM.sm (fun _ _ _ h => h) ?_ ?_; (first | exact trivial | omega | decide); clear hF a; intro a hF))
    (first | (refine t_pure (i := 2) hF rfl rfl rfl rfl (by kernel_rfl) hM.sm (fun _ _ _ h => h) ?_ ?_; (first | exact trivial | omega | decide); clear hF a; intro a hF))
    (first | (refine t_pure (i := 3) hF rfl rfl rfl rfl (by kernel_rfl) hM.sm (fun _ _ _ h => h) ?_ ?_; (first | exact trivial | omega | decide); clear hF a; intro a hF))
    (first | (apply t_load (i := 4) hF rfl rfl rfl; (repeat (first | exact List.mem_cons_self | refine List.mem_cons_of_mem _ ?_)); exact rfl; exact rfl; kernel_rfl; exact hM.sm; exact (fun _ _ _ h => h); clear hF a; intro a hF))
    (first | (refine t_pure (i := 5) hF rfl rfl rfl rfl (by kernel_rfl) hM.sm (fun _ _ _ h => h) ?_ ?_; (first | exact trivial | omega | decide); clear hF a; intro a hF))
    (first | (refine t_pure (i := 6) hF rfl rfl rfl rfl (by kernel_rfl) hM.sm (fun _ _ _ h => h) ?_ ?_; (first | exact trivial | omega | decide); clear hF a; intro a hF))
    (first | (refine t_pure (i := 7) hF rfl rfl rfl rfl (by kernel_rfl) hM.sm (fun _ _ _ h => h) ?_ ?_; (first | exact trivial | omega | decide); clear hF a; intro a hF))
    (first | (apply t_load (i := 8) hF rfl rfl rfl; (repeat (first | exact List.mem_cons_self | refine List.mem_cons_of_mem _ ?_)); exact rfl; exact rfl; kernel_rfl; exact hM.sm; exact (fun _ _ _ h => h); clear hF a; intro a hF))
    (first | (refine t_pure (i := 9) hF rfl rfl rfl rfl (by kernel_rfl) hM.sm (fun _ _ _ h => h) ?_ ?_; (first | exact trivial | omega | decide); clear hF a; intro a hF))
    (first | (refine t_pure (i := 10) hF rfl rfl rfl rfl (by kernel_rfl) hM.sm (fun _ _ _ h => h) ?_ ?_; (first | exact trivial | omega | decide); clear hF a; intro a hF))
    (first | (refine t_pure (i := 11) hF rfl rfl rfl rfl (by kernel_rfl) hM.sm (fun _ _ _ h => h) ?_ ?_; (first | exact trivial | omega | decide); clear hF a; intro a hF))
    (first | (apply t_load (i := 12) hF rfl rfl rfl; (repeat (first | exact List.mem_cons_self | refine List.mem_cons_of_mem _ ?_)); exact rfl; exact rfl; kernel_rfl; exact hM.sm; exact (fun _ _ _ h => h); clear hF a; intro a hF))
    (first | (refine t_pure (i := 13) hF rfl rfl rfl rfl (by kernel_rfl) hM.sm (fun _ _ _ h => h) ?_ ?_; (first | exact trivial | omega | decide); clear hF a; intro a hF))
    (first | (refine t_pure (i := 14) hF rfl rfl rfl rfl (by kernel_rfl) hM.sm (fun _ _ _ h => h) ?_ ?_; (first | exact trivial | omega | decide); clear hF a; intro a hF))
    (first | (refine t_pure (i := 15) hF rfl rfl rfl rfl (by kernel_rfl) hM.sm (fun _ _ _ h => h) ?_ ?_; (first | exact trivial | omega | decide); clear hF a; intro a hF))
    (first | (refine t_pure (i := 17) hF rfl rfl rfl rfl (by kernel_rfl) hM.sm (fun _ _ _ h => h) ?_ ?_; (first | exact trivial | omega | decide); clear hF a; intro a hF))
    refine t_one (i := 16) hF rfl (by kernel_rfl) rfl ?_
    intro K hK
    ((apply x_loadR hF hM); exact rfl; (repeat (first | exact List.mem_cons_self | refine List.mem_cons_of_mem _ ?_)); exact rfl; exact rfl; (first | with_reducible assumption | (simp only [Int.toNat_natCast]; with_reducible assumption)); clear hF a; intro a hF)
    refine hK _ _ (fun _ => (hM.sm.sub (fun x hx => by repeat (first | exact hx | refine List.mem_cons_of_mem _ ?_)) (fun _ h => by repeat (first | exact h | refine List.mem_cons_of_mem _ ?_)))) ?_; clear hK
    (first | (refine t_pure (i := 18) hF rfl rfl rfl rfl (by kernel_rfl) (hM.sm.sub (fun x hx => by repeat (first | exact hx | refine List.mem_cons_of_mem _ ?_)) (fun _ h => by repeat (first | exact h | refine List.mem_cons_of_mem _ ?_))) (fun _ _ _ h => h) ?_ ?_; (first | exact trivial | omega | decide); clear hF a; intro a hF))
    refine t_one (i := 19) hF rfl (by kernel_rfl) rfl ?_
    intro K hK
    (refine x_lit hF hM rfl rfl rfl ?_; clear hF hM a; intro bl w a hM hF)
    refine hK _ _ (fun _ => (hM.sm.sub (fun x hx => by repeat (first | exact hx | refine List.mem_cons_of_mem _ ?_)) (fun _ h => by repeat (first | exact h | refine List.mem_cons_of_mem _ ?_)))) ?_; clear hK
    refine t_one (i := 20) hF rfl (by kernel_rfl) rfl ?_
    intro K hK
    (apply x_app hF hM rfl rfl rfl; (repeat (first | exact List.mem_cons_self | refine List.mem_cons_of_mem _ ?_)); (repeat (first | exact Kth.z | apply Kth.s)); exact rfl; exact rfl; exact rfl; exact rfl; omega; clear hF hM a; intro g cap w a hM hF; dsimp only [List.set] at hM)
    refine hK _ _ (fun _ => (hM.sm.sub (fun x hx => by repeat (first | exact hx | refine List.mem_cons_of_mem _ ?_)) (fun _ h => by repeat (first | exact h | refine List.mem_cons_of_mem _ ?_)))) ?_; clear hK
    (first | (refine t_pure (i := 21) hF rfl rfl rfl rfl (by kernel_rfl) (hM.sm.sub (fun x hx => by repeat (first | exact hx | refine List.mem_cons_of_mem _ ?_)) (fun _ h => by repeat (first | exact h | refine List.mem_cons_of_mem _ ?_))) (fun _ _ _ h => h) ?_ ?_; (first | exact trivial | omega | decide); clear hF a; intro a hF))
    (first | (refine t_pure (i := 22) hF rfl rfl rfl rfl (by kernel_rfl) (hM.sm.sub (fun x hx => by repeat (first | exact hx | refine List.mem_cons_of_mem _ ?_)) (fun _ h => by repeat (first | exact h | refine List.mem_cons_of_mem _ ?_))) (fun _ _ _ h => h) ?_ ?_; (first | exact trivial | omega | decide); clear hF a; intro a hF))
    refine t_one (i := 23) hF rfl (by kernel_rfl) rfl ?_
    intro K hK
    (apply x_store hF hM rfl rfl rfl; (repeat (first | exact Upd.z | apply Upd.s)); exact rfl; exact rfl; exact rfl; clear hF hM a; intro w a hM hF)
    refine hK _ _ (fun h => by cases h) ?_; clear hK
    refine t_done (by kernel_rfl) ?_
    (repeat (first | (with_reducible refine c_region ?_) | (with_reducible refine s_nil ?_) | (with_reducible refine q_then_n ?_) | ((with_reducible apply s_pure hF); exact rfl; exact rfl; exact rfl; (first | exact trivial | omega | exact ⟨Int.natCast_nonneg _, Int.ofNat_lt.2 (by assumption)⟩ | decide); clear hF a; intro a hF) | ((with_reducible apply s_store hF hM); exact rfl; exact rfl; exact rfl; exact rfl; (repeat (first | exact Upd.z | apply Upd.s)); exact rfl; exact rfl; exact rfl; clear hM; intro w hM) | (with_reducible refine q_blk_n ?_)))
    refine ⟨m - 1, by omega, k + 1, .slice (some ⟨g, 0, none⟩) (k + 1 + 1) cap, by omega, hF.sub (by repeat (first | exact Sub.nil | refine Sub.cons rfl (by first | with_reducible rfl | (refine congrArg (Value.int _) ?_; omega) | exact rfl) ?_)), ?_⟩
    rw [Car.sums_succ, P56.sum_take_step hx, List.map_append, Car.last_step hx]
    exact hM.sub (List.Sublist.cons _ (List.Sublist.refl _)) (List.Sublist.refl _) (fun _ h => h)
  · obtain ⟨au, cu, rfl, hru, hlu⟩ := hM.row List.mem_cons_self
    obtain rfl : k = C.length := by omega
    (repeat' (first | (with_reducible refine w_seq ?_) | (with_reducible refine c_region ?_) | (with_reducible refine s_nil ?_) | (with_reducible refine q_then_n ?_) | ((with_reducible apply s_pure hF); exact rfl; exact rfl; exact rfl; (first | exact trivial | omega | exact ⟨Int.natCast_nonneg _, Int.ofNat_lt.2 (by assumption)⟩ | decide); clear hF a; intro a hF) | (with_reducible refine w_exit ?_) | (with_reducible refine w_ret ?_) | (with_reducible refine q_then_x ?_) | (with_reducible refine q_blk_x ?_) | ((with_reducible apply c_false2 hF); exact rfl; (first | with_reducible rfl | (refine congrArg Value.bool ?_; focus (simp; done))))))
    (apply f_ret Try.results82 hF hM; (repeat (first | exact RL.nil | (apply RL.tmp; exact rfl) | (apply RL.cell; exact rfl; (repeat (first | exact List.mem_cons_self | refine List.mem_cons_of_mem _ ?_)); exact rfl))); refine Ret.mk hM.since ?_; dsimp only [resV])
    have h1 := hM.boxFact (List.mem_cons_self)
    have h2 := hM.rowFact (List.mem_cons_self)
    refine (h1.and h2).imp fun w' k => ⟨_, au, cu, rfl, ?_, k.2⟩
    have := k.1
    rw [List.take_length] at this
    exact this
end Go.Proofs.Ytabfhoipclbeeaa

