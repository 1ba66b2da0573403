/- Texts of this seat, one behind the other: Ke Kf Kn Kg Kh Va Vb Vc Ki Pl2 Kj V4 Kk Kl Ko Kp Chunk Pl3 Ql1 Pl4 Pl5 Pl6 Search Pl7 Ql2 Ql3 Ql4 Ql5 Ql6 Ql7 Qs Kq Kr Ks Kt Ku Kv Kw Ark Kx Ky Kz Na Nf Ng Nh Ni Nj Nk. -/
import Derived.Deep.QuietTactic
import Derived.BigQuiet
import Derived.RangeFuncBox
import Derived.RangeFuncLeaves
import Derived.RangeFuncNested
import Derived.RangeFuncBound
import Derived.RangeFuncCalls
import Derived.Shelf.Abstract
import Derived.Shelf.RegionOpen
import Derived.WalkKit
import Derived.OwnWalkIn
import Derived.TacticsInMore
import Derived.LoopNIn
import Derived.LoopIn
import Derived.BigRegionIn
import Derived.Deep.RegionLaw
import Derived.StillTactics
import Derived.Laws.Pointers
import Derived.Laws.EntriesVeiled
import Derived.Test.YtabfhoipclbeeaaQVCc
set_option linter.unusedSimpArgs false
set_option linter.unusedVariables false
set_option linter.unusedSectionVars false
set_option maxRecDepth 3000
/- certificate: Encode. -/
namespace Go.Proofs.Ytabfhoipclbeeaa
open Go.RowKit Go.Shelf C55 K57
namespace K57
def encCu (c : Cu) : List Int := putsL c.V ++ puts c.S.toNat
def encB (c : Ce) : List Int := encCu c.A ++ encCu c.S ++ puts c.P.toNat ++ puts c.L.toNat ++ puts c.D.toNat ++ puts c.B.toNat
def encE (c : Ce) : Int := if chkE c ≠ 0 then chkE c else if 65536 < (encB c).length then 5 else 0
end K57
theorem PutIntF_c (n : Nat) (q : Int) (hq : q = n) (hn : n ≤ 9007199254740991) (a0 : Option Addr) (c0 : Nat) (ys : List Int) (m : Nat) (hm : ys.length = m) (own : Nat → Prop) (W : World) (hl : ∀ b, own b → b < W.heap.size) (hv : Has own W (RdF (Value.int .u8) a0 ys)) (hb : m ≤ 10000000000) :
    Calls Try.prog 64 ⟨[.slice a0 m c0, .int .i64 q]⟩ W (Ret W fun v w' => ∃ a' c', v = .slice a' (m + (puts n).length) c' ∧ Has own w' (RdF (Value.int .u8) a' (ys ++ puts n)) ∧ m + (puts n).length ≤ c') :=
  (PutInt_z n q hq hn a0 c0 ys m hm own W hl hv hb).mono fun _ _ ⟨v, h1, h2, a', c', h3, hO⟩ => ⟨v, h1, h2, a', c', h3, hO.fact hl⟩
set_option maxHeartbeats 4000000 in
theorem ceEncode_c (c : Ce) (a1 a2 : Option Addr) (c1 c2 : Nat) (l1 : c.A.V.length ≤ 9223372036854775807) (m1 : c.A.V.length ≤ c1) (l2 : c.S.V.length ≤ 9223372036854775807) (m2 : c.S.V.length ≤ c2) (own : Nat → Prop) (W : World) (hl : ∀ b, own b → b < W.heap.size) (hA : Has own W (RdF (Value.int .i64) a1 c.A.V)) (hS : Has own W (RdF (Value.int .i64) a2 c.S.V)) :
    Calls Try.prog 28 ⟨[.agg ⟨ceL c a1 c1 a2 c2⟩]⟩ W (Ret W fun v w' => (encE c ≠ 0 ∧ v = .tuple #[.slice none 0 0, .int .i64 (encE c)]) ∨ (encE c = 0 ∧ ∃ a' c', v = .tuple #[.slice a' (encB c).length c', .int .i64 0] ∧ Has own w' (RdF (Value.int .u8) a' (encB c)) ∧ (encB c).length ≤ c')) := by
  have hM := ((Mm.start hl).known hA).known hS
  have hK := fun {own : Nat → Prop} (W : World) (hl : ∀ b, own b → b < W.heap.size) (hA : Has own W (RdF (Value.int .i64) a1 c.A.V)) (hS : Has own W (RdF (Value.int .i64) a2 c.S.V)) => ceCheck_c c a1 a2 c1 c2 l1 m1 l2 m2 own W hl hA hS
  refine f_start Try.func28 rfl Try.ntmps28 rfl rfl ?_; intro a hF
  by_cases hc : chkE c = 0
  case neg =>
    have he : encE c = chkE c := by unfold encE; rw [if_pos hc]
    rw [he]
    (repeat' (first | (with_reducible refine w_seq ?_) | (with_reducible refine c_region ?_) | (with_reducible refine s_nil ?_) | ((with_reducible apply s_call (f := 19) hF hM); exact rfl; exact rfl; exact rfl; exact rfl; exact rfl; exact (hK _ hM.lt (hM.facts (RdF (Value.int .i64) a1 c.A.V) (by (repeat (first | exact List.mem_cons_self | refine List.mem_cons_of_mem _ ?_)))) (hM.facts (RdF (Value.int .i64) a2 c.S.V) (by (repeat (first | exact List.mem_cons_self | refine List.mem_cons_of_mem _ ?_))))); clear hF hM a; rintro v w a rfl - hM hF) | (with_reducible refine q_then_n ?_) | ((with_reducible apply s_pure hF); exact rfl; exact rfl; exact rfl; (first | exact trivial | omega | exact ⟨Int.natCast_nonneg _, Int.ofNat_lt.2 (by assumption)⟩ | decide); clear hF a; intro a hF) | ((with_reducible apply s_load hF hM); exact rfl; exact rfl; (repeat (first | exact List.mem_cons_self | refine List.mem_cons_of_mem _ ?_)); exact rfl; exact rfl; clear hF a; intro a hF) | ((with_reducible apply s_box hF hM); exact rfl; exact rfl; exact rfl; exact rfl; clear hF hM a; intro b w a hM hF) | (with_reducible refine w_ret ?_) | (with_reducible refine q_then_r ?_) | ((with_reducible apply c_dec hF); exact rfl; all_goals intro hc; all_goals (try (exfalso; omega)))))
    (apply f_ret Try.results28 hF hM; (repeat (first | exact RL.nil | (apply RL.tmp; exact rfl) | (apply RL.cell; exact rfl; (repeat (first | exact List.mem_cons_self | refine List.mem_cons_of_mem _ ?_)); exact rfl))); refine Ret.mk hM.since ?_; dsimp only [resV])
    exact .inl ⟨hc, rfl⟩
  obtain ⟨hb, hB⟩ := chk_bok hc
  have hP := hb.num
  have htr := hb.tr
  have hAs := hb.A.s
  have hSs := hb.S.s
  have hA1 := hb.A.l1
  have hS1 := hb.S.l1
  have htr0 : 0 ≤ tr c := (rch_bd hb.S (x := most c) (by have := most_rg hb.A ⟨hP.1, hP.2.1⟩; omega) (fun e => by
    have := fpos_le c.S.V (most c)
    rcases Nat.lt_or_ge (fpos c.S.V (most c)) c.S.V.length with h | h
    · exact h
    · have hnv := hb.nv
      unfold never at hnv
      rw [decide_eq_true (by omega), decide_eq_true e] at hnv
      cases hnv)).1
  have hBr : 0 ≤ c.B ∧ c.B ≤ 9007199254740991 := by unfold bndV at hB; omega
  have vA : ∀ x ∈ c.A.V, 0 ≤ x ∧ x ≤ 9007199254740991 := fun x hx => by have := hb.A.v x hx; omega
  have vS : ∀ x ∈ c.S.V, 0 ≤ x ∧ x ≤ 9007199254740991 := fun x hx => by have := hb.S.v x hx; omega
  have n1 : (putsL c.A.V).length ≤ 40000 := by
    have h1 := puts_len8 (n := c.A.V.length) (by omega)
    have h2 := flat_len8 vA
    unfold putsL
    rw [List.length_append]
    omega
  have n2 : (putsL c.S.V).length ≤ 40000 := by
    have h1 := puts_len8 (n := c.S.V.length) (by omega)
    have h2 := flat_len8 vS
    unfold putsL
    rw [List.length_append]
    omega
  have p1 := puts_len8 (n := c.A.S.toNat) (by omega)
  have p2 := puts_len8 (n := c.S.S.toNat) (by omega)
  have p3 := puts_len8 (n := c.P.toNat) (by omega)
  have p4 := puts_len8 (n := c.L.toNat) (by omega)
  have p5 := puts_len8 (n := c.D.toNat) (by omega)
  rw [hc] at hK
  (repeat (first | (with_reducible refine w_seq ?_) | (with_reducible refine c_region ?_) | (with_reducible refine s_nil ?_) | ((with_reducible apply s_call (f := 19) hF hM); exact rfl; exact rfl; exact rfl; exact rfl; exact rfl; exact (hK _ hM.lt (hM.facts (RdF (Value.int .i64) a1 c.A.V) (by (repeat (first | exact List.mem_cons_self | refine List.mem_cons_of_mem _ ?_)))) (hM.facts (RdF (Value.int .i64) a2 c.S.V) (by (repeat (first | exact List.mem_cons_self | refine List.mem_cons_of_mem _ ?_))))); clear hF hM a; rintro v w a rfl - hM hF) | (with_reducible refine q_then_n ?_) | ((with_reducible apply s_pure hF); exact rfl; exact rfl; exact rfl; (first | exact trivial | omega | exact ⟨Int.natCast_nonneg _, Int.ofNat_lt.2 (by assumption)⟩ | decide); clear hF a; intro a hF) | ((with_reducible apply s_load hF hM); exact rfl; exact rfl; (repeat (first | exact List.mem_cons_self | refine List.mem_cons_of_mem _ ?_)); exact rfl; exact rfl; clear hF a; intro a hF) | ((with_reducible apply s_box hF hM); exact rfl; exact rfl; exact rfl; exact rfl; clear hF hM a; intro b w a hM hF) | ((with_reducible apply s_lit hF hM); exact rfl; exact rfl; exact rfl; exact rfl; clear hF hM a; intro bl w a hM hF) | (with_reducible refine w_skip ?_) | (with_reducible refine w_block ?_) | ((with_reducible apply c_false2 hF); exact rfl; (first | with_reducible rfl | (refine congrArg Value.bool ?_; focus (simp; done))))))
  refine c_roll 3 ?_
  (repeat (first | (with_reducible refine w_seq ?_) | (with_reducible refine c_region ?_) | (with_reducible refine s_nil ?_) | (with_reducible refine q_then_n ?_) | ((with_reducible apply s_pure hF); exact rfl; exact rfl; exact rfl; (first | exact trivial | omega | exact ⟨Int.natCast_nonneg _, Int.ofNat_lt.2 (by assumption)⟩ | decide); clear hF a; intro a hF) | ((with_reducible apply s_loadB hF hM); exact rfl; exact rfl; (repeat (first | exact List.mem_cons_self | refine List.mem_cons_of_mem _ ?_)); exact rfl; exact rfl; clear hF a; intro a hF) | ((with_reducible apply s_store hF hM); exact rfl; exact rfl; exact rfl; exact rfl; (repeat (first | exact Upd.z | apply Upd.s)); exact rfl; exact rfl; exact rfl; clear hM; intro w hM) | ((with_reducible apply s_alloc hF hM); exact rfl; exact rfl; exact rfl; clear hF hM a; intro b w a hM hF) | (with_reducible refine w_skip ?_) | (with_reducible refine r_succ ?_) | (with_reducible refine w_block ?_) | ((with_reducible apply c_true2 hF); exact rfl; (first | with_reducible rfl | (refine congrArg Value.bool ?_; focus (simp; done))))))
  refine c_draw (fun i => Nat.ble 8 i) hM ?_; clear hM; intro w hM
  (first | (refine t_pure (i := 0) hF rfl rfl rfl rfl (by kernel_rfl) hM.sm (fun _ _ _ h => h) ?_ ?_; (first | exact trivial | omega | decide); clear hF a; intro a hF))
  (first | (refine t_pure (i := 1) hF rfl rfl rfl rfl (by kernel_rfl) hM.sm (fun _ _ _ h => h) ?_ ?_; (first | exact trivial | omega | decide); clear hF a; intro a hF))
  (first | (apply t_load (i := 2) hF rfl rfl rfl; (repeat (first | exact List.mem_cons_self | refine List.mem_cons_of_mem _ ?_)); exact rfl; exact rfl; kernel_rfl; exact hM.sm; exact (fun _ _ _ h => h); clear hF a; intro a hF))
  (first | (refine t_pure (i := 4) hF rfl rfl rfl rfl (by kernel_rfl) hM.sm (fun _ _ _ h => h) ?_ ?_; (first | exact trivial | omega | decide); clear hF a; intro a hF))
  (first | (apply t_load (i := 5) hF rfl rfl rfl; (repeat (first | exact List.mem_cons_self | refine List.mem_cons_of_mem _ ?_)); exact rfl; exact rfl; kernel_rfl; exact hM.sm; exact (fun _ _ _ h => h); clear hF a; intro a hF))
  refine t_one (i := 3) hF rfl (by kernel_rfl) rfl ?_
  intro K hK
  (apply x_call hF hM; exact rfl; exact rfl; exact rfl; exact rfl; exact (PutInts_c c.A.V vA (by omega) [] (by simp) none a1 0 0 c1 rfl _ _ hM.lt RdF.nil (hM.facts (RdF (Value.int .i64) a1 c.A.V) (by (repeat (first | with_reducible exact List.mem_cons_self | refine List.mem_cons_of_mem _ ?_))))); clear hF hM a; rintro v w a ⟨a3, c3, rfl, h3, k3⟩ - hM hF)
  replace hM := hM.addFact h3
  refine hK _ _ (fun _ => (hM.sm.sub (fun x hx => by repeat (first | exact hx | refine List.mem_cons_of_mem _ ?_)) (fun _ h => by repeat (first | exact h | refine List.mem_cons_of_mem _ ?_)))) ?_; clear hK
  refine t_one (i := 6) hF rfl (by kernel_rfl) rfl ?_
  intro K hK
  (apply x_call hF hM; exact rfl; exact rfl; exact rfl; exact rfl; exact (PutIntF_c c.A.S.toNat _ (by omega) (by omega) a3 c3 ([] ++ putsL c.A.V) _ (by simp) _ _ hM.lt (hM.facts (RdF (Value.int .u8) a3 ([] ++ putsL c.A.V)) (by (repeat (first | with_reducible exact List.mem_cons_self | refine List.mem_cons_of_mem _ ?_)))) (by omega)); clear hF hM a; rintro v w a ⟨a4, c4, rfl, h4, k4⟩ - hM hF)
  replace hM := hM.addFact (f := RdF (Value.int .u8) a4 (encCu c.A)) (by simpa [encCu] using h4); rw [show 0 + (putsL c.A.V).length + (puts c.A.S.toNat).length = (encCu c.A).length by simp [encCu]] at hF
  refine hK _ _ (fun _ => (hM.sm.sub (fun x hx => by repeat (first | exact hx | refine List.mem_cons_of_mem _ ?_)) (fun _ h => by repeat (first | exact h | refine List.mem_cons_of_mem _ ?_)))) ?_; clear hK
  (first | (refine t_pure (i := 7) hF rfl rfl rfl rfl (by kernel_rfl) (hM.sm.sub (fun x hx => by repeat (first | exact hx | refine List.mem_cons_of_mem _ ?_)) (fun _ h => by repeat (first | exact h | refine List.mem_cons_of_mem _ ?_))) (fun _ _ _ h => h) ?_ ?_; (first | exact trivial | omega | decide); clear hF a; intro a hF))
  refine t_done (by kernel_rfl) ?_
  have q1 : (encCu c.A).length ≤ 40008 := by unfold encCu; rw [List.length_append]; omega
  (repeat (first | (with_reducible refine w_seq ?_) | (with_reducible refine c_region ?_) | (with_reducible refine s_nil ?_) | (with_reducible refine q_then_n ?_) | ((with_reducible apply s_pure hF); exact rfl; exact rfl; exact rfl; (first | exact trivial | omega | exact ⟨Int.natCast_nonneg _, Int.ofNat_lt.2 (by assumption)⟩ | decide); clear hF a; intro a hF) | ((with_reducible apply s_loadB hF hM); exact rfl; exact rfl; (repeat (first | exact List.mem_cons_self | refine List.mem_cons_of_mem _ ?_)); exact rfl; exact rfl; clear hF a; intro a hF) | ((with_reducible apply s_store hF hM); exact rfl; exact rfl; exact rfl; exact rfl; (repeat (first | exact Upd.z | apply Upd.s)); exact rfl; exact rfl; exact rfl; clear hM; intro w hM) | ((with_reducible apply s_alloc hF hM); exact rfl; exact rfl; exact rfl; clear hF hM a; intro b w a hM hF) | (with_reducible refine w_skip ?_) | (with_reducible refine r_succ ?_) | (with_reducible refine w_block ?_) | (with_reducible refine q_blk_n ?_) | ((with_reducible apply c_true2 hF); exact rfl; (first | with_reducible rfl | (refine congrArg Value.bool ?_; focus (simp; done))))))
  refine c_draw (fun i => Nat.ble 8 i) hM ?_; clear hM; intro w hM
  (first | (refine t_pure (i := 0) hF rfl rfl rfl rfl (by kernel_rfl) hM.sm (fun _ _ _ h => h) ?_ ?_; (first | exact trivial | omega | decide); clear hF a; intro a hF))
  (first | (refine t_pure (i := 1) hF rfl rfl rfl rfl (by kernel_rfl) hM.sm (fun _ _ _ h => h) ?_ ?_; (first | exact trivial | omega | decide); clear hF a; intro a hF))
  (first | (apply t_load (i := 2) hF rfl rfl rfl; (repeat (first | exact List.mem_cons_self | refine List.mem_cons_of_mem _ ?_)); exact rfl; exact rfl; kernel_rfl; exact hM.sm; exact (fun _ _ _ h => h); clear hF a; intro a hF))
  (first | (refine t_pure (i := 4) hF rfl rfl rfl rfl (by kernel_rfl) hM.sm (fun _ _ _ h => h) ?_ ?_; (first | exact trivial | omega | decide); clear hF a; intro a hF))
  (first | (apply t_load (i := 5) hF rfl rfl rfl; (repeat (first | exact List.mem_cons_self | refine List.mem_cons_of_mem _ ?_)); exact rfl; exact rfl; kernel_rfl; exact hM.sm; exact (fun _ _ _ h => h); clear hF a; intro a hF))
  refine t_one (i := 3) hF rfl (by kernel_rfl) rfl ?_
  intro K hK
  (apply x_call hF hM; exact rfl; exact rfl; exact rfl; exact rfl; exact (PutInts_c c.S.V vS (by omega) (encCu c.A) (by omega) a4 a2 _ c4 c2 rfl _ _ hM.lt (hM.facts (RdF (Value.int .u8) a4 (encCu c.A)) (by (repeat (first | with_reducible exact List.mem_cons_self | refine List.mem_cons_of_mem _ ?_)))) (hM.facts (RdF (Value.int .i64) a2 c.S.V) (by (repeat (first | with_reducible exact List.mem_cons_self | refine List.mem_cons_of_mem _ ?_))))); clear hF hM a; rintro v w a ⟨a5, c5, rfl, h5, k5⟩ - hM hF)
  replace hM := hM.addFact h5
  refine hK _ _ (fun _ => (hM.sm.sub (fun x hx => by repeat (first | exact hx | refine List.mem_cons_of_mem _ ?_)) (fun _ h => by repeat (first | exact h | refine List.mem_cons_of_mem _ ?_)))) ?_; clear hK
  refine t_one (i := 6) hF rfl (by kernel_rfl) rfl ?_
  intro K hK
  (apply x_call hF hM; exact rfl; exact rfl; exact rfl; exact rfl; exact (PutIntF_c c.S.S.toNat _ (by omega) (by omega) a5 c5 (encCu c.A ++ putsL c.S.V) _ (by simp) _ _ hM.lt (hM.facts (RdF (Value.int .u8) a5 (encCu c.A ++ putsL c.S.V)) (by (repeat (first | with_reducible exact List.mem_cons_self | refine List.mem_cons_of_mem _ ?_)))) (by omega)); clear hF hM a; rintro v w a ⟨a6, c6, rfl, h6, k6⟩ - hM hF)
  replace hM := hM.addFact (f := RdF (Value.int .u8) a6 (encCu c.A ++ encCu c.S)) (by simpa [encCu] using h6); rw [show (encCu c.A).length + (putsL c.S.V).length + (puts c.S.S.toNat).length = (encCu c.A ++ encCu c.S).length by simp [encCu]; omega] at hF
  refine hK _ _ (fun _ => (hM.sm.sub (fun x hx => by repeat (first | exact hx | refine List.mem_cons_of_mem _ ?_)) (fun _ h => by repeat (first | exact h | refine List.mem_cons_of_mem _ ?_)))) ?_; clear hK
  (first | (refine t_pure (i := 7) hF rfl rfl rfl rfl (by kernel_rfl) (hM.sm.sub (fun x hx => by repeat (first | exact hx | refine List.mem_cons_of_mem _ ?_)) (fun _ h => by repeat (first | exact h | refine List.mem_cons_of_mem _ ?_))) (fun _ _ _ h => h) ?_ ?_; (first | exact trivial | omega | decide); clear hF a; intro a hF))
  refine t_done (by kernel_rfl) ?_
  have q2 : (encCu c.S).length ≤ 40008 := by unfold encCu; rw [List.length_append]; omega
  have q3 : (encCu c.A ++ encCu c.S).length ≤ 80016 := by rw [List.length_append]; omega
  (repeat (first | (with_reducible refine w_seq ?_) | (with_reducible refine c_region ?_) | (with_reducible refine s_nil ?_) | (with_reducible refine q_then_n ?_) | ((with_reducible apply s_pure hF); exact rfl; exact rfl; exact rfl; (first | exact trivial | omega | exact ⟨Int.natCast_nonneg _, Int.ofNat_lt.2 (by assumption)⟩ | decide); clear hF a; intro a hF) | ((with_reducible apply s_load hF hM); exact rfl; exact rfl; (repeat (first | exact List.mem_cons_self | refine List.mem_cons_of_mem _ ?_)); exact rfl; exact rfl; clear hF a; intro a hF) | ((with_reducible apply s_lit hF hM); exact rfl; exact rfl; exact rfl; exact rfl; clear hF hM a; intro bl w a hM hF) | (with_reducible refine r_succ ?_) | (with_reducible refine w_block ?_) | (with_reducible refine w_exit ?_) | (with_reducible refine q_then_x ?_) | (with_reducible refine q_blk_n ?_) | (with_reducible refine q_blk_x ?_) | ((with_reducible apply c_false2 hF); exact rfl; (first | with_reducible rfl | (refine congrArg Value.bool ?_; focus (simp; done))))))
  refine c_roll 5 ?_
  (repeat (first | (with_reducible refine w_seq ?_) | (with_reducible refine c_region ?_) | (with_reducible refine s_nil ?_) | (with_reducible refine q_then_n ?_) | ((with_reducible apply s_pure hF); exact rfl; exact rfl; exact rfl; (first | exact trivial | omega | exact ⟨Int.natCast_nonneg _, Int.ofNat_lt.2 (by assumption)⟩ | decide); clear hF a; intro a hF) | ((with_reducible apply s_loadB hF hM); exact rfl; exact rfl; (repeat (first | exact List.mem_cons_self | refine List.mem_cons_of_mem _ ?_)); exact rfl; exact rfl; clear hF a; intro a hF) | (with_reducible refine w_skip ?_) | (with_reducible refine r_succ ?_) | (with_reducible refine w_block ?_) | ((with_reducible apply c_true2 hF); exact rfl; (first | with_reducible rfl | (refine congrArg Value.bool ?_; focus (simp; done))))))
  (((with_reducible apply s_call (f := 64) hF hM); exact rfl; exact rfl; exact rfl; exact rfl; exact rfl; exact (PutIntF_c c.P.toNat _ (by omega) (by omega) a6 c6 (encCu c.A ++ encCu c.S) _ rfl _ _ hM.lt (hM.facts (RdF (Value.int .u8) a6 (encCu c.A ++ encCu c.S)) (by (repeat (first | with_reducible exact List.mem_cons_self | refine List.mem_cons_of_mem _ ?_)))) (by omega)); clear hF hM a; rintro v w a ⟨a7, c7, rfl, h7, k7⟩ - hM hF; replace hM := hM.addFact h7; rw [← List.length_append] at hF))
  have q7 : (encCu c.A ++ encCu c.S ++ puts c.P.toNat).length ≤ 80024 := by rw [List.length_append]; omega
  (repeat (first | (with_reducible refine w_seq ?_) | (with_reducible refine c_region ?_) | (with_reducible refine s_nil ?_) | (with_reducible refine q_then_n ?_) | ((with_reducible apply s_pure hF); exact rfl; exact rfl; exact rfl; (first | exact trivial | omega | exact ⟨Int.natCast_nonneg _, Int.ofNat_lt.2 (by assumption)⟩ | decide); clear hF a; intro a hF) | ((with_reducible apply s_loadB hF hM); exact rfl; exact rfl; (repeat (first | exact List.mem_cons_self | refine List.mem_cons_of_mem _ ?_)); exact rfl; exact rfl; clear hF a; intro a hF) | (with_reducible refine w_skip ?_) | (with_reducible refine r_succ ?_) | (with_reducible refine w_block ?_) | (with_reducible refine q_blk_n ?_) | ((with_reducible apply c_true2 hF); exact rfl; (first | with_reducible rfl | (refine congrArg Value.bool ?_; focus (simp; done))))))
  (((with_reducible apply s_call (f := 64) hF hM); exact rfl; exact rfl; exact rfl; exact rfl; exact rfl; exact (PutIntF_c c.L.toNat _ (by omega) (by omega) a7 c7 (encCu c.A ++ encCu c.S ++ puts c.P.toNat) _ rfl _ _ hM.lt (hM.facts (RdF (Value.int .u8) a7 (encCu c.A ++ encCu c.S ++ puts c.P.toNat)) (by (repeat (first | with_reducible exact List.mem_cons_self | refine List.mem_cons_of_mem _ ?_)))) (by omega)); clear hF hM a; rintro v w a ⟨a8, c8, rfl, h8, k8⟩ - hM hF; replace hM := hM.addFact h8; rw [← List.length_append] at hF))
  have q8 : (encCu c.A ++ encCu c.S ++ puts c.P.toNat ++ puts c.L.toNat).length ≤ 80032 := by rw [List.length_append]; omega
  (repeat (first | (with_reducible refine w_seq ?_) | (with_reducible refine c_region ?_) | (with_reducible refine s_nil ?_) | (with_reducible refine q_then_n ?_) | ((with_reducible apply s_pure hF); exact rfl; exact rfl; exact rfl; (first | exact trivial | omega | exact ⟨Int.natCast_nonneg _, Int.ofNat_lt.2 (by assumption)⟩ | decide); clear hF a; intro a hF) | ((with_reducible apply s_loadB hF hM); exact rfl; exact rfl; (repeat (first | exact List.mem_cons_self | refine List.mem_cons_of_mem _ ?_)); exact rfl; exact rfl; clear hF a; intro a hF) | (with_reducible refine w_skip ?_) | (with_reducible refine r_succ ?_) | (with_reducible refine w_block ?_) | (with_reducible refine q_blk_n ?_) | ((with_reducible apply c_true2 hF); exact rfl; (first | with_reducible rfl | (refine congrArg Value.bool ?_; focus (simp; done))))))
  (((with_reducible apply s_call (f := 64) hF hM); exact rfl; exact rfl; exact rfl; exact rfl; exact rfl; exact (PutIntF_c c.D.toNat _ (by omega) (by omega) a8 c8 (encCu c.A ++ encCu c.S ++ puts c.P.toNat ++ puts c.L.toNat) _ rfl _ _ hM.lt (hM.facts (RdF (Value.int .u8) a8 (encCu c.A ++ encCu c.S ++ puts c.P.toNat ++ puts c.L.toNat)) (by (repeat (first | with_reducible exact List.mem_cons_self | refine List.mem_cons_of_mem _ ?_)))) (by omega)); clear hF hM a; rintro v w a ⟨a9, c9, rfl, h9, k9⟩ - hM hF; replace hM := hM.addFact h9; rw [← List.length_append] at hF))
  have q9 : (encCu c.A ++ encCu c.S ++ puts c.P.toNat ++ puts c.L.toNat ++ puts c.D.toNat).length ≤ 80040 := by rw [List.length_append]; omega
  (repeat (first | (with_reducible refine w_seq ?_) | (with_reducible refine c_region ?_) | (with_reducible refine s_nil ?_) | (with_reducible refine q_then_n ?_) | ((with_reducible apply s_pure hF); exact rfl; exact rfl; exact rfl; (first | exact trivial | omega | exact ⟨Int.natCast_nonneg _, Int.ofNat_lt.2 (by assumption)⟩ | decide); clear hF a; intro a hF) | ((with_reducible apply s_loadB hF hM); exact rfl; exact rfl; (repeat (first | exact List.mem_cons_self | refine List.mem_cons_of_mem _ ?_)); exact rfl; exact rfl; clear hF a; intro a hF) | (with_reducible refine w_skip ?_) | (with_reducible refine r_succ ?_) | (with_reducible refine w_block ?_) | (with_reducible refine q_blk_n ?_) | ((with_reducible apply c_true2 hF); exact rfl; (first | with_reducible rfl | (refine congrArg Value.bool ?_; focus (simp; done))))))
  (((with_reducible apply s_call (f := 64) hF hM); exact rfl; exact rfl; exact rfl; exact rfl; exact rfl; exact (PutIntF_c c.B.toNat _ (by omega) (by omega) a9 c9 (encCu c.A ++ encCu c.S ++ puts c.P.toNat ++ puts c.L.toNat ++ puts c.D.toNat) _ rfl _ _ hM.lt (hM.facts (RdF (Value.int .u8) a9 (encCu c.A ++ encCu c.S ++ puts c.P.toNat ++ puts c.L.toNat ++ puts c.D.toNat)) (by (repeat (first | with_reducible exact List.mem_cons_self | refine List.mem_cons_of_mem _ ?_)))) (by omega)); clear hF hM a; rintro v w a ⟨a10, c10, rfl, h10, k10⟩ - hM hF; replace hM := hM.addFact h10; rw [← List.length_append] at hF))
  have hE : encCu c.A ++ encCu c.S ++ puts c.P.toNat ++ puts c.L.toNat ++ puts c.D.toNat ++ puts c.B.toNat = encB c := rfl
  rw [hE] at hM hF
  by_cases hlen : 65536 < (encB c).length
  · have he : encE c = 5 := by unfold encE; rw [if_neg (by omega), if_pos hlen]
    rw [he]
    (repeat' (first | (with_reducible refine w_seq ?_) | (with_reducible refine c_region ?_) | (with_reducible refine s_nil ?_) | (with_reducible refine q_then_n ?_) | ((with_reducible apply s_pure hF); exact rfl; exact rfl; exact rfl; (first | exact trivial | omega | exact ⟨Int.natCast_nonneg _, Int.ofNat_lt.2 (by assumption)⟩ | decide); clear hF a; intro a hF) | (with_reducible refine r_succ ?_) | (with_reducible refine w_exit ?_) | (with_reducible refine w_ret ?_) | (with_reducible refine q_then_x ?_) | (with_reducible refine q_then_r ?_) | (with_reducible refine q_blk_n ?_) | (with_reducible refine q_blk_x ?_) | ((with_reducible apply c_false2 hF); exact rfl; (first | with_reducible rfl | (refine congrArg Value.bool ?_; focus (simp; done)))) | ((with_reducible apply c_dec hF); exact rfl; all_goals intro hc; all_goals (try (exfalso; omega)))))
    (apply f_ret Try.results28 hF hM; (repeat (first | exact RL.nil | (apply RL.tmp; exact rfl) | (apply RL.cell; exact rfl; (repeat (first | exact List.mem_cons_self | refine List.mem_cons_of_mem _ ?_)); exact rfl))); refine Ret.mk hM.since ?_; dsimp only [resV])
    exact .inl ⟨by decide, rfl⟩
  · have he : encE c = 0 := by unfold encE; rw [if_neg (by omega), if_neg hlen]
    rw [he]
    (repeat' (first | (with_reducible refine w_seq ?_) | (with_reducible refine c_region ?_) | (with_reducible refine s_nil ?_) | (with_reducible refine q_then_n ?_) | ((with_reducible apply s_pure hF); exact rfl; exact rfl; exact rfl; (first | exact trivial | omega | exact ⟨Int.natCast_nonneg _, Int.ofNat_lt.2 (by assumption)⟩ | decide); clear hF a; intro a hF) | (with_reducible refine w_skip ?_) | (with_reducible refine r_succ ?_) | (with_reducible refine w_exit ?_) | (with_reducible refine w_ret ?_) | (with_reducible refine q_then_x ?_) | (with_reducible refine q_blk_n ?_) | (with_reducible refine q_blk_x ?_) | ((with_reducible apply c_false2 hF); exact rfl; (first | with_reducible rfl | (refine congrArg Value.bool ?_; focus (simp; done)))) | ((with_reducible apply c_dec hF); exact rfl; all_goals intro hc; all_goals (try (exfalso; omega)))))
    (apply f_ret Try.results28 hF hM; (repeat (first | exact RL.nil | (apply RL.tmp; exact rfl) | (apply RL.cell; exact rfl; (repeat (first | exact List.mem_cons_self | refine List.mem_cons_of_mem _ ?_)); exact rfl))); refine Ret.mk hM.since ?_; dsimp only [resV])
    rw [← List.length_append, hE] at k10
    exact .inr ⟨rfl, a10, c10, rfl, hM.factOut (f := RdF (Value.int .u8) a10 (encB c)) (by (repeat (first | with_reducible exact List.mem_cons_self | refine List.mem_cons_of_mem _ ?_))), k10⟩
end Go.Proofs.Ytabfhoipclbeeaa


/- certificate: Decode. -/
namespace Go.Proofs.Ytabfhoipclbeeaa
open Go.RowKit Go.Shelf C55 K57
/-- A number that is read. -/
def rdI (xs : List Int) : Except Int (Int × List Int) := if (rdNum xs).2.1 ≠ 0 then .error (rdNum xs).2.1 else .ok ((rdNum xs).1, xs.drop (rdNum xs).2.2)
section
variable (xs : List Int) (hxb : ∀ x ∈ xs, 0 ≤ x ∧ x < 256) (hlen : xs.length ≤ 1000000) (a0 : Option Addr) (c0 : Nat) (hc0 : xs.length ≤ c0) (own : Nat → Prop) (W : World) (hl : ∀ b, own b → b < W.heap.size) (hv : Has own W (RdF (Value.int .u8) a0 xs))
include hxb hlen hc0 hl hv
theorem IntF_ok {n : Int} {ys : List Int} (h : rdI xs = .ok (n, ys)) : Calls Try.prog 70 ⟨[.slice a0 xs.length c0]⟩ W (Ret W fun v w' => ∃ a' c', v = .tuple #[.int .i64 n, .slice a' ys.length c', .int .i64 0] ∧ Has own w' (RdF (Value.int .u8) a' ys) ∧ ys.length ≤ c') := by
  unfold rdI at h
  split at h
  · cases h
  · rename_i he
    injection h with h
    injection h with h1 h2
    subst h1 h2
    exact (Int_ok xs hxb hlen a0 c0 hc0 own W hl hv (by omega)).mono fun _ _ ⟨v, e1, e2, a', c', e3, hO⟩ => ⟨v, e1, e2, a', c', e3, hO.fact hl⟩
theorem IntF_err {e : Int} (h : rdI xs = .error e) : Calls Try.prog 70 ⟨[.slice a0 xs.length c0]⟩ W (Ret W fun v _ => v = .tuple #[.int .i64 0, .slice none 0 0, .int .i64 e]) := by
  unfold rdI at h
  split at h
  · rename_i he
    injection h with h
    subst h
    exact Int_err xs hxb hlen a0 c0 hc0 own W hl hv he
  · cases h
end
theorem rdI_err {xs : List Int} {e : Int} (h : rdI xs = .error e) : e ≠ 0 := by
  unfold rdI at h
  split at h
  · rename_i he
    injection h with h
    rw [← h]
    exact he
  · cases h
theorem rdI_ok {xs ys : List Int} {n : Int} (hb : ∀ x ∈ xs, 0 ≤ x ∧ x < 256) (h : rdI xs = .ok (n, ys)) : (∀ y ∈ ys, 0 ≤ y ∧ y < 256) ∧ ys.length ≤ xs.length ∧ 0 ≤ n ∧ n ≤ 9007199254740991 := by
  have hnn := rdNum_nn hb
  unfold rdI at h
  split at h
  · cases h
  · injection h with h
    injection h with h1 h2
    subst h1 h2
    exact ⟨fun y hy => hb y (List.mem_of_mem_drop hy), by simp, hnn⟩
namespace K57
def dec8 (xs : List Int) : Except Int (Ce × List Int) := match rdInts xs with
  | .error e => .error e
  | .ok (v1, xs) => match rdI xs with
  | .error e => .error e
  | .ok (s1, xs) => match rdInts xs with
  | .error e => .error e
  | .ok (v2, xs) => match rdI xs with
  | .error e => .error e
  | .ok (s2, xs) => match rdI xs with
  | .error e => .error e
  | .ok (p, xs) => match rdI xs with
  | .error e => .error e
  | .ok (l, xs) => match rdI xs with
  | .error e => .error e
  | .ok (d, xs) => match rdI xs with
  | .error e => .error e
  | .ok (b, xs) => .ok (⟨⟨v1, s1⟩, ⟨v2, s2⟩, p, l, d, b⟩, xs)
def decC (xs : List Int) : Except Int Ce := if 65536 < xs.length then .error 5 else match dec8 xs with
  | .error e => .error e
  | .ok (c, ys) => if ys.length ≠ 0 then .error 3 else if chkE c ≠ 0 then .error (chkE c) else .ok c
end K57
section
variable (xs : List Int) (hxb : ∀ x ∈ xs, 0 ≤ x ∧ x < 256) (hlen : xs.length ≤ 1000000) (a0 : Option Addr) (c0 : Nat) (hc0 : xs.length ≤ c0) {own : Nat → Prop} {w0 W : World} {L : List Ent} {Fs : List (World → Prop)} (be bc bb : Nat) (xg xr x1 x2 : BoxE) (v0 v1 v2 v3 v4 v5 v6 v7 : Value)
include hxb hlen hc0
theorem num1_ok {n : Int} {ys : List Int} (h : rdI xs = .ok (n, ys)) (hM : Mm own w0 (x1 :: ⟨be, ⟨[.int .i64 0]⟩, 32⟩ :: xg :: ⟨bc, ⟨[v0, v1, v2, v3, v4, v5, v6, v7]⟩, 29⟩ :: xr :: ⟨bb, ⟨[.slice a0 xs.length c0]⟩, 57⟩ :: []) L (RdF (Value.int .u8) a0 xs :: Fs) W) : Calls Try.prog 69 ⟨[.pointer (some ⟨bc, 1, none⟩), .pointer (some ⟨bb, 0, none⟩), .pointer (some ⟨be, 0, none⟩)]⟩ W (Rtn fun _ w' => ∃ a' c', ys.length ≤ c' ∧ Mm own w0 (x1 :: ⟨be, ⟨[.int .i64 0]⟩, 32⟩ :: xg :: ⟨bc, ⟨[v0, .int .i64 n, v2, v3, v4, v5, v6, v7]⟩, 29⟩ :: xr :: ⟨bb, ⟨[.slice a' ys.length c']⟩, 57⟩ :: []) L (RdF (Value.int .u8) a' ys :: RdF (Value.int .u8) a0 xs :: Fs) w') := by
  refine f_start Try.func69 rfl Try.ntmps69 rfl rfl ?_; intro a hF
  (repeat' (first | (with_reducible refine w_seq ?_) | (with_reducible refine c_region ?_) | (with_reducible refine s_nil ?_) | ((with_reducible apply s_call (f := 70) hF hM); exact rfl; exact rfl; exact rfl; exact rfl; exact rfl; exact (IntF_ok xs hxb hlen a0 c0 hc0 _ _ hM.lt (hM.facts (RdF (Value.int .u8) a0 xs) List.mem_cons_self) h); clear hF hM a; rintro v w a ⟨a', c', rfl, hf, hc⟩ - hM hF; replace hM := hM.addFact hf) | ((with_reducible apply s_call (f := 71) hF hM); exact rfl; exact rfl; exact rfl; exact rfl; exact rfl; exact (right_t _ _ hM.lt rfl); clear hF hM a; rintro v w a - - hM hF) | (with_reducible refine q_then_n ?_) | ((with_reducible apply s_pure hF); exact rfl; exact rfl; exact rfl; (first | exact trivial | omega | exact ⟨Int.natCast_nonneg _, Int.ofNat_lt.2 (by assumption)⟩ | decide); clear hF a; intro a hF) | ((with_reducible apply s_load hF hM); exact rfl; exact rfl; (repeat (first | exact List.mem_cons_self | refine List.mem_cons_of_mem _ ?_)); exact rfl; exact rfl; clear hF a; intro a hF) | ((with_reducible apply s_store hF hM); exact rfl; exact rfl; exact rfl; exact rfl; (repeat (first | exact Upd.z | apply Upd.s)); exact rfl; exact rfl; exact rfl; clear hM; intro w hM)))
  (apply f_end Try.results69 hF hM; (repeat (first | exact RL.nil | (apply RL.tmp; exact rfl) | (apply RL.cell; exact rfl; (repeat (first | exact List.mem_cons_self | refine List.mem_cons_of_mem _ ?_)); exact rfl))); try dsimp only [resV])
  exact ⟨a', c', hc, hM⟩
theorem num1_err {e : Int} (h : rdI xs = .error e) (hM : Mm own w0 (x1 :: ⟨be, ⟨[.int .i64 0]⟩, 32⟩ :: xg :: ⟨bc, ⟨[v0, v1, v2, v3, v4, v5, v6, v7]⟩, 29⟩ :: xr :: ⟨bb, ⟨[.slice a0 xs.length c0]⟩, 57⟩ :: []) L (RdF (Value.int .u8) a0 xs :: Fs) W) : Calls Try.prog 69 ⟨[.pointer (some ⟨bc, 1, none⟩), .pointer (some ⟨bb, 0, none⟩), .pointer (some ⟨be, 0, none⟩)]⟩ W (Both (fun _ _ => False) fun p w' => p = failK e ∧ ∃ cs1 cs2, Mm own w0 (xg :: ⟨bc, cs1, 29⟩ :: xr :: ⟨bb, cs2, 57⟩ :: []) L (RdF (Value.int .u8) a0 xs :: Fs) w') := by
  have he := rdI_err h
  refine f_start Try.func69 rfl Try.ntmps69 rfl rfl ?_; intro a hF
  (repeat' (first | (with_reducible refine w_seq ?_) | (with_reducible refine c_region ?_) | (with_reducible refine s_nil ?_) | ((with_reducible apply s_call (f := 70) hF hM); exact rfl; exact rfl; exact rfl; exact rfl; exact rfl; exact (IntF_err xs hxb hlen a0 c0 hc0 _ _ hM.lt (hM.facts (RdF (Value.int .u8) a0 xs) List.mem_cons_self) h); clear hF hM a; rintro v w a rfl - hM hF) | ((with_reducible apply s_callE (f := 71) hF hM); exact rfl; exact rfl; exact rfl; exact rfl; exact (right_f _ _ hM.lt he); clear hF hM a; intro w a hM hF) | (with_reducible refine q_then_n ?_) | ((with_reducible apply s_pure hF); exact rfl; exact rfl; exact rfl; (first | exact trivial | omega | exact ⟨Int.natCast_nonneg _, Int.ofNat_lt.2 (by assumption)⟩ | decide); clear hF a; intro a hF) | ((with_reducible apply s_load hF hM); exact rfl; exact rfl; (repeat (first | exact List.mem_cons_self | refine List.mem_cons_of_mem _ ?_)); exact rfl; exact rfl; clear hF a; intro a hF) | ((with_reducible apply s_store hF hM); exact rfl; exact rfl; exact rfl; exact rfl; (repeat (first | exact Upd.z | apply Upd.s)); exact rfl; exact rfl; exact rfl; clear hM; intro w hM)))
  refine f_panic hF ?_
  exact ⟨rfl, _, _, hM.sub (.cons _ (.cons _ (.refl _))) (.refl _) (fun _ h => h)⟩
theorem num3_ok {n : Int} {ys : List Int} (h : rdI xs = .ok (n, ys)) (hM : Mm own w0 (x1 :: ⟨be, ⟨[.int .i64 0]⟩, 32⟩ :: xg :: ⟨bc, ⟨[v0, v1, v2, v3, v4, v5, v6, v7]⟩, 29⟩ :: xr :: ⟨bb, ⟨[.slice a0 xs.length c0]⟩, 57⟩ :: []) L (RdF (Value.int .u8) a0 xs :: Fs) W) : Calls Try.prog 69 ⟨[.pointer (some ⟨bc, 3, none⟩), .pointer (some ⟨bb, 0, none⟩), .pointer (some ⟨be, 0, none⟩)]⟩ W (Rtn fun _ w' => ∃ a' c', ys.length ≤ c' ∧ Mm own w0 (x1 :: ⟨be, ⟨[.int .i64 0]⟩, 32⟩ :: xg :: ⟨bc, ⟨[v0, v1, v2, .int .i64 n, v4, v5, v6, v7]⟩, 29⟩ :: xr :: ⟨bb, ⟨[.slice a' ys.length c']⟩, 57⟩ :: []) L (RdF (Value.int .u8) a' ys :: RdF (Value.int .u8) a0 xs :: Fs) w') := by
  refine f_start Try.func69 rfl Try.ntmps69 rfl rfl ?_; intro a hF
  (repeat' (first | (with_reducible refine w_seq ?_) | (with_reducible refine c_region ?_) | (with_reducible refine s_nil ?_) | ((with_reducible apply s_call (f := 70) hF hM); exact rfl; exact rfl; exact rfl; exact rfl; exact rfl; exact (IntF_ok xs hxb hlen a0 c0 hc0 _ _ hM.lt (hM.facts (RdF (Value.int .u8) a0 xs) List.mem_cons_self) h); clear hF hM a; rintro v w a ⟨a', c', rfl, hf, hc⟩ - hM hF; replace hM := hM.addFact hf) | ((with_reducible apply s_call (f := 71) hF hM); exact rfl; exact rfl; exact rfl; exact rfl; exact rfl; exact (right_t _ _ hM.lt rfl); clear hF hM a; rintro v w a - - hM hF) | (with_reducible refine q_then_n ?_) | ((with_reducible apply s_pure hF); exact rfl; exact rfl; exact rfl; (first | exact trivial | omega | exact ⟨Int.natCast_nonneg _, Int.ofNat_lt.2 (by assumption)⟩ | decide); clear hF a; intro a hF) | ((with_reducible apply s_load hF hM); exact rfl; exact rfl; (repeat (first | exact List.mem_cons_self | refine List.mem_cons_of_mem _ ?_)); exact rfl; exact rfl; clear hF a; intro a hF) | ((with_reducible apply s_store hF hM); exact rfl; exact rfl; exact rfl; exact rfl; (repeat (first | exact Upd.z | apply Upd.s)); exact rfl; exact rfl; exact rfl; clear hM; intro w hM)))
  (apply f_end Try.results69 hF hM; (repeat (first | exact RL.nil | (apply RL.tmp; exact rfl) | (apply RL.cell; exact rfl; (repeat (first | exact List.mem_cons_self | refine List.mem_cons_of_mem _ ?_)); exact rfl))); try dsimp only [resV])
  exact ⟨a', c', hc, hM⟩
theorem num3_err {e : Int} (h : rdI xs = .error e) (hM : Mm own w0 (x1 :: ⟨be, ⟨[.int .i64 0]⟩, 32⟩ :: xg :: ⟨bc, ⟨[v0, v1, v2, v3, v4, v5, v6, v7]⟩, 29⟩ :: xr :: ⟨bb, ⟨[.slice a0 xs.length c0]⟩, 57⟩ :: []) L (RdF (Value.int .u8) a0 xs :: Fs) W) : Calls Try.prog 69 ⟨[.pointer (some ⟨bc, 3, none⟩), .pointer (some ⟨bb, 0, none⟩), .pointer (some ⟨be, 0, none⟩)]⟩ W (Both (fun _ _ => False) fun p w' => p = failK e ∧ ∃ cs1 cs2, Mm own w0 (xg :: ⟨bc, cs1, 29⟩ :: xr :: ⟨bb, cs2, 57⟩ :: []) L (RdF (Value.int .u8) a0 xs :: Fs) w') := by
  have he := rdI_err h
  refine f_start Try.func69 rfl Try.ntmps69 rfl rfl ?_; intro a hF
  (repeat' (first | (with_reducible refine w_seq ?_) | (with_reducible refine c_region ?_) | (with_reducible refine s_nil ?_) | ((with_reducible apply s_call (f := 70) hF hM); exact rfl; exact rfl; exact rfl; exact rfl; exact rfl; exact (IntF_err xs hxb hlen a0 c0 hc0 _ _ hM.lt (hM.facts (RdF (Value.int .u8) a0 xs) List.mem_cons_self) h); clear hF hM a; rintro v w a rfl - hM hF) | ((with_reducible apply s_callE (f := 71) hF hM); exact rfl; exact rfl; exact rfl; exact rfl; exact (right_f _ _ hM.lt he); clear hF hM a; intro w a hM hF) | (with_reducible refine q_then_n ?_) | ((with_reducible apply s_pure hF); exact rfl; exact rfl; exact rfl; (first | exact trivial | omega | exact ⟨Int.natCast_nonneg _, Int.ofNat_lt.2 (by assumption)⟩ | decide); clear hF a; intro a hF) | ((with_reducible apply s_load hF hM); exact rfl; exact rfl; (repeat (first | exact List.mem_cons_self | refine List.mem_cons_of_mem _ ?_)); exact rfl; exact rfl; clear hF a; intro a hF) | ((with_reducible apply s_store hF hM); exact rfl; exact rfl; exact rfl; exact rfl; (repeat (first | exact Upd.z | apply Upd.s)); exact rfl; exact rfl; exact rfl; clear hM; intro w hM)))
  refine f_panic hF ?_
  exact ⟨rfl, _, _, hM.sub (.cons _ (.cons _ (.refl _))) (.refl _) (fun _ h => h)⟩
theorem num4_ok {n : Int} {ys : List Int} (h : rdI xs = .ok (n, ys)) (hM : Mm own w0 (x2 :: x1 :: ⟨be, ⟨[.int .i64 0]⟩, 32⟩ :: xg :: ⟨bc, ⟨[v0, v1, v2, v3, v4, v5, v6, v7]⟩, 29⟩ :: xr :: ⟨bb, ⟨[.slice a0 xs.length c0]⟩, 57⟩ :: []) L (RdF (Value.int .u8) a0 xs :: Fs) W) : Calls Try.prog 69 ⟨[.pointer (some ⟨bc, 4, none⟩), .pointer (some ⟨bb, 0, none⟩), .pointer (some ⟨be, 0, none⟩)]⟩ W (Rtn fun _ w' => ∃ a' c', ys.length ≤ c' ∧ Mm own w0 (x2 :: x1 :: ⟨be, ⟨[.int .i64 0]⟩, 32⟩ :: xg :: ⟨bc, ⟨[v0, v1, v2, v3, .int .i64 n, v5, v6, v7]⟩, 29⟩ :: xr :: ⟨bb, ⟨[.slice a' ys.length c']⟩, 57⟩ :: []) L (RdF (Value.int .u8) a' ys :: RdF (Value.int .u8) a0 xs :: Fs) w') := by
  refine f_start Try.func69 rfl Try.ntmps69 rfl rfl ?_; intro a hF
  (repeat' (first | (with_reducible refine w_seq ?_) | (with_reducible refine c_region ?_) | (with_reducible refine s_nil ?_) | ((with_reducible apply s_call (f := 70) hF hM); exact rfl; exact rfl; exact rfl; exact rfl; exact rfl; exact (IntF_ok xs hxb hlen a0 c0 hc0 _ _ hM.lt (hM.facts (RdF (Value.int .u8) a0 xs) List.mem_cons_self) h); clear hF hM a; rintro v w a ⟨a', c', rfl, hf, hc⟩ - hM hF; replace hM := hM.addFact hf) | ((with_reducible apply s_call (f := 71) hF hM); exact rfl; exact rfl; exact rfl; exact rfl; exact rfl; exact (right_t _ _ hM.lt rfl); clear hF hM a; rintro v w a - - hM hF) | (with_reducible refine q_then_n ?_) | ((with_reducible apply s_pure hF); exact rfl; exact rfl; exact rfl; (first | exact trivial | omega | exact ⟨Int.natCast_nonneg _, Int.ofNat_lt.2 (by assumption)⟩ | decide); clear hF a; intro a hF) | ((with_reducible apply s_load hF hM); exact rfl; exact rfl; (repeat (first | exact List.mem_cons_self | refine List.mem_cons_of_mem _ ?_)); exact rfl; exact rfl; clear hF a; intro a hF) | ((with_reducible apply s_store hF hM); exact rfl; exact rfl; exact rfl; exact rfl; (repeat (first | exact Upd.z | apply Upd.s)); exact rfl; exact rfl; exact rfl; clear hM; intro w hM)))
  (apply f_end Try.results69 hF hM; (repeat (first | exact RL.nil | (apply RL.tmp; exact rfl) | (apply RL.cell; exact rfl; (repeat (first | exact List.mem_cons_self | refine List.mem_cons_of_mem _ ?_)); exact rfl))); try dsimp only [resV])
  exact ⟨a', c', hc, hM⟩
theorem num4_err {e : Int} (h : rdI xs = .error e) (hM : Mm own w0 (x2 :: x1 :: ⟨be, ⟨[.int .i64 0]⟩, 32⟩ :: xg :: ⟨bc, ⟨[v0, v1, v2, v3, v4, v5, v6, v7]⟩, 29⟩ :: xr :: ⟨bb, ⟨[.slice a0 xs.length c0]⟩, 57⟩ :: []) L (RdF (Value.int .u8) a0 xs :: Fs) W) : Calls Try.prog 69 ⟨[.pointer (some ⟨bc, 4, none⟩), .pointer (some ⟨bb, 0, none⟩), .pointer (some ⟨be, 0, none⟩)]⟩ W (Both (fun _ _ => False) fun p w' => p = failK e ∧ ∃ cs1 cs2, Mm own w0 (xg :: ⟨bc, cs1, 29⟩ :: xr :: ⟨bb, cs2, 57⟩ :: []) L (RdF (Value.int .u8) a0 xs :: Fs) w') := by
  have he := rdI_err h
  refine f_start Try.func69 rfl Try.ntmps69 rfl rfl ?_; intro a hF
  (repeat' (first | (with_reducible refine w_seq ?_) | (with_reducible refine c_region ?_) | (with_reducible refine s_nil ?_) | ((with_reducible apply s_call (f := 70) hF hM); exact rfl; exact rfl; exact rfl; exact rfl; exact rfl; exact (IntF_err xs hxb hlen a0 c0 hc0 _ _ hM.lt (hM.facts (RdF (Value.int .u8) a0 xs) List.mem_cons_self) h); clear hF hM a; rintro v w a rfl - hM hF) | ((with_reducible apply s_callE (f := 71) hF hM); exact rfl; exact rfl; exact rfl; exact rfl; exact (right_f _ _ hM.lt he); clear hF hM a; intro w a hM hF) | (with_reducible refine q_then_n ?_) | ((with_reducible apply s_pure hF); exact rfl; exact rfl; exact rfl; (first | exact trivial | omega | exact ⟨Int.natCast_nonneg _, Int.ofNat_lt.2 (by assumption)⟩ | decide); clear hF a; intro a hF) | ((with_reducible apply s_load hF hM); exact rfl; exact rfl; (repeat (first | exact List.mem_cons_self | refine List.mem_cons_of_mem _ ?_)); exact rfl; exact rfl; clear hF a; intro a hF) | ((with_reducible apply s_store hF hM); exact rfl; exact rfl; exact rfl; exact rfl; (repeat (first | exact Upd.z | apply Upd.s)); exact rfl; exact rfl; exact rfl; clear hM; intro w hM)))
  refine f_panic hF ?_
  exact ⟨rfl, _, _, hM.sub (.cons _ (.cons _ (.cons _ (.refl _)))) (.refl _) (fun _ h => h)⟩
theorem num5_ok {n : Int} {ys : List Int} (h : rdI xs = .ok (n, ys)) (hM : Mm own w0 (x2 :: x1 :: ⟨be, ⟨[.int .i64 0]⟩, 32⟩ :: xg :: ⟨bc, ⟨[v0, v1, v2, v3, v4, v5, v6, v7]⟩, 29⟩ :: xr :: ⟨bb, ⟨[.slice a0 xs.length c0]⟩, 57⟩ :: []) L (RdF (Value.int .u8) a0 xs :: Fs) W) : Calls Try.prog 69 ⟨[.pointer (some ⟨bc, 5, none⟩), .pointer (some ⟨bb, 0, none⟩), .pointer (some ⟨be, 0, none⟩)]⟩ W (Rtn fun _ w' => ∃ a' c', ys.length ≤ c' ∧ Mm own w0 (x2 :: x1 :: ⟨be, ⟨[.int .i64 0]⟩, 32⟩ :: xg :: ⟨bc, ⟨[v0, v1, v2, v3, v4, .int .i64 n, v6, v7]⟩, 29⟩ :: xr :: ⟨bb, ⟨[.slice a' ys.length c']⟩, 57⟩ :: []) L (RdF (Value.int .u8) a' ys :: RdF (Value.int .u8) a0 xs :: Fs) w') := by
  refine f_start Try.func69 rfl Try.ntmps69 rfl rfl ?_; intro a hF
  (repeat' (first | (with_reducible refine w_seq ?_) | (with_reducible refine c_region ?_) | (with_reducible refine s_nil ?_) | ((with_reducible apply s_call (f := 70) hF hM); exact rfl; exact rfl; exact rfl; exact rfl; exact rfl; exact (IntF_ok xs hxb hlen a0 c0 hc0 _ _ hM.lt (hM.facts (RdF (Value.int .u8) a0 xs) List.mem_cons_self) h); clear hF hM a; rintro v w a ⟨a', c', rfl, hf, hc⟩ - hM hF; replace hM := hM.addFact hf) | ((with_reducible apply s_call (f := 71) hF hM); exact rfl; exact rfl; exact rfl; exact rfl; exact rfl; exact (right_t _ _ hM.lt rfl); clear hF hM a; rintro v w a - - hM hF) | (with_reducible refine q_then_n ?_) | ((with_reducible apply s_pure hF); exact rfl; exact rfl; exact rfl; (first | exact trivial | omega | exact ⟨Int.natCast_nonneg _, Int.ofNat_lt.2 (by assumption)⟩ | decide); clear hF a; intro a hF) | ((with_reducible apply s_load hF hM); exact rfl; exact rfl; (repeat (first | exact List.mem_cons_self | refine List.mem_cons_of_mem _ ?_)); exact rfl; exact rfl; clear hF a; intro a hF) | ((with_reducible apply s_store hF hM); exact rfl; exact rfl; exact rfl; exact rfl; (repeat (first | exact Upd.z | apply Upd.s)); exact rfl; exact rfl; exact rfl; clear hM; intro w hM)))
  (apply f_end Try.results69 hF hM; (repeat (first | exact RL.nil | (apply RL.tmp; exact rfl) | (apply RL.cell; exact rfl; (repeat (first | exact List.mem_cons_self | refine List.mem_cons_of_mem _ ?_)); exact rfl))); try dsimp only [resV])
  exact ⟨a', c', hc, hM⟩
theorem num5_err {e : Int} (h : rdI xs = .error e) (hM : Mm own w0 (x2 :: x1 :: ⟨be, ⟨[.int .i64 0]⟩, 32⟩ :: xg :: ⟨bc, ⟨[v0, v1, v2, v3, v4, v5, v6, v7]⟩, 29⟩ :: xr :: ⟨bb, ⟨[.slice a0 xs.length c0]⟩, 57⟩ :: []) L (RdF (Value.int .u8) a0 xs :: Fs) W) : Calls Try.prog 69 ⟨[.pointer (some ⟨bc, 5, none⟩), .pointer (some ⟨bb, 0, none⟩), .pointer (some ⟨be, 0, none⟩)]⟩ W (Both (fun _ _ => False) fun p w' => p = failK e ∧ ∃ cs1 cs2, Mm own w0 (xg :: ⟨bc, cs1, 29⟩ :: xr :: ⟨bb, cs2, 57⟩ :: []) L (RdF (Value.int .u8) a0 xs :: Fs) w') := by
  have he := rdI_err h
  refine f_start Try.func69 rfl Try.ntmps69 rfl rfl ?_; intro a hF
  (repeat' (first | (with_reducible refine w_seq ?_) | (with_reducible refine c_region ?_) | (with_reducible refine s_nil ?_) | ((with_reducible apply s_call (f := 70) hF hM); exact rfl; exact rfl; exact rfl; exact rfl; exact rfl; exact (IntF_err xs hxb hlen a0 c0 hc0 _ _ hM.lt (hM.facts (RdF (Value.int .u8) a0 xs) List.mem_cons_self) h); clear hF hM a; rintro v w a rfl - hM hF) | ((with_reducible apply s_callE (f := 71) hF hM); exact rfl; exact rfl; exact rfl; exact rfl; exact (right_f _ _ hM.lt he); clear hF hM a; intro w a hM hF) | (with_reducible refine q_then_n ?_) | ((with_reducible apply s_pure hF); exact rfl; exact rfl; exact rfl; (first | exact trivial | omega | exact ⟨Int.natCast_nonneg _, Int.ofNat_lt.2 (by assumption)⟩ | decide); clear hF a; intro a hF) | ((with_reducible apply s_load hF hM); exact rfl; exact rfl; (repeat (first | exact List.mem_cons_self | refine List.mem_cons_of_mem _ ?_)); exact rfl; exact rfl; clear hF a; intro a hF) | ((with_reducible apply s_store hF hM); exact rfl; exact rfl; exact rfl; exact rfl; (repeat (first | exact Upd.z | apply Upd.s)); exact rfl; exact rfl; exact rfl; clear hM; intro w hM)))
  refine f_panic hF ?_
  exact ⟨rfl, _, _, hM.sub (.cons _ (.cons _ (.cons _ (.refl _)))) (.refl _) (fun _ h => h)⟩
theorem num6_ok {n : Int} {ys : List Int} (h : rdI xs = .ok (n, ys)) (hM : Mm own w0 (x2 :: x1 :: ⟨be, ⟨[.int .i64 0]⟩, 32⟩ :: xg :: ⟨bc, ⟨[v0, v1, v2, v3, v4, v5, v6, v7]⟩, 29⟩ :: xr :: ⟨bb, ⟨[.slice a0 xs.length c0]⟩, 57⟩ :: []) L (RdF (Value.int .u8) a0 xs :: Fs) W) : Calls Try.prog 69 ⟨[.pointer (some ⟨bc, 6, none⟩), .pointer (some ⟨bb, 0, none⟩), .pointer (some ⟨be, 0, none⟩)]⟩ W (Rtn fun _ w' => ∃ a' c', ys.length ≤ c' ∧ Mm own w0 (x2 :: x1 :: ⟨be, ⟨[.int .i64 0]⟩, 32⟩ :: xg :: ⟨bc, ⟨[v0, v1, v2, v3, v4, v5, .int .i64 n, v7]⟩, 29⟩ :: xr :: ⟨bb, ⟨[.slice a' ys.length c']⟩, 57⟩ :: []) L (RdF (Value.int .u8) a' ys :: RdF (Value.int .u8) a0 xs :: Fs) w') := by
  refine f_start Try.func69 rfl Try.ntmps69 rfl rfl ?_; intro a hF
  (repeat' (first | (with_reducible refine w_seq ?_) | (with_reducible refine c_region ?_) | (with_reducible refine s_nil ?_) | ((with_reducible apply s_call (f := 70) hF hM); exact rfl; exact rfl; exact rfl; exact rfl; exact rfl; exact (IntF_ok xs hxb hlen a0 c0 hc0 _ _ hM.lt (hM.facts (RdF (Value.int .u8) a0 xs) List.mem_cons_self) h); clear hF hM a; rintro v w a ⟨a', c', rfl, hf, hc⟩ - hM hF; replace hM := hM.addFact hf) | ((with_reducible apply s_call (f := 71) hF hM); exact rfl; exact rfl; exact rfl; exact rfl; exact rfl; exact (right_t _ _ hM.lt rfl); clear hF hM a; rintro v w a - - hM hF) | (with_reducible refine q_then_n ?_) | ((with_reducible apply s_pure hF); exact rfl; exact rfl; exact rfl; (first | exact trivial | omega | exact ⟨Int.natCast_nonneg _, Int.ofNat_lt.2 (by assumption)⟩ | decide); clear hF a; intro a hF) | ((with_reducible apply s_load hF hM); exact rfl; exact rfl; (repeat (first | exact List.mem_cons_self | refine List.mem_cons_of_mem _ ?_)); exact rfl; exact rfl; clear hF a; intro a hF) | ((with_reducible apply s_store hF hM); exact rfl; exact rfl; exact rfl; exact rfl; (repeat (first | exact Upd.z | apply Upd.s)); exact rfl; exact rfl; exact rfl; clear hM; intro w hM)))
  (apply f_end Try.results69 hF hM; (repeat (first | exact RL.nil | (apply RL.tmp; exact rfl) | (apply RL.cell; exact rfl; (repeat (first | exact List.mem_cons_self | refine List.mem_cons_of_mem _ ?_)); exact rfl))); try dsimp only [resV])
  exact ⟨a', c', hc, hM⟩
theorem num6_err {e : Int} (h : rdI xs = .error e) (hM : Mm own w0 (x2 :: x1 :: ⟨be, ⟨[.int .i64 0]⟩, 32⟩ :: xg :: ⟨bc, ⟨[v0, v1, v2, v3, v4, v5, v6, v7]⟩, 29⟩ :: xr :: ⟨bb, ⟨[.slice a0 xs.length c0]⟩, 57⟩ :: []) L (RdF (Value.int .u8) a0 xs :: Fs) W) : Calls Try.prog 69 ⟨[.pointer (some ⟨bc, 6, none⟩), .pointer (some ⟨bb, 0, none⟩), .pointer (some ⟨be, 0, none⟩)]⟩ W (Both (fun _ _ => False) fun p w' => p = failK e ∧ ∃ cs1 cs2, Mm own w0 (xg :: ⟨bc, cs1, 29⟩ :: xr :: ⟨bb, cs2, 57⟩ :: []) L (RdF (Value.int .u8) a0 xs :: Fs) w') := by
  have he := rdI_err h
  refine f_start Try.func69 rfl Try.ntmps69 rfl rfl ?_; intro a hF
  (repeat' (first | (with_reducible refine w_seq ?_) | (with_reducible refine c_region ?_) | (with_reducible refine s_nil ?_) | ((with_reducible apply s_call (f := 70) hF hM); exact rfl; exact rfl; exact rfl; exact rfl; exact rfl; exact (IntF_err xs hxb hlen a0 c0 hc0 _ _ hM.lt (hM.facts (RdF (Value.int .u8) a0 xs) List.mem_cons_self) h); clear hF hM a; rintro v w a rfl - hM hF) | ((with_reducible apply s_callE (f := 71) hF hM); exact rfl; exact rfl; exact rfl; exact rfl; exact (right_f _ _ hM.lt he); clear hF hM a; intro w a hM hF) | (with_reducible refine q_then_n ?_) | ((with_reducible apply s_pure hF); exact rfl; exact rfl; exact rfl; (first | exact trivial | omega | exact ⟨Int.natCast_nonneg _, Int.ofNat_lt.2 (by assumption)⟩ | decide); clear hF a; intro a hF) | ((with_reducible apply s_load hF hM); exact rfl; exact rfl; (repeat (first | exact List.mem_cons_self | refine List.mem_cons_of_mem _ ?_)); exact rfl; exact rfl; clear hF a; intro a hF) | ((with_reducible apply s_store hF hM); exact rfl; exact rfl; exact rfl; exact rfl; (repeat (first | exact Upd.z | apply Upd.s)); exact rfl; exact rfl; exact rfl; clear hM; intro w hM)))
  refine f_panic hF ?_
  exact ⟨rfl, _, _, hM.sub (.cons _ (.cons _ (.cons _ (.refl _)))) (.refl _) (fun _ h => h)⟩
theorem num7_ok {n : Int} {ys : List Int} (h : rdI xs = .ok (n, ys)) (hM : Mm own w0 (x2 :: x1 :: ⟨be, ⟨[.int .i64 0]⟩, 32⟩ :: xg :: ⟨bc, ⟨[v0, v1, v2, v3, v4, v5, v6, v7]⟩, 29⟩ :: xr :: ⟨bb, ⟨[.slice a0 xs.length c0]⟩, 57⟩ :: []) L (RdF (Value.int .u8) a0 xs :: Fs) W) : Calls Try.prog 69 ⟨[.pointer (some ⟨bc, 7, none⟩), .pointer (some ⟨bb, 0, none⟩), .pointer (some ⟨be, 0, none⟩)]⟩ W (Rtn fun _ w' => ∃ a' c', ys.length ≤ c' ∧ Mm own w0 (x2 :: x1 :: ⟨be, ⟨[.int .i64 0]⟩, 32⟩ :: xg :: ⟨bc, ⟨[v0, v1, v2, v3, v4, v5, v6, .int .i64 n]⟩, 29⟩ :: xr :: ⟨bb, ⟨[.slice a' ys.length c']⟩, 57⟩ :: []) L (RdF (Value.int .u8) a' ys :: RdF (Value.int .u8) a0 xs :: Fs) w') := by
  refine f_start Try.func69 rfl Try.ntmps69 rfl rfl ?_; intro a hF
  (repeat' (first | (with_reducible refine w_seq ?_) | (with_reducible refine c_region ?_) | (with_reducible refine s_nil ?_) | ((with_reducible apply s_call (f := 70) hF hM); exact rfl; exact rfl; exact rfl; exact rfl; exact rfl; exact (IntF_ok xs hxb hlen a0 c0 hc0 _ _ hM.lt (hM.facts (RdF (Value.int .u8) a0 xs) List.mem_cons_self) h); clear hF hM a; rintro v w a ⟨a', c', rfl, hf, hc⟩ - hM hF; replace hM := hM.addFact hf) | ((with_reducible apply s_call (f := 71) hF hM); exact rfl; exact rfl; exact rfl; exact rfl; exact rfl; exact (right_t _ _ hM.lt rfl); clear hF hM a; rintro v w a - - hM hF) | (with_reducible refine q_then_n ?_) | ((with_reducible apply s_pure hF); exact rfl; exact rfl; exact rfl; (first | exact trivial | omega | exact ⟨Int.natCast_nonneg _, Int.ofNat_lt.2 (by assumption)⟩ | decide); clear hF a; intro a hF) | ((with_reducible apply s_load hF hM); exact rfl; exact rfl; (repeat (first | exact List.mem_cons_self | refine List.mem_cons_of_mem _ ?_)); exact rfl; exact rfl; clear hF a; intro a hF) | ((with_reducible apply s_store hF hM); exact rfl; exact rfl; exact rfl; exact rfl; (repeat (first | exact Upd.z | apply Upd.s)); exact rfl; exact rfl; exact rfl; clear hM; intro w hM)))
  (apply f_end Try.results69 hF hM; (repeat (first | exact RL.nil | (apply RL.tmp; exact rfl) | (apply RL.cell; exact rfl; (repeat (first | exact List.mem_cons_self | refine List.mem_cons_of_mem _ ?_)); exact rfl))); try dsimp only [resV])
  exact ⟨a', c', hc, hM⟩
theorem num7_err {e : Int} (h : rdI xs = .error e) (hM : Mm own w0 (x2 :: x1 :: ⟨be, ⟨[.int .i64 0]⟩, 32⟩ :: xg :: ⟨bc, ⟨[v0, v1, v2, v3, v4, v5, v6, v7]⟩, 29⟩ :: xr :: ⟨bb, ⟨[.slice a0 xs.length c0]⟩, 57⟩ :: []) L (RdF (Value.int .u8) a0 xs :: Fs) W) : Calls Try.prog 69 ⟨[.pointer (some ⟨bc, 7, none⟩), .pointer (some ⟨bb, 0, none⟩), .pointer (some ⟨be, 0, none⟩)]⟩ W (Both (fun _ _ => False) fun p w' => p = failK e ∧ ∃ cs1 cs2, Mm own w0 (xg :: ⟨bc, cs1, 29⟩ :: xr :: ⟨bb, cs2, 57⟩ :: []) L (RdF (Value.int .u8) a0 xs :: Fs) w') := by
  have he := rdI_err h
  refine f_start Try.func69 rfl Try.ntmps69 rfl rfl ?_; intro a hF
  (repeat' (first | (with_reducible refine w_seq ?_) | (with_reducible refine c_region ?_) | (with_reducible refine s_nil ?_) | ((with_reducible apply s_call (f := 70) hF hM); exact rfl; exact rfl; exact rfl; exact rfl; exact rfl; exact (IntF_err xs hxb hlen a0 c0 hc0 _ _ hM.lt (hM.facts (RdF (Value.int .u8) a0 xs) List.mem_cons_self) h); clear hF hM a; rintro v w a rfl - hM hF) | ((with_reducible apply s_callE (f := 71) hF hM); exact rfl; exact rfl; exact rfl; exact rfl; exact (right_f _ _ hM.lt he); clear hF hM a; intro w a hM hF) | (with_reducible refine q_then_n ?_) | ((with_reducible apply s_pure hF); exact rfl; exact rfl; exact rfl; (first | exact trivial | omega | exact ⟨Int.natCast_nonneg _, Int.ofNat_lt.2 (by assumption)⟩ | decide); clear hF a; intro a hF) | ((with_reducible apply s_load hF hM); exact rfl; exact rfl; (repeat (first | exact List.mem_cons_self | refine List.mem_cons_of_mem _ ?_)); exact rfl; exact rfl; clear hF a; intro a hF) | ((with_reducible apply s_store hF hM); exact rfl; exact rfl; exact rfl; exact rfl; (repeat (first | exact Upd.z | apply Upd.s)); exact rfl; exact rfl; exact rfl; clear hM; intro w hM)))
  refine f_panic hF ?_
  exact ⟨rfl, _, _, hM.sub (.cons _ (.cons _ (.cons _ (.refl _)))) (.refl _) (fun _ h => h)⟩
end
/-- How the reading ends. -/
def D1R (own : Nat → Prop) (w0 : World) (L : List Ent) (bg bc br bb : Nat) (r : Except Int Ce) : Ending → World → Prop := match r with
  | .error e => Both (fun _ _ => False) fun p w' => p = failK e ∧ ∃ bs' L' Fs', (∃ cs1 cs2, bs' = [⟨bc, cs1, 29⟩, ⟨br, ⟨ceZ⟩, 29⟩, ⟨bb, cs2, 57⟩]) ∧ Mm own w0 (⟨bg, ⟨[.int .i64 0]⟩, 32⟩ :: bs') L' Fs' w'
  | .ok c => Rtn fun _ w' => ∃ bs' L' Fs', (∃ a1 c1 a2 c2 cs2 Fs2, bs' = [⟨bc, ⟨ceL c a1 c1 a2 c2⟩, 29⟩, ⟨br, ⟨ceZ⟩, 29⟩, ⟨bb, cs2, 57⟩] ∧ Fs' = RdF (Value.int .i64) a1 c.A.V :: RdF (Value.int .i64) a2 c.S.V :: Fs2 ∧ c.A.V.length ≤ c1 ∧ c.S.V.length ≤ c2) ∧ Mm own w0 (⟨bg, ⟨[.int .i64 0]⟩, 32⟩ :: bs') L' Fs' w'
set_option maxHeartbeats 8000000 in
theorem dec1_c (xs : List Int) (hxb : ∀ x ∈ xs, 0 ≤ x ∧ x < 256) (hlen : xs.length ≤ 1000000) (a0 : Option Addr) (c0 : Nat) (hc0 : xs.length ≤ c0) {own : Nat → Prop} {w0 W : World} {L : List Ent} {Fs : List (World → Prop)} (bg bc br bb : Nat) (hM : Mm own w0 (⟨bg, ⟨[.int .i64 0]⟩, 32⟩ :: ⟨bc, ⟨ceZ⟩, 29⟩ :: ⟨br, ⟨ceZ⟩, 29⟩ :: ⟨bb, ⟨[.slice a0 xs.length c0]⟩, 57⟩ :: []) L (RdF (Value.int .u8) a0 xs :: Fs) W) :
    Calls Try.prog 68 ⟨[.pointer (some ⟨bb, 0, none⟩), .pointer (some ⟨bc, 0, none⟩)]⟩ W (D1R own w0 L bg bc br bb (decC xs)) := by
  refine f_start Try.func68 rfl Try.ntmps68 rfl rfl ?_; intro a hF
  unfold decC
  by_cases hbig : 65536 < xs.length
  · rw [if_pos hbig]
    (repeat' (first | (with_reducible refine w_seq ?_) | (with_reducible refine c_region ?_) | ((with_reducible apply s_callE (f := 58) hF hM); exact rfl; exact rfl; exact rfl; exact rfl; exact (demand_f _ _ _ hM.lt (decide_eq_false (by omega))); clear hF hM a; intro w a hM hF) | (with_reducible refine q_then_p ?_) | ((with_reducible apply s_pure hF); exact rfl; exact rfl; exact rfl; (first | exact trivial | omega | exact ⟨Int.natCast_nonneg _, Int.ofNat_lt.2 (by assumption)⟩ | decide); clear hF a; intro a hF) | ((with_reducible apply s_load hF hM); exact rfl; exact rfl; (repeat (first | exact List.mem_cons_self | refine List.mem_cons_of_mem _ ?_)); exact rfl; exact rfl; clear hF a; intro a hF)))
    refine f_panic hF ?_
    exact ⟨rfl, _, _, _, ⟨_, _, rfl⟩, hM⟩
  rw [if_neg hbig]
  (repeat' (first | (with_reducible refine w_seq ?_) | (with_reducible refine c_region ?_) | (with_reducible refine s_nil ?_) | ((with_reducible apply s_call (f := 58) hF hM); exact rfl; exact rfl; exact rfl; exact rfl; exact rfl; exact (demand_t _ _ _ hM.lt (decide_eq_true (by omega))); clear hF hM a; rintro v w a - - hM hF) | (with_reducible refine q_then_n ?_) | ((with_reducible apply s_pure hF); exact rfl; exact rfl; exact rfl; (first | exact trivial | omega | exact ⟨Int.natCast_nonneg _, Int.ofNat_lt.2 (by assumption)⟩ | decide); clear hF a; intro a hF) | ((with_reducible apply s_load hF hM); exact rfl; exact rfl; (repeat (first | exact List.mem_cons_self | refine List.mem_cons_of_mem _ ?_)); exact rfl; exact rfl; clear hF a; intro a hF) | ((with_reducible apply s_alloc hF hM); exact rfl; exact rfl; exact rfl; clear hF hM a; intro b w a hM hF) | ((with_reducible apply s_lit hF hM); exact rfl; exact rfl; exact rfl; exact rfl; clear hF hM a; intro bl w a hM hF) | (with_reducible refine w_block ?_)))
  refine c_roll 3 ?_
  (repeat (first | (with_reducible refine w_seq ?_) | (with_reducible refine c_region ?_) | (with_reducible refine s_nil ?_) | (with_reducible refine q_then_n ?_) | ((with_reducible apply s_pure hF); exact rfl; exact rfl; exact rfl; (first | exact trivial | omega | exact ⟨Int.natCast_nonneg _, Int.ofNat_lt.2 (by assumption)⟩ | decide); clear hF a; intro a hF) | ((with_reducible apply s_load hF hM); exact rfl; exact rfl; (repeat (first | exact List.mem_cons_self | refine List.mem_cons_of_mem _ ?_)); exact rfl; exact rfl; clear hF a; intro a hF) | ((with_reducible apply s_loadB hF hM); exact rfl; exact rfl; (repeat (first | exact List.mem_cons_self | refine List.mem_cons_of_mem _ ?_)); exact rfl; exact rfl; clear hF a; intro a hF) | (with_reducible refine w_skip ?_) | (with_reducible refine r_succ ?_) | (with_reducible refine w_block ?_) | ((with_reducible apply c_true2 hF); exact rfl; (first | with_reducible rfl | (refine congrArg Value.bool ?_; focus (simp; done))))))
  generalize b = be at *
  generalize bl = b1 at *
  cases g1 : rdInts xs with
  | error e =>
    have hde : dec8 xs = .error e := by unfold dec8; simp only [g1]
    rw [hde]
    (((with_reducible apply s_call (f := 72) hF hM); exact rfl; exact rfl; exact rfl; exact rfl; exact rfl; exact (Ints_err xs hxb hlen a0 c0 hc0 _ _ hM.lt (hM.facts (RdF (Value.int .u8) a0 xs) (by (repeat (first | with_reducible exact List.mem_cons_self | refine List.mem_cons_of_mem _ ?_)))) g1); clear hF hM a; rintro v w a ⟨rfl, hne⟩ - hM hF))
    (repeat' (first | (with_reducible refine w_seq ?_) | (with_reducible refine c_region ?_) | (with_reducible refine s_nil ?_) | ((with_reducible apply s_callE (f := 71) hF hM); exact rfl; exact rfl; exact rfl; exact rfl; exact (right_f _ _ hM.lt hne); clear hF hM a; intro w a hM hF) | (with_reducible refine q_then_p ?_) | (with_reducible refine q_blk_p ?_) | (with_reducible refine q_then_n ?_) | ((with_reducible apply s_pure hF); exact rfl; exact rfl; exact rfl; (first | exact trivial | omega | exact ⟨Int.natCast_nonneg _, Int.ofNat_lt.2 (by assumption)⟩ | decide); clear hF a; intro a hF) | ((with_reducible apply s_load hF hM); exact rfl; exact rfl; (repeat (first | exact List.mem_cons_self | refine List.mem_cons_of_mem _ ?_)); exact rfl; exact rfl; clear hF a; intro a hF) | ((with_reducible apply s_store hF hM); exact rfl; exact rfl; exact rfl; exact rfl; (repeat (first | exact Upd.z | apply Upd.s)); exact rfl; exact rfl; exact rfl; clear hM; intro w hM)))
    refine f_panic hF ?_
    exact ⟨rfl, _, _, _, ⟨_, _, rfl⟩, hM.sub (.cons _ (.cons _ (.refl _))) (.refl _) (fun _ h => h)⟩
  | ok pr =>
  obtain ⟨l1, y1⟩ := pr
  (((with_reducible apply s_call (f := 72) hF hM); exact rfl; exact rfl; exact rfl; exact rfl; exact rfl; exact (Ints_ok xs hxb hlen a0 c0 hc0 _ _ hM.lt (hM.facts (RdF (Value.int .u8) a0 xs) (by (repeat (first | with_reducible exact List.mem_cons_self | refine List.mem_cons_of_mem _ ?_)))) g1); clear hF hM a; rintro v w a ⟨p1, q1, r1, d1, rfl, f1, f1', k1, hc1, m1, hb1, hl1⟩ - hM hF; replace hM := (hM.addFact f1).addFact f1'))
  (repeat (first | (with_reducible refine w_seq ?_) | (with_reducible refine c_region ?_) | (with_reducible refine s_nil ?_) | ((with_reducible apply s_call (f := 71) hF hM); exact rfl; exact rfl; exact rfl; exact rfl; exact rfl; exact (right_t _ _ hM.lt rfl); clear hF hM a; rintro v w a - - hM hF) | (with_reducible refine q_then_n ?_) | ((with_reducible apply s_pure hF); exact rfl; exact rfl; exact rfl; (first | exact trivial | omega | exact ⟨Int.natCast_nonneg _, Int.ofNat_lt.2 (by assumption)⟩ | decide); clear hF a; intro a hF) | ((with_reducible apply s_load hF hM); exact rfl; exact rfl; (repeat (first | exact List.mem_cons_self | refine List.mem_cons_of_mem _ ?_)); exact rfl; exact rfl; clear hF a; intro a hF) | ((with_reducible apply s_store hF hM); exact rfl; exact rfl; exact rfl; exact rfl; (repeat (first | exact Upd.z | apply Upd.s)); exact rfl; exact rfl; exact rfl; clear hM; intro w hM)))
  have hy1 : y1.length ≤ 1000000 := by omega
  cases g2 : rdI y1 with
  | error e =>
    have hde : dec8 xs = .error e := by unfold dec8; simp only [g1, g2]
    rw [hde]
    refine s_callcB hF rfl rfl rfl rfl rfl rfl rfl (num1_err y1 hb1 hy1 r1 d1 hc1 be bc bb _ _ _ _ _ _ _ _ _ _ _ g2 hM) ?_ (fun _ _ _ h => h.elim)
    clear hF hM a
    rintro p w a ⟨rfl, cs1, cs2, hM⟩ hF
    (repeat' (first | (with_reducible refine q_then_p ?_) | (with_reducible refine q_blk_p ?_)))
    refine f_panic hF ?_
    exact ⟨rfl, _, _, _, ⟨_, _, rfl⟩, hM⟩
  | ok pr =>
  obtain ⟨n2, y2⟩ := pr
  refine s_callcM hF rfl rfl rfl rfl rfl rfl rfl (num1_ok y1 hb1 hy1 r1 d1 hc1 be bc bb _ _ _ _ _ _ _ _ _ _ _ g2 hM) ?_
  clear hF hM a
  rintro v w a ⟨r2, d2, hc2, hM⟩ hF
  obtain ⟨hb2, hz2, hn2, hn2'⟩ := rdI_ok hb1 g2
  have hy2 : y2.length ≤ 1000000 := by omega
  (repeat (first | (with_reducible refine w_seq ?_) | (with_reducible refine c_region ?_) | (with_reducible refine s_nil ?_) | (with_reducible refine q_then_n ?_) | ((with_reducible apply s_pure hF); exact rfl; exact rfl; exact rfl; (first | exact trivial | omega | exact ⟨Int.natCast_nonneg _, Int.ofNat_lt.2 (by assumption)⟩ | decide); clear hF a; intro a hF) | ((with_reducible apply s_load hF hM); exact rfl; exact rfl; (repeat (first | exact List.mem_cons_self | refine List.mem_cons_of_mem _ ?_)); exact rfl; exact rfl; clear hF a; intro a hF) | ((with_reducible apply s_loadB hF hM); exact rfl; exact rfl; (repeat (first | exact List.mem_cons_self | refine List.mem_cons_of_mem _ ?_)); exact rfl; exact rfl; clear hF a; intro a hF) | (with_reducible refine w_skip ?_) | (with_reducible refine r_succ ?_) | (with_reducible refine w_block ?_) | (with_reducible refine q_blk_n ?_) | ((with_reducible apply c_true2 hF); exact rfl; (first | with_reducible rfl | (refine congrArg Value.bool ?_; focus (simp; done))))))
  cases g3 : rdInts y2 with
  | error e =>
    have hde : dec8 xs = .error e := by unfold dec8; simp only [g1, g2, g3]
    rw [hde]
    (((with_reducible apply s_call (f := 72) hF hM); exact rfl; exact rfl; exact rfl; exact rfl; exact rfl; exact (Ints_err y2 hb2 hy2 r2 d2 hc2 _ _ hM.lt (hM.facts (RdF (Value.int .u8) r2 y2) (by (repeat (first | with_reducible exact List.mem_cons_self | refine List.mem_cons_of_mem _ ?_)))) g3); clear hF hM a; rintro v w a ⟨rfl, hne⟩ - hM hF))
    (repeat' (first | (with_reducible refine w_seq ?_) | (with_reducible refine c_region ?_) | (with_reducible refine s_nil ?_) | ((with_reducible apply s_callE (f := 71) hF hM); exact rfl; exact rfl; exact rfl; exact rfl; exact (right_f _ _ hM.lt hne); clear hF hM a; intro w a hM hF) | (with_reducible refine q_then_p ?_) | (with_reducible refine q_blk_p ?_) | (with_reducible refine q_then_n ?_) | ((with_reducible apply s_pure hF); exact rfl; exact rfl; exact rfl; (first | exact trivial | omega | exact ⟨Int.natCast_nonneg _, Int.ofNat_lt.2 (by assumption)⟩ | decide); clear hF a; intro a hF) | ((with_reducible apply s_load hF hM); exact rfl; exact rfl; (repeat (first | exact List.mem_cons_self | refine List.mem_cons_of_mem _ ?_)); exact rfl; exact rfl; clear hF a; intro a hF) | ((with_reducible apply s_store hF hM); exact rfl; exact rfl; exact rfl; exact rfl; (repeat (first | exact Upd.z | apply Upd.s)); exact rfl; exact rfl; exact rfl; clear hM; intro w hM)))
    refine f_panic hF ?_
    exact ⟨rfl, _, _, _, ⟨_, _, rfl⟩, hM.sub (.cons _ (.cons _ (.refl _))) (.refl _) (fun _ h => h)⟩
  | ok pr =>
  obtain ⟨l3, y3⟩ := pr
  (((with_reducible apply s_call (f := 72) hF hM); exact rfl; exact rfl; exact rfl; exact rfl; exact rfl; exact (Ints_ok y2 hb2 hy2 r2 d2 hc2 _ _ hM.lt (hM.facts (RdF (Value.int .u8) r2 y2) (by (repeat (first | with_reducible exact List.mem_cons_self | refine List.mem_cons_of_mem _ ?_)))) g3); clear hF hM a; rintro v w a ⟨p3, q3, r3, d3, rfl, f3, f3', k3, hc3, m3, hb3, hl3⟩ - hM hF; replace hM := (hM.addFact f3).addFact f3'))
  (repeat (first | (with_reducible refine w_seq ?_) | (with_reducible refine c_region ?_) | (with_reducible refine s_nil ?_) | ((with_reducible apply s_call (f := 71) hF hM); exact rfl; exact rfl; exact rfl; exact rfl; exact rfl; exact (right_t _ _ hM.lt rfl); clear hF hM a; rintro v w a - - hM hF) | (with_reducible refine q_then_n ?_) | ((with_reducible apply s_pure hF); exact rfl; exact rfl; exact rfl; (first | exact trivial | omega | exact ⟨Int.natCast_nonneg _, Int.ofNat_lt.2 (by assumption)⟩ | decide); clear hF a; intro a hF) | ((with_reducible apply s_load hF hM); exact rfl; exact rfl; (repeat (first | exact List.mem_cons_self | refine List.mem_cons_of_mem _ ?_)); exact rfl; exact rfl; clear hF a; intro a hF) | ((with_reducible apply s_store hF hM); exact rfl; exact rfl; exact rfl; exact rfl; (repeat (first | exact Upd.z | apply Upd.s)); exact rfl; exact rfl; exact rfl; clear hM; intro w hM)))
  have hy3 : y3.length ≤ 1000000 := by omega
  cases g4 : rdI y3 with
  | error e =>
    have hde : dec8 xs = .error e := by unfold dec8; simp only [g1, g2, g3, g4]
    rw [hde]
    refine s_callcB hF rfl rfl rfl rfl rfl rfl rfl (num3_err y3 hb3 hy3 r3 d3 hc3 be bc bb _ _ _ _ _ _ _ _ _ _ _ g4 hM) ?_ (fun _ _ _ h => h.elim)
    clear hF hM a
    rintro p w a ⟨rfl, cs1, cs2, hM⟩ hF
    (repeat' (first | (with_reducible refine q_then_p ?_) | (with_reducible refine q_blk_p ?_)))
    refine f_panic hF ?_
    exact ⟨rfl, _, _, _, ⟨_, _, rfl⟩, hM⟩
  | ok pr =>
  obtain ⟨n4, y4⟩ := pr
  refine s_callcM hF rfl rfl rfl rfl rfl rfl rfl (num3_ok y3 hb3 hy3 r3 d3 hc3 be bc bb _ _ _ _ _ _ _ _ _ _ _ g4 hM) ?_
  clear hF hM a
  rintro v w a ⟨r4, d4, hc4, hM⟩ hF
  obtain ⟨hb4, hz4, hn4, hn4'⟩ := rdI_ok hb3 g4
  have hy4 : y4.length ≤ 1000000 := by omega
  (repeat (first | (with_reducible refine w_seq ?_) | (with_reducible refine c_region ?_) | (with_reducible refine s_nil ?_) | (with_reducible refine q_then_n ?_) | ((with_reducible apply s_pure hF); exact rfl; exact rfl; exact rfl; (first | exact trivial | omega | exact ⟨Int.natCast_nonneg _, Int.ofNat_lt.2 (by assumption)⟩ | decide); clear hF a; intro a hF) | ((with_reducible apply s_lit hF hM); exact rfl; exact rfl; exact rfl; exact rfl; clear hF hM a; intro bl w a hM hF) | (with_reducible refine r_succ ?_) | (with_reducible refine w_block ?_) | (with_reducible refine w_exit ?_) | (with_reducible refine q_then_x ?_) | (with_reducible refine q_blk_n ?_) | (with_reducible refine q_blk_x ?_) | ((with_reducible apply c_false2 hF); exact rfl; (first | with_reducible rfl | (refine congrArg Value.bool ?_; focus (simp; done))))))
  refine c_roll 5 ?_
  (repeat (first | (with_reducible refine w_seq ?_) | (with_reducible refine c_region ?_) | (with_reducible refine s_nil ?_) | (with_reducible refine q_then_n ?_) | ((with_reducible apply s_pure hF); exact rfl; exact rfl; exact rfl; (first | exact trivial | omega | exact ⟨Int.natCast_nonneg _, Int.ofNat_lt.2 (by assumption)⟩ | decide); clear hF a; intro a hF) | ((with_reducible apply s_loadB hF hM); exact rfl; exact rfl; (repeat (first | exact List.mem_cons_self | refine List.mem_cons_of_mem _ ?_)); exact rfl; exact rfl; clear hF a; intro a hF) | (with_reducible refine w_skip ?_) | (with_reducible refine r_succ ?_) | (with_reducible refine w_block ?_) | ((with_reducible apply c_true2 hF); exact rfl; (first | with_reducible rfl | (refine congrArg Value.bool ?_; focus (simp; done))))))
  generalize bl = b2 at *
  cases g5 : rdI y4 with
  | error e =>
    have hde : dec8 xs = .error e := by unfold dec8; simp only [g1, g2, g3, g4, g5]
    rw [hde]
    refine s_callcB hF rfl rfl rfl rfl rfl rfl rfl (num4_err y4 hb4 hy4 r4 d4 hc4 be bc bb _ _ _ _ _ _ _ _ _ _ _ _ g5 hM) ?_ (fun _ _ _ h => h.elim)
    clear hF hM a
    rintro p w a ⟨rfl, cs1, cs2, hM⟩ hF
    (repeat' (first | (with_reducible refine q_then_p ?_) | (with_reducible refine q_blk_p ?_)))
    refine f_panic hF ?_
    exact ⟨rfl, _, _, _, ⟨_, _, rfl⟩, hM⟩
  | ok pr =>
  obtain ⟨n5, y5⟩ := pr
  refine s_callcM hF rfl rfl rfl rfl rfl rfl rfl (num4_ok y4 hb4 hy4 r4 d4 hc4 be bc bb _ _ _ _ _ _ _ _ _ _ _ _ g5 hM) ?_
  clear hF hM a
  rintro v w a ⟨r5, d5, hc5, hM⟩ hF
  obtain ⟨hb5, hz5, hn5, hn5'⟩ := rdI_ok hb4 g5
  have hy5 : y5.length ≤ 1000000 := by omega
  (repeat (first | (with_reducible refine w_seq ?_) | (with_reducible refine c_region ?_) | (with_reducible refine s_nil ?_) | (with_reducible refine q_then_n ?_) | ((with_reducible apply s_pure hF); exact rfl; exact rfl; exact rfl; (first | exact trivial | omega | exact ⟨Int.natCast_nonneg _, Int.ofNat_lt.2 (by assumption)⟩ | decide); clear hF a; intro a hF) | ((with_reducible apply s_loadB hF hM); exact rfl; exact rfl; (repeat (first | exact List.mem_cons_self | refine List.mem_cons_of_mem _ ?_)); exact rfl; exact rfl; clear hF a; intro a hF) | (with_reducible refine w_skip ?_) | (with_reducible refine r_succ ?_) | (with_reducible refine w_block ?_) | (with_reducible refine q_blk_n ?_) | ((with_reducible apply c_true2 hF); exact rfl; (first | with_reducible rfl | (refine congrArg Value.bool ?_; focus (simp; done))))))
  cases g6 : rdI y5 with
  | error e =>
    have hde : dec8 xs = .error e := by unfold dec8; simp only [g1, g2, g3, g4, g5, g6]
    rw [hde]
    refine s_callcB hF rfl rfl rfl rfl rfl rfl rfl (num5_err y5 hb5 hy5 r5 d5 hc5 be bc bb _ _ _ _ _ _ _ _ _ _ _ _ g6 hM) ?_ (fun _ _ _ h => h.elim)
    clear hF hM a
    rintro p w a ⟨rfl, cs1, cs2, hM⟩ hF
    (repeat' (first | (with_reducible refine q_then_p ?_) | (with_reducible refine q_blk_p ?_)))
    refine f_panic hF ?_
    exact ⟨rfl, _, _, _, ⟨_, _, rfl⟩, hM⟩
  | ok pr =>
  obtain ⟨n6, y6⟩ := pr
  refine s_callcM hF rfl rfl rfl rfl rfl rfl rfl (num5_ok y5 hb5 hy5 r5 d5 hc5 be bc bb _ _ _ _ _ _ _ _ _ _ _ _ g6 hM) ?_
  clear hF hM a
  rintro v w a ⟨r6, d6, hc6, hM⟩ hF
  obtain ⟨hb6, hz6, hn6, hn6'⟩ := rdI_ok hb5 g6
  have hy6 : y6.length ≤ 1000000 := by omega
  (repeat (first | (with_reducible refine w_seq ?_) | (with_reducible refine c_region ?_) | (with_reducible refine s_nil ?_) | (with_reducible refine q_then_n ?_) | ((with_reducible apply s_pure hF); exact rfl; exact rfl; exact rfl; (first | exact trivial | omega | exact ⟨Int.natCast_nonneg _, Int.ofNat_lt.2 (by assumption)⟩ | decide); clear hF a; intro a hF) | ((with_reducible apply s_loadB hF hM); exact rfl; exact rfl; (repeat (first | exact List.mem_cons_self | refine List.mem_cons_of_mem _ ?_)); exact rfl; exact rfl; clear hF a; intro a hF) | (with_reducible refine w_skip ?_) | (with_reducible refine r_succ ?_) | (with_reducible refine w_block ?_) | (with_reducible refine q_blk_n ?_) | ((with_reducible apply c_true2 hF); exact rfl; (first | with_reducible rfl | (refine congrArg Value.bool ?_; focus (simp; done))))))
  cases g7 : rdI y6 with
  | error e =>
    have hde : dec8 xs = .error e := by unfold dec8; simp only [g1, g2, g3, g4, g5, g6, g7]
    rw [hde]
    refine s_callcB hF rfl rfl rfl rfl rfl rfl rfl (num6_err y6 hb6 hy6 r6 d6 hc6 be bc bb _ _ _ _ _ _ _ _ _ _ _ _ g7 hM) ?_ (fun _ _ _ h => h.elim)
    clear hF hM a
    rintro p w a ⟨rfl, cs1, cs2, hM⟩ hF
    (repeat' (first | (with_reducible refine q_then_p ?_) | (with_reducible refine q_blk_p ?_)))
    refine f_panic hF ?_
    exact ⟨rfl, _, _, _, ⟨_, _, rfl⟩, hM⟩
  | ok pr =>
  obtain ⟨n7, y7⟩ := pr
  refine s_callcM hF rfl rfl rfl rfl rfl rfl rfl (num6_ok y6 hb6 hy6 r6 d6 hc6 be bc bb _ _ _ _ _ _ _ _ _ _ _ _ g7 hM) ?_
  clear hF hM a
  rintro v w a ⟨r7, d7, hc7, hM⟩ hF
  obtain ⟨hb7, hz7, hn7, hn7'⟩ := rdI_ok hb6 g7
  have hy7 : y7.length ≤ 1000000 := by omega
  (repeat (first | (with_reducible refine w_seq ?_) | (with_reducible refine c_region ?_) | (with_reducible refine s_nil ?_) | (with_reducible refine q_then_n ?_) | ((with_reducible apply s_pure hF); exact rfl; exact rfl; exact rfl; (first | exact trivial | omega | exact ⟨Int.natCast_nonneg _, Int.ofNat_lt.2 (by assumption)⟩ | decide); clear hF a; intro a hF) | ((with_reducible apply s_loadB hF hM); exact rfl; exact rfl; (repeat (first | exact List.mem_cons_self | refine List.mem_cons_of_mem _ ?_)); exact rfl; exact rfl; clear hF a; intro a hF) | (with_reducible refine w_skip ?_) | (with_reducible refine r_succ ?_) | (with_reducible refine w_block ?_) | (with_reducible refine q_blk_n ?_) | ((with_reducible apply c_true2 hF); exact rfl; (first | with_reducible rfl | (refine congrArg Value.bool ?_; focus (simp; done))))))
  cases g8 : rdI y7 with
  | error e =>
    have hde : dec8 xs = .error e := by unfold dec8; simp only [g1, g2, g3, g4, g5, g6, g7, g8]
    rw [hde]
    refine s_callcB hF rfl rfl rfl rfl rfl rfl rfl (num7_err y7 hb7 hy7 r7 d7 hc7 be bc bb _ _ _ _ _ _ _ _ _ _ _ _ g8 hM) ?_ (fun _ _ _ h => h.elim)
    clear hF hM a
    rintro p w a ⟨rfl, cs1, cs2, hM⟩ hF
    (repeat' (first | (with_reducible refine q_then_p ?_) | (with_reducible refine q_blk_p ?_)))
    refine f_panic hF ?_
    exact ⟨rfl, _, _, _, ⟨_, _, rfl⟩, hM⟩
  | ok pr =>
  obtain ⟨n8, y8⟩ := pr
  refine s_callcM hF rfl rfl rfl rfl rfl rfl rfl (num7_ok y7 hb7 hy7 r7 d7 hc7 be bc bb _ _ _ _ _ _ _ _ _ _ _ _ g8 hM) ?_
  clear hF hM a
  rintro v w a ⟨r8, d8, hc8, hM⟩ hF
  obtain ⟨hb8, hz8, hn8, hn8'⟩ := rdI_ok hb7 g8
  have hy8 : y8.length ≤ 1000000 := by omega
  (repeat (first | (with_reducible refine w_seq ?_) | (with_reducible refine c_region ?_) | (with_reducible refine s_nil ?_) | (with_reducible refine q_then_n ?_) | ((with_reducible apply s_pure hF); exact rfl; exact rfl; exact rfl; (first | exact trivial | omega | exact ⟨Int.natCast_nonneg _, Int.ofNat_lt.2 (by assumption)⟩ | decide); clear hF a; intro a hF) | ((with_reducible apply s_load hF hM); exact rfl; exact rfl; (repeat (first | exact List.mem_cons_self | refine List.mem_cons_of_mem _ ?_)); exact rfl; exact rfl; clear hF a; intro a hF) | (with_reducible refine r_succ ?_) | (with_reducible refine w_exit ?_) | (with_reducible refine q_then_x ?_) | (with_reducible refine q_blk_n ?_) | (with_reducible refine q_blk_x ?_) | ((with_reducible apply c_false2 hF); exact rfl; (first | with_reducible rfl | (refine congrArg Value.bool ?_; focus (simp; done))))))
  obtain ⟨c, hc⟩ : ∃ c : Ce, c = ⟨⟨l1, n2⟩, ⟨l3, n4⟩, n5, n6, n7, n8⟩ := ⟨_, rfl⟩
  have hde : dec8 xs = .ok (c, y8) := by unfold dec8; simp only [g1, g2, g3, g4, g5, g6, g7, g8, hc]
  rw [hde]
  by_cases h0 : y8.length = 0
  case neg =>
    simp only [if_pos h0]
    (repeat' (first | ((with_reducible apply s_callE (f := 58) hF hM); exact rfl; exact rfl; exact rfl; exact rfl; exact (demand_f _ _ _ hM.lt (decide_eq_false (by omega))); clear hF hM a; intro w a hM hF) | (with_reducible refine q_then_p ?_)))
    refine f_panic hF ?_
    exact ⟨rfl, _, _, _, ⟨_, _, rfl⟩, hM.sub (.cons _ (.cons _ (.cons _ (.refl _)))) (.refl _) (fun _ h => h)⟩
  have h0' : ¬ y8.length ≠ 0 := by omega
  simp only [if_neg h0']
  have hl1 : c.A.V = l1 := by rw [hc]
  have hl3 : c.S.V = l3 := by rw [hc]
  by_cases hk : chkE c = 0
  · have hk' : ¬ chkE c ≠ 0 := by omega
    simp only [if_neg hk']
    subst hc
    (repeat' (first | (with_reducible refine c_region ?_) | (with_reducible refine s_nil ?_) | ((with_reducible apply s_call (f := 58) hF hM); exact rfl; exact rfl; exact rfl; exact rfl; exact rfl; exact (demand_t _ _ _ hM.lt (decide_eq_true (by omega))); clear hF hM a; rintro v w a - - hM hF) | ((with_reducible apply s_call (f := 56) hF hM); exact rfl; exact rfl; exact rfl; exact rfl; exact rfl; exact (RetP.ok (ceChk_c ⟨⟨l1, n2⟩, ⟨l3, n4⟩, n5, n6, n7, n8⟩ p1 p3 q1 q3 (show l1.length ≤ _ by omega) k1 (show l3.length ≤ _ by omega) k3 _ _ hM.lt (hM.facts (RdF (Value.int .i64) p1 l1) (by (repeat (first | with_reducible exact List.mem_cons_self | refine List.mem_cons_of_mem _ ?_)))) (hM.facts (RdF (Value.int .i64) p3 l3) (by (repeat (first | with_reducible exact List.mem_cons_self | refine List.mem_cons_of_mem _ ?_))))) hk); clear hF hM a; rintro v w a - - hM hF) | (with_reducible refine q_then_n ?_) | ((with_reducible apply s_load hF hM); exact rfl; exact rfl; (repeat (first | exact List.mem_cons_self | refine List.mem_cons_of_mem _ ?_)); exact rfl; exact rfl; clear hF a; intro a hF)))
    (apply f_end Try.results68 hF hM; (repeat (first | exact RL.nil | (apply RL.tmp; exact rfl) | (apply RL.cell; exact rfl; (repeat (first | exact List.mem_cons_self | refine List.mem_cons_of_mem _ ?_)); exact rfl))); try dsimp only [resV])
    exact ⟨_, _, _, ⟨p1, q1, p3, q3, _, [], rfl, rfl, k1, k3⟩, hM.sub (.cons _ (.cons _ (.cons _ (.refl _)))) (.refl _) (by intro f hf; simp only [List.mem_cons, List.not_mem_nil, or_false] at hf; (repeat (rcases hf with rfl | hf; · (repeat (first | exact List.mem_cons_self | refine List.mem_cons_of_mem _ ?_)))); first | (subst hf; (repeat (first | exact List.mem_cons_self | refine List.mem_cons_of_mem _ ?_)); done) | (repeat (first | exact hf | refine List.mem_cons_of_mem _ ?_)))⟩
  · simp only [if_pos hk]
    subst hc
    (repeat' (first | (with_reducible refine c_region ?_) | (with_reducible refine s_nil ?_) | ((with_reducible apply s_call (f := 58) hF hM); exact rfl; exact rfl; exact rfl; exact rfl; exact rfl; exact (demand_t _ _ _ hM.lt (decide_eq_true (by omega))); clear hF hM a; rintro v w a - - hM hF) | ((with_reducible apply s_callE (f := 56) hF hM); exact rfl; exact rfl; exact rfl; exact rfl; exact (RetP.err (ceChk_c ⟨⟨l1, n2⟩, ⟨l3, n4⟩, n5, n6, n7, n8⟩ p1 p3 q1 q3 (show l1.length ≤ _ by omega) k1 (show l3.length ≤ _ by omega) k3 _ _ hM.lt (hM.facts (RdF (Value.int .i64) p1 l1) (by (repeat (first | with_reducible exact List.mem_cons_self | refine List.mem_cons_of_mem _ ?_)))) (hM.facts (RdF (Value.int .i64) p3 l3) (by (repeat (first | with_reducible exact List.mem_cons_self | refine List.mem_cons_of_mem _ ?_))))) hk); clear hF hM a; intro w a hM hF) | (with_reducible refine q_then_n ?_) | ((with_reducible apply s_load hF hM); exact rfl; exact rfl; (repeat (first | exact List.mem_cons_self | refine List.mem_cons_of_mem _ ?_)); exact rfl; exact rfl; clear hF a; intro a hF)))
    refine f_panic hF ?_
    exact ⟨rfl, _, _, _, ⟨_, _, rfl⟩, hM.sub (.cons _ (.cons _ (.cons _ (.refl _)))) (.refl _) (fun _ h => h)⟩
end Go.Proofs.Ytabfhoipclbeeaa


/- certificate: Decode; what is read and put. -/
namespace Go.Proofs.Ytabfhoipclbeeaa
open Go.RowKit Go.Shelf C55 K57
theorem rdList_ne : ∀ {k : Nat} {xs : List Int} {e : Int}, rdList k xs = .error e → e ≠ 0
  | 0, _, _, h => by cases h
  | k + 1, xs, e, h => by
    rw [rdList] at h
    split at h
    · rename_i he
      injection h with h
      rw [← h]; exact he
    · split at h
      · rename_i e' h2
        injection h with h
        rw [← h]; exact rdList_ne h2
      · cases h
theorem rdInts_ne {xs : List Int} {e : Int} (h : rdInts xs = .error e) : e ≠ 0 := by
  unfold rdInts at h
  split at h
  · rename_i he
    injection h with h
    rw [← h]; exact he
  · split at h
    · injection h with h
      rw [← h]; decide
    · exact rdList_ne h
theorem dec8_ne {xs : List Int} {e : Int} (h : dec8 xs = .error e) : e ≠ 0 := by
  unfold dec8 at h
  repeat' split at h
  all_goals first | (injection h with h; subst h; first | exact rdInts_ne (by assumption) | exact rdI_err (by assumption)) | cases h
theorem decC_ne {xs : List Int} {e : Int} (h : decC xs = .error e) : e ≠ 0 := by
  unfold decC at h
  split at h
  · injection h with h; rw [← h]; decide
  · split at h
    · rename_i h2
      injection h with h
      rw [← h]; exact dec8_ne h2
    · split at h
      · injection h with h; rw [← h]; decide
      · split at h
        · rename_i h2
          injection h with h
          rw [← h]; exact h2
        · cases h
/-- What Decode answers. -/
def DcR (own : Nat → Prop) (r : Except Int Ce) (v : Value) (w' : World) : Prop := match r with
  | .error e => v = .tuple #[.agg ⟨ceZ⟩, .int .i64 e]
  | .ok c => ∃ a1 c1 a2 c2, v = .tuple #[.agg ⟨ceL c a1 c1 a2 c2⟩, .int .i64 0] ∧ Has own w' (RdF (Value.int .i64) a1 c.A.V) ∧ Has own w' (RdF (Value.int .i64) a2 c.S.V) ∧ c.A.V.length ≤ c1 ∧ c.S.V.length ≤ c2
set_option maxHeartbeats 1000000 in
theorem ceDecode_c (xs : List Int) (hxb : ∀ x ∈ xs, 0 ≤ x ∧ x < 256) (hlen : xs.length ≤ 1000000) (a0 : Option Addr) (c0 : Nat) (hc0 : xs.length ≤ c0) (own : Nat → Prop) (W : World) (hl : ∀ b, own b → b < W.heap.size) (hv : Has own W (RdF (Value.int .u8) a0 xs)) :
    Calls Try.prog 30 ⟨[.slice a0 xs.length c0]⟩ W (Ret W (DcR own (decC xs))) := by
  have hM := (Mm.start hl).known hv
  refine f_start Try.func30 rfl Try.ntmps30 rfl rfl ?_; intro a hF
  (repeat (first | (with_reducible refine w_seq ?_) | (with_reducible refine c_region ?_) | (with_reducible refine s_nil ?_) | (with_reducible refine q_then_n ?_) | ((with_reducible apply s_pure hF); exact rfl; exact rfl; exact rfl; (first | exact trivial | omega | exact ⟨Int.natCast_nonneg _, Int.ofNat_lt.2 (by assumption)⟩ | decide); clear hF a; intro a hF) | ((with_reducible apply s_alloc hF hM); exact rfl; exact rfl; exact rfl; clear hF hM a; intro b w a hM hF) | ((with_reducible apply s_box hF hM); exact rfl; exact rfl; exact rfl; exact rfl; clear hF hM a; intro b w a hM hF)))
  rename_i bb _ br _
  generalize b = bc at *
  have hD := fun bg W' h => dec1_c xs hxb hlen a0 c0 hc0 (own := own) (w0 := W) (W := W') (L := []) (Fs := []) bg bc br bb h
  cases hd : decC xs with
  | error e =>
    rw [hd] at hD
    have he := decC_ne hd
    (repeat' (first | (with_reducible refine w_seq ?_) | (with_reducible refine c_region ?_) | (with_reducible refine s_nil ?_) | ((with_reducible apply s_callM (f := 46) hF); exact rfl; exact rfl; exact rfl; exact rfl; exact rfl; exact (guarded_err (fun bs' L' Fs' => ∃ cs1 cs2, bs' = [⟨bc, cs1, 29⟩, ⟨br, ⟨ceZ⟩, 29⟩, ⟨bb, cs2, 57⟩]) _ _ e rfl hM hD); clear hF hM a; rintro v w a ⟨rfl, bs', L', Fs', ⟨cs1, cs2, rfl⟩, hM⟩ hF) | (with_reducible refine q_then_n ?_) | ((with_reducible apply s_pure hF); exact rfl; exact rfl; exact rfl; (first | exact trivial | omega | exact ⟨Int.natCast_nonneg _, Int.ofNat_lt.2 (by assumption)⟩ | decide); clear hF a; intro a hF) | ((with_reducible apply s_store hF hM); exact rfl; exact rfl; exact rfl; exact rfl; (repeat (first | exact Upd.z | apply Upd.s)); exact rfl; exact rfl; exact rfl; clear hM; intro w hM) | (with_reducible refine w_ret ?_) | (with_reducible refine q_then_r ?_) | ((with_reducible apply c_dec hF); exact rfl; all_goals intro hc; all_goals (try (exfalso; omega)))))
    (apply f_ret Try.results30 hF hM; (repeat (first | exact RL.nil | (apply RL.tmp; exact rfl) | (apply RL.cell; exact rfl; (repeat (first | exact List.mem_cons_self | refine List.mem_cons_of_mem _ ?_)); exact rfl))); refine Ret.mk hM.since ?_; dsimp only [resV])
    exact rfl
  | ok c =>
    rw [hd] at hD
    (repeat' (first | (with_reducible refine w_seq ?_) | (with_reducible refine c_region ?_) | (with_reducible refine s_nil ?_) | ((with_reducible apply s_callM (f := 46) hF); exact rfl; exact rfl; exact rfl; exact rfl; exact rfl; exact (guarded_ok (fun bs' L' Fs' => ∃ a1 c1 a2 c2 cs2 Fs2, bs' = [⟨bc, ⟨ceL c a1 c1 a2 c2⟩, 29⟩, ⟨br, ⟨ceZ⟩, 29⟩, ⟨bb, cs2, 57⟩] ∧ Fs' = RdF (Value.int .i64) a1 c.A.V :: RdF (Value.int .i64) a2 c.S.V :: Fs2 ∧ c.A.V.length ≤ c1 ∧ c.S.V.length ≤ c2) _ _ rfl hM hD); clear hF hM a; rintro v w a ⟨rfl, bs', L', Fs', ⟨a1, c1, a2, c2, cs2, Fs2, rfl, rfl, k1, k2⟩, hM⟩ hF) | (with_reducible refine q_then_n ?_) | ((with_reducible apply s_pure hF); exact rfl; exact rfl; exact rfl; (first | exact trivial | omega | exact ⟨Int.natCast_nonneg _, Int.ofNat_lt.2 (by assumption)⟩ | decide); clear hF a; intro a hF) | ((with_reducible apply s_load hF hM); exact rfl; exact rfl; (repeat (first | exact List.mem_cons_self | refine List.mem_cons_of_mem _ ?_)); exact rfl; exact rfl; clear hF a; intro a hF) | ((with_reducible apply s_store hF hM); exact rfl; exact rfl; exact rfl; exact rfl; (repeat (first | exact Upd.z | apply Upd.s)); exact rfl; exact rfl; exact rfl; clear hM; intro w hM) | (with_reducible refine w_skip ?_) | (with_reducible refine w_ret ?_) | ((with_reducible apply c_false2 hF); exact rfl; (first | with_reducible rfl | (refine congrArg Value.bool ?_; focus (simp; done))))))
    (apply f_ret Try.results30 hF hM; (repeat (first | exact RL.nil | (apply RL.tmp; exact rfl) | (apply RL.cell; exact rfl; (repeat (first | exact List.mem_cons_self | refine List.mem_cons_of_mem _ ?_)); exact rfl))); refine Ret.mk hM.since ?_; dsimp only [resV])
    exact ⟨a1, c1, a2, c2, rfl, hM.factOut (f := RdF (Value.int .i64) a1 c.A.V) (by (repeat (first | with_reducible exact List.mem_cons_self | refine List.mem_cons_of_mem _ ?_))), hM.factOut (f := RdF (Value.int .i64) a2 c.S.V) (by (repeat (first | with_reducible exact List.mem_cons_self | refine List.mem_cons_of_mem _ ?_))), k1, k2⟩
end Go.Proofs.Ytabfhoipclbeeaa


/- The reference's Encode. -/
namespace Go.Proofs.Ytabfhoipclbeeaa
open Go.RowKit Go.Shelf C55 K57
theorem enc_rg {c : Ce} (hc : chkE c = 0) : (∀ x ∈ c.A.V, 0 ≤ x ∧ x ≤ 9007199254740991) ∧ (∀ x ∈ c.S.V, 0 ≤ x ∧ x ≤ 9007199254740991) ∧ (0 ≤ c.B ∧ c.B ≤ 9007199254740991) ∧ (putsL c.A.V).length ≤ 40000 ∧ (putsL c.S.V).length ≤ 40000 := by
  obtain ⟨hb, hB⟩ := chk_bok hc
  have hP := hb.num
  have htr := hb.tr
  have hA1 := hb.A.l1
  have hS1 := hb.S.l1
  have htr0 : 0 ≤ tr c := (rch_bd hb.S (x := most c) (by have := most_rg hb.A ⟨hP.1, hP.2.1⟩; omega) (fun e => by
    have := fpos_le c.S.V (most c)
    rcases Nat.lt_or_ge (fpos c.S.V (most c)) c.S.V.length with h | h
    · exact h
    · have hnv := hb.nv
      unfold never at hnv
      rw [decide_eq_true (by omega), decide_eq_true e] at hnv
      cases hnv)).1
  have vA : ∀ x ∈ c.A.V, 0 ≤ x ∧ x ≤ 9007199254740991 := fun x hx => by have := hb.A.v x hx; omega
  have vS : ∀ x ∈ c.S.V, 0 ≤ x ∧ x ≤ 9007199254740991 := fun x hx => by have := hb.S.v x hx; omega
  refine ⟨vA, vS, by unfold bndV at hB; omega, ?_, ?_⟩
  · have h1 := puts_len8 (n := c.A.V.length) (by omega)
    have h2 := flat_len8 vA
    unfold putsL
    rw [List.length_append]
    omega
  · have h1 := puts_len8 (n := c.S.V.length) (by omega)
    have h2 := flat_len8 vS
    unfold putsL
    rw [List.length_append]
    omega
end Go.Proofs.Ytabfhoipclbeeaa


/- slices.Chunk at slices of int: the function that it returns calls yield with one part after another. -/
namespace Go.Proofs.Ytabfhoipclbeeaa
open Go.RowKit Go.Shelf
attribute [local go_sem] Oper.semAt_some
namespace Chunk
/-- Part k of a slice of len elements at b, off; p elements each. -/
def cpart (b off len p k : Nat) : Value := .slice (some ⟨b, off + k * p, none⟩) (min p (len - k * p)) (min p (len - k * p))
/-- What a round keeps: what lay below n₀, and the two boxes. -/
def Kept (n₀ Bs Bp : Nat) (W W' : World) : Prop := Below n₀ W W' ∧ W'.cell? ⟨Bs, 0, none⟩ = W.cell? ⟨Bs, 0, none⟩ ∧ W'.cell? ⟨Bp, 0, none⟩ = W.cell? ⟨Bp, 0, none⟩
theorem Kept.refl (n₀ Bs Bp : Nat) (W : World) : Kept n₀ Bs Bp W W := ⟨Below.refl _ _, rfl, rfl⟩
theorem Kept.trans {n₀ Bs Bp : Nat} {A B C : World} (h : Kept n₀ Bs Bp A B) (k : Kept n₀ Bs Bp B C) : Kept n₀ Bs Bp A C := ⟨h.1.trans k.1, k.2.1.trans h.2.1, k.2.2.trans h.2.2⟩
theorem Kept.drew {n₀ Bs Bp : Nat} {A B : World} (h : Kept n₀ Bs Bp A B) : Kept n₀ Bs Bp A B.drew := ⟨h.1.drew, h.2.1, h.2.2⟩
end Chunk
open Chunk
/-- Part k, wherever the slice lies. -/
def apart (a : Option Addr) (len p k : Nat) : Value := match a with | some d => Chunk.cpart d.block d.off len p k | none => .slice none 0 0
end Go.Proofs.Ytabfhoipclbeeaa


/- Same, Few, fewPlan, and the reference's Size and finish: what each call returns. -/
namespace Go.Proofs.Ytabfhoipclbeeaa
open Go.RowKit Go.Shelf

/-- The value v is the plan p, in memory. -/
def IsPl (w : World) (v : Value) (p : P56.Pl) : Prop :=
  ∃ a1 a2 a3 a4 c1 c2 c3 c4, v = .agg #[.slice a1 p.close.length c1, .slice a2 p.start.length c2, .slice a3 p.fin.length c3, .slice a4 p.applied.length c4, .int .i64 p.bound] ∧
    Reads (Value.int .i64) w a1 p.close ∧ Reads (Value.int .i64) w a2 p.start ∧ Reads (Value.int .i64) w a3 p.fin ∧ Reads (Value.int .i64) w a4 p.applied ∧
    p.close.length ≤ 9223372036854775807 ∧ p.start.length ≤ 9223372036854775807 ∧ p.fin.length ≤ 9223372036854775807 ∧ p.applied.length ≤ 9223372036854775807
theorem IsPl.since {w w' : World} {v : Value} {p : P56.Pl} (h : IsPl w v p) (hs : Since w w') : IsPl w' v p := by
  obtain ⟨a1, a2, a3, a4, c1, c2, c3, c4, h1, h2, h3, h4, h5, h6⟩ := h
  exact ⟨a1, a2, a3, a4, c1, c2, c3, c4, h1, h2.since hs, h3.since hs, h4.since hs, h5.since hs, h6⟩
end Go.Proofs.Ytabfhoipclbeeaa


/- The reference's Plan. -/
namespace Go.Proofs.Ytabfhoipclbeeaa
open Go.RowKit Go.Shelf
attribute [local go_sem ↓] Go.wp_at_zero Go.wp_at_succ
end Go.Proofs.Ytabfhoipclbeeaa


/- The planner's carrier: newCarrier and before. -/
namespace Go.Proofs.Ytabfhoipclbeeaa
open Go.RowKit Go.Shelf
attribute [local go_sem ↓] Go.wp_at_zero Go.wp_at_succ
namespace Car
/-- The sums of the first capacities. -/
def sums (C : List Int) (k : Nat) : List Int := (List.range (k + 1)).map fun j => (C.take j).sum
end Car
/-- The value points to a carrier of the link C. -/
def IsCar (w : World) (v : Value) (C : List Int) : Prop :=
  ∃ b a c, v = .pointer (some ⟨b, 0, none⟩) ∧ Box w b #[.slice a (C.length + 1) c, .int .i64 (P56.last C)] 158 ∧ Reads (Value.int .i64) w a (Car.sums C C.length)
theorem IsCar.since {w w' : World} {v : Value} {C : List Int} (h : IsCar w v C) (hs : Since w w') : IsCar w' v C := by
  obtain ⟨b, a, c, h1, h2, h3⟩ := h
  exact ⟨b, a, c, h1, h2.since hs, h3.since hs⟩
end Go.Proofs.Ytabfhoipclbeeaa


/- sort.Search with a function that only makes new memory. -/
namespace Go.Proofs.Ytabfhoipclbeeaa
open Go.RowKit Go.Shelf
/-- r is the first place below n at which p holds; n if there is none; from there on p holds. -/
structure IsFirst (p : Nat → Bool) (n r : Nat) : Prop where
  le : r ≤ n
  below : ∀ t, t < r → p t = false
  above : ∀ t, r ≤ t → t < n → p t = true
/-- What a function of a number below n answers, in every world that has grown from w. -/
def PredAt (P : Program) (g : Nat) (lb : Array Value) (n : Nat) (p : Nat → Bool) (w : World) : Prop :=
  ∀ (i : Nat) w', i < n → Since w w' → Calls P g (#[.int .i64 i] ++ lb) w' fun e w'' => e = .returned (.bool (p i)) ∧ Since w' w''
theorem PredAt.since {P : Program} {g : Nat} {lb : Array Value} {n : Nat} {p : Nat → Bool} {w w' : World} (h : PredAt P g lb n p w) (hs : Since w w') : PredAt P g lb n p w' :=
  fun i w2 hi h2 => h i w2 hi (hs.trans h2)
end Go.Proofs.Ytabfhoipclbeeaa


/- certificate's law: small functions. -/
namespace Go.Proofs.Ytabfhoipclbeeaa
open Go.RowKit Go.Shelf C55 K57
section
variable {n : Nat} {ds : List Deferred} {l : List (Nat × Value)} {a : Act} {w : World}
variable {os rest : List Oper} {Q : Exit → Act → World → Prop}
variable {d : Nat} {ty : TypeId} {pos : String} {af : Array Edge} {g : Option (Nat × Bool)}
theorem e_eqBo {t t' : TypeId} {X Y : Operand} {x y : Bool} (hF : Fr n ds l a) (hX : ev l X = some (.bool x)) (hY : ev l Y = some (.bool y)) (hu : Try.prog.underlying t = some .bool) (hg : Try.prog.eqGuardType Try.prog.depth t = false) (w : World) {dst : Option Tmp} :
    (execOp a.eval ⟨dst, .binOp .eql t X Y t', ty, pos, af, g⟩).run Try.prog w = .ok (.value (.bool (decide (x = y)))) w := by
  have h : ∀ d : Nat, (Op.equalIn (d + 1) t (.bool x) (.bool y)).run Try.prog w = .ok (decide (x = y)) w := fun d => by
    cases x <;> cases y <;> simp [Op.equalIn, run_underlying hu]
  have he : (Op.equal t (.bool x) (.bool y)).run Try.prog w = .ok (decide (x = y)) w := h 9999
  simp [execOp, hF.eval hX, hF.eval hY, eqGuard, Sem.run_bind, Result.andThen, hg, binOp, he]
end
end Go.Proofs.Ytabfhoipclbeeaa


/- Plain law: certificates are decoded from their encodings, and encodings are canonical. -/
namespace Go.Proofs.Ytabfhoipclbeeaa
open C55 K57
/-- Numbers that are put are read. -/
theorem rdN_puts (n : Nat) : ∀ (i f : Nat) (acc : Int) (xs ys : List Int), xs.drop i = puts n ++ ys → (puts n).length ≤ f → 0 ≤ acc → acc + n * 128 ^ i ≤ 9007199254740991 → (n = 0 → i = 0) → rdN xs f i acc = (acc + n * 128 ^ i, 0, i + (puts n).length) := by
  induction n using Nat.strongRecOn with
  | _ n ih =>
    intro i f acc xs ys hd hf ha hb h0
    have get0 : ∀ (b : Int) (r : List Int), puts n = b :: r → xs[i]? = some b := by
      intro b r e
      have : (xs.drop i)[0]? = some b := by rw [hd, e]; rfl
      rw [List.getElem?_drop] at this
      exact this
    by_cases h : n < 128
    · have e := puts_lt h
      rw [e] at hf ⊢
      simp only [List.length_cons, List.length_nil] at hf ⊢
      obtain ⟨f, rfl⟩ : ∃ k, f = k + 1 := ⟨f - 1, by omega⟩
      rw [rdN_some (get0 _ _ e), if_neg (by omega), if_neg]
      · rw [show ((n : Int)) % 128 = n by omega]
      · rw [show ((n : Int)) % 128 = n by omega]
        rintro (⟨h1, h2⟩ | h1)
        · have := h0 (by omega); omega
        · omega
    · have e := puts_ge h
      rw [e] at hf ⊢
      simp only [List.length_cons] at hf ⊢
      obtain ⟨f, rfl⟩ : ∃ k, f = k + 1 := ⟨f - 1, by omega⟩
      rw [rdN_some (get0 _ _ e), if_pos (by omega)]
      have hm : ((n % 128 + 128 : Nat) : Int) % 128 = ((n % 128 : Nat) : Int) := by omega
      rw [hm]
      have hp : (0 : Int) ≤ 128 ^ i := Int.pow_nonneg (by decide)
      have hq : ((n % 128 : Nat) : Int) * 128 ^ i + ((n / 128 : Nat) : Int) * 128 ^ (i + 1) = (n : Int) * 128 ^ i := by
        rw [Int.pow_succ, Int.mul_comm (128 ^ i) 128, ← Int.mul_assoc, ← Int.add_mul]
        congr 1
        omega
      have := ih (n / 128) (by omega) (i + 1) f (acc + ((n % 128 : Nat) : Int) * 128 ^ i) xs ys (by
        have h2 : xs.drop (i + 1) = (xs.drop i).drop 1 := by rw [List.drop_drop]
        rw [h2, hd, e]
        rfl) (by omega) (Int.add_nonneg ha (Int.mul_nonneg (by omega) hp)) (by rw [Int.add_assoc, hq]; exact hb) (fun h => by omega)
      rw [this, Int.add_assoc, hq]
      congr 2
      omega
theorem rdNum_puts {n : Nat} (hn : n ≤ 9007199254740991) (ys : List Int) : rdNum (puts n ++ ys) = ((n : Int), 0, (puts n).length) := by
  have := rdN_puts n 0 8 0 (puts n ++ ys) ys (by simp) (puts_len 7 n (by omega)) (by omega) (by omega) (fun _ => rfl)
  unfold rdNum
  rw [this]
  simp
theorem rdI_puts {n : Int} (h0 : 0 ≤ n) (h1 : n ≤ 9007199254740991) (ys : List Int) : rdI (puts n.toNat ++ ys) = .ok (n, ys) := by
  unfold rdI
  rw [rdNum_puts (by omega)]
  simp only [ne_eq, not_true_eq_false, if_false]
  rw [List.drop_left, Int.toNat_of_nonneg h0]
theorem rdNum_I {xs ys : List Int} {n : Int} (h : rdI xs = .ok (n, ys)) : (rdNum xs).2.1 = 0 ∧ (rdNum xs).1 = n ∧ xs.drop (rdNum xs).2.2 = ys := by
  unfold rdI at h
  split at h
  · cases h
  · rename_i he
    injection h with h
    injection h with h1 h2
    exact ⟨by omega, h1, h2⟩
theorem rdList_puts : ∀ (l : List Int) (ys : List Int), (∀ x ∈ l, 0 ≤ x ∧ x ≤ 9007199254740991) → rdList l.length ((l.map fun x => puts x.toNat).flatten ++ ys) = .ok (l, ys)
  | [], ys, _ => rfl
  | x :: l, ys, h => by
    have hx := h x (by simp)
    have h2 := rdNum_I (rdI_puts hx.1 hx.2 ((l.map fun x => puts x.toNat).flatten ++ ys))
    rw [List.length_cons, rdList, List.map_cons, List.flatten_cons, List.append_assoc, if_neg (by omega), h2.2.2, rdList_puts l ys (fun y hy => h y (List.mem_cons_of_mem _ hy)), h2.2.1]
theorem rdInts_puts {l : List Int} (hl : l.length ≤ 65536) (h : ∀ x ∈ l, 0 ≤ x ∧ x ≤ 9007199254740991) (ys : List Int) : rdInts (putsL l ++ ys) = .ok (l, ys) := by
  have h2 := rdNum_I (rdI_puts (n := (l.length : Int)) (by omega) (by omega) ((l.map fun x => puts x.toNat).flatten ++ ys))
  rw [Int.toNat_natCast] at h2
  unfold rdInts putsL
  rw [List.append_assoc, if_neg (by omega), h2.2.1, if_neg (by omega), h2.2.2, Int.toNat_natCast]
  exact rdList_puts l ys h
theorem dec8_puts {c : Ce} (hc : chkE c = 0) (hA : c.A.V.length ≤ 65536) (hS : c.S.V.length ≤ 65536) : dec8 (encB c) = .ok (c, []) := by
  obtain ⟨r1, r2, r3, -, -⟩ := enc_rg hc
  have hb := (chk_bok hc).1
  have hn := hb.num
  have sA := hb.A.s
  have sS := hb.S.s
  unfold dec8 encB encCu
  simp only [List.append_assoc]
  rw [rdInts_puts hA r1]
  simp only
  rw [rdI_puts (by omega) (by omega)]
  simp only
  rw [rdInts_puts hS r2]
  simp only
  rw [rdI_puts (by omega) (by omega)]
  simp only
  rw [rdI_puts (by omega) (by omega)]
  simp only
  rw [rdI_puts (by omega) (by omega)]
  simp only
  rw [rdI_puts (by omega) (by omega)]
  simp only
  have := rdI_puts r3.1 r3.2 []
  rw [List.append_nil] at this
  rw [this]
theorem decC_encB {c : Ce} (h : encE c = 0) : decC (encB c) = .ok c := by
  unfold encE at h
  split at h
  · omega
  · rename_i hc
    split at h
    · omega
    · rename_i hl
      have hb := (chk_bok (show chkE c = 0 by omega)).1
      have k1 := hb.A.l1
      have k2 := hb.S.l1
      unfold decC
      rw [if_neg hl, dec8_puts (by omega) (by omega) (by omega)]
      simp only [List.length_nil, ne_eq, not_true_eq_false, if_false, hc]
end Go.Proofs.Ytabfhoipclbeeaa


/- certificate's law: the examples. -/
namespace Go.Proofs.Ytabfhoipclbeeaa
open Go.RowKit Go.Shelf C55 K57
theorem putsL_len {l : List Int} (h : ∀ x ∈ l, 0 ≤ x ∧ x ≤ 9007199254740991) (hl : l.length ≤ 65536) : (putsL l).length ≤ 8 * (l.length + 1) := by
  have h1 := flat_len8 h
  have h2 := puts_len8 (n := l.length) (by omega)
  unfold putsL
  rw [List.length_append]
  omega
theorem encE_few {c : Ce} (h : chkE c = 0) (h1 : c.A.V.length ≤ 2000) (h2 : c.S.V.length ≤ 2000) : encE c = 0 := by
  obtain ⟨r1, r2, r3, -, -⟩ := enc_rg h
  have hb := (chk_bok h).1
  have hn := hb.num
  have sA := hb.A.s
  have sS := hb.S.s
  have q1 := putsL_len r1 (by omega)
  have q2 := putsL_len r2 (by omega)
  have q3 := puts_len8 (n := c.A.S.toNat) (by omega)
  have q4 := puts_len8 (n := c.S.S.toNat) (by omega)
  have q5 := puts_len8 (n := c.P.toNat) (by omega)
  have q6 := puts_len8 (n := c.L.toNat) (by omega)
  have q7 := puts_len8 (n := c.D.toNat) (by omega)
  have q8 := puts_len8 (n := c.B.toNat) (by omega)
  unfold encE
  rw [if_neg (by omega), if_neg]
  unfold encB encCu
  simp only [List.length_append]
  omega
theorem puts_by (n : Nat) : ∀ x ∈ puts n, (0 : Int) ≤ x ∧ x < 256 := by
  induction n using Nat.strongRecOn with
  | _ n ih =>
    by_cases h : n < 128
    · rw [puts_lt h]
      intro x hx
      simp at hx
      omega
    · rw [puts_ge h]
      intro x hx
      rcases List.mem_cons.1 hx with rfl | hx
      · omega
      · exact ih (n / 128) (by omega) x hx
theorem encB_by {c : Ce} : ∀ x ∈ encB c, 0 ≤ x ∧ x < 256 := by
  unfold encB encCu putsL
  intro x hx
  have hp : ∀ n, ∀ y ∈ puts n, 0 ≤ y ∧ y < 256 := puts_by
  simp only [List.mem_append, List.mem_flatten, List.mem_map] at hx
  rcases hx with ((((((hx | ⟨_, ⟨_, _, rfl⟩, hx⟩) | hx) | ((hx | ⟨_, ⟨_, _, rfl⟩, hx⟩) | hx)) | hx) | hx) | hx) | hx <;> exact hp _ _ hx
/-- What Encode answers for a certificate that has an encoding. -/
theorem encode_ok {c : Ce} (he : encE c = 0) (a1 a2 : Option Addr) (c1 c2 : Nat) (l1 : c.A.V.length ≤ 9223372036854775807) (m1 : c.A.V.length ≤ c1) (l2 : c.S.V.length ≤ 9223372036854775807) (m2 : c.S.V.length ≤ c2) (own : Nat → Prop) (W : World) (hl : ∀ b, own b → b < W.heap.size) (hA : Has own W (RdF (Value.int .i64) a1 c.A.V)) (hS : Has own W (RdF (Value.int .i64) a2 c.S.V)) :
    Calls Try.prog 28 ⟨[.agg ⟨ceL c a1 c1 a2 c2⟩]⟩ W (Ret W fun v w' => ∃ a' c', v = .tuple #[.slice a' (encB c).length c', .int .i64 0] ∧ Has own w' (RdF (Value.int .u8) a' (encB c)) ∧ (encB c).length ≤ c') := by
  refine (ceEncode_c c a1 a2 c1 c2 l1 m1 l2 m2 own W hl hA hS).mono ?_
  rintro e w' ⟨v, rfl, hs, h | h⟩
  · exact absurd he h.1
  · exact ⟨v, rfl, hs, h.2⟩
theorem decode_ok {c : Ce} {xs : List Int} (h : decC xs = .ok c) (hxb : ∀ x ∈ xs, 0 ≤ x ∧ x < 256) (hlen : xs.length ≤ 1000000) (a0 : Option Addr) (c0 : Nat) (hc0 : xs.length ≤ c0) (own : Nat → Prop) (W : World) (hl : ∀ b, own b → b < W.heap.size) (hv : Has own W (RdF (Value.int .u8) a0 xs)) :
    Calls Try.prog 30 ⟨[.slice a0 xs.length c0]⟩ W (Ret W fun v w' => ∃ a1 c1 a2 c2, v = .tuple #[.agg ⟨ceL c a1 c1 a2 c2⟩, .int .i64 0] ∧ Has own w' (RdF (Value.int .i64) a1 c.A.V) ∧ Has own w' (RdF (Value.int .i64) a2 c.S.V) ∧ c.A.V.length ≤ c1 ∧ c.S.V.length ≤ c2) := by
  have := ceDecode_c xs hxb hlen a0 c0 hc0 own W hl hv
  rw [h] at this
  exact this
theorem encB_len {c : Ce} (he : encE c = 0) : (encB c).length ≤ 65536 := by
  unfold encE at he
  split at he
  · omega
  · split at he <;> omega
end Go.Proofs.Ytabfhoipclbeeaa


/- certificate's laws: CertificateMakes. -/
namespace Go.Proofs.Ytabfhoipclbeeaa
open Go.RowKit Go.Shelf C55 K57
namespace K57
def ce0 : Ce := ⟨⟨[], 0⟩, ⟨[], 0⟩, 0, 0, 0, 0⟩
def mkV (c : Ce) : Ce × Int := if bndE c = 0 then ({ c with B := bndV c }, 0) else (ce0, bndE c)
theorem mkV_A (c : Ce) : (mkV c).1.A.V.length ≤ c.A.V.length := by
  unfold mkV
  split
  · exact Nat.le_refl _
  · exact Nat.zero_le _
theorem mkV_S (c : Ce) : (mkV c).1.S.V.length ≤ c.S.V.length := by
  unfold mkV
  split
  · exact Nat.le_refl _
  · exact Nat.zero_le _
end K57
/-- A certificate and a number of an error that are returned. -/
def CeR (own : Nat → Prop) (x : Ce × Int) (v : Value) (w' : World) : Prop := ∃ a1 c1 a2 c2, v = .tuple #[.agg ⟨ceL x.1 a1 c1 a2 c2⟩, .int .i64 x.2] ∧ Has own w' (RdF (Value.int .i64) a1 x.1.A.V) ∧ Has own w' (RdF (Value.int .i64) a2 x.1.S.V) ∧ x.1.A.V.length ≤ c1 ∧ x.1.S.V.length ≤ c2
theorem has_nil {own : Nat → Prop} {w : World} (a : Option Addr) : Has own w (RdF (Value.int .i64) a []) := Has.pure fun w i x hx => by simp at hx
theorem ceR_0 {own : Nat → Prop} {e : Int} {w : World} : CeR own (ce0, e) (.tuple #[.agg ⟨ceZ⟩, .int .i64 e]) w := ⟨none, 0, none, 0, rfl, has_nil _, has_nil _, Nat.le_refl _, Nat.le_refl _⟩
theorem mk_uni {f : FuncId} {args : Array Value} {W : World} {own : Nat → Prop} {c : Ce} (h : Calls Try.prog f args W (Ret W (MkR own c))) : Calls Try.prog f args W (Ret W (CeR own (mkV c))) := by
  refine h.mono ?_
  rintro e w' ⟨v, rfl, hs, h | h⟩
  · refine ⟨v, rfl, hs, ?_⟩
    unfold mkV
    rw [if_neg h.1, h.2]
    exact ceR_0
  · refine ⟨v, rfl, hs, ?_⟩
    unfold mkV
    rw [if_pos h.1]
    exact h.2
end Go.Proofs.Ytabfhoipclbeeaa


/- Arguments of the rows of layer 57. -/
namespace Go.Proofs.Ytabfhoipclbeeaa
open Go.RowKit Go.Shelf Go.ChangeShapes Go.WideShapes Go.ChangeAt C55 K57
section
variable {H : Type} {enc : TypeId × Value → H} {w : World} {r : Reach} {b0 base : Nat} {spare : Nat → Bool} {held : Bool}
theorem u8_wf {x : Int} (h : (Lit.int .u8 x).wf = true) : 0 ≤ x ∧ x < 256 := by have := Go.bounds_u8 h; omega
end
end Go.Proofs.Ytabfhoipclbeeaa


/- Plain law of layer 57: a trace that is covered has a plan whose bound is at most that of the certificate. -/
namespace Go.Proofs.Ytabfhoipclbeeaa
namespace K57
open C55
theorem win_near (l : List Int) (S : Int) {m : Nat} (hm : l.length ≤ m) (s k : Nat) : ∃ s', s' ≤ m ∧ win l S s k = win l S s' k := by
  by_cases hs : s ≤ m
  · exact ⟨s, hs, rfl⟩
  · refine ⟨l.length, hm, ?_⟩
    have := win_tail l S (s - l.length) k
    rwa [show l.length + (s - l.length) = s by omega] at this
theorem cov_A {c : Ce} {t : P56.Tr} (ok : Ok c.A) (h : covAll c t = true) (s k : Nat) : win t.W 0 s k ≤ vl c.A k := by
  rw [covAll_iff] at h
  obtain ⟨s', hs', e⟩ := win_near t.W 0 (m := mostT t) (by unfold mostT; omega) s k
  rw [e]
  have key : ∀ k, k ≤ max (mostT t) c.S.V.length → win t.W 0 s' k ≤ vl c.A k := by
    intro k hk
    have := h k s' hk hs'
    unfold covAt at this
    rw [Bool.and_eq_true, decide_eq_true_eq] at this
    exact this.1
  by_cases hk : k ≤ max (mostT t) c.S.V.length
  · exact key k hk
  · have h1 := win_over (l := t.W) (S := 0) (s := s') (k := max (mostT t) c.S.V.length) (by unfold mostT; omega) (k - max (mostT t) c.S.V.length)
    rw [show max (mostT t) c.S.V.length + (k - max (mostT t) c.S.V.length) = k by omega] at h1
    have h2 := key _ (Nat.le_refl _)
    have h3 := vl_le ok (k := max (mostT t) c.S.V.length) (j := k) (by omega)
    omega
theorem cov_S {c : Ce} {t : P56.Tr} (ok : Ok c.S) (hl : c.S.S ≤ P56.last t.C) (h : covAll c t = true) (s k : Nat) : vl c.S k ≤ win t.C (P56.last t.C) s k := by
  rw [covAll_iff] at h
  obtain ⟨s', hs', e⟩ := win_near t.C (P56.last t.C) (m := mostT t) (by unfold mostT; omega) s k
  rw [e]
  have key : ∀ k, k ≤ max (mostT t) c.S.V.length → vl c.S k ≤ win t.C (P56.last t.C) s' k := by
    intro k hk
    have := h k s' hk hs'
    unfold covAt at this
    rw [Bool.and_eq_true, decide_eq_true_eq, decide_eq_true_eq] at this
    exact this.2
  by_cases hk : k ≤ max (mostT t) c.S.V.length
  · exact key k hk
  · have h1 := win_over (l := t.C) (S := P56.last t.C) (s := s') (k := max (mostT t) c.S.V.length) (by unfold mostT; omega) (k - max (mostT t) c.S.V.length)
    have h4 := vl_line ok.l0 (k := max (mostT t) c.S.V.length) (by omega) (k - max (mostT t) c.S.V.length)
    rw [show max (mostT t) c.S.V.length + (k - max (mostT t) c.S.V.length) = k by omega] at h1 h4
    have h2 := key _ (Nat.le_refl _)
    have h3 := Int.mul_le_mul_of_nonneg_left hl (show (0 : Int) ≤ ((k - max (mostT t) c.S.V.length : Nat) : Int) by omega)
    omega
/-- The ticks of a transfer: the first time at which the service curve has as much as the greatest cycle. -/
theorem tr_nat {c : Ce} (h : BOk c) : ∃ d : Nat, tr c = d ∧ most c ≤ vl c.S d ∧ ∀ x, x < d → vl c.S x < most c := by
  have hz : c.S.S = 0 → fpos c.S.V (most c) < c.S.V.length := by
    intro h0
    have := h.nv
    unfold never at this
    rw [h0] at this
    simp at this
    have := fpos_le c.S.V (most c)
    omega
  obtain ⟨r, h1, h2, h3⟩ := rch_nat h.S hz
  exact ⟨r, h1, h2, h3⟩
theorem first_end {C : List Int} {s d : Nat} {n : Int} (h : P56.carr C s + n ≤ P56.carr C (s + d)) : ∃ e, e ≤ s + d ∧ P56.IsEnd C s n e := by
  induction d with
  | zero => exact ⟨s, by omega, by omega, h, fun x h1 h2 => by omega⟩
  | succ d ih =>
    by_cases h2 : P56.carr C s + n ≤ P56.carr C (s + d)
    · obtain ⟨e, he, hE⟩ := ih h2
      exact ⟨e, by omega, hE⟩
    · by_cases hall : ∃ x, s ≤ x ∧ x < s + d ∧ P56.carr C s + n ≤ P56.carr C x
      · obtain ⟨x, hx1, hx2, hx3⟩ := hall
        have hex : ∃ m, s ≤ s + m ∧ s + m < s + d ∧ P56.carr C s + n ≤ P56.carr C (s + m) := ⟨x - s, by omega, by omega, by rw [show s + (x - s) = x by omega]; exact hx3⟩
        obtain ⟨m, hm, hmin⟩ : ∃ m, (P56.carr C s + n ≤ P56.carr C (s + m) ∧ m < d) ∧ ∀ j, j < m → ¬ (P56.carr C s + n ≤ P56.carr C (s + j)) := by
          obtain ⟨m, h1, h3, h4⟩ := hex
          clear hx1 hx2 hx3 ih
          induction m using Nat.strongRecOn with
          | _ m ihm =>
            by_cases hj : ∃ j, j < m ∧ P56.carr C s + n ≤ P56.carr C (s + j)
            · obtain ⟨j, hj1, hj2⟩ := hj
              exact ihm j hj1 (by omega) (by omega) hj2
            · exact ⟨m, ⟨h4, by omega⟩, fun j hjm hc => hj ⟨j, hjm, hc⟩⟩
        refine ⟨s + m, by omega, by omega, hm.1, fun y hy1 hy2 => ?_⟩
        have := hmin (y - s) (by omega)
        rw [show s + (y - s) = y by omega] at this
        omega
      · refine ⟨s + (d + 1), by omega, by omega, h, fun y hy1 hy2 => ?_⟩
        apply Classical.byContradiction
        intro hc
        by_cases hyd : y = s + d
        · subst hyd; omega
        · exact hall ⟨y, hy1, by omega, by omega⟩
theorem size_win (t : P56.Tr) (k : Nat) : P56.size t k = win t.W 0 (k * t.P.toNat) t.P.toNat := by
  unfold P56.size win up
  have h1 := List.take_append_drop (k * t.P.toNat) (t.W.take (k * t.P.toNat + t.P.toNat))
  have h2 : ((t.W.drop (k * t.P.toNat)).take t.P.toNat) = (t.W.take (k * t.P.toNat + t.P.toNat)).drop (k * t.P.toNat) := by rw [List.drop_take]; congr 1; omega
  have h3 : (t.W.take (k * t.P.toNat + t.P.toNat)).take (k * t.P.toNat) = t.W.take (k * t.P.toNat) := by rw [List.take_take]; congr 1; omega
  rw [h3] at h1
  rw [h2]
  have h4 := congrArg List.sum h1
  rw [List.sum_append] at h4
  simp only [Int.mul_zero, Int.add_zero]
  omega
/-- No transfer of a covered trace lasts longer than the certificate says. -/
theorem cov_ends {c : Ce} {t : P56.Tr} (hb : BOk c) (okt : P56.Ok t) (hP : t.P = c.P) (hl : c.S.S ≤ P56.last t.C) (h : covAll c t = true) {d : Nat} (hd : tr c = d) (hm : most c ≤ vl c.S d) :
    ∀ k, ∃ e, P56.endOf t k = some e ∧ e ≤ k * t.P.toNat + d := by
  have hdP := hb.tr
  have hp := hb.num.1
  intro k
  induction k with
  | zero => exact ⟨0, rfl, by omega⟩
  | succ k ih =>
    obtain ⟨e, he, hle⟩ := ih
    have e1 : (k + 1) * t.P.toNat = k * t.P.toNat + t.P.toNat := Nat.succ_mul _ _
    have hst : max ((k + 1) * t.P.toNat) e = (k + 1) * t.P.toNat := by omega
    have hA := cov_A hb.A h (k * t.P.toNat) t.P.toNat
    rw [← size_win] at hA
    have hmost : vl c.A t.P.toNat = most c := by unfold most; rw [hP]
    have hS := cov_S hb.S hl h ((k + 1) * t.P.toNat) d
    have hcar : win t.C (P56.last t.C) ((k + 1) * t.P.toNat) d = P56.carr t.C ((k + 1) * t.P.toNat + d) - P56.carr t.C ((k + 1) * t.P.toNat) := rfl
    obtain ⟨e', he', hE⟩ := first_end (C := t.C) (s := (k + 1) * t.P.toNat) (d := d) (n := P56.size t k) (by omega)
    refine ⟨e', ?_, by omega⟩
    rw [P56.endOf, he, Option.bind_some, hst]
    exact P56.finish_of_isEnd okt.c hE
theorem cov_bdR {t : P56.Tr} {d : Nat} {B : Int} (hB : t.P.toNat + d + t.L + t.A - 1 ≤ B) (hB0 : 0 ≤ B) (h : ∀ k, ∃ e, P56.endOf t k = some e ∧ e ≤ k * t.P.toNat + d) : ∀ k, P56.bdR t k ≤ B := by
  intro k
  induction k with
  | zero => exact hB0
  | succ k ih =>
    obtain ⟨e, he, hle⟩ := h (k + 1)
    have e1 : (k + 1) * t.P.toNat = k * t.P.toNat + t.P.toNat := Nat.succ_mul _ _
    have hen : P56.en t (k + 1) = e := by unfold P56.en; rw [he]; rfl
    have hap : P56.ap t k = (e : Int) + t.L + t.A := by unfold P56.ap; rw [hen]
    rw [P56.bdR]
    split <;> omega
/-- The plan of a trace that is covered. -/
theorem holds {c : Ce} {t : P56.Tr} (hE : covE c t = 0) (hV : covV c t = true) : (P56.plan t).2 = 0 ∧ (P56.plan t).1.bound ≤ c.B := by
  have hc : chkE c = 0 := by
    unfold covE at hE
    split at hE <;> omega
  have ht : P56.check t = 0 := by
    unfold covE at hE
    split at hE <;> omega
  obtain ⟨hb, hB⟩ := chk_bok hc
  have okt := P56.check_ok.1 ht
  unfold covV at hV
  rw [Bool.and_eq_true, decide_eq_true_eq] at hV
  obtain ⟨⟨-, hP, hL, hD, hl⟩, hall⟩ := hV
  obtain ⟨d, hd, hm, -⟩ := tr_nat hb
  have hends := cov_ends hb okt hP hl hall hd hm
  have hp := hb.num
  have hL0 := okt.l0
  have hA0 := okt.a0
  unfold bndV at hB
  have hbd := cov_bdR (B := c.B) (by omega) (by omega) hends (P56.cycles t)
  unfold P56.plan P56.planOk
  obtain ⟨e, he, -⟩ := hends (P56.cycles t)
  rw [if_pos ht, he, Option.isSome_some, if_pos rfl]
  refine ⟨rfl, ?_⟩
  show P56.boundR t ≤ c.B
  rw [P56.boundR_eq t (by omega)]
  exact hbd
end K57
end Go.Proofs.Ytabfhoipclbeeaa


/- Plain law of layer 57: the worst trace of a certificate is covered, and its plan has the bound of the certificate. -/
namespace Go.Proofs.Ytabfhoipclbeeaa
namespace K57
open C55
theorem vl_0 {c : Cu} {sub : Bool} (ok : Ok c) (h : addB sub c = true) : vl c 0 = 0 := by
  have h0 := (addB_iff.1 h).1
  have h1 := ok.l0
  unfold vl val
  rw [if_pos (by omega)]
  exact h0
theorem add_all {c : Cu} {sub : Bool} (ok : Ok c) (h : addB sub c = true) (s t : Nat) : hold sub (vl c (s + t)) (vl c s + vl c t) = true := by
  have h0 := vl_0 ok h
  have hl := ok.l0
  have refl : ∀ x : Int, hold sub x x = true := fun x => by unfold hold; split <;> simp
  have small : ∀ s t : Nat, s ≤ c.V.length → t ≤ c.V.length → hold sub (vl c (s + t)) (vl c s + vl c t) = true := by
    intro s t hs ht
    by_cases e1 : s = 0
    · subst e1; rw [h0, Nat.zero_add, Int.zero_add]; exact refl _
    by_cases e2 : t = 0
    · subst e2; rw [h0, Nat.add_zero, Int.add_zero]; exact refl _
    exact (addB_iff.1 h).2 s t (by omega) hs (by omega) ht
  obtain ⟨s', u, hs, hs', hu⟩ : ∃ s' u, s = s' + u ∧ s' ≤ c.V.length ∧ (u = 0 ∨ s' = c.V.length) := by
    by_cases g : s ≤ c.V.length
    · exact ⟨s, 0, rfl, g, .inl rfl⟩
    · exact ⟨c.V.length, s - c.V.length, by omega, Nat.le_refl _, .inr rfl⟩
  obtain ⟨t', v, ht, ht', hv⟩ : ∃ t' v, t = t' + v ∧ t' ≤ c.V.length ∧ (v = 0 ∨ t' = c.V.length) := by
    by_cases g : t ≤ c.V.length
    · exact ⟨t, 0, rfl, g, .inl rfl⟩
    · exact ⟨c.V.length, t - c.V.length, by omega, Nat.le_refl _, .inr rfl⟩
  have key := small s' t' hs' ht'
  have q1 : vl c s = vl c s' + (u : Int) * c.S := by
    rcases hu with g | g
    · subst g; rw [hs]; simp
    · rw [hs]; exact vl_line hl (by omega) u
  have q2 : vl c t = vl c t' + (v : Int) * c.S := by
    rcases hv with g | g
    · subst g; rw [ht]; simp
    · rw [ht]; exact vl_line hl (by omega) v
  have q3 : vl c (s + t) = vl c (s' + t') + ((u + v : Nat) : Int) * c.S := by
    by_cases g : u = 0 ∧ v = 0
    · rw [hs, ht, g.1, g.2]; simp
    · rw [show s + t = s' + t' + (u + v) by omega]
      exact vl_line hl (by omega) (u + v)
  rw [Int.natCast_add, Int.add_mul] at q3
  unfold hold at key ⊢
  cases sub <;> simp only [if_true, if_false, Bool.false_eq_true, decide_eq_true_eq] at key ⊢ <;> omega
theorem gen_1 {c : Cu} (ok : Ok c) (h : genB c = true) (k : Nat) : vl c (k + 1) - vl c k ≤ 4096 := by
  obtain ⟨h1, h2⟩ := genB_iff.1 h
  by_cases g : k + 1 < c.V.length
  · exact h1 k g
  · have := vl_line ok.l0 (k := k) (by omega) 1
    omega
theorem gen_k {c : Cu} (ok : Ok c) (h : genB c = true) (k : Nat) : ∀ j : Nat, vl c (k + j) ≤ vl c k + 4096 * (j : Int)
  | 0 => by simp
  | j + 1 => by
    have h1 := gen_k ok h k j
    have h2 := gen_1 ok h (k + j)
    rw [show k + (j + 1) = k + j + 1 by omega]
    omega
theorem gr_rg {c : Cu} (ok : Ok c) (h : genB c = true) (k : Nat) : 0 ≤ gr c k ∧ gr c k ≤ 4096 := by
  have h1 := gen_1 ok h k
  have h2 := vl_step ok k
  unfold gr
  omega
theorem tab_mem {F : Nat → Int} {n : Nat} {x : Int} (h : x ∈ tab F n) : ∃ k, x = F k := by
  unfold tab at h
  obtain ⟨k, -, rfl⟩ := List.mem_map.1 h
  exact ⟨k, rfl⟩
/-- What has arrived up to a time. -/
theorem up_W {c : Cu} (h0 : vl c 0 = 0) (n : Nat) : ∀ k, up (tab (gr c) n) 0 k = vl c (min k n)
  | 0 => by rw [up_zero, Nat.zero_min, h0]
  | k + 1 => by
    by_cases g : k < n
    · rw [up_step (tab_at g), up_W h0 n k, show min k n = k by omega, show min (k + 1) n = k + 1 by omega]
      unfold gr
      omega
    · rw [up_over (by rw [tab_len]; omega), up_W h0 n k, show min k n = n by omega, show min (k + 1) n = n by omega]
      omega
def wF (S : Cu) (p k : Nat) : Int := 4096 * (min k p : Nat) + vl S (k - p)
theorem up_C {S : Cu} (ok : Ok S) (h0 : vl S 0 = 0) (p : Nat) : ∀ k, up (List.replicate p 4096 ++ tab (gr S) S.V.length) S.S k = wF S p k
  | 0 => by rw [up_zero]; unfold wF; rw [Nat.zero_min, Nat.zero_sub, h0]; simp
  | k + 1 => by
    have ih := up_C ok h0 p k
    by_cases g : k < p
    · have e : (List.replicate p (4096 : Int) ++ tab (gr S) S.V.length)[k]? = some 4096 := by
        rw [List.getElem?_append_left (by rw [List.length_replicate]; exact g), List.getElem?_replicate, if_pos g]
      rw [up_step e, ih]
      unfold wF
      rw [show min k p = k by omega, show min (k + 1) p = k + 1 by omega, show k - p = 0 by omega, show k + 1 - p = 0 by omega]
      omega
    · by_cases g2 : k - p < S.V.length
      · have e : (List.replicate p (4096 : Int) ++ tab (gr S) S.V.length)[k]? = some (gr S (k - p)) := by
          rw [List.getElem?_append_right (by rw [List.length_replicate]; omega), List.length_replicate, tab_at g2]
        rw [up_step e, ih]
        unfold wF gr
        rw [show min k p = p by omega, show min (k + 1) p = p by omega, show k + 1 - p = k - p + 1 by omega]
        omega
      · rw [up_over (by rw [List.length_append, List.length_replicate, tab_len]; omega), ih]
        unfold wF
        have := vl_line ok.l0 (k := k - p) (by omega) 1
        rw [show min k p = p by omega, show min (k + 1) p = p by omega, show k + 1 - p = k - p + 1 by omega]
        omega
theorem last_C {S : Cu} (ok : Ok S) (p : Nat) : P56.last (List.replicate p 4096 ++ tab (gr S) S.V.length) = S.S := by
  have hl := ok.l0
  obtain ⟨m, hm⟩ : ∃ m, S.V.length = m + 1 := ⟨S.V.length - 1, by omega⟩
  unfold P56.last
  rw [hm, tab_succ, ← List.append_assoc, List.getLastD_eq_getLast?, List.getLast?_append]
  simp only [List.getLast?_singleton, Option.some_or, Option.getD_some]
  have := vl_line hl (k := m) (by omega) 1
  unfold gr
  omega
section
variable {c : Ce} {n : Nat} (hb : BOk c) (hn : c.P ≤ n)
include hb
theorem wrs_A (s k : Nat) : win (wrsT c n).W 0 s k ≤ vl c.A k := by
  have h0 := vl_0 hb.A hb.sub
  show win (tab (gr c.A) n) 0 s k ≤ _
  unfold win
  rw [up_W h0, up_W h0]
  have h1 := add_all hb.A hb.sub (min s n) (min (s + k) n - min s n)
  rw [show min s n + (min (s + k) n - min s n) = min (s + k) n by omega] at h1
  have h2 := vl_le hb.A (k := min (s + k) n - min s n) (j := k) (by omega)
  unfold hold at h1
  simp only [if_true, decide_eq_true_eq] at h1
  omega
theorem wrs_S (s k : Nat) : vl c.S k ≤ win (wrsT c n).C (P56.last (wrsT c n).C) s k := by
  have h0 := vl_0 hb.S hb.sup
  have hl : P56.last (wrsT c n).C = c.S.S := last_C hb.S _
  rw [hl]
  show _ ≤ win (List.replicate c.P.toNat 4096 ++ tab (gr c.S) c.S.V.length) c.S.S s k
  unfold win
  rw [up_C hb.S h0, up_C hb.S h0]
  unfold wF
  generalize c.P.toNat = p
  have hadd := fun s t => add_all hb.S hb.sup s t
  simp only [hold, if_false, Bool.false_eq_true, decide_eq_true_eq] at hadd
  by_cases g : p ≤ s
  · have := hadd (s - p) k
    rw [show min (s + k) p = p by omega, show min s p = p by omega, show s + k - p = s - p + k by omega]
    omega
  · by_cases g2 : s + k ≤ p
    · have := gen_k hb.S hb.gS 0 k
      rw [Nat.zero_add] at this
      rw [show min (s + k) p = s + k by omega, show min s p = s by omega, show s + k - p = 0 by omega, show s - p = 0 by omega]
      omega
    · have := gen_k hb.S hb.gS (s + k - p) (p - s)
      rw [show s + k - p + (p - s) = k by omega] at this
      rw [show min (s + k) p = p by omega, show min s p = s by omega, show s - p = 0 by omega]
      omega
theorem wrs_ok (hn2 : n ≤ 4096) (hl : c.P + c.S.V.length ≤ 4096) : P56.Ok (wrsT c n) := by
  have hp := hb.num
  have hl0 := hb.S.l0
  refine ⟨by rw [wrsT_W]; exact hn2, by rw [wrsT_C]; omega, by rw [wrsT_C]; omega, fun x hx => ?_, fun x hx => ?_, hp.1, hp.2.1, hp.2.2.1, hp.2.2.2.2.1, hp.2.2.2.1, hp.2.2.2.2.2⟩
  · obtain ⟨k, rfl⟩ := tab_mem (show x ∈ tab (gr c.A) n from hx)
    exact gr_rg hb.A hb.gA k
  · rcases List.mem_append.1 (show x ∈ List.replicate c.P.toNat 4096 ++ tab (gr c.S) c.S.V.length from hx) with hx | hx
    · rw [List.eq_of_mem_replicate hx]; decide
    · obtain ⟨k, rfl⟩ := tab_mem hx
      exact gr_rg hb.S hb.gS k
end
theorem bdR_mono (t : P56.Tr) : ∀ k d, P56.bdR t k ≤ P56.bdR t (k + d)
  | _, 0 => Int.le_refl _
  | k, d + 1 => by
    have h1 := bdR_mono t k d
    rw [show k + (d + 1) = k + d + 1 by omega, P56.bdR]
    split <;> omega
/-- The worst trace is covered, and its plan has the bound. -/
theorem reached {c : Ce} {n : Int} (h : wrsE c n = 0) : covE c (wrsT c n.toNat) = 0 ∧ covV c (wrsT c n.toNat) = true ∧ (P56.plan (wrsT c n.toNat)).2 = 0 ∧ (P56.plan (wrsT c n.toNat)).1.bound = c.B := by
  obtain ⟨hc, hn, hn2, hl⟩ := wrsE_ok h
  obtain ⟨hb, hB⟩ := chk_bok hc
  have hp := hb.num
  obtain ⟨m, hm⟩ : ∃ m : Nat, n = m := ⟨n.toNat, by omega⟩
  subst hm
  rw [Int.toNat_natCast]
  have okt := wrs_ok (n := m) hb (by omega) hl
  have hE : covE c (wrsT c m) = 0 := by
    unfold covE
    rw [if_neg (by omega)]
    exact P56.check_ok.2 okt
  have hV : covV c (wrsT c m) = true := by
    unfold covV
    rw [Bool.and_eq_true, decide_eq_true_eq]
    refine ⟨⟨hE, rfl, Int.le_refl _, Int.le_refl _, by rw [show P56.last (wrsT c m).C = c.S.S from last_C hb.S _]; exact Int.le_refl _⟩, covAll_iff.2 fun k s _ _ => ?_⟩
    unfold covAt
    rw [Bool.and_eq_true, decide_eq_true_eq, decide_eq_true_eq]
    exact ⟨wrs_A hb s k, wrs_S hb s k⟩
  obtain ⟨hp1, hp2⟩ := holds hE hV
  refine ⟨hE, hV, hp1, ?_⟩
  obtain ⟨d, hd, hd1, hd2⟩ := tr_nat hb
  have hA0 := vl_0 hb.A hb.sub
  have hS0 := vl_0 hb.S hb.sup
  have hP : (wrsT c m).P.toNat = c.P.toNat := rfl
  have hsz : P56.size (wrsT c m) 0 = most c := by
    rw [size_win, hP, Nat.zero_mul]
    show win (tab (gr c.A) m) 0 0 c.P.toNat = _
    unfold win
    rw [up_zero, Nat.zero_add, up_W hA0, show min c.P.toNat m = c.P.toNat by omega]
    unfold most
    omega
  have hcar : ∀ x, P56.carr (wrsT c m).C x = wF c.S c.P.toNat x := by
    intro x
    have hlast : P56.last (wrsT c m).C = c.S.S := last_C hb.S _
    have : P56.carr (wrsT c m).C x = up (wrsT c m).C (P56.last (wrsT c m).C) x := rfl
    rw [this, hlast]
    exact up_C hb.S hS0 _ x
  have hend : P56.IsEnd (wrsT c m).C c.P.toNat (most c) (c.P.toNat + d) := by
    refine ⟨by omega, ?_, fun x h1 h2 => ?_⟩
    · rw [hcar, hcar]
      unfold wF
      rw [Nat.min_self, Nat.sub_self, hS0, show min (c.P.toNat + d) c.P.toNat = c.P.toNat by omega, show c.P.toNat + d - c.P.toNat = d by omega]
      omega
    · have := hd2 (x - c.P.toNat) (by omega)
      rw [hcar, hcar]
      unfold wF
      rw [Nat.min_self, Nat.sub_self, hS0, show min x c.P.toNat = c.P.toNat by omega]
      omega
  have hen : P56.en (wrsT c m) 1 = c.P.toNat + d := by
    have hf := P56.finish_of_isEnd okt.c hend
    unfold P56.en P56.endOf P56.endOf
    rw [Option.bind_some, hP, hsz, show max ((0 + 1) * c.P.toNat) 0 = c.P.toNat by omega, hf]
    rfl
  have hb1 : P56.bdR (wrsT c m) 1 = c.B := by
    have hap : P56.ap (wrsT c m) 0 = (c.P.toNat : Int) + d + c.L + c.D := by
      unfold P56.ap
      rw [hen]
      show ((c.P.toNat + d : Nat) : Int) + c.L + c.D = _
      omega
    have e1 : P56.bdR (wrsT c m) 1 = max 0 (P56.ap (wrsT c m) 0 - 1 - ((0 * (wrsT c m).P.toNat : Nat) : Int)) := by
      rw [P56.bdR, if_pos (.inl rfl)]
      rfl
    rw [e1, hap, Nat.zero_mul]
    unfold bndV at hB
    omega
  have hcy : 1 ≤ P56.cycles (wrsT c m) := by
    unfold P56.cycles
    rw [wrsT_W, hP]
    exact (Nat.le_div_iff_mul_le (by omega)).2 (by omega)
  have hge : c.B ≤ (P56.plan (wrsT c m)).1.bound := by
    have hm := bdR_mono (wrsT c m) 1 (P56.cycles (wrsT c m) - 1)
    rw [show 1 + (P56.cycles (wrsT c m) - 1) = P56.cycles (wrsT c m) by omega, hb1] at hm
    unfold P56.plan P56.planOk at hp1 ⊢
    rw [if_pos (P56.check_ok.2 okt)] at hp1 ⊢
    split at hp1
    · rename_i hs
      rw [if_pos hs]
      show c.B ≤ P56.boundR (wrsT c m)
      rw [P56.boundR_eq _ (by rw [hP]; omega)]
      exact hm
    · exact absurd hp1 (by decide)
  omega
end K57
end Go.Proofs.Ytabfhoipclbeeaa


/- certificate's laws: CertificateReached. -/
namespace Go.Proofs.Ytabfhoipclbeeaa
open Go.RowKit Go.Shelf C55 K57
theorem worst_ok {c : Ce} {n : Int} (h : wrsE c n = 0) (a1 a2 : Option Addr) (c1 c2 : Nat) (l1 : c.A.V.length ≤ 9223372036854775807) (m1 : c.A.V.length ≤ c1) (l2 : c.S.V.length ≤ 9223372036854775807) (m2 : c.S.V.length ≤ c2) (own : Nat → Prop) (W : World) (hl : ∀ b, own b → b < W.heap.size) (hA : Has own W (RdF (Value.int .i64) a1 c.A.V)) (hS : Has own W (RdF (Value.int .i64) a2 c.S.V)) :
    Calls Try.prog 21 ⟨[.agg ⟨ceL c a1 c1 a2 c2⟩, .int .i64 n]⟩ W (Ret W fun v w' => ∃ aw cw ac cc, v = .tuple #[.agg ⟨trL (wrsT c n.toNat) aw cw ac cc⟩, .int .i64 0] ∧ Has own w' (RdF (Value.int .i64) aw (wrsT c n.toNat).W) ∧ Has own w' (RdF (Value.int .i64) ac (wrsT c n.toNat).C) ∧ (wrsT c n.toNat).W.length ≤ cw ∧ (wrsT c n.toNat).C.length ≤ cc) := by
  refine (worst_c c a1 a2 c1 c2 l1 m1 l2 m2 n own W hl hA hS).mono ?_
  rintro e w' ⟨v, rfl, hs, k | k⟩
  · exact absurd h k.1
  · exact ⟨v, rfl, hs, k.2⟩
theorem mk_chk {d c : Ce} (h : bndE d = 0) (hc : c = { d with B := bndV d }) : chkE c = 0 := by
  have e1 : bndE c = bndE d := by subst hc; rfl
  have e2 : bndV c = c.B := by subst hc; rfl
  unfold chkE
  rw [if_neg (by omega), if_pos e2]
end Go.Proofs.Ytabfhoipclbeeaa


/- Plain law of layer 57: the certificate for the curves of a trace covers this trace. -/
namespace Go.Proofs.Ytabfhoipclbeeaa
namespace K57
open C55
/-- A sequence of a trace that has few ticks. -/
structure Med (l : List Int) (S : Int) : Prop where
  n : l.length ≤ 60
  v : ∀ x ∈ l, 0 ≤ x ∧ x ≤ 4096
  s : 0 ≤ S ∧ S ≤ 4096
theorem sum_med : ∀ {l : List Int}, (∀ x ∈ l, 0 ≤ x ∧ x ≤ 4096) → 0 ≤ l.sum ∧ l.sum ≤ (l.length : Int) * 4096
  | [], _ => by simp
  | x :: l, h => by
    have h1 := h x (by simp)
    have h2 := sum_med (l := l) fun y hy => h y (by simp [hy])
    simp only [List.sum_cons, List.length_cons]
    omega
section
variable {l : List Int} {S : Int} (h : Med l S)
include h
theorem Med.ok : SOk l S :=
  ⟨by have := h.n; omega, fun x hx => by have := h.v x hx; omega, by have := sum_med h.v; have := h.n; omega, by have := h.s; omega⟩
theorem Med.upB {t : Nat} (ht : t ≤ 1000) : 0 ≤ up l S t ∧ up l S t ≤ 5000000 := by
  have h1 := sum_take_le (l := l) (fun x hx => (h.v x hx).1) t
  have h2 := mul_bd (x := ((t - l.length : Nat) : Int)) (a := 1000) (y := S) (b := 4096) (by omega) h.s
  have h3 := sum_med h.v
  have h4 := h.n
  unfold up
  omega
theorem Med.winB {s k : Nat} (hs : s ≤ 500) (hk : k ≤ 500) : 0 ≤ win l S s k ∧ win l S s k ≤ 5000000 := by
  have h1 := h.upB (t := s) (by omega)
  have h2 := h.upB (t := s + k) (by omega)
  have h3 := h.ok.up_mono s k
  unfold win
  omega
theorem Med.bwB (g : Bool) {k n : Nat} (hk : k ≤ 500) (hn : n ≤ 500) : 0 ≤ bw g l S k n ∧ bw g l S k n ≤ 5000000 := by
  obtain ⟨i, h1, h2⟩ := bw_one g l S k n
  rw [h2]
  exact h.winB (by omega) hk
theorem Med.wcOk (g : Bool) : Ok (wc g l S) := wc_ok h.ok fun k hk => by
  have := (h.bwB g (k := k) (n := l.length) (by have := h.n; omega) (by have := h.n; omega)).2
  omega
theorem Med.wins (g : Bool) : wins g l S = (wc g l S, 0) := by
  unfold C55.wins
  rw [if_neg (by rw [seq_ok.2 h.ok]; simp), if_neg]
  · rfl
  rw [Bool.not_eq_true, List.any_eq_false]
  intro x hx
  obtain ⟨k, hk, rfl⟩ := List.mem_map.1 hx
  have hk := List.mem_range.1 hk
  have := (h.bwB g (k := k) (n := l.length) (by have := h.n; omega) (by have := h.n; omega)).2
  simp only [decide_eq_true_eq]
  omega
theorem Med.up1 (t : Nat) : up l S (t + 1) ≤ up l S t + 4096 := by
  rcases Nat.lt_or_ge t l.length with e | e
  · rw [up_step (S := S) (List.getElem?_eq_getElem e)]
    have := h.v _ (List.getElem_mem e)
    omega
  · rw [up_over e]
    have := h.s
    omega
end
theorem win_add (l : List Int) (S : Int) (i s t : Nat) : win l S i (s + t) = win l S i s + win l S (i + s) t := by
  unfold win
  rw [show i + (s + t) = i + s + t by omega]
  omega
theorem bw_zero (g : Bool) (l : List Int) (S : Int) (n : Nat) : bw g l S 0 n = 0 := by
  obtain ⟨i, -, e⟩ := bw_one g l S 0 n
  rw [e]
  unfold win
  rw [Nat.add_zero]
  omega
theorem wc_add (g : Bool) (l : List Int) (S : Int) : addB g (wc g l S) = true := by
  refine addB_iff.2 ⟨?_, fun s t _ _ _ _ => ?_⟩
  · have h1 := wc_get g l S (k := 0) (by omega)
    rw [List.getD_eq_getElem?_getD, h1, bw_zero]
    rfl
  · unfold addAt
    rw [wc_vl, wc_vl, wc_vl]
    obtain ⟨i, -, e⟩ := bw_one g l S (s + t) l.length
    have a := bw_every g l S s i
    have b := bw_every g l S t (i + s)
    rw [e, win_add]
    cases g <;> simp only [better, if_true, if_false, Bool.false_eq_true] at a b <;> unfold hold <;> simp <;> omega
theorem wc_gen (g : Bool) {l : List Int} {S : Int} (h : Med l S) : genB (wc g l S) = true := by
  refine genB_iff.2 ⟨fun t _ => ?_, h.s.2⟩
  rw [wc_vl, wc_vl]
  cases g with
  | true =>
    obtain ⟨i, -, e⟩ := bw_one true l S (t + 1) l.length
    have a := bw_every true l S t i
    simp only [better, if_true] at a
    have u := h.up1 (i + t)
    rw [e]
    unfold win at a ⊢
    rw [show i + (t + 1) = i + t + 1 by omega]
    omega
  | false =>
    obtain ⟨i, -, e⟩ := bw_one false l S t l.length
    have a := bw_every false l S (t + 1) i
    simp only [better, if_false, Bool.false_eq_true] at a
    have u := h.up1 (i + t)
    rw [e]
    unfold win at a ⊢
    rw [show i + (t + 1) = i + t + 1 by omega] at a
    omega
/-- The certificate for the curves of a trace. -/
def mes (t : P56.Tr) : Ce := ⟨wc true t.W 0, wc false t.C (P56.last t.C), t.P, t.L, t.A, 0⟩
section
variable {t : P56.Tr} (ok : P56.Ok t)
include ok
theorem mes_last : 0 ≤ P56.last t.C ∧ P56.last t.C ≤ 4096 := P56.last_nonneg ok.c
theorem mes_W (h : t.W.length ≤ 40) : Med t.W 0 := ⟨by omega, ok.w, by omega⟩
theorem mes_C (h : t.C.length ≤ 60) : Med t.C (P56.last t.C) := ⟨h, ok.c, mes_last ok⟩
variable (hW : t.W.length ≤ 40) (hC : t.C.length ≤ 60)
include hW hC
theorem mes_e : bndE (mes t) = 0 ∨ bndE (mes t) = 21 := by
  have h1 : check (mes t).A = 0 := check_ok.2 ((mes_W ok hW).wcOk true)
  have h2 : check (mes t).S = 0 := check_ok.2 ((mes_C ok hC).wcOk false)
  have h3 : (addB true (mes t).A && addB false (mes t).S) = true := by
    rw [Bool.and_eq_true]
    exact ⟨wc_add true _ _, wc_add false _ _⟩
  have h4 : (genB (mes t).A && genB (mes t).S && numB (mes t)) = true := by
    rw [Bool.and_eq_true, Bool.and_eq_true]
    exact ⟨⟨wc_gen true (mes_W ok hW), wc_gen false (mes_C ok hC)⟩, decide_eq_true ⟨ok.p0, ok.p, ok.l0, ok.a0, ok.l, ok.a⟩⟩
  cases h5 : late (mes t) with
  | true => exact .inr (bndE_21 h1 h2 h3 h4 h5)
  | false => exact .inl (bndE_0 h1 h2 h3 h4 h5)
/-- The certificate covers the trace, with less latency and less time for applying. -/
theorem mes_cov {c : Ce} (hc : c = { mes t with B := bndV (mes t) }) (he : bndE (mes t) = 0) {L A : Int} (h1 : 0 ≤ L) (h2 : L ≤ t.L) (h3 : 0 ≤ A) (h4 : A ≤ t.A) : covE c { t with L := L, A := A } = 0 ∧ covV c { t with L := L, A := A } = true := by
  have hk : chkE c = 0 := by
    have e1 : bndE c = bndE (mes t) := by subst hc; rfl
    have e2 : bndV c = c.B := by subst hc; rfl
    unfold chkE
    rw [if_neg (by omega), if_pos e2]
  have ht : P56.check { t with L := L, A := A } = 0 := P56.check_ok.2 ⟨ok.wlen, ok.clen0, ok.clen, ok.w, ok.c, ok.p0, ok.p, h1, by have := ok.l; show L ≤ _; omega, h3, by have := ok.a; show A ≤ _; omega⟩
  have hE : covE c { t with L := L, A := A } = 0 := by
    unfold covE
    rw [if_neg (by omega), ht]
  refine ⟨hE, ?_⟩
  unfold covV
  rw [Bool.and_eq_true, decide_eq_true_eq, hE]
  refine ⟨⟨rfl, by rw [hc]; rfl, by rw [hc]; exact h2, by rw [hc]; exact h4, by rw [hc]; exact Int.le_refl _⟩, ?_⟩
  rw [covAll_iff]
  intro k s _ _
  unfold covAt
  rw [Bool.and_eq_true, decide_eq_true_eq, decide_eq_true_eq]
  have a := bw_every true t.W 0 k s
  have b := bw_every false t.C (P56.last t.C) k s
  simp only [better, if_true, if_false, Bool.false_eq_true] at a b
  subst hc
  show win t.W 0 s k ≤ vl (wc true t.W 0) k ∧ vl (wc false t.C (P56.last t.C)) k ≤ win t.C (P56.last t.C) s k
  rw [wc_vl, wc_vl]
  exact ⟨a, b⟩
end
end K57
end Go.Proofs.Ytabfhoipclbeeaa


/- certificate's laws: CertificateMeasured. -/
namespace Go.Proofs.Ytabfhoipclbeeaa
open Go.RowKit Go.Shelf C55 K57
theorem mk_2 (c : Ce) : (mkV c).2 = bndE c := by
  unfold mkV
  split
  · rename_i h; exact h.symm
  · rfl
theorem wins_m {g : Bool} {l : List Int} {S : Int} (h : Med l S) (f : FuncId) {args : Array Value} {W : World} {own : Nat → Prop} (hc : Calls Try.prog f args W (Ret W (CvR own (wins g l S)))) :
    Calls Try.prog f args W (Ret W fun v w => ∃ a1 c1, v = .tuple #[.agg #[.slice a1 (l.length + 1) c1, .int .i64 S], .int .i64 0] ∧ Has own w (IsCu · (.agg #[.slice a1 (l.length + 1) c1, .int .i64 S]) (wc g l S))) := by
  refine hc.mono ?_
  rintro e w' ⟨v, rfl, hs, cv, rfl, hcv⟩
  rw [h.wins g] at hcv
  have hq := hcv
  obtain ⟨a1, c1, rfl, hr, -, -⟩ := isCu_open hcv
  refine ⟨_, rfl, hs, a1, c1, ?_, ?_⟩
  · rw [h.wins g]
    show _ = _
    rw [wc_len]
    rfl
  · have := hq
    rw [wc_len] at this
    exact this
end Go.Proofs.Ytabfhoipclbeeaa


/- standbytop: playTrace. -/
namespace Go.Proofs.Ytabfhoipclbeeaa
open Go.RowKit Go.Shelf C55 K57
namespace K57
/-- The trace of small numbers. -/
def pTr (xs cs : List Int) (p l d : Int) : P56.Tr := ⟨xs.map (· % 12), cs.map (· % 16) ++ [p / 8 % 8 + 1], p % 8 + 1, l % 6, d % 4⟩
end K57
section
variable {n : Nat} {ds : List Deferred} {l : List (Nat × Value)} {a : Act} {w : World}
variable {os rest : List Oper} {Q : Exit → Act → World → Prop}
variable {d : Nat} {ty : TypeId} {pos : String} {af : Array Edge} {g : Option (Nat × Bool)}
theorem e_quo8 {t t' : TypeId} {X Y : Operand} {x y : Int} (hF : Fr n ds l a) (hX : ev l X = some (.int .u8 x)) (hY : ev l Y = some (.int .u8 y)) (h : 0 ≤ x ∧ x ≤ 255 ∧ 1 ≤ y) (w : World) {dst : Option Tmp} :
    (execOp a.eval ⟨dst, .binOp .quo t X Y t', ty, pos, af, g⟩).run Try.prog w = .ok (.value (.int .u8 (x / y))) w := by
  simp [execOp, hF.eval hX, hF.eval hY, eqGuard, Sem.run_bind, Result.andThen, binOp, Op.intDiv, show y ≠ 0 by omega, IntWalk.u8_quo x y h]
theorem s_quo8 {t t' : TypeId} {X Y : Operand} {x y : Int} (hF : Fr n ds l a) (hg : wantO os l g = some true) (hX : ev l X = some (.int .u8 x)) (hY : ev l Y = some (.int .u8 y)) (h : 0 ≤ x ∧ x ≤ 255 ∧ 1 ≤ y) (hd : Nat.blt d n = true)
    (kk : ∀ a, Fr n ds ((d, .int .u8 (x / y)) :: l) a → wl ⟨os⟩ Q rest a w) : wl ⟨os⟩ Q (⟨some d, .binOp .quo t X Y t', ty, pos, af, g⟩ :: rest) a w :=
  s_op hF hg fun _ hK => upon_value (e_quo8 hF hX hY h w) (hK _ _ (kk _ (hF.put hd _)))
end
set_option maxRecDepth 20000 in
set_option maxHeartbeats 4000000 in
theorem playTrace_c (xs cs : List Int) (p l d : Int) (hp : 0 ≤ p ∧ p ≤ 255) (hl' : 0 ≤ l ∧ l ≤ 255) (hd : 0 ≤ d ∧ d ≤ 255) (hx : ∀ x ∈ xs, 0 ≤ x ∧ x < 256) (hc : ∀ x ∈ cs, 0 ≤ x ∧ x < 256) (lx : xs.length ≤ 1048576) (lc : cs.length ≤ 1048576) (ax ac : Option Addr) (cx cc : Nat) (own : Nat → Prop) (W : World) (hl : ∀ b, own b → b < W.heap.size) (h1 : Has own W (RdF (Value.int .u8) ax xs)) (h2 : Has own W (RdF (Value.int .u8) ac cs)) :
    Calls Try.prog 40 ⟨[.agg #[.slice ax xs.length cx, .slice ac cs.length cc, .int .u8 p, .int .u8 l, .int .u8 d]]⟩ W (Ret W fun v w' => ∃ aw cw bc dc, v = .tuple #[.agg ⟨trL (pTr xs cs p l d) aw cw bc dc⟩, .bool (decide (xs.length ≤ 24 ∧ cs.length ≤ 12))] ∧ Has own w' (RdF (Value.int .i64) aw (pTr xs cs p l d).W) ∧ Has own w' (RdF (Value.int .i64) bc (pTr xs cs p l d).C) ∧ (pTr xs cs p l d).W.length ≤ cw ∧ (pTr xs cs p l d).C.length ≤ dc) := by
  have hM := ((((Mm.start hl).known h1).known h2).nilRow 3 1).nilRow 3 1
  refine f_start Try.func40 rfl Try.ntmps40 rfl rfl ?_; intro a hF
  (repeat (first | (with_reducible refine w_seq ?_) | (with_reducible refine c_region ?_) | (with_reducible refine s_nil ?_) | (with_reducible refine q_then_n ?_) | ((with_reducible apply s_pure hF); exact rfl; exact rfl; exact rfl; (first | exact trivial | omega | exact ⟨Int.natCast_nonneg _, Int.ofNat_lt.2 (by assumption)⟩ | decide); clear hF a; intro a hF) | ((with_reducible apply s_load hF hM); exact rfl; exact rfl; (repeat (first | exact List.mem_cons_self | refine List.mem_cons_of_mem _ ?_)); exact rfl; exact rfl; clear hF a; intro a hF) | ((with_reducible apply s_store hF hM); exact rfl; exact rfl; exact rfl; exact rfl; (repeat (first | exact Upd.z | apply Upd.s)); exact rfl; exact rfl; exact rfl; clear hM; intro w hM) | ((with_reducible apply s_alloc hF hM); exact rfl; exact rfl; exact rfl; clear hF hM a; intro b w a hM hF) | ((with_reducible apply s_box hF hM); exact rfl; exact rfl; exact rfl; exact rfl; clear hF hM a; intro b w a hM hF) | (with_reducible refine w_block ?_)))
  rename_i b1 _ b2 _ _
  generalize b = b4 at *
  refine c_loop (m := xs.length) (fun m a w' => ∃ (k : Nat) (rv : Value), m + k = xs.length ∧
    Fr 81 [] [(5, .int .i64 k), (4, .pointer (some ⟨b4, 0, none⟩)), (3, .bool false), (2, .pointer (some ⟨b2, 0, none⟩)), (1, .pointer (some ⟨b1, 0, none⟩))] a ∧
    Mm own W [⟨b4, ⟨[rv, .slice none 0 0, .int .i64 (p % 8 + 1), .int .i64 (l % 6), .int .i64 (d % 4)]⟩, 42⟩, ⟨b2, ⟨[.slice none 0 0, .slice none 0 0, .int .i64 0, .int .i64 0, .int .i64 0]⟩, 42⟩, ⟨b1, ⟨[.slice ax xs.length cx, .slice ac cs.length cc, .int .u8 p, .int .u8 l, .int .u8 d]⟩, 82⟩] [⟨3, 1, rv, k, ((xs.take k).map (· % 12)).map (Value.int .i64)⟩, ⟨3, 1, .slice none 0 0, 0, []⟩] [RdF (Value.int .u8) ac cs, RdF (Value.int .u8) ax xs] w')
    ⟨0, _, by omega, hF.sub (by repeat (first | exact Sub.nil | refine Sub.cons rfl (by first | with_reducible rfl | (refine congrArg (Value.int _) ?_; omega) | exact rfl) ?_)), hM⟩ ?_
  clear hF hM a
  rintro m a w' ⟨k, rv, hm, hF, hM⟩
  by_cases hk : k < xs.length
  · obtain ⟨x, hxx⟩ := get_of_lt hk
    have hxb := hx x (List.mem_of_getElem? hxx)
    obtain ⟨ad, rfl⟩ := rd_some hM (a := ax) (by (repeat (first | exact List.mem_cons_self | refine List.mem_cons_of_mem _ ?_))) hxx
    have e : ((xs.take (k + 1)).map (· % 12)).map (Value.int .i64) = ((xs.take k).map (· % 12)).map (Value.int .i64) ++ [.int .i64 (x % 12)] := by
      rw [take_snoc hxx, List.map_append, List.map_append]; rfl
    (repeat' (first | (with_reducible refine w_seq ?_) | (with_reducible refine c_region ?_) | (with_reducible refine s_nil ?_) | (with_reducible refine q_then_n ?_) | ((with_reducible apply s_pure hF); exact rfl; exact rfl; exact rfl; (first | exact trivial | omega | exact ⟨Int.natCast_nonneg _, Int.ofNat_lt.2 (by assumption)⟩ | decide); clear hF a; intro a hF) | ((with_reducible apply s_load hF hM); exact rfl; exact rfl; (repeat (first | exact List.mem_cons_self | refine List.mem_cons_of_mem _ ?_)); exact rfl; exact rfl; clear hF a; intro a hF) | (with_reducible refine w_skip ?_) | (with_reducible refine w_block ?_) | ((with_reducible apply c_dec hF); exact rfl; all_goals intro hc; all_goals (try (exfalso; omega)))))
    refine c_draw (fun i => Nat.ble 12 i) hM ?_; clear hM; intro w hM
    (first | (refine t_pure (i := 0) hF rfl rfl rfl rfl (by kernel_rfl) hM.sm (fun _ _ _ h => h) ?_ ?_; (first | exact trivial | omega | decide); clear hF a; intro a hF))
    (first | (apply t_load (i := 1) hF rfl rfl rfl; (repeat (first | exact List.mem_cons_self | refine List.mem_cons_of_mem _ ?_)); exact rfl; exact rfl; kernel_rfl; exact hM.sm; exact (fun _ _ _ h => h); clear hF a; intro a hF))
    (first | (refine t_pure (i := 2) hF rfl rfl rfl rfl (by kernel_rfl) hM.sm (fun _ _ _ h => h) ?_ ?_; (first | exact trivial | omega | decide); clear hF a; intro a hF))
    (first | (apply t_load (i := 3) hF rfl rfl rfl; (repeat (first | exact List.mem_cons_self | refine List.mem_cons_of_mem _ ?_)); exact rfl; exact rfl; kernel_rfl; exact hM.sm; exact (fun _ _ _ h => h); clear hF a; intro a hF))
    (first | (refine t_pure (i := 4) hF rfl rfl rfl rfl (by kernel_rfl) hM.sm (fun _ _ _ h => h) ?_ ?_; (first | exact trivial | omega | decide); clear hF a; intro a hF))
    (first | (refine t_pure (i := 5) hF rfl rfl rfl rfl (by kernel_rfl) hM.sm (fun _ _ _ h => h) ?_ ?_; (first | exact trivial | omega | decide); clear hF a; intro a hF))
    (first | (apply t_loadF (i := 6) hF rfl rfl rfl; (repeat (first | exact List.mem_cons_self | refine List.mem_cons_of_mem _ ?_)); (first | with_reducible assumption | (simp only [Int.toNat_natCast]; with_reducible assumption)); exact rfl; exact rfl; kernel_rfl; exact hM.sm; exact (fun _ _ _ h => h); clear hF a; intro a hF))
    (first | (refine t_pure (i := 7) hF rfl rfl rfl rfl (by kernel_rfl) hM.sm (fun _ _ _ h => h) ?_ ?_; (first | exact trivial | omega | decide); clear hF a; intro a hF))
    (first | (refine t_pure (i := 8) hF rfl rfl rfl rfl (by kernel_rfl) hM.sm (fun _ _ _ h => h) ?_ ?_; (first | exact trivial | omega | decide); clear hF a; intro a hF))
    refine t_one (i := 9) hF rfl (by kernel_rfl) rfl ?_
    intro K hK
    (refine x_lit hF hM rfl rfl rfl ?_; clear hF hM a; intro bl w a hM hF)
    refine hK _ _ (fun _ => (hM.sm.sub (fun x hx => by repeat (first | exact hx | refine List.mem_cons_of_mem _ ?_)) (fun _ h => by repeat (first | exact h | refine List.mem_cons_of_mem _ ?_)))) ?_; clear hK
    refine t_one (i := 10) hF rfl (by kernel_rfl) rfl ?_
    intro K hK
    (apply x_app hF hM rfl rfl rfl; (repeat (first | exact List.mem_cons_self | refine List.mem_cons_of_mem _ ?_)); (repeat (first | exact Kth.z | apply Kth.s)); exact rfl; exact rfl; exact rfl; exact rfl; omega; clear hF hM a; intro g cap w a hM hF; dsimp only [List.set] at hM)
    refine hK _ _ (fun _ => (hM.sm.sub (fun x hx => by repeat (first | exact hx | refine List.mem_cons_of_mem _ ?_)) (fun _ h => by repeat (first | exact h | refine List.mem_cons_of_mem _ ?_)))) ?_; clear hK
    (first | (refine t_pure (i := 11) hF rfl rfl rfl rfl (by kernel_rfl) (hM.sm.sub (fun x hx => by repeat (first | exact hx | refine List.mem_cons_of_mem _ ?_)) (fun _ h => by repeat (first | exact h | refine List.mem_cons_of_mem _ ?_))) (fun _ _ _ h => h) ?_ ?_; (first | exact trivial | omega | decide); clear hF a; intro a hF))
    refine t_one (i := 12) hF rfl (by kernel_rfl) rfl ?_
    intro K hK
    (apply x_store hF hM rfl rfl rfl; (repeat (first | exact Upd.z | apply Upd.s)); exact rfl; exact rfl; exact rfl; clear hF hM a; intro w a hM hF)
    refine hK _ _ (fun h => by cases h) ?_; clear hK
    refine t_done (by kernel_rfl) ?_
    (repeat' (first | (with_reducible refine c_region ?_) | (with_reducible refine s_nil ?_) | (with_reducible refine q_then_n ?_) | ((with_reducible apply s_pure hF); exact rfl; exact rfl; exact rfl; (first | exact trivial | omega | exact ⟨Int.natCast_nonneg _, Int.ofNat_lt.2 (by assumption)⟩ | decide); clear hF a; intro a hF) | (with_reducible refine q_blk_n ?_)))
    refine ⟨m - 1, by omega, k + 1, .slice (some ⟨g, 0, none⟩) (k + 1) cap, by omega, hF.sub (by repeat (first | exact Sub.nil | refine Sub.cons rfl (by first | with_reducible rfl | (refine congrArg (Value.int _) ?_; omega) | exact rfl) ?_)), ?_⟩
    rw [e]
    exact hM.sub (.cons _ (.refl _)) (.refl _) (fun _ h => h)
  obtain rfl : k = xs.length := by omega
  rw [List.take_length] at hM
  (repeat' (first | (with_reducible refine w_seq ?_) | (with_reducible refine c_region ?_) | (with_reducible refine s_nil ?_) | (with_reducible refine q_then_n ?_) | ((with_reducible apply s_pure hF); exact rfl; exact rfl; exact rfl; (first | exact trivial | omega | exact ⟨Int.natCast_nonneg _, Int.ofNat_lt.2 (by assumption)⟩ | decide); clear hF a; intro a hF) | ((with_reducible apply s_load hF hM); exact rfl; exact rfl; (repeat (first | exact List.mem_cons_self | refine List.mem_cons_of_mem _ ?_)); exact rfl; exact rfl; clear hF a; intro a hF) | (with_reducible refine w_block ?_) | (with_reducible refine w_exit ?_) | (with_reducible refine q_then_x ?_) | (with_reducible refine q_blk_x ?_) | ((with_reducible apply c_false2 hF); exact rfl; (first | with_reducible rfl | (refine congrArg Value.bool ?_; focus (simp; done))))))
  refine c_loop (m := cs.length) (fun m a w' => ∃ (k : Nat) (rc : Value), m + k = cs.length ∧
    Fr 81 [] [(6, .int .i64 k), (4, .pointer (some ⟨b4, 0, none⟩)), (3, .bool false), (2, .pointer (some ⟨b2, 0, none⟩)), (1, .pointer (some ⟨b1, 0, none⟩))] a ∧
    Mm own W [⟨b4, ⟨[rv, rc, .int .i64 (p % 8 + 1), .int .i64 (l % 6), .int .i64 (d % 4)]⟩, 42⟩, ⟨b2, ⟨[.slice none 0 0, .slice none 0 0, .int .i64 0, .int .i64 0, .int .i64 0]⟩, 42⟩, ⟨b1, ⟨[.slice ax xs.length cx, .slice ac cs.length cc, .int .u8 p, .int .u8 l, .int .u8 d]⟩, 82⟩] [⟨3, 1, rv, xs.length, (xs.map (· % 12)).map (Value.int .i64)⟩, ⟨3, 1, rc, k, ((cs.take k).map (· % 16)).map (Value.int .i64)⟩] [RdF (Value.int .u8) ac cs, RdF (Value.int .u8) ax xs] w')
    ⟨0, _, by omega, hF.sub (by repeat (first | exact Sub.nil | refine Sub.cons rfl (by first | with_reducible rfl | (refine congrArg (Value.int _) ?_; omega) | exact rfl) ?_)), hM⟩ ?_
  clear hF hM a
  rintro mc a w' ⟨k, rc, hmc, hF, hM⟩
  by_cases hkc : k < cs.length
  · obtain ⟨x, hxx⟩ := get_of_lt hkc
    have hxb := hc x (List.mem_of_getElem? hxx)
    obtain ⟨ad, rfl⟩ := rd_some hM (a := ac) (by (repeat (first | exact List.mem_cons_self | refine List.mem_cons_of_mem _ ?_))) hxx
    have e : ((cs.take (k + 1)).map (· % 16)).map (Value.int .i64) = ((cs.take k).map (· % 16)).map (Value.int .i64) ++ [.int .i64 (x % 16)] := by
      rw [take_snoc hxx, List.map_append, List.map_append]; rfl
    (repeat' (first | (with_reducible refine w_seq ?_) | (with_reducible refine c_region ?_) | (with_reducible refine s_nil ?_) | (with_reducible refine q_then_n ?_) | ((with_reducible apply s_pure hF); exact rfl; exact rfl; exact rfl; (first | exact trivial | omega | exact ⟨Int.natCast_nonneg _, Int.ofNat_lt.2 (by assumption)⟩ | decide); clear hF a; intro a hF) | ((with_reducible apply s_load hF hM); exact rfl; exact rfl; (repeat (first | exact List.mem_cons_self | refine List.mem_cons_of_mem _ ?_)); exact rfl; exact rfl; clear hF a; intro a hF) | (with_reducible refine w_skip ?_) | (with_reducible refine w_block ?_) | ((with_reducible apply c_dec hF); exact rfl; all_goals intro hc; all_goals (try (exfalso; omega)))))
    refine c_draw (fun i => Nat.ble 12 i) hM ?_; clear hM; intro w hM
    (first | (refine t_pure (i := 0) hF rfl rfl rfl rfl (by kernel_rfl) hM.sm (fun _ _ _ h => h) ?_ ?_; (first | exact trivial | omega | decide); clear hF a; intro a hF))
    (first | (apply t_load (i := 1) hF rfl rfl rfl; (repeat (first | exact List.mem_cons_self | refine List.mem_cons_of_mem _ ?_)); exact rfl; exact rfl; kernel_rfl; exact hM.sm; exact (fun _ _ _ h => h); clear hF a; intro a hF))
    (first | (refine t_pure (i := 2) hF rfl rfl rfl rfl (by kernel_rfl) hM.sm (fun _ _ _ h => h) ?_ ?_; (first | exact trivial | omega | decide); clear hF a; intro a hF))
    (first | (apply t_load (i := 3) hF rfl rfl rfl; (repeat (first | exact List.mem_cons_self | refine List.mem_cons_of_mem _ ?_)); exact rfl; exact rfl; kernel_rfl; exact hM.sm; exact (fun _ _ _ h => h); clear hF a; intro a hF))
    (first | (refine t_pure (i := 4) hF rfl rfl rfl rfl (by kernel_rfl) hM.sm (fun _ _ _ h => h) ?_ ?_; (first | exact trivial | omega | decide); clear hF a; intro a hF))
    (first | (refine t_pure (i := 5) hF rfl rfl rfl rfl (by kernel_rfl) hM.sm (fun _ _ _ h => h) ?_ ?_; (first | exact trivial | omega | decide); clear hF a; intro a hF))
    (first | (apply t_loadF (i := 6) hF rfl rfl rfl; (repeat (first | exact List.mem_cons_self | refine List.mem_cons_of_mem _ ?_)); (first | with_reducible assumption | (simp only [Int.toNat_natCast]; with_reducible assumption)); exact rfl; exact rfl; kernel_rfl; exact hM.sm; exact (fun _ _ _ h => h); clear hF a; intro a hF))
    (first | (refine t_pure (i := 7) hF rfl rfl rfl rfl (by kernel_rfl) hM.sm (fun _ _ _ h => h) ?_ ?_; (first | exact trivial | omega | decide); clear hF a; intro a hF))
    (first | (refine t_pure (i := 8) hF rfl rfl rfl rfl (by kernel_rfl) hM.sm (fun _ _ _ h => h) ?_ ?_; (first | exact trivial | omega | decide); clear hF a; intro a hF))
    refine t_one (i := 9) hF rfl (by kernel_rfl) rfl ?_
    intro K hK
    (refine x_lit hF hM rfl rfl rfl ?_; clear hF hM a; intro bl w a hM hF)
    refine hK _ _ (fun _ => (hM.sm.sub (fun x hx => by repeat (first | exact hx | refine List.mem_cons_of_mem _ ?_)) (fun _ h => by repeat (first | exact h | refine List.mem_cons_of_mem _ ?_)))) ?_; clear hK
    refine t_one (i := 10) hF rfl (by kernel_rfl) rfl ?_
    intro K hK
    (apply x_app hF hM rfl rfl rfl; (repeat (first | exact List.mem_cons_self | refine List.mem_cons_of_mem _ ?_)); (repeat (first | exact Kth.z | apply Kth.s)); exact rfl; exact rfl; exact rfl; exact rfl; omega; clear hF hM a; intro g cap w a hM hF; dsimp only [List.set] at hM)
    refine hK _ _ (fun _ => (hM.sm.sub (fun x hx => by repeat (first | exact hx | refine List.mem_cons_of_mem _ ?_)) (fun _ h => by repeat (first | exact h | refine List.mem_cons_of_mem _ ?_)))) ?_; clear hK
    (first | (refine t_pure (i := 11) hF rfl rfl rfl rfl (by kernel_rfl) (hM.sm.sub (fun x hx => by repeat (first | exact hx | refine List.mem_cons_of_mem _ ?_)) (fun _ h => by repeat (first | exact h | refine List.mem_cons_of_mem _ ?_))) (fun _ _ _ h => h) ?_ ?_; (first | exact trivial | omega | decide); clear hF a; intro a hF))
    refine t_one (i := 12) hF rfl (by kernel_rfl) rfl ?_
    intro K hK
    (apply x_store hF hM rfl rfl rfl; (repeat (first | exact Upd.z | apply Upd.s)); exact rfl; exact rfl; exact rfl; clear hF hM a; intro w a hM hF)
    refine hK _ _ (fun h => by cases h) ?_; clear hK
    refine t_done (by kernel_rfl) ?_
    (repeat' (first | (with_reducible refine c_region ?_) | (with_reducible refine s_nil ?_) | (with_reducible refine q_then_n ?_) | ((with_reducible apply s_pure hF); exact rfl; exact rfl; exact rfl; (first | exact trivial | omega | exact ⟨Int.natCast_nonneg _, Int.ofNat_lt.2 (by assumption)⟩ | decide); clear hF a; intro a hF) | (with_reducible refine q_blk_n ?_)))
    refine ⟨mc - 1, by omega, k + 1, .slice (some ⟨g, 0, none⟩) (k + 1) cap, by omega, hF.sub (by repeat (first | exact Sub.nil | refine Sub.cons rfl (by first | with_reducible rfl | (refine congrArg (Value.int _) ?_; omega) | exact rfl) ?_)), ?_⟩
    rw [e]
    exact hM.sub (.cons _ (.refl _)) (.refl _) (fun _ h => h)
  obtain rfl : k = cs.length := by omega
  rw [List.take_length] at hM
  (repeat' (first | (with_reducible refine w_seq ?_) | (with_reducible refine c_region ?_) | (with_reducible refine s_nil ?_) | ((with_reducible apply s_quo8 hF); exact rfl; exact rfl; exact rfl; (first | decide | omega); exact rfl; clear hF a; intro a hF) | (with_reducible refine q_then_n ?_) | ((with_reducible apply s_pure hF); exact rfl; exact rfl; exact rfl; (first | exact trivial | omega | exact ⟨Int.natCast_nonneg _, Int.ofNat_lt.2 (by assumption)⟩ | decide); clear hF a; intro a hF) | ((with_reducible apply s_load hF hM); exact rfl; exact rfl; (repeat (first | exact List.mem_cons_self | refine List.mem_cons_of_mem _ ?_)); exact rfl; exact rfl; clear hF a; intro a hF) | ((with_reducible apply s_store hF hM); exact rfl; exact rfl; exact rfl; exact rfl; (repeat (first | exact Upd.z | apply Upd.s)); exact rfl; exact rfl; exact rfl; clear hM; intro w hM) | ((with_reducible apply s_lit hF hM); exact rfl; exact rfl; exact rfl; exact rfl; clear hF hM a; intro bl w a hM hF) | ((with_reducible apply s_app hF hM); exact rfl; exact rfl; exact rfl; exact rfl; (repeat (first | exact Kth.z | apply Kth.s)); exact rfl; exact rfl; exact rfl; exact rfl; omega; clear hF hM a; intro g cap w a hM hF; dsimp only [List.set] at hM) | (with_reducible refine w_exit ?_) | (with_reducible refine q_then_x ?_) | (with_reducible refine q_blk_x ?_) | ((with_reducible apply c_false2 hF); exact rfl; (first | with_reducible rfl | (refine congrArg Value.bool ?_; focus (simp; done))))))
  obtain ⟨aw, cw, rfl, hcw, -⟩ := OffR.shape hM (k := 0) rfl (OffR.plain hM List.mem_cons_self)
  obtain ⟨bc, dc, hbc, hdc, -⟩ := OffR.shape hM (k := 1) rfl (OffR.plain hM (List.mem_cons_of_mem _ List.mem_cons_self))
  have eW : (pTr xs cs p l d).W.length = xs.length := by simp [pTr]
  have eC : (pTr xs cs p l d).C.length = cs.length + 1 := by simp [pTr]
  have eV : ((pTr xs cs p l d).C).map (Value.int .i64) = (cs.map (· % 16)).map (Value.int .i64) ++ [.int .i64 (p / 8 % 8 + 1)] := by
    unfold pTr
    rw [List.map_append]
    rfl
  replace hM := hM.perm (List.Perm.swap _ _ _)
  by_cases h24 : xs.length ≤ 24
  · have hdec : decide (xs.length ≤ 24 ∧ cs.length ≤ 12) = decide ((cs.length : Int) ≤ 12) := by
      rw [Bool.eq_iff_iff, decide_eq_true_eq, decide_eq_true_eq]
      omega
    refine c_drawS (fun i => Nat.ble 12 i) (fun x hx => List.mem_cons_of_mem _ (hx)) hM ?_; clear hM; intro w hM
    (first | (apply t_load (i := 0) hF rfl rfl rfl; (repeat (first | exact List.mem_cons_self | refine List.mem_cons_of_mem _ ?_)); exact rfl; exact rfl; kernel_rfl; exact (hM.sm.sub (fun x hx => by repeat (first | exact hx | refine List.mem_cons_of_mem _ ?_)) (fun _ h => by repeat (first | exact h | refine List.mem_cons_of_mem _ ?_))); exact (fun _ _ _ h => h); clear hF a; intro a hF))
    (first | (refine t_pure (i := 1) hF rfl rfl rfl rfl (by kernel_rfl) (hM.sm.sub (fun x hx => by repeat (first | exact hx | refine List.mem_cons_of_mem _ ?_)) (fun _ h => by repeat (first | exact h | refine List.mem_cons_of_mem _ ?_))) (fun _ _ _ h => h) ?_ ?_; (first | exact trivial | omega | decide); clear hF a; intro a hF))
    (first | (apply t_load (i := 2) hF rfl rfl rfl; (repeat (first | exact List.mem_cons_self | refine List.mem_cons_of_mem _ ?_)); exact rfl; exact rfl; kernel_rfl; exact (hM.sm.sub (fun x hx => by repeat (first | exact hx | refine List.mem_cons_of_mem _ ?_)) (fun _ h => by repeat (first | exact h | refine List.mem_cons_of_mem _ ?_))); exact (fun _ _ _ h => h); clear hF a; intro a hF))
    (first | (refine t_pure (i := 3) hF rfl rfl rfl rfl (by kernel_rfl) (hM.sm.sub (fun x hx => by repeat (first | exact hx | refine List.mem_cons_of_mem _ ?_)) (fun _ h => by repeat (first | exact h | refine List.mem_cons_of_mem _ ?_))) (fun _ _ _ h => h) ?_ ?_; (first | exact trivial | omega | decide); clear hF a; intro a hF))
    (first | (refine t_pure (i := 4) hF rfl rfl rfl rfl (by kernel_rfl) (hM.sm.sub (fun x hx => by repeat (first | exact hx | refine List.mem_cons_of_mem _ ?_)) (fun _ h => by repeat (first | exact h | refine List.mem_cons_of_mem _ ?_))) (fun _ _ _ h => h) ?_ ?_; (first | exact trivial | omega | decide); clear hF a; intro a hF))
    (first | (refine t_pure (i := 5) hF rfl rfl rfl rfl (by kernel_rfl) (hM.sm.sub (fun x hx => by repeat (first | exact hx | refine List.mem_cons_of_mem _ ?_)) (fun _ h => by repeat (first | exact h | refine List.mem_cons_of_mem _ ?_))) (fun _ _ _ h => h) ?_ ?_; (first | exact trivial | omega | decide); clear hF a; intro a hF))
    rw [decide_eq_true (show (xs.length : Int) ≤ 24 by omega)] at hF
    (first | (refine t_pure (i := 6) hF rfl rfl rfl rfl (by kernel_rfl) (hM.sm.sub (fun x hx => by repeat (first | exact hx | refine List.mem_cons_of_mem _ ?_)) (fun _ h => by repeat (first | exact h | refine List.mem_cons_of_mem _ ?_))) (fun _ _ _ h => h) ?_ ?_; (first | exact trivial | omega | decide); clear hF a; intro a hF))
    (first | (apply t_load (i := 7) hF rfl rfl rfl; (repeat (first | exact List.mem_cons_self | refine List.mem_cons_of_mem _ ?_)); exact rfl; exact rfl; kernel_rfl; exact (hM.sm.sub (fun x hx => by repeat (first | exact hx | refine List.mem_cons_of_mem _ ?_)) (fun _ h => by repeat (first | exact h | refine List.mem_cons_of_mem _ ?_))); exact (fun _ _ _ h => h); clear hF a; intro a hF))
    (first | (refine t_pure (i := 8) hF rfl rfl rfl rfl (by kernel_rfl) (hM.sm.sub (fun x hx => by repeat (first | exact hx | refine List.mem_cons_of_mem _ ?_)) (fun _ h => by repeat (first | exact h | refine List.mem_cons_of_mem _ ?_))) (fun _ _ _ h => h) ?_ ?_; (first | exact trivial | omega | decide); clear hF a; intro a hF))
    (first | (refine t_pure (i := 9) hF rfl rfl rfl rfl (by kernel_rfl) (hM.sm.sub (fun x hx => by repeat (first | exact hx | refine List.mem_cons_of_mem _ ?_)) (fun _ h => by repeat (first | exact h | refine List.mem_cons_of_mem _ ?_))) (fun _ _ _ h => h) ?_ ?_; (first | exact trivial | omega | decide); clear hF a; intro a hF))
    (first | (refine t_pure (i := 10) hF rfl rfl rfl rfl (by kernel_rfl) (hM.sm.sub (fun x hx => by repeat (first | exact hx | refine List.mem_cons_of_mem _ ?_)) (fun _ h => by repeat (first | exact h | refine List.mem_cons_of_mem _ ?_))) (fun _ _ _ h => h) ?_ ?_; (first | exact trivial | omega | decide); clear hF a; intro a hF))
    refine t_one (i := 11) hF rfl (by kernel_rfl) rfl ?_
    intro K hK
    (apply x_store hF hM rfl rfl rfl; (repeat (first | exact Upd.z | apply Upd.s)); exact rfl; exact rfl; exact rfl; clear hF hM a; intro w a hM hF)
    refine hK _ _ (fun _ => (hM.sm.sub (fun x hx => by repeat (first | exact hx | refine List.mem_cons_of_mem _ ?_)) (fun _ h => by repeat (first | exact h | refine List.mem_cons_of_mem _ ?_)))) ?_; clear hK
    refine t_one (i := 12) hF rfl (by kernel_rfl) rfl ?_
    intro K hK
    (first | (refine x_pure hF hM rfl rfl ?_ ?_; (first | exact trivial | omega | decide); clear hF a; intro a hF) | (apply x_load hF hM rfl; (repeat (first | exact List.mem_cons_self | refine List.mem_cons_of_mem _ ?_)); exact rfl; exact rfl; clear hF a; intro a hF))
    refine hK _ _ (fun h => by cases h) ?_; clear hK
    refine t_done (by kernel_rfl) ?_
    (repeat' (first | (with_reducible refine q_then_n ?_) | (with_reducible refine w_ret ?_)))
    (apply f_ret Try.results40 hF hM; (repeat (first | exact RL.nil | (apply RL.tmp; exact rfl) | (apply RL.cell; exact rfl; (repeat (first | exact List.mem_cons_self | refine List.mem_cons_of_mem _ ?_)); exact rfl))); refine Ret.mk hM.since ?_; dsimp only [resV])
    refine ⟨aw, cw, some ⟨g, 0, none⟩, cap, ?_, ?_, ?_, by omega, ?_⟩
    · unfold trL
      rw [eW, eC, hdec]
      rfl
    · exact hM.rowFact (xs := (pTr xs cs p l d).W) List.mem_cons_self
    · refine hM.rowFact (e := 3) (n := cs.length + 1) (c := cap) (xs := (pTr xs cs p l d).C) ?_
      rw [eV]
      exact List.mem_cons_of_mem _ List.mem_cons_self
    · injection hbc with q1 q2 q3
      omega
  · have hdec : decide (xs.length ≤ 24 ∧ cs.length ≤ 12) = false := decide_eq_false (by omega)
    refine c_drawS (fun i => Nat.ble 12 i) (fun x hx => List.mem_cons_of_mem _ (hx)) hM ?_; clear hM; intro w hM
    (first | (apply t_load (i := 0) hF rfl rfl rfl; (repeat (first | exact List.mem_cons_self | refine List.mem_cons_of_mem _ ?_)); exact rfl; exact rfl; kernel_rfl; exact (hM.sm.sub (fun x hx => by repeat (first | exact hx | refine List.mem_cons_of_mem _ ?_)) (fun _ h => by repeat (first | exact h | refine List.mem_cons_of_mem _ ?_))); exact (fun _ _ _ h => h); clear hF a; intro a hF))
    (first | (refine t_pure (i := 1) hF rfl rfl rfl rfl (by kernel_rfl) (hM.sm.sub (fun x hx => by repeat (first | exact hx | refine List.mem_cons_of_mem _ ?_)) (fun _ h => by repeat (first | exact h | refine List.mem_cons_of_mem _ ?_))) (fun _ _ _ h => h) ?_ ?_; (first | exact trivial | omega | decide); clear hF a; intro a hF))
    (first | (apply t_load (i := 2) hF rfl rfl rfl; (repeat (first | exact List.mem_cons_self | refine List.mem_cons_of_mem _ ?_)); exact rfl; exact rfl; kernel_rfl; exact (hM.sm.sub (fun x hx => by repeat (first | exact hx | refine List.mem_cons_of_mem _ ?_)) (fun _ h => by repeat (first | exact h | refine List.mem_cons_of_mem _ ?_))); exact (fun _ _ _ h => h); clear hF a; intro a hF))
    (first | (refine t_pure (i := 3) hF rfl rfl rfl rfl (by kernel_rfl) (hM.sm.sub (fun x hx => by repeat (first | exact hx | refine List.mem_cons_of_mem _ ?_)) (fun _ h => by repeat (first | exact h | refine List.mem_cons_of_mem _ ?_))) (fun _ _ _ h => h) ?_ ?_; (first | exact trivial | omega | decide); clear hF a; intro a hF))
    (first | (refine t_pure (i := 4) hF rfl rfl rfl rfl (by kernel_rfl) (hM.sm.sub (fun x hx => by repeat (first | exact hx | refine List.mem_cons_of_mem _ ?_)) (fun _ h => by repeat (first | exact h | refine List.mem_cons_of_mem _ ?_))) (fun _ _ _ h => h) ?_ ?_; (first | exact trivial | omega | decide); clear hF a; intro a hF))
    (first | (refine t_pure (i := 5) hF rfl rfl rfl rfl (by kernel_rfl) (hM.sm.sub (fun x hx => by repeat (first | exact hx | refine List.mem_cons_of_mem _ ?_)) (fun _ h => by repeat (first | exact h | refine List.mem_cons_of_mem _ ?_))) (fun _ _ _ h => h) ?_ ?_; (first | exact trivial | omega | decide); clear hF a; intro a hF))
    rw [decide_eq_false (show ¬ (xs.length : Int) ≤ 24 by omega)] at hF
    (first | (refine t_skip (i := 6) hF rfl rfl rfl (by kernel_rfl) (hM.sm.sub (fun x hx => by repeat (first | exact hx | refine List.mem_cons_of_mem _ ?_)) (fun _ h => by repeat (first | exact h | refine List.mem_cons_of_mem _ ?_))) (fun _ _ _ h => h) ?_; clear hF a; intro a hF))
    (first | (refine t_skip (i := 7) hF rfl rfl rfl (by kernel_rfl) (hM.sm.sub (fun x hx => by repeat (first | exact hx | refine List.mem_cons_of_mem _ ?_)) (fun _ h => by repeat (first | exact h | refine List.mem_cons_of_mem _ ?_))) (fun _ _ _ h => h) ?_; clear hF a; intro a hF))
    (first | (refine t_skip (i := 8) hF rfl rfl rfl (by kernel_rfl) (hM.sm.sub (fun x hx => by repeat (first | exact hx | refine List.mem_cons_of_mem _ ?_)) (fun _ h => by repeat (first | exact h | refine List.mem_cons_of_mem _ ?_))) (fun _ _ _ h => h) ?_; clear hF a; intro a hF))
    (first | (refine t_skip (i := 9) hF rfl rfl rfl (by kernel_rfl) (hM.sm.sub (fun x hx => by repeat (first | exact hx | refine List.mem_cons_of_mem _ ?_)) (fun _ h => by repeat (first | exact h | refine List.mem_cons_of_mem _ ?_))) (fun _ _ _ h => h) ?_; clear hF a; intro a hF))
    (first | (refine t_pure (i := 10) hF rfl rfl rfl rfl (by kernel_rfl) (hM.sm.sub (fun x hx => by repeat (first | exact hx | refine List.mem_cons_of_mem _ ?_)) (fun _ h => by repeat (first | exact h | refine List.mem_cons_of_mem _ ?_))) (fun _ _ _ h => h) ?_ ?_; (first | exact trivial | omega | decide); clear hF a; intro a hF))
    refine t_one (i := 11) hF rfl (by kernel_rfl) rfl ?_
    intro K hK
    (apply x_store hF hM rfl rfl rfl; (repeat (first | exact Upd.z | apply Upd.s)); exact rfl; exact rfl; exact rfl; clear hF hM a; intro w a hM hF)
    refine hK _ _ (fun _ => (hM.sm.sub (fun x hx => by repeat (first | exact hx | refine List.mem_cons_of_mem _ ?_)) (fun _ h => by repeat (first | exact h | refine List.mem_cons_of_mem _ ?_)))) ?_; clear hK
    refine t_one (i := 12) hF rfl (by kernel_rfl) rfl ?_
    intro K hK
    (first | (refine x_pure hF hM rfl rfl ?_ ?_; (first | exact trivial | omega | decide); clear hF a; intro a hF) | (apply x_load hF hM rfl; (repeat (first | exact List.mem_cons_self | refine List.mem_cons_of_mem _ ?_)); exact rfl; exact rfl; clear hF a; intro a hF))
    refine hK _ _ (fun h => by cases h) ?_; clear hK
    refine t_done (by kernel_rfl) ?_
    (repeat' (first | (with_reducible refine q_then_n ?_) | (with_reducible refine w_ret ?_)))
    (apply f_ret Try.results40 hF hM; (repeat (first | exact RL.nil | (apply RL.tmp; exact rfl) | (apply RL.cell; exact rfl; (repeat (first | exact List.mem_cons_self | refine List.mem_cons_of_mem _ ?_)); exact rfl))); refine Ret.mk hM.since ?_; dsimp only [resV])
    refine ⟨aw, cw, some ⟨g, 0, none⟩, cap, ?_, ?_, ?_, by omega, ?_⟩
    · unfold trL
      rw [eW, eC, hdec]
      rfl
    · exact hM.rowFact (xs := (pTr xs cs p l d).W) List.mem_cons_self
    · refine hM.rowFact (e := 3) (n := cs.length + 1) (c := cap) (xs := (pTr xs cs p l d).C) ?_
      rw [eV]
      exact List.mem_cons_of_mem _ List.mem_cons_self
    · injection hbc with q1 q2 q3
      omega
end Go.Proofs.Ytabfhoipclbeeaa


/- standbytop: playGreatest, what is exposed tick by tick. -/
namespace Go.Proofs.Ytabfhoipclbeeaa
open Go.RowKit Go.Shelf C55 K57
namespace K57
theorem capAt_get {C : List Int} (h : 1 ≤ C.length) (s : Nat) : C[(min (s : Int) ((C.length : Int) - 1)).toNat]? = some (P56.capAt C s) := by
  unfold P56.capAt
  by_cases g : s < C.length
  · rw [show (min (s : Int) ((C.length : Int) - 1)).toNat = s by omega, dif_pos g, List.getElem?_eq_getElem g]
  · rw [show (min (s : Int) ((C.length : Int) - 1)).toNat = C.length - 1 by omega, dif_neg g]
    unfold P56.last
    rw [← List.getLast?_eq_getElem?, List.getLastD_eq_getLast?]
    cases C with
    | nil => simp at h
    | cons x r => rw [List.getLast?_eq_some_getLast (by simp)]; rfl
theorem cyc_iff {t : P56.Tr} (h : 1 ≤ t.P.toNat) (k : Nat) : k < P56.cycles t ↔ k * t.P.toNat < t.W.length := by
  unfold P56.cycles
  rw [show (k < (t.W.length + t.P.toNat - 1) / t.P.toNat) ↔ k + 1 ≤ (t.W.length + t.P.toNat - 1) / t.P.toNat from Iff.rfl, Nat.le_div_iff_mul_le (by omega), Nat.succ_mul]
  omega
theorem up_zero_over {l : List Int} {i j : Nat} (h : l.length ≤ i) (h2 : l.length ≤ j) : up l 0 i = up l 0 j := by
  rw [up_ge h, up_ge h2]
  simp
theorem up0_bd {l : List Int} (h : ∀ x ∈ l, 0 ≤ x ∧ x ≤ 4096) (hl : l.length ≤ 4096) (i : Nat) : 0 ≤ up l 0 i ∧ up l 0 i ≤ 16777216 := by
  have := P56.sum_take_bd h i hl
  unfold up
  simpa using this
theorem up0_mono {l : List Int} (h : ∀ x ∈ l, 0 ≤ x ∧ x ≤ 4096) (t : Nat) : ∀ d, up l 0 t ≤ up l 0 (t + d)
  | 0 => Int.le_refl _
  | d + 1 => by
    have := up0_mono h t d
    rcases Nat.lt_or_ge (t + d) l.length with e | e
    · have h2 := up_step (S := 0) (List.getElem?_eq_getElem e)
      have h3 := h _ (List.getElem_mem e)
      rw [← Nat.add_assoc, h2]
      omega
    · have h2 := up_over (S := 0) e
      rw [← Nat.add_assoc, h2]
      omega
/-- What a tick-by-tick play of a trace tells. -/
structure Plays (t : P56.Tr) (D : Nat) : Prop where
  ok : P56.Ok t
  p : t.P ≤ 100
  n : t.W.length ≤ 100
  l : t.L ≤ 1000
  a : t.A ≤ 1000
  d : D ≤ t.P.toNat
  ends : ∀ k, ∃ e, P56.endOf t k = some e ∧ e ≤ k * t.P.toNat + D
theorem Plays.step {t : P56.Tr} {D : Nat} (h : Plays t D) (k : Nat) : P56.en t k ≤ k * t.P.toNat + D ∧ P56.IsEnd t.C ((k + 1) * t.P.toNat) (P56.size t k) (P56.en t (k + 1)) := by
  obtain ⟨e, he, hle⟩ := h.ends k
  obtain ⟨f, hf, -⟩ := h.ends (k + 1)
  have hd := h.d
  have e1 : P56.en t k = e := by unfold P56.en; rw [he]; rfl
  have e2 : P56.en t (k + 1) = f := by unfold P56.en; rw [hf]; rfl
  rw [e1, e2]
  refine ⟨hle, ?_⟩
  rw [P56.endOf, he, Option.bind_some, show max ((k + 1) * t.P.toNat) e = (k + 1) * t.P.toNat by rw [Nat.succ_mul]; omega] at hf
  exact P56.finish_some h.ok.c hf
end K57
set_option maxRecDepth 20000 in
set_option maxHeartbeats 4000000 in
theorem greatest_c (t : P56.Tr) (D : Nat) (h : Plays t D) (aw ac : Option Addr) (cw cc : Nat) (own : Nat → Prop) (W : World) (hl : ∀ b, own b → b < W.heap.size) (h3 : Has own W (RdF (Value.int .i64) aw t.W)) (h4 : Has own W (RdF (Value.int .i64) ac t.C)) :
    Calls Try.prog 43 ⟨[.agg ⟨trL t aw cw ac cc⟩]⟩ W (Ret W fun v _ => ∃ g : Int, v = .int .i64 g ∧ 0 ≤ g ∧ g ≤ 1000000 ∧ (0 < P56.cycles t → P56.ap t 0 - 1 ≤ g) ∧ ∀ B : Int, 0 ≤ B → (∀ k : Nat, k < P56.cycles t → P56.ap t k - 1 - ((k * t.P.toNat : Nat) : Int) ≤ B) → g ≤ B) := by
  have hM := ((((Mm.start hl).known h3).known h4).nilRow 3 1).nilRow 3 1
  have ok := h.ok
  have hC0 := ok.clen0
  have hC1 := ok.clen
  have hp0 := ok.p0
  have hp1 := h.p
  have hn := h.n
  have hL0 := ok.l0
  have hL1 := h.l
  have hA0 := ok.a0
  have hA1 := h.a
  have hD := h.d
  obtain ⟨p, hp⟩ : ∃ p : Nat, t.P = p := ⟨t.P.toNat, by omega⟩
  have hpt : t.P.toNat = p := by omega
  have hst := h.step
  have hcy := cyc_iff (t := t) (by omega)
  obtain ⟨N, hN⟩ : ∃ N, P56.cycles t = N := ⟨_, rfl⟩
  rw [hpt] at hst hcy hD
  rw [hN] at hcy
  rw [hN, hpt]
  have hap : ∀ k, P56.ap t k = (P56.en t (k + 1) : Int) + t.L + t.A := fun _ => rfl
  have hsz : ∀ k, P56.size t k = up t.W 0 (k * p + p) - up t.W 0 (k * p) := fun k => by rw [size_win, hpt]; rfl
  have hcy2 : ∀ k, k ≤ N → k * p ≤ 200 := by
    intro k hk
    by_cases k0 : k = 0
    · subst k0; omega
    · have := (hcy (k - 1)).1 (by omega)
      have e := Nat.succ_mul (k - 1) p
      rw [show (k - 1).succ = k by omega] at e
      omega
  refine f_start Try.func43 rfl Try.ntmps43 rfl rfl ?_; intro a hF
  (repeat (first | (with_reducible refine w_seq ?_) | (with_reducible refine c_region ?_) | (with_reducible refine s_nil ?_) | (with_reducible refine q_then_n ?_) | ((with_reducible apply s_pure hF); exact rfl; exact rfl; exact rfl; (first | exact trivial | omega | exact ⟨Int.natCast_nonneg _, Int.ofNat_lt.2 (by assumption)⟩ | decide); clear hF a; intro a hF) | ((with_reducible apply s_box hF hM); exact rfl; exact rfl; exact rfl; exact rfl; clear hF hM a; intro b w a hM hF) | (with_reducible refine w_block ?_)))
  generalize b = bt at *
  refine c_loop (m := N) (fun m a w' => ∃ (k : Nat) (v3 v4 : Value), m + k = N ∧
    Fr 123 [] [(6, .int .i64 ((k * p : Nat) : Int)), (5, .int .i64 (P56.en t k)), (4, v4), (3, v3), (2, .int .i64 0), (1, .pointer (some ⟨bt, 0, none⟩))] a ∧
    Mm own W [⟨bt, ⟨trL t aw cw ac cc⟩, 42⟩] [⟨3, 1, v4, k, (tab (P56.ap t) k).map (Value.int .i64)⟩, ⟨3, 1, v3, k, (tab (fun k => (((k + 1) * p : Nat) : Int)) k).map (Value.int .i64)⟩] [RdF (Value.int .i64) ac t.C, RdF (Value.int .i64) aw t.W] w')
    ⟨0, _, _, by omega, hF.sub (by repeat (first | exact Sub.nil | refine Sub.cons rfl (by first | with_reducible rfl | (refine congrArg (Value.int _) ?_; omega) | exact rfl) ?_)), hM⟩ ?_
  clear hF hM a
  rintro mk a w' ⟨k, v3, v4, hm, hF, hM⟩
  obtain ⟨hek, hend⟩ := hst k
  have hsk := hsz k
  have hkp := hcy2 k (by omega)
  have hcyk := hcy k
  have e1 : (k + 1) * p = k * p + p := Nat.succ_mul k p
  rw [e1] at hend
  have hk2 : k ≤ 200 := by
    have := Nat.le_mul_of_pos_right k (show 0 < p by omega)
    omega
  obtain ⟨f, hf⟩ : ∃ f, k * p = f := ⟨_, rfl⟩
  rw [hf] at hF hek hend hsk hkp hcyk e1
  by_cases hk : k < N
  · have hfl := hcyk.1 hk
    (repeat' (first | (with_reducible refine w_seq ?_) | (with_reducible refine c_region ?_) | (with_reducible refine s_nil ?_) | (with_reducible refine q_then_n ?_) | ((with_reducible apply s_pure hF); exact rfl; exact rfl; exact rfl; (first | exact trivial | omega | exact ⟨Int.natCast_nonneg _, Int.ofNat_lt.2 (by assumption)⟩ | decide); clear hF a; intro a hF) | ((with_reducible apply s_load hF hM); exact rfl; exact rfl; (repeat (first | exact List.mem_cons_self | refine List.mem_cons_of_mem _ ?_)); exact rfl; exact rfl; clear hF a; intro a hF) | (with_reducible refine w_skip ?_) | (with_reducible refine w_block ?_) | ((with_reducible apply c_dec hF); exact rfl; all_goals intro hc; all_goals (try (exfalso; omega)))))
    refine c_loop (m := p + 1) (fun m a w' => ∃ (i : Nat), m + i = f + p + 1 ∧ f ≤ i ∧ i ≤ t.W.length ∧ i ≤ f + p ∧
      Fr 123 [] ((8, .int .i64 i) :: (7, .int .i64 (up t.W 0 i - up t.W 0 f)) :: [(6, .int .i64 f), (5, .int .i64 (P56.en t k)), (4, v4), (3, v3), (2, .int .i64 0), (1, .pointer (some ⟨bt, 0, none⟩))]) a ∧ Mm own W [⟨bt, ⟨trL t aw cw ac cc⟩, 42⟩] [⟨3, 1, v4, k, (tab (P56.ap t) k).map (Value.int .i64)⟩, ⟨3, 1, v3, k, (tab (fun k => (((k + 1) * p : Nat) : Int)) k).map (Value.int .i64)⟩] [RdF (Value.int .i64) ac t.C, RdF (Value.int .i64) aw t.W] w')
      ⟨f, by omega, by omega, by omega, by omega, by rw [show up t.W 0 f - up t.W 0 f = 0 by omega]; exact hF.sub (by repeat (first | exact Sub.nil | refine Sub.cons rfl (by first | with_reducible rfl | (refine congrArg (Value.int _) ?_; omega) | exact rfl) ?_)), hM⟩ ?_
    · clear hF hM a
      rintro m a w' ⟨i, hmi, hi1, hi2, hi3, hF, hM⟩
      have u1 := up0_bd ok.w ok.wlen i
      have u2 := up0_bd ok.w ok.wlen f
      by_cases hi : i < t.W.length ∧ i < f + p
      · obtain ⟨hi4, hi5⟩ := hi
        obtain ⟨x, hx⟩ := get_of_lt hi4
        have hxb := ok.w x (List.mem_of_getElem? hx)
        obtain ⟨ad, rfl⟩ := rd_some hM (a := aw) (by (repeat (first | exact List.mem_cons_self | refine List.mem_cons_of_mem _ ?_))) hx
        have us := up_step (S := 0) hx
        (repeat' (first | (with_reducible refine w_seq ?_) | (with_reducible refine c_region ?_) | (with_reducible refine s_nil ?_) | (with_reducible refine q_then_n ?_) | ((with_reducible apply s_pure hF); exact rfl; exact rfl; exact rfl; (first | exact trivial | omega | exact ⟨Int.natCast_nonneg _, Int.ofNat_lt.2 (by assumption)⟩ | decide); clear hF a; intro a hF) | ((with_reducible apply s_load hF hM); exact rfl; exact rfl; (repeat (first | exact List.mem_cons_self | refine List.mem_cons_of_mem _ ?_)); exact rfl; exact rfl; clear hF a; intro a hF) | ((with_reducible apply s_loadF hF hM); exact rfl; exact rfl; (repeat (first | exact List.mem_cons_self | refine List.mem_cons_of_mem _ ?_)); exact rfl; exact rfl; (first | with_reducible assumption | (simp only [Int.toNat_natCast]; with_reducible assumption)); clear hF a; intro a hF) | (with_reducible refine w_skip ?_) | (with_reducible refine w_block ?_) | (with_reducible refine q_blk_n ?_) | ((fail_if_success ((with_reducible refine g_known true hF ?_ ?_); focus exact rfl)); (fail_if_success ((with_reducible refine g_known false hF ?_ ?_); focus exact rfl)); (with_reducible apply g_dec hF); exact rfl; exact rfl; all_goals (clear hF; intro hc hF); all_goals (try (exfalso; omega))) | ((with_reducible apply c_dec hF); exact rfl; all_goals intro hc; all_goals (try (exfalso; omega)))))
        refine ⟨m - 1, by omega, i + 1, by omega, by omega, by omega, by omega, ?_, hM⟩
        rw [us, show up t.W 0 i + x - up t.W 0 f = up t.W 0 i - up t.W 0 f + x by omega]
        exact hF.sub (by repeat (first | exact Sub.nil | refine Sub.cons rfl (by first | with_reducible rfl | (refine congrArg (Value.int _) ?_; omega) | exact rfl) ?_))
      · have hlf : up t.W 0 i - up t.W 0 f = P56.size t k := by
          rw [hsk]
          by_cases g : i = f + p
          · rw [g]
          · rw [up_zero_over (i := i) (j := f + p) (by omega) (by omega)]
        rw [hlf] at hF
        have hs0 : 0 ≤ P56.size t k ∧ P56.size t k ≤ 16777216 := by
          have u3 := up0_bd ok.w ok.wlen (f + p)
          have u4 := up0_mono ok.w f p
          omega
        have hmx : max ((f : Int) + t.P) (P56.en t k) = ((f + p : Nat) : Int) := by omega
        have he2 := (hst (k + 1)).1
        rw [e1] at he2
        have hel := hend.le
        (repeat' (first | (with_reducible refine w_seq ?_) | (with_reducible refine c_region ?_) | (with_reducible refine s_nil ?_) | (with_reducible refine q_then_n ?_) | ((with_reducible apply s_pure hF); exact rfl; exact rfl; exact rfl; (first | exact trivial | omega | exact ⟨Int.natCast_nonneg _, Int.ofNat_lt.2 (by assumption)⟩ | decide); clear hF a; intro a hF) | ((with_reducible apply s_load hF hM); exact rfl; exact rfl; (repeat (first | exact List.mem_cons_self | refine List.mem_cons_of_mem _ ?_)); exact rfl; exact rfl; clear hF a; intro a hF) | (with_reducible refine w_block ?_) | (with_reducible refine w_exit ?_) | (with_reducible refine q_then_x ?_) | (with_reducible refine q_blk_x ?_) | ((with_reducible apply c_false2 hF); exact rfl; (first | with_reducible rfl | (refine congrArg Value.bool ?_; focus (simp; done)))) | ((with_reducible apply s_skip hF); exact rfl; exact rfl; clear hF a; intro a hF) | ((fail_if_success ((with_reducible refine g_known true hF ?_ ?_); focus exact rfl)); (fail_if_success ((with_reducible refine g_known false hF ?_ ?_); focus exact rfl)); (with_reducible apply g_dec hF); exact rfl; exact rfl; all_goals (clear hF; intro hc hF); all_goals (try (exfalso; omega))) | ((with_reducible apply c_dec hF); exact rfl; all_goals intro hc; all_goals (try (exfalso; omega)))))
        all_goals
          rw [hmx] at hF
          refine c_loop (m := P56.en t (k + 1) - (f + p) + 1) (fun m a w' => ∃ (j : Nat), m + j = P56.en t (k + 1) - (f + p) + 1 ∧ f + p + j ≤ P56.en t (k + 1) ∧
            Fr 123 [] ((10, .int .i64 j) :: (9, .int .i64 ((f + p + j : Nat) : Int)) :: (7, .int .i64 (P56.size t k - (P56.carr t.C (f + p + j) - P56.carr t.C (f + p)))) :: [(6, .int .i64 f), (4, v4), (3, v3), (2, .int .i64 0), (1, .pointer (some ⟨bt, 0, none⟩))]) a ∧ Mm own W [⟨bt, ⟨trL t aw cw ac cc⟩, 42⟩] [⟨3, 1, v4, k, (tab (P56.ap t) k).map (Value.int .i64)⟩, ⟨3, 1, v3, k, (tab (fun k => (((k + 1) * p : Nat) : Int)) k).map (Value.int .i64)⟩] [RdF (Value.int .i64) ac t.C, RdF (Value.int .i64) aw t.W] w')
            ⟨0, by omega, by omega, by rw [Nat.add_zero, show P56.size t k - (P56.carr t.C (f + p) - P56.carr t.C (f + p)) = P56.size t k by omega]; exact hF.sub (by repeat (first | exact Sub.nil | refine Sub.cons rfl (by first | with_reducible rfl | (refine congrArg (Value.int _) ?_; omega) | exact rfl) ?_)), hM⟩ ?_
          clear hF hM a
          rintro m a w' ⟨j, hmj, hj, hF, hM⟩
          have b1 := P56.carr_bd ok.c (f + p + j)
          have b2 := P56.carr_bd ok.c (f + p)
          have b3 := P56.carr_mono ok.c (s := f + p) (t := f + p + j) (by omega)
          by_cases hje : f + p + j < P56.en t (k + 1)
          · have hfi := hend.first (f + p + j) (by omega) hje
            have hx := capAt_get hC0 (f + p + j)
            have hxb := P56.capAt_bd ok.c (f + p + j)
            obtain ⟨ad, rfl⟩ := rd_some hM (a := ac) (by (repeat (first | exact List.mem_cons_self | refine List.mem_cons_of_mem _ ?_))) hx
            have us := P56.carr_succ t.C (f + p + j)
            (repeat' (first | (with_reducible refine w_seq ?_) | (with_reducible refine c_region ?_) | (with_reducible refine s_nil ?_) | (with_reducible refine q_then_n ?_) | ((with_reducible apply s_pure hF); exact rfl; exact rfl; exact rfl; (first | exact trivial | omega | exact ⟨Int.natCast_nonneg _, Int.ofNat_lt.2 (by assumption)⟩ | decide); clear hF a; intro a hF) | ((with_reducible apply s_load hF hM); exact rfl; exact rfl; (repeat (first | exact List.mem_cons_self | refine List.mem_cons_of_mem _ ?_)); exact rfl; exact rfl; clear hF a; intro a hF) | ((with_reducible apply s_loadF hF hM); exact rfl; exact rfl; (repeat (first | exact List.mem_cons_self | refine List.mem_cons_of_mem _ ?_)); exact rfl; exact rfl; (first | with_reducible assumption | (simp only [Int.toNat_natCast]; with_reducible assumption)); clear hF a; intro a hF) | (with_reducible refine w_skip ?_) | (with_reducible refine w_block ?_) | (with_reducible refine q_blk_n ?_) | ((fail_if_success ((with_reducible refine g_known true hF ?_ ?_); focus exact rfl)); (fail_if_success ((with_reducible refine g_known false hF ?_ ?_); focus exact rfl)); (with_reducible apply g_dec hF); exact rfl; exact rfl; all_goals (clear hF; intro hc hF); all_goals (try (exfalso; omega))) | ((with_reducible apply c_dec hF); exact rfl; all_goals intro hc; all_goals (try (exfalso; omega)))))
            refine ⟨m - 1, by omega, j + 1, by omega, by omega, ?_, hM⟩
            rw [show f + p + (j + 1) = f + p + j + 1 by omega, us, show P56.size t k - (P56.carr t.C (f + p + j) + P56.capAt t.C (f + p + j) - P56.carr t.C (f + p)) = P56.size t k - (P56.carr t.C (f + p + j) - P56.carr t.C (f + p)) - P56.capAt t.C (f + p + j) by omega]
            exact hF.sub (by repeat (first | exact Sub.nil | refine Sub.cons rfl (by first | with_reducible rfl | (refine congrArg (Value.int _) ?_; omega) | exact rfl) ?_))
          · have hee : f + p + j = P56.en t (k + 1) := by omega
            have hen := hend.enough
            rw [hee] at hF
            have hle : P56.size t k - (P56.carr t.C (P56.en t (k + 1)) - P56.carr t.C (f + p)) ≤ 0 := by omega
            (repeat' (first | (with_reducible refine w_seq ?_) | (with_reducible refine c_region ?_) | (with_reducible refine s_nil ?_) | (with_reducible refine q_then_n ?_) | ((with_reducible apply s_pure hF); exact rfl; exact rfl; exact rfl; (first | exact trivial | omega | exact ⟨Int.natCast_nonneg _, Int.ofNat_lt.2 (by assumption)⟩ | decide); clear hF a; intro a hF) | (with_reducible refine w_exit ?_) | (with_reducible refine q_then_x ?_) | (with_reducible refine q_blk_x ?_) | ((with_reducible apply c_false2 hF); exact rfl; (first | with_reducible rfl | (refine congrArg Value.bool ?_; focus (simp; done)))) | ((with_reducible apply s_skip hF); exact rfl; exact rfl; clear hF a; intro a hF) | ((fail_if_success ((with_reducible refine g_known true hF ?_ ?_); focus exact rfl)); (fail_if_success ((with_reducible refine g_known false hF ?_ ?_); focus exact rfl)); (with_reducible apply g_dec hF); exact rfl; exact rfl; all_goals (clear hF; intro hc hF); all_goals (try (exfalso; omega)))))
            have r4 : (tab (P56.ap t) (k + 1)).map (Value.int .i64) = (tab (P56.ap t) k).map (Value.int .i64) ++ [.int .i64 (P56.en t (k + 1) + t.L + t.A)] := by
              rw [tab_succ, List.map_append, hap]; rfl
            have r3 : (tab (fun k => (((k + 1) * p : Nat) : Int)) (k + 1)).map (Value.int .i64) = (tab (fun k => (((k + 1) * p : Nat) : Int)) k).map (Value.int .i64) ++ [.int .i64 (f + t.P)] := by
              rw [tab_succ, List.map_append, e1, show ((f + p : Nat) : Int) = f + t.P by omega]; rfl
            refine c_draw (fun i => Nat.ble 19 i) hM ?_; clear hM; intro w hM
            (first | (refine t_pure (i := 0) hF rfl rfl rfl rfl (by kernel_rfl) hM.sm (fun _ _ _ h => h) ?_ ?_; (first | exact trivial | omega | decide); clear hF a; intro a hF))
            (first | (refine t_pure (i := 1) hF rfl rfl rfl rfl (by kernel_rfl) hM.sm (fun _ _ _ h => h) ?_ ?_; (first | exact trivial | omega | decide); clear hF a; intro a hF))
            (first | (refine t_pure (i := 2) hF rfl rfl rfl rfl (by kernel_rfl) hM.sm (fun _ _ _ h => h) ?_ ?_; (first | exact trivial | omega | decide); clear hF a; intro a hF))
            (first | (apply t_load (i := 3) hF rfl rfl rfl; (repeat (first | exact List.mem_cons_self | refine List.mem_cons_of_mem _ ?_)); exact rfl; exact rfl; kernel_rfl; exact hM.sm; exact (fun _ _ _ h => h); clear hF a; intro a hF))
            (first | (refine t_pure (i := 4) hF rfl rfl rfl rfl (by kernel_rfl) hM.sm (fun _ _ _ h => h) ?_ ?_; (first | exact trivial | omega | decide); clear hF a; intro a hF))
            (first | (refine t_pure (i := 7) hF rfl rfl rfl rfl (by kernel_rfl) hM.sm (fun _ _ _ h => h) ?_ ?_; (first | exact trivial | omega | decide); clear hF a; intro a hF))
            (first | (refine t_pure (i := 8) hF rfl rfl rfl rfl (by kernel_rfl) hM.sm (fun _ _ _ h => h) ?_ ?_; (first | exact trivial | omega | decide); clear hF a; intro a hF))
            (first | (refine t_pure (i := 9) hF rfl rfl rfl rfl (by kernel_rfl) hM.sm (fun _ _ _ h => h) ?_ ?_; (first | exact trivial | omega | decide); clear hF a; intro a hF))
            (first | (apply t_load (i := 10) hF rfl rfl rfl; (repeat (first | exact List.mem_cons_self | refine List.mem_cons_of_mem _ ?_)); exact rfl; exact rfl; kernel_rfl; exact hM.sm; exact (fun _ _ _ h => h); clear hF a; intro a hF))
            (first | (refine t_pure (i := 11) hF rfl rfl rfl rfl (by kernel_rfl) hM.sm (fun _ _ _ h => h) ?_ ?_; (first | exact trivial | omega | decide); clear hF a; intro a hF))
            (first | (refine t_pure (i := 12) hF rfl rfl rfl rfl (by kernel_rfl) hM.sm (fun _ _ _ h => h) ?_ ?_; (first | exact trivial | omega | decide); clear hF a; intro a hF))
            (first | (apply t_load (i := 13) hF rfl rfl rfl; (repeat (first | exact List.mem_cons_self | refine List.mem_cons_of_mem _ ?_)); exact rfl; exact rfl; kernel_rfl; exact hM.sm; exact (fun _ _ _ h => h); clear hF a; intro a hF))
            (first | (refine t_pure (i := 14) hF rfl rfl rfl rfl (by kernel_rfl) hM.sm (fun _ _ _ h => h) ?_ ?_; (first | exact trivial | omega | decide); clear hF a; intro a hF))
            refine t_two (i := 5) (j := 15) hF rfl rfl (by kernel_rfl) rfl rfl ?_ ?_
            ·
              intro K hK
              (refine x_lit hF hM rfl rfl rfl ?_; clear hF hM a; intro bl w a hM hF)
              refine hK _ _ (fun _ => (hM.sm.sub (fun x hx => by repeat (first | exact hx | refine List.mem_cons_of_mem _ ?_)) (fun _ h => by repeat (first | exact h | refine List.mem_cons_of_mem _ ?_)))) ?_; clear hK
              refine t_two (i := 6) (j := 15) hF rfl rfl (by kernel_rfl) rfl rfl ?_ ?_
              ·
                intro K hK
                (apply x_app hF hM rfl rfl rfl; (repeat (first | exact List.mem_cons_self | refine List.mem_cons_of_mem _ ?_)); (repeat (first | exact Kth.z | apply Kth.s)); exact rfl; exact rfl; exact rfl; exact rfl; omega; clear hF hM a; intro g cap w a hM hF; dsimp only [List.set] at hM)
                refine hK _ _ (fun _ => (hM.sm.sub (fun x hx => by repeat (first | exact hx | refine List.mem_cons_of_mem _ ?_)) (fun _ h => by repeat (first | exact h | refine List.mem_cons_of_mem _ ?_)))) ?_; clear hK
                refine t_one (i := 15) hF rfl (by kernel_rfl) rfl ?_
                intro K hK
                (refine x_lit hF hM rfl rfl rfl ?_; clear hF hM a; intro bl w a hM hF)
                refine hK _ _ (fun _ => (hM.sm.sub (fun x hx => by repeat (first | exact hx | refine List.mem_cons_of_mem _ ?_)) (fun _ h => by repeat (first | exact h | refine List.mem_cons_of_mem _ ?_)))) ?_; clear hK
                refine t_one (i := 16) hF rfl (by kernel_rfl) rfl ?_
                intro K hK
                (apply x_app hF hM rfl rfl rfl; (repeat (first | exact List.mem_cons_self | refine List.mem_cons_of_mem _ ?_)); (repeat (first | exact Kth.z | apply Kth.s)); exact rfl; exact rfl; exact rfl; exact rfl; omega; clear hF hM a; intro g cap w a hM hF; dsimp only [List.set] at hM)
                refine hK _ _ (fun _ => (hM.sm.sub (fun x hx => by repeat (first | exact hx | refine List.mem_cons_of_mem _ ?_)) (fun _ h => by repeat (first | exact h | refine List.mem_cons_of_mem _ ?_)))) ?_; clear hK
                (first | (refine t_pure (i := 17) hF rfl rfl rfl rfl (by kernel_rfl) (hM.sm.sub (fun x hx => by repeat (first | exact hx | refine List.mem_cons_of_mem _ ?_)) (fun _ h => by repeat (first | exact h | refine List.mem_cons_of_mem _ ?_))) (fun _ _ _ h => h) ?_ ?_; (first | exact trivial | omega | decide); clear hF a; intro a hF))
                (first | (refine t_pure (i := 18) hF rfl rfl rfl rfl (by kernel_rfl) (hM.sm.sub (fun x hx => by repeat (first | exact hx | refine List.mem_cons_of_mem _ ?_)) (fun _ h => by repeat (first | exact h | refine List.mem_cons_of_mem _ ?_))) (fun _ _ _ h => h) ?_ ?_; (first | exact trivial | omega | decide); clear hF a; intro a hF))
                refine t_done (by kernel_rfl) ?_
                (repeat' (first | (with_reducible refine c_region ?_) | (with_reducible refine s_nil ?_) | (with_reducible refine q_then_n ?_) | ((with_reducible apply s_pure hF); exact rfl; exact rfl; exact rfl; (first | exact trivial | omega | exact ⟨Int.natCast_nonneg _, Int.ofNat_lt.2 (by assumption)⟩ | decide); clear hF a; intro a hF) | ((with_reducible apply s_load hF hM); exact rfl; exact rfl; (repeat (first | exact List.mem_cons_self | refine List.mem_cons_of_mem _ ?_)); exact rfl; exact rfl; clear hF a; intro a hF) | (with_reducible refine q_blk_n ?_)))
                refine ⟨mk - 1, by omega, k + 1, _, _, by omega, by rw [e1, show ((f + p : Nat) : Int) = f + t.P by omega]; exact hF.sub (by repeat (first | exact Sub.nil | refine Sub.cons rfl (by first | with_reducible rfl | (refine congrArg (Value.int _) ?_; omega) | exact rfl) ?_)), ?_⟩
                rw [r3, r4]
                exact hM.sub (.cons _ (.cons _ (.refl _))) (.refl _) (fun _ h => h)
              ·
                intro K hK
                (refine x_lit hF hM rfl rfl rfl ?_; clear hF hM a; intro bl w a hM hF)
                refine hK _ _ (fun _ => (hM.sm.sub (fun x hx => by repeat (first | exact hx | refine List.mem_cons_of_mem _ ?_)) (fun _ h => by repeat (first | exact h | refine List.mem_cons_of_mem _ ?_)))) ?_; clear hK
                refine t_one (i := 6) hF rfl (by kernel_rfl) rfl ?_
                intro K hK
                (apply x_app hF hM rfl rfl rfl; (repeat (first | exact List.mem_cons_self | refine List.mem_cons_of_mem _ ?_)); (repeat (first | exact Kth.z | apply Kth.s)); exact rfl; exact rfl; exact rfl; exact rfl; omega; clear hF hM a; intro g cap w a hM hF; dsimp only [List.set] at hM)
                refine hK _ _ (fun _ => (hM.sm.sub (fun x hx => by repeat (first | exact hx | refine List.mem_cons_of_mem _ ?_)) (fun _ h => by repeat (first | exact h | refine List.mem_cons_of_mem _ ?_)))) ?_; clear hK
                refine t_one (i := 16) hF rfl (by kernel_rfl) rfl ?_
                intro K hK
                (apply x_app hF hM rfl rfl rfl; (repeat (first | exact List.mem_cons_self | refine List.mem_cons_of_mem _ ?_)); (repeat (first | exact Kth.z | apply Kth.s)); exact rfl; exact rfl; exact rfl; exact rfl; omega; clear hF hM a; intro g cap w a hM hF; dsimp only [List.set] at hM)
                refine hK _ _ (fun _ => (hM.sm.sub (fun x hx => by repeat (first | exact hx | refine List.mem_cons_of_mem _ ?_)) (fun _ h => by repeat (first | exact h | refine List.mem_cons_of_mem _ ?_)))) ?_; clear hK
                (first | (refine t_pure (i := 17) hF rfl rfl rfl rfl (by kernel_rfl) (hM.sm.sub (fun x hx => by repeat (first | exact hx | refine List.mem_cons_of_mem _ ?_)) (fun _ h => by repeat (first | exact h | refine List.mem_cons_of_mem _ ?_))) (fun _ _ _ h => h) ?_ ?_; (first | exact trivial | omega | decide); clear hF a; intro a hF))
                (first | (refine t_pure (i := 18) hF rfl rfl rfl rfl (by kernel_rfl) (hM.sm.sub (fun x hx => by repeat (first | exact hx | refine List.mem_cons_of_mem _ ?_)) (fun _ h => by repeat (first | exact h | refine List.mem_cons_of_mem _ ?_))) (fun _ _ _ h => h) ?_ ?_; (first | exact trivial | omega | decide); clear hF a; intro a hF))
                refine t_done (by kernel_rfl) ?_
                (repeat' (first | (with_reducible refine c_region ?_) | (with_reducible refine s_nil ?_) | (with_reducible refine q_then_n ?_) | ((with_reducible apply s_pure hF); exact rfl; exact rfl; exact rfl; (first | exact trivial | omega | exact ⟨Int.natCast_nonneg _, Int.ofNat_lt.2 (by assumption)⟩ | decide); clear hF a; intro a hF) | ((with_reducible apply s_load hF hM); exact rfl; exact rfl; (repeat (first | exact List.mem_cons_self | refine List.mem_cons_of_mem _ ?_)); exact rfl; exact rfl; clear hF a; intro a hF) | (with_reducible refine q_blk_n ?_)))
                refine ⟨mk - 1, by omega, k + 1, _, _, by omega, by rw [e1, show ((f + p : Nat) : Int) = f + t.P by omega]; exact hF.sub (by repeat (first | exact Sub.nil | refine Sub.cons rfl (by first | with_reducible rfl | (refine congrArg (Value.int _) ?_; omega) | exact rfl) ?_)), ?_⟩
                rw [r3, r4]
                exact hM.sub (.cons _ (.cons _ (.refl _))) (.refl _) (fun _ h => h)
            ·
              intro K hK
              (refine x_lit hF hM rfl rfl rfl ?_; clear hF hM a; intro bl w a hM hF)
              refine hK _ _ (fun _ => (hM.sm.sub (fun x hx => by repeat (first | exact hx | refine List.mem_cons_of_mem _ ?_)) (fun _ h => by repeat (first | exact h | refine List.mem_cons_of_mem _ ?_)))) ?_; clear hK
              refine t_one (i := 5) hF rfl (by kernel_rfl) rfl ?_
              intro K hK
              (refine x_lit hF hM rfl rfl rfl ?_; clear hF hM a; intro bl w a hM hF)
              refine hK _ _ (fun _ => (hM.sm.sub (fun x hx => by repeat (first | exact hx | refine List.mem_cons_of_mem _ ?_)) (fun _ h => by repeat (first | exact h | refine List.mem_cons_of_mem _ ?_)))) ?_; clear hK
              refine t_one (i := 6) hF rfl (by kernel_rfl) rfl ?_
              intro K hK
              (apply x_app hF hM rfl rfl rfl; (repeat (first | exact List.mem_cons_self | refine List.mem_cons_of_mem _ ?_)); (repeat (first | exact Kth.z | apply Kth.s)); exact rfl; exact rfl; exact rfl; exact rfl; omega; clear hF hM a; intro g cap w a hM hF; dsimp only [List.set] at hM)
              refine hK _ _ (fun _ => (hM.sm.sub (fun x hx => by repeat (first | exact hx | refine List.mem_cons_of_mem _ ?_)) (fun _ h => by repeat (first | exact h | refine List.mem_cons_of_mem _ ?_)))) ?_; clear hK
              refine t_one (i := 16) hF rfl (by kernel_rfl) rfl ?_
              intro K hK
              (apply x_app hF hM rfl rfl rfl; (repeat (first | exact List.mem_cons_self | refine List.mem_cons_of_mem _ ?_)); (repeat (first | exact Kth.z | apply Kth.s)); exact rfl; exact rfl; exact rfl; exact rfl; omega; clear hF hM a; intro g cap w a hM hF; dsimp only [List.set] at hM)
              refine hK _ _ (fun _ => (hM.sm.sub (fun x hx => by repeat (first | exact hx | refine List.mem_cons_of_mem _ ?_)) (fun _ h => by repeat (first | exact h | refine List.mem_cons_of_mem _ ?_)))) ?_; clear hK
              (first | (refine t_pure (i := 17) hF rfl rfl rfl rfl (by kernel_rfl) (hM.sm.sub (fun x hx => by repeat (first | exact hx | refine List.mem_cons_of_mem _ ?_)) (fun _ h => by repeat (first | exact h | refine List.mem_cons_of_mem _ ?_))) (fun _ _ _ h => h) ?_ ?_; (first | exact trivial | omega | decide); clear hF a; intro a hF))
              (first | (refine t_pure (i := 18) hF rfl rfl rfl rfl (by kernel_rfl) (hM.sm.sub (fun x hx => by repeat (first | exact hx | refine List.mem_cons_of_mem _ ?_)) (fun _ h => by repeat (first | exact h | refine List.mem_cons_of_mem _ ?_))) (fun _ _ _ h => h) ?_ ?_; (first | exact trivial | omega | decide); clear hF a; intro a hF))
              refine t_done (by kernel_rfl) ?_
              (repeat' (first | (with_reducible refine c_region ?_) | (with_reducible refine s_nil ?_) | (with_reducible refine q_then_n ?_) | ((with_reducible apply s_pure hF); exact rfl; exact rfl; exact rfl; (first | exact trivial | omega | exact ⟨Int.natCast_nonneg _, Int.ofNat_lt.2 (by assumption)⟩ | decide); clear hF a; intro a hF) | ((with_reducible apply s_load hF hM); exact rfl; exact rfl; (repeat (first | exact List.mem_cons_self | refine List.mem_cons_of_mem _ ?_)); exact rfl; exact rfl; clear hF a; intro a hF) | (with_reducible refine q_blk_n ?_)))
              refine ⟨mk - 1, by omega, k + 1, _, _, by omega, by rw [e1, show ((f + p : Nat) : Int) = f + t.P by omega]; exact hF.sub (by repeat (first | exact Sub.nil | refine Sub.cons rfl (by first | with_reducible rfl | (refine congrArg (Value.int _) ?_; omega) | exact rfl) ?_)), ?_⟩
              rw [r3, r4]
              exact hM.sub (.cons _ (.cons _ (.refl _))) (.refl _) (fun _ h => h)
  · obtain rfl : k = N := by omega
    have hmono : ∀ j, P56.ap t j ≤ P56.ap t (j + 1) := by
      intro j
      have q1 := (hst j).2.le
      have q2 := (hst (j + 1)).1
      have q3 := (hst (j + 1)).2.le
      rw [Nat.succ_mul] at q1 q2
      rw [Nat.succ_mul, Nat.succ_mul] at q3
      rw [hap, hap]
      omega
    have hmono0 : ∀ j, P56.ap t 0 ≤ P56.ap t j := by
      intro j
      induction j with
      | zero => exact Int.le_refl _
      | succ j ih => have := hmono j; omega
    have hmonoN : ∀ j, j < k → P56.ap t j ≤ P56.ap t (k - 1) := by
      intro j hj
      obtain ⟨d, hd⟩ : ∃ d, j + d = k - 1 := ⟨k - 1 - j, by omega⟩
      rw [← hd]
      clear hd
      induction d with
      | zero => exact Int.le_refl _
      | succ d ih => have := hmono (j + d); rw [← Nat.add_assoc]; omega
    have hapb : ∀ j, j ≤ k → 0 ≤ P56.ap t j ∧ P56.ap t j ≤ 3000 := by
      intro j hj
      have q2 := (hst (j + 1)).1
      have q3 := hcy2 j hj
      rw [Nat.succ_mul] at q2
      rw [hap]
      omega
    obtain ⟨a4, c4, rfl, -, -⟩ := OffR.shape hM (k := 0) rfl (OffR.plain hM List.mem_cons_self)
    obtain ⟨a3, c3, rfl, -, -⟩ := OffR.shape hM (k := 1) rfl (OffR.plain hM (List.mem_cons_of_mem _ List.mem_cons_self))
    replace hM := hM.freezeRow.freezeRow
    (repeat' (first | (with_reducible refine w_seq ?_) | (with_reducible refine c_region ?_) | (with_reducible refine s_nil ?_) | (with_reducible refine q_then_n ?_) | ((with_reducible apply s_pure hF); exact rfl; exact rfl; exact rfl; (first | exact trivial | omega | exact ⟨Int.natCast_nonneg _, Int.ofNat_lt.2 (by assumption)⟩ | decide); clear hF a; intro a hF) | ((with_reducible apply s_load hF hM); exact rfl; exact rfl; (repeat (first | exact List.mem_cons_self | refine List.mem_cons_of_mem _ ?_)); exact rfl; exact rfl; clear hF a; intro a hF) | (with_reducible refine w_block ?_) | (with_reducible refine w_exit ?_) | (with_reducible refine q_then_x ?_) | (with_reducible refine q_blk_x ?_) | ((with_reducible apply c_dec hF); exact rfl; all_goals intro hc; all_goals (try (exfalso; omega)))))
    refine c_loop (m := 4000) (fun m a w' => ∃ (kk : Nat) (nw mo : Int), m + nw = 4000 ∧ kk ≤ k ∧ 0 ≤ nw ∧ nw ≤ 3001 ∧ 0 ≤ mo ∧ mo ≤ 4000 ∧ (kk < k → nw ≤ P56.ap t kk) ∧ (kk = 0 → nw = 0 ∨ nw - 1 ≤ mo) ∧ (0 < kk → P56.ap t 0 - 1 ≤ mo) ∧
        (∀ B : Int, 0 ≤ B → (∀ j : Nat, j < k → P56.ap t j - 1 - ((j * p : Nat) : Int) ≤ B) → mo ≤ B) ∧
      Fr 123 [] [(14, .int .i64 kk), (13, .int .i64 nw), (12, .int .i64 ((kk * p : Nat) : Int)), (11, .int .i64 mo), (4, .slice a4 k c4), (3, .slice a3 k c3), (2, .int .i64 0), (1, .pointer (some ⟨bt, 0, none⟩))] a ∧
      Mm own W [⟨bt, ⟨trL t aw cw ac cc⟩, 42⟩] [] [RdF (Value.int .i64) a3 (tab (fun k => (((k + 1) * p : Nat) : Int)) k), RdF (Value.int .i64) a4 (tab (P56.ap t) k), RdF (Value.int .i64) ac t.C, RdF (Value.int .i64) aw t.W] w')
      ⟨0, 0, 0, by omega, by omega, by omega, by omega, by omega, by omega, fun _ => (hapb 0 (by omega)).1, fun _ => .inl rfl, fun h => by omega, fun B hB _ => hB, by rw [Nat.zero_mul]; exact hF.sub (by repeat (first | exact Sub.nil | refine Sub.cons rfl (by first | with_reducible rfl | (refine congrArg (Value.int _) ?_; omega) | exact rfl) ?_)), hM⟩ ?_
    clear hF hM a
    rintro m a w' ⟨kk, nw, mo, hm, hkk, hn0, hn1, hmo0, hmo1, hP1, hP2, hP3, hPB, hF, hM⟩
    by_cases hk : kk < k
    · have hnw := hP1 hk
      (repeat' (first | (with_reducible refine w_seq ?_) | (with_reducible refine c_region ?_) | (with_reducible refine s_nil ?_) | (with_reducible refine q_then_n ?_) | ((with_reducible apply s_pure hF); exact rfl; exact rfl; exact rfl; (first | exact trivial | omega | exact ⟨Int.natCast_nonneg _, Int.ofNat_lt.2 (by assumption)⟩ | decide); clear hF a; intro a hF) | (with_reducible refine w_skip ?_) | (with_reducible refine w_block ?_) | ((with_reducible apply c_dec hF); exact rfl; all_goals intro hc; all_goals (try (exfalso; omega)))))
      refine c_loop (m := k) (fun m a w' => ∃ (k1 : Nat), m + k1 = k + kk ∧ kk ≤ k1 ∧ k1 ≤ k ∧ nw ≤ P56.ap t k1 ∧ (kk < k1 → nw ≤ P56.ap t (k1 - 1) ∧ P56.ap t (k1 - 1) ≤ nw) ∧
        Fr 123 [] [(14, .int .i64 k1), (13, .int .i64 nw), (12, .int .i64 ((k1 * p : Nat) : Int)), (11, .int .i64 mo), (4, .slice a4 k c4), (3, .slice a3 k c3), (2, .int .i64 0), (1, .pointer (some ⟨bt, 0, none⟩))] a ∧ Mm own W [⟨bt, ⟨trL t aw cw ac cc⟩, 42⟩] [] [RdF (Value.int .i64) a3 (tab (fun k => (((k + 1) * p : Nat) : Int)) k), RdF (Value.int .i64) a4 (tab (P56.ap t) k), RdF (Value.int .i64) ac t.C, RdF (Value.int .i64) aw t.W] w')
        ⟨kk, by omega, by omega, by omega, hnw, fun h => by omega, hF.sub (by repeat (first | exact Sub.nil | refine Sub.cons rfl (by first | with_reducible rfl | (refine congrArg (Value.int _) ?_; omega) | exact rfl) ?_)), hM⟩ ?_
      clear hF hM a
      rintro m1 a w' ⟨k1, hm1, hk1, hk2', hq1, hq2, hF, hM⟩
      have hkp1 := hcy2 k1 hk2'
      by_cases hlt : k1 < k ∧ P56.ap t k1 ≤ nw
      · obtain ⟨hlt1, hlt2⟩ := hlt
        have hx4 : (tab (P56.ap t) k)[k1]? = some (P56.ap t k1) := tab_get hlt1
        have hx3 : (tab (fun k => (((k + 1) * p : Nat) : Int)) k)[k1]? = some (((k1 + 1) * p : Nat) : Int) := tab_get hlt1
        obtain ⟨d4, rfl⟩ := rd_some hM (a := a4) (by (repeat (first | exact List.mem_cons_self | refine List.mem_cons_of_mem _ ?_))) hx4
        obtain ⟨d3, rfl⟩ := rd_some hM (a := a3) (by (repeat (first | exact List.mem_cons_self | refine List.mem_cons_of_mem _ ?_))) hx3
        have hmo := hmono k1
        (repeat' (first | (with_reducible refine w_seq ?_) | (with_reducible refine c_region ?_) | (with_reducible refine s_nil ?_) | (with_reducible refine q_then_n ?_) | ((with_reducible apply s_pure hF); exact rfl; exact rfl; exact rfl; (first | exact trivial | omega | exact ⟨Int.natCast_nonneg _, Int.ofNat_lt.2 (by assumption)⟩ | decide); clear hF a; intro a hF) | ((with_reducible apply s_loadF hF hM); exact rfl; exact rfl; (repeat (first | exact List.mem_cons_self | refine List.mem_cons_of_mem _ ?_)); exact rfl; exact rfl; (first | with_reducible assumption | (simp only [Int.toNat_natCast]; with_reducible assumption)); clear hF a; intro a hF) | (with_reducible refine w_skip ?_) | (with_reducible refine w_block ?_) | (with_reducible refine q_blk_n ?_) | ((fail_if_success ((with_reducible refine g_known true hF ?_ ?_); focus exact rfl)); (fail_if_success ((with_reducible refine g_known false hF ?_ ?_); focus exact rfl)); (with_reducible apply g_dec hF); exact rfl; exact rfl; all_goals (clear hF; intro hc hF); all_goals (try (exfalso; omega))) | ((with_reducible apply c_dec hF); exact rfl; all_goals intro hc; all_goals (try (exfalso; omega)))))
        exact ⟨m1 - 1, by omega, k1 + 1, by omega, by omega, by omega, by omega, fun _ => ⟨hq1, hlt2⟩, hF.sub (by repeat (first | exact Sub.nil | refine Sub.cons rfl (by first | with_reducible rfl | (refine congrArg (Value.int _) ?_; omega) | exact rfl) ?_)), hM⟩
      · have hB : ∀ B : Int, 0 ≤ B → (∀ j : Nat, j < k → P56.ap t j - 1 - ((j * p : Nat) : Int) ≤ B) → max mo (nw - ((k1 * p : Nat) : Int)) ≤ B := by
          intro B hB hall
          have q1 := hPB B hB hall
          by_cases g : k1 < k
          · have := hall k1 g
            omega
          · obtain rfl : k1 = k := by omega
            have q2 := hall (k1 - 1) (by omega)
            have q3 := (hq2 (by omega)).1
            have e := Nat.succ_mul (k1 - 1) p
            rw [show (k1 - 1).succ = k1 by omega] at e
            omega
        have hlo : k1 = 0 → nw ≤ max mo (nw - ((k1 * p : Nat) : Int)) := by
          intro h0
          subst h0
          rw [Nat.zero_mul]
          omega
        have hlo2 : 0 < k1 → P56.ap t 0 - 1 ≤ mo := by
          intro h0
          by_cases g : 0 < kk
          · exact hP3 g
          · have q1 := hP2 (by omega)
            have q2 := hq2 (by omega)
            have q3 := hmono0 (k1 - 1)
            omega
        have hnx : k1 < k → nw + 1 ≤ P56.ap t k1 := by omega
        have hap1 := hapb k1 hk2'
        by_cases g : k1 < k
        · have hx4 : (tab (P56.ap t) k)[k1]? = some (P56.ap t k1) := tab_get g
          obtain ⟨d4, rfl⟩ := rd_some hM (a := a4) (by (repeat (first | exact List.mem_cons_self | refine List.mem_cons_of_mem _ ?_))) hx4
          (repeat' (first | (with_reducible refine w_seq ?_) | (with_reducible refine c_region ?_) | (with_reducible refine s_nil ?_) | (with_reducible refine q_then_n ?_) | ((with_reducible apply s_pure hF); exact rfl; exact rfl; exact rfl; (first | exact trivial | omega | exact ⟨Int.natCast_nonneg _, Int.ofNat_lt.2 (by assumption)⟩ | decide); clear hF a; intro a hF) | ((with_reducible apply s_loadF hF hM); exact rfl; exact rfl; (repeat (first | exact List.mem_cons_self | refine List.mem_cons_of_mem _ ?_)); exact rfl; exact rfl; (first | with_reducible assumption | (simp only [Int.toNat_natCast]; with_reducible assumption)); clear hF a; intro a hF) | (with_reducible refine w_exit ?_) | (with_reducible refine q_then_x ?_) | (with_reducible refine q_blk_n ?_) | (with_reducible refine q_blk_x ?_) | ((fail_if_success ((with_reducible refine g_known true hF ?_ ?_); focus exact rfl)); (fail_if_success ((with_reducible refine g_known false hF ?_ ?_); focus exact rfl)); (with_reducible apply g_dec hF); exact rfl; exact rfl; all_goals (clear hF; intro hc hF); all_goals (try (exfalso; omega))) | ((with_reducible apply c_dec hF); exact rfl; all_goals intro hc; all_goals (try (exfalso; omega)))))
          exact ⟨m - 1, by omega, k1, nw + 1, _, by omega, by omega, by omega, by omega, by omega, by omega, hnx, fun h => .inr (by have := hlo h; omega), fun h => by have := hlo2 h; omega, hB, hF.sub (by repeat (first | exact Sub.nil | refine Sub.cons rfl (by first | with_reducible rfl | (refine congrArg (Value.int _) ?_; omega) | exact rfl) ?_)), hM⟩
        · (repeat' (first | (with_reducible refine w_seq ?_) | (with_reducible refine c_region ?_) | (with_reducible refine s_nil ?_) | (with_reducible refine q_then_n ?_) | ((with_reducible apply s_pure hF); exact rfl; exact rfl; exact rfl; (first | exact trivial | omega | exact ⟨Int.natCast_nonneg _, Int.ofNat_lt.2 (by assumption)⟩ | decide); clear hF a; intro a hF) | (with_reducible refine w_exit ?_) | (with_reducible refine q_then_x ?_) | (with_reducible refine q_blk_n ?_) | (with_reducible refine q_blk_x ?_) | ((with_reducible apply c_false2 hF); exact rfl; (first | with_reducible rfl | (refine congrArg Value.bool ?_; focus (simp; done)))) | ((with_reducible apply s_skip hF); exact rfl; exact rfl; clear hF a; intro a hF) | ((fail_if_success ((with_reducible refine g_known true hF ?_ ?_); focus exact rfl)); (fail_if_success ((with_reducible refine g_known false hF ?_ ?_); focus exact rfl)); (with_reducible apply g_dec hF); exact rfl; exact rfl; all_goals (clear hF; intro hc hF); all_goals (try (exfalso; omega)))))
          exact ⟨m - 1, by omega, k1, nw + 1, _, by omega, by omega, by omega, by omega, by omega, by omega, hnx, fun h => .inr (by have := hlo h; omega), fun h => by have := hlo2 h; omega, hB, hF.sub (by repeat (first | exact Sub.nil | refine Sub.cons rfl (by first | with_reducible rfl | (refine congrArg (Value.int _) ?_; omega) | exact rfl) ?_)), hM⟩
    · obtain rfl : kk = k := by omega
      (repeat' (first | (with_reducible refine w_seq ?_) | (with_reducible refine c_region ?_) | (with_reducible refine s_nil ?_) | (with_reducible refine q_then_n ?_) | ((with_reducible apply s_pure hF); exact rfl; exact rfl; exact rfl; (first | exact trivial | omega | exact ⟨Int.natCast_nonneg _, Int.ofNat_lt.2 (by assumption)⟩ | decide); clear hF a; intro a hF) | (with_reducible refine w_exit ?_) | (with_reducible refine w_ret ?_) | (with_reducible refine q_then_x ?_) | (with_reducible refine q_blk_x ?_) | ((with_reducible apply c_false2 hF); exact rfl; (first | with_reducible rfl | (refine congrArg Value.bool ?_; focus (simp; done))))))
      (apply f_ret Try.results43 hF hM; (repeat (first | exact RL.nil | (apply RL.tmp; exact rfl) | (apply RL.cell; exact rfl; (repeat (first | exact List.mem_cons_self | refine List.mem_cons_of_mem _ ?_)); exact rfl))); refine Ret.mk hM.since ?_; dsimp only [resV])
      exact ⟨mo, rfl, hmo0, by omega, hP3, hPB⟩
end Go.Proofs.Ytabfhoipclbeeaa


/- standbytop: playCertificate, playCertified. -/
namespace Go.Proofs.Ytabfhoipclbeeaa
open Go.RowKit Go.Shelf C55 K57
/-- A certificate that is made, and whether it is. -/
def PcR (own : Nat → Prop) (x : Ce × Int) (v : Value) (w' : World) : Prop := ∃ a1 c1 a2 c2, v = .tuple #[.agg ⟨ceL x.1 a1 c1 a2 c2⟩, .bool (decide (x.2 = 0)), .bool true] ∧ Has own w' (RdF (Value.int .i64) a1 x.1.A.V) ∧ Has own w' (RdF (Value.int .i64) a2 x.1.S.V) ∧ x.1.A.V.length ≤ c1 ∧ x.1.S.V.length ≤ c2
set_option maxRecDepth 20000 in
set_option maxHeartbeats 4000000 in
theorem playCert_c (t : P56.Tr) (ok : P56.Ok t) (hW : t.W.length ≤ 40) (hC : t.C.length ≤ 60) (aw ac : Option Addr) (cw cc : Nat) (mw : t.W.length ≤ cw) (mc : t.C.length ≤ cc) (own : Nat → Prop) (W : World) (hl : ∀ b, own b → b < W.heap.size)
    (h3 : Has own W (RdF (Value.int .i64) aw t.W)) (h4 : Has own W (RdF (Value.int .i64) ac t.C)) :
    Calls Try.prog 42 ⟨[.agg ⟨trL t aw cw ac cc⟩]⟩ W (Ret W (PcR own (mkV (mes t)))) := by
  have hM := ((Mm.start hl).known h3).known h4
  have lw : t.W.length ≤ 9223372036854775807 := by omega
  have lc : t.C.length ≤ 9223372036854775807 := by omega
  have hlast : t.C[((t.C.length : Int) - 1).toNat]? = some (P56.last t.C) := by
    have := ok.clen0
    have h := capAt_get (C := t.C) this (t.C.length - 1)
    rw [show (min ((t.C.length - 1 : Nat) : Int) ((t.C.length : Int) - 1)) = (t.C.length : Int) - 1 by omega] at h
    rw [h]
    unfold P56.capAt P56.last
    rw [dif_pos (by omega), List.getLastD_eq_getLast?, List.getLast?_eq_getElem?, List.getElem?_eq_getElem (by omega)]
    rfl
  have hC0 := ok.clen0
  have mW := mes_W ok hW
  have mC := mes_C ok hC
  have hE := mes_e ok hW hC
  have hS2 := mk_2 (mes t)
  have hS3 : (mes t).A = wc true t.W 0 := rfl
  have hS4 : (mes t).S = wc false t.C (P56.last t.C) := rfl
  have e3 := fun v u {own W} hl hv hu => mk_uni (own := own) (W := W) (make_c (mes t) (by show (wc true t.W 0).V.length ≤ _; rw [wc_len]; omega) (by show (wc false t.C (P56.last t.C)).V.length ≤ _; rw [wc_len]; omega) v u own W hl hv hu)
  rw [hS3, hS4, show (mes t).P = t.P from rfl, show (mes t).L = t.L from rfl, show (mes t).D = t.A from rfl] at e3
  obtain ⟨x, hx⟩ : ∃ x, mkV (mes t) = x := ⟨_, rfl⟩
  rw [← hS2, hx] at hE
  rw [hx] at e3 ⊢
  clear hS2 hS3 hS4 hx
  obtain ⟨S, hS⟩ : ∃ x, P56.last t.C = x := ⟨_, rfl⟩
  rw [hS] at hlast mC e3
  obtain ⟨adc, rfl⟩ := rd_some hM (a := ac) (by (repeat (first | exact List.mem_cons_self | refine List.mem_cons_of_mem _ ?_))) hlast
  have e1 := fun {own W} hl hv => wins_m mW _ (arrival_c t.W 0 aw cw own W hl lw hv)
  have e2 := fun {own W} hl hv => wins_m mC _ (service_c t.C S (some adc) cc own W hl lc hv)
  refine f_start Try.func42 rfl Try.ntmps42 rfl rfl ?_; intro a hF
  (repeat (first | (with_reducible refine w_seq ?_) | (with_reducible refine c_region ?_) | (with_reducible refine s_nil ?_) | (with_reducible refine q_then_n ?_) | ((with_reducible apply s_pure hF); exact rfl; exact rfl; exact rfl; (first | exact trivial | omega | exact ⟨Int.natCast_nonneg _, Int.ofNat_lt.2 (by assumption)⟩ | decide); clear hF a; intro a hF) | ((with_reducible apply s_load hF hM); exact rfl; exact rfl; (repeat (first | exact List.mem_cons_self | refine List.mem_cons_of_mem _ ?_)); exact rfl; exact rfl; clear hF a; intro a hF) | ((with_reducible apply s_alloc hF hM); exact rfl; exact rfl; exact rfl; clear hF hM a; intro b w a hM hF) | ((with_reducible apply s_box hF hM); exact rfl; exact rfl; exact rfl; exact rfl; clear hF hM a; intro b w a hM hF)))
  rename_i b1 _
  generalize b = b2 at *
  (((with_reducible apply s_call (f := 38) hF hM); exact rfl; exact rfl; exact rfl; exact rfl; exact rfl; exact (e1 hM.lt (hM.facts (RdF (Value.int .i64) aw t.W) (by (repeat (first | with_reducible exact List.mem_cons_self | refine List.mem_cons_of_mem _ ?_))))); clear hF hM a; rintro v w a ⟨p1, r1, rfl, f1⟩ - hM hF; replace hM := hM.addFact f1))
  (repeat (first | (with_reducible refine w_seq ?_) | (with_reducible refine s_nil ?_) | (with_reducible refine q_then_n ?_) | ((with_reducible apply s_pure hF); exact rfl; exact rfl; exact rfl; (first | exact trivial | omega | exact ⟨Int.natCast_nonneg _, Int.ofNat_lt.2 (by assumption)⟩ | decide); clear hF a; intro a hF) | ((with_reducible apply s_store hF hM); exact rfl; exact rfl; exact rfl; exact rfl; (repeat (first | exact Upd.z | apply Upd.s)); exact rfl; exact rfl; exact rfl; clear hM; intro w hM) | ((with_reducible apply s_alloc hF hM); exact rfl; exact rfl; exact rfl; clear hF hM a; intro b w a hM hF)))
  generalize b = b5 at *
  refine c_cut (fun a w => ∃ (b7 : Nat) (p2 : Option Addr) (r2 : Nat), Fr 59 [] [(8, .int .i64 0), (7, .pointer (some ⟨b7, 0, none⟩)), (6, .int .i64 0), (5, .pointer (some ⟨b5, 0, none⟩)), (4, .bool false), (3, .bool false), (2, .pointer (some ⟨b2, 0, none⟩)), (1, .pointer (some ⟨b1, 0, none⟩))] a ∧
    Mm own W [⟨b7, ⟨[.slice p2 (t.C.length + 1) r2, .int .i64 S]⟩, 24⟩, ⟨b5, ⟨[.slice p1 (t.W.length + 1) r1, .int .i64 0]⟩, 24⟩, ⟨b2, ⟨ceZ⟩, 29⟩, ⟨b1, ⟨trL t aw cw (some adc) cc⟩, 42⟩] []
      [(IsCu · (.agg #[.slice p2 (t.C.length + 1) r2, .int .i64 S]) (wc false t.C S)), (IsCu · (.agg #[.slice p1 (t.W.length + 1) r1, .int .i64 0]) (wc true t.W 0)), RdF (Value.int .i64) (some adc) t.C, RdF (Value.int .i64) aw t.W] w) ?_ ?_
  · refine c_draw (fun i => Nat.ble 16 i) hM ?_; clear hM; intro w hM
    (first | (refine t_pure (i := 0) hF rfl rfl rfl rfl (by kernel_rfl) hM.sm (fun _ _ _ h => h) ?_ ?_; (first | exact trivial | omega | decide); clear hF a; intro a hF))
    (first | (apply t_load (i := 1) hF rfl rfl rfl; (repeat (first | exact List.mem_cons_self | refine List.mem_cons_of_mem _ ?_)); exact rfl; exact rfl; kernel_rfl; exact hM.sm; exact (fun _ _ _ h => h); clear hF a; intro a hF))
    (first | (refine t_pure (i := 2) hF rfl rfl rfl rfl (by kernel_rfl) hM.sm (fun _ _ _ h => h) ?_ ?_; (first | exact trivial | omega | decide); clear hF a; intro a hF))
    (first | (apply t_load (i := 3) hF rfl rfl rfl; (repeat (first | exact List.mem_cons_self | refine List.mem_cons_of_mem _ ?_)); exact rfl; exact rfl; kernel_rfl; exact hM.sm; exact (fun _ _ _ h => h); clear hF a; intro a hF))
    (first | (refine t_pure (i := 4) hF rfl rfl rfl rfl (by kernel_rfl) hM.sm (fun _ _ _ h => h) ?_ ?_; (first | exact trivial | omega | decide); clear hF a; intro a hF))
    (first | (apply t_load (i := 5) hF rfl rfl rfl; (repeat (first | exact List.mem_cons_self | refine List.mem_cons_of_mem _ ?_)); exact rfl; exact rfl; kernel_rfl; exact hM.sm; exact (fun _ _ _ h => h); clear hF a; intro a hF))
    (first | (refine t_pure (i := 6) hF rfl rfl rfl rfl (by kernel_rfl) hM.sm (fun _ _ _ h => h) ?_ ?_; (first | exact trivial | omega | decide); clear hF a; intro a hF))
    (first | (refine t_pure (i := 7) hF rfl rfl rfl rfl (by kernel_rfl) hM.sm (fun _ _ _ h => h) ?_ ?_; (first | exact trivial | omega | decide); clear hF a; intro a hF))
    (first | (refine t_pure (i := 8) hF rfl rfl rfl rfl (by kernel_rfl) hM.sm (fun _ _ _ h => h) ?_ ?_; (first | exact trivial | omega | decide); clear hF a; intro a hF))
    (first | (apply t_loadF (i := 9) hF rfl rfl rfl; (repeat (first | exact List.mem_cons_self | refine List.mem_cons_of_mem _ ?_)); (first | with_reducible assumption | (simp only [Int.toNat_natCast]; with_reducible assumption)); exact rfl; exact rfl; kernel_rfl; exact hM.sm; exact (fun _ _ _ h => h); clear hF a; intro a hF))
    refine t_two (i := 10) (j := 14) hF rfl rfl (by kernel_rfl) rfl rfl ?_ ?_
    ·
      intro K hK
      (apply x_call hF hM; exact rfl; exact rfl; exact rfl; exact rfl; exact (e2 hM.lt (hM.facts (RdF (Value.int .i64) (some adc) t.C) (by (repeat (first | with_reducible exact List.mem_cons_self | refine List.mem_cons_of_mem _ ?_))))); clear hF hM a; rintro v w a ⟨p2, r2, rfl, f2⟩ - hM hF)
      replace hM := hM.addFact f2
      refine hK _ _ (fun _ => (hM.sm.sub (fun x hx => by repeat (first | exact hx | refine List.mem_cons_of_mem _ ?_)) (fun _ h => by repeat (first | exact h | refine List.mem_cons_of_mem _ ?_)))) ?_; clear hK
      (first | (refine t_pure (i := 11) hF rfl rfl rfl rfl (by kernel_rfl) (hM.sm.sub (fun x hx => by repeat (first | exact hx | refine List.mem_cons_of_mem _ ?_)) (fun _ h => by repeat (first | exact h | refine List.mem_cons_of_mem _ ?_))) (fun _ _ _ h => h) ?_ ?_; (first | exact trivial | omega | decide); clear hF a; intro a hF))
      (first | (refine t_pure (i := 12) hF rfl rfl rfl rfl (by kernel_rfl) (hM.sm.sub (fun x hx => by repeat (first | exact hx | refine List.mem_cons_of_mem _ ?_)) (fun _ h => by repeat (first | exact h | refine List.mem_cons_of_mem _ ?_))) (fun _ _ _ h => h) ?_ ?_; (first | exact trivial | omega | decide); clear hF a; intro a hF))
      (first | (refine t_pure (i := 13) hF rfl rfl rfl rfl (by kernel_rfl) (hM.sm.sub (fun x hx => by repeat (first | exact hx | refine List.mem_cons_of_mem _ ?_)) (fun _ h => by repeat (first | exact h | refine List.mem_cons_of_mem _ ?_))) (fun _ _ _ h => h) ?_ ?_; (first | exact trivial | omega | decide); clear hF a; intro a hF))
      refine t_one (i := 14) hF rfl (by kernel_rfl) rfl ?_
      intro K hK
      (refine x_alloc hF hM rfl rfl ?_; clear hF hM a; intro b w a hM hF)
      refine hK _ _ (fun _ => (hM.sm.sub (fun x hx => by repeat (first | exact hx | refine List.mem_cons_of_mem _ ?_)) (fun _ h => by repeat (first | exact h | refine List.mem_cons_of_mem _ ?_)))) ?_; clear hK
      refine t_one (i := 15) hF rfl (by kernel_rfl) rfl ?_
      intro K hK
      (apply x_store hF hM rfl rfl rfl; (repeat (first | exact Upd.z | apply Upd.s)); exact rfl; exact rfl; exact rfl; clear hF hM a; intro w a hM hF)
      refine hK _ _ (fun _ => (hM.sm.sub (fun x hx => by repeat (first | exact hx | refine List.mem_cons_of_mem _ ?_)) (fun _ h => by repeat (first | exact h | refine List.mem_cons_of_mem _ ?_)))) ?_; clear hK
      refine t_one (i := 16) hF rfl (by kernel_rfl) rfl ?_
      intro K hK
      (first | (refine x_pure hF hM rfl rfl ?_ ?_; (first | exact trivial | omega | decide); clear hF a; intro a hF) | (apply x_load hF hM rfl; (repeat (first | exact List.mem_cons_self | refine List.mem_cons_of_mem _ ?_)); exact rfl; exact rfl; clear hF a; intro a hF))
      refine hK _ _ (fun h => by cases h) ?_; clear hK
      refine t_done (by kernel_rfl) ?_
      refine q_cut ?_
      apply Exists.intro
      apply Exists.intro
      apply Exists.intro
      apply And.intro
      · exact hF.sub (by repeat (first | exact Sub.nil | refine Sub.cons rfl (by first | with_reducible rfl | (refine congrArg (Value.int _) ?_; omega) | exact rfl) ?_))
      · exact hM
    ·
      intro K hK
      (refine x_alloc hF hM rfl rfl ?_; clear hF hM a; intro b w a hM hF)
      refine hK _ _ (fun _ => (hM.sm.sub (fun x hx => by repeat (first | exact hx | refine List.mem_cons_of_mem _ ?_)) (fun _ h => by repeat (first | exact h | refine List.mem_cons_of_mem _ ?_)))) ?_; clear hK
      refine t_one (i := 10) hF rfl (by kernel_rfl) rfl ?_
      intro K hK
      (apply x_call hF hM; exact rfl; exact rfl; exact rfl; exact rfl; exact (e2 hM.lt (hM.facts (RdF (Value.int .i64) (some adc) t.C) (by (repeat (first | with_reducible exact List.mem_cons_self | refine List.mem_cons_of_mem _ ?_))))); clear hF hM a; rintro v w a ⟨p2, r2, rfl, f2⟩ - hM hF)
      replace hM := hM.addFact f2
      refine hK _ _ (fun _ => (hM.sm.sub (fun x hx => by repeat (first | exact hx | refine List.mem_cons_of_mem _ ?_)) (fun _ h => by repeat (first | exact h | refine List.mem_cons_of_mem _ ?_)))) ?_; clear hK
      (first | (refine t_pure (i := 11) hF rfl rfl rfl rfl (by kernel_rfl) (hM.sm.sub (fun x hx => by repeat (first | exact hx | refine List.mem_cons_of_mem _ ?_)) (fun _ h => by repeat (first | exact h | refine List.mem_cons_of_mem _ ?_))) (fun _ _ _ h => h) ?_ ?_; (first | exact trivial | omega | decide); clear hF a; intro a hF))
      (first | (refine t_pure (i := 12) hF rfl rfl rfl rfl (by kernel_rfl) (hM.sm.sub (fun x hx => by repeat (first | exact hx | refine List.mem_cons_of_mem _ ?_)) (fun _ h => by repeat (first | exact h | refine List.mem_cons_of_mem _ ?_))) (fun _ _ _ h => h) ?_ ?_; (first | exact trivial | omega | decide); clear hF a; intro a hF))
      (first | (refine t_pure (i := 13) hF rfl rfl rfl rfl (by kernel_rfl) (hM.sm.sub (fun x hx => by repeat (first | exact hx | refine List.mem_cons_of_mem _ ?_)) (fun _ h => by repeat (first | exact h | refine List.mem_cons_of_mem _ ?_))) (fun _ _ _ h => h) ?_ ?_; (first | exact trivial | omega | decide); clear hF a; intro a hF))
      refine t_one (i := 15) hF rfl (by kernel_rfl) rfl ?_
      intro K hK
      (apply x_store hF hM rfl rfl rfl; (repeat (first | exact Upd.z | apply Upd.s)); exact rfl; exact rfl; exact rfl; clear hF hM a; intro w a hM hF)
      refine hK _ _ (fun _ => (hM.sm.sub (fun x hx => by repeat (first | exact hx | refine List.mem_cons_of_mem _ ?_)) (fun _ h => by repeat (first | exact h | refine List.mem_cons_of_mem _ ?_)))) ?_; clear hK
      refine t_one (i := 16) hF rfl (by kernel_rfl) rfl ?_
      intro K hK
      (first | (refine x_pure hF hM rfl rfl ?_ ?_; (first | exact trivial | omega | decide); clear hF a; intro a hF) | (apply x_load hF hM rfl; (repeat (first | exact List.mem_cons_self | refine List.mem_cons_of_mem _ ?_)); exact rfl; exact rfl; clear hF a; intro a hF))
      refine hK _ _ (fun h => by cases h) ?_; clear hK
      refine t_done (by kernel_rfl) ?_
      refine q_cut ?_
      apply Exists.intro
      apply Exists.intro
      apply Exists.intro
      apply And.intro
      · exact hF.sub (by repeat (first | exact Sub.nil | refine Sub.cons rfl (by first | with_reducible rfl | (refine congrArg (Value.int _) ?_; omega) | exact rfl) ?_))
      · exact hM
  clear hF hM a
  rintro a w ⟨b7, p2, r2, hF, hM⟩
  (repeat' (first | (with_reducible refine w_seq ?_) | (with_reducible refine c_region ?_) | (with_reducible refine s_nil ?_) | (with_reducible refine q_then_n ?_) | ((with_reducible apply s_pure hF); exact rfl; exact rfl; exact rfl; (first | exact trivial | omega | exact ⟨Int.natCast_nonneg _, Int.ofNat_lt.2 (by assumption)⟩ | decide); clear hF a; intro a hF) | ((with_reducible apply s_load hF hM); exact rfl; exact rfl; (repeat (first | exact List.mem_cons_self | refine List.mem_cons_of_mem _ ?_)); exact rfl; exact rfl; clear hF a; intro a hF) | (with_reducible refine w_skip ?_) | ((with_reducible apply c_false2 hF); exact rfl; (first | with_reducible rfl | (refine congrArg Value.bool ?_; focus (simp; done))))))
  (((with_reducible apply s_call (f := 16) hF hM); exact rfl; exact rfl; exact rfl; exact rfl; exact rfl; exact (e3 _ _ hM.lt (hM.facts (IsCu · (.agg #[.slice p1 (t.W.length + 1) r1, .int .i64 0]) (wc true t.W 0)) (by (repeat (first | with_reducible exact List.mem_cons_self | refine List.mem_cons_of_mem _ ?_)))) (hM.facts (IsCu · (.agg #[.slice p2 (t.C.length + 1) r2, .int .i64 S]) (wc false t.C S)) (by (repeat (first | with_reducible exact List.mem_cons_self | refine List.mem_cons_of_mem _ ?_))))); clear hF hM a; rintro v w a ⟨p3, r3, p4, r4, rfl, f3, f4, k3, k4⟩ - hM hF; replace hM := (hM.addFact f3).addFact f4))
  by_cases hz : x.2 = 0
  · (repeat' (first | (with_reducible refine w_seq ?_) | (with_reducible refine c_region ?_) | (with_reducible refine s_nil ?_) | (with_reducible refine q_then_n ?_) | ((with_reducible apply s_pure hF); exact rfl; exact rfl; exact rfl; (first | exact trivial | omega | exact ⟨Int.natCast_nonneg _, Int.ofNat_lt.2 (by assumption)⟩ | decide); clear hF a; intro a hF) | ((with_reducible apply s_load hF hM); exact rfl; exact rfl; (repeat (first | exact List.mem_cons_self | refine List.mem_cons_of_mem _ ?_)); exact rfl; exact rfl; clear hF a; intro a hF) | ((with_reducible apply s_store hF hM); exact rfl; exact rfl; exact rfl; exact rfl; (repeat (first | exact Upd.z | apply Upd.s)); exact rfl; exact rfl; exact rfl; clear hM; intro w hM) | ((with_reducible apply s_alloc hF hM); exact rfl; exact rfl; exact rfl; clear hF hM a; intro b w a hM hF) | (with_reducible refine w_ret ?_) | ((with_reducible apply s_skip hF); exact rfl; exact rfl; clear hF a; intro a hF) | ((fail_if_success ((with_reducible refine g_known true hF ?_ ?_); focus exact rfl)); (fail_if_success ((with_reducible refine g_known false hF ?_ ?_); focus exact rfl)); (with_reducible apply g_dec hF); exact rfl; exact rfl; all_goals (clear hF; intro hc hF); all_goals (try (exfalso; omega)))))
    (apply f_ret Try.results42 hF hM; (repeat (first | exact RL.nil | (apply RL.tmp; exact rfl) | (apply RL.cell; exact rfl; (repeat (first | exact List.mem_cons_self | refine List.mem_cons_of_mem _ ?_)); exact rfl))); refine Ret.mk hM.since ?_; dsimp only [resV])
    exact ⟨p3, r3, p4, r4, rfl, hM.factOut (by (repeat (first | exact List.mem_cons_self | refine List.mem_cons_of_mem _ ?_))), hM.factOut (by (repeat (first | exact List.mem_cons_self | refine List.mem_cons_of_mem _ ?_))), k3, k4⟩
  · (repeat' (first | (with_reducible refine w_seq ?_) | (with_reducible refine c_region ?_) | (with_reducible refine s_nil ?_) | (with_reducible refine q_then_n ?_) | ((with_reducible apply s_pure hF); exact rfl; exact rfl; exact rfl; (first | exact trivial | omega | exact ⟨Int.natCast_nonneg _, Int.ofNat_lt.2 (by assumption)⟩ | decide); clear hF a; intro a hF) | ((with_reducible apply s_load hF hM); exact rfl; exact rfl; (repeat (first | exact List.mem_cons_self | refine List.mem_cons_of_mem _ ?_)); exact rfl; exact rfl; clear hF a; intro a hF) | ((with_reducible apply s_store hF hM); exact rfl; exact rfl; exact rfl; exact rfl; (repeat (first | exact Upd.z | apply Upd.s)); exact rfl; exact rfl; exact rfl; clear hM; intro w hM) | ((with_reducible apply s_alloc hF hM); exact rfl; exact rfl; exact rfl; clear hF hM a; intro b w a hM hF) | (with_reducible refine w_ret ?_) | ((fail_if_success ((with_reducible refine g_known true hF ?_ ?_); focus exact rfl)); (fail_if_success ((with_reducible refine g_known false hF ?_ ?_); focus exact rfl)); (with_reducible apply g_dec hF); exact rfl; exact rfl; all_goals (clear hF; intro hc hF); all_goals (try (exfalso; omega)))))
    all_goals first | (exfalso; omega) | (apply f_end Try.results42 hF hM; (repeat (first | exact RL.nil | (apply RL.tmp; exact rfl) | (apply RL.cell; exact rfl; (repeat (first | exact List.mem_cons_self | refine List.mem_cons_of_mem _ ?_)); exact rfl))); refine Ret.mk hM.since ?_; dsimp only [resV])
    all_goals exact ⟨p3, r3, p4, r4, by rw [decide_eq_true (show x.2 = 21 by omega)], hM.factOut (by (repeat (first | exact List.mem_cons_self | refine List.mem_cons_of_mem _ ?_))), hM.factOut (by (repeat (first | exact List.mem_cons_self | refine List.mem_cons_of_mem _ ?_))), k3, k4⟩
namespace K57
/-- A covered trace is played to its end, and no image is older than the bound. -/
theorem plays_of {c : Ce} {t : P56.Tr} (hE : covE c t = 0) (hV : covV c t = true) (hn : t.W.length ≤ 100) (hp : t.P ≤ 100) (hl : t.L ≤ 1000) (ha : t.A ≤ 1000) :
    0 ≤ c.B ∧ ∃ D, Plays t D ∧ ∀ k : Nat, P56.ap t k - 1 - ((k * t.P.toNat : Nat) : Int) ≤ c.B := by
  have hc : chkE c = 0 := by
    unfold covE at hE
    split at hE <;> omega
  have ht : P56.check t = 0 := by
    unfold covE at hE
    split at hE <;> omega
  obtain ⟨hb, hB⟩ := chk_bok hc
  have okt := P56.check_ok.1 ht
  unfold covV at hV
  rw [Bool.and_eq_true, decide_eq_true_eq] at hV
  obtain ⟨⟨-, hP, hL, hD, hlast⟩, hall⟩ := hV
  obtain ⟨d, hd, hm, -⟩ := tr_nat hb
  have hends := cov_ends hb okt hP hlast hall hd hm
  have hnum := hb.num
  have htr := hb.tr
  have hL0 := okt.l0
  have hA0 := okt.a0
  have hp0 := okt.p0
  unfold bndV at hB
  refine ⟨by omega, d, ⟨okt, hp, hn, hl, ha, by omega, hends⟩, fun k => ?_⟩
  obtain ⟨e, he, hle⟩ := hends (k + 1)
  have e1 : P56.en t (k + 1) = e := by unfold P56.en; rw [he]; rfl
  rw [Nat.succ_mul] at hle
  unfold P56.ap
  rw [e1]
  omega
def tEx : P56.Tr := ⟨[2, 0], [1], 2, 1, 0⟩
theorem tEx_mk : (mkV (mes tEx)).2 = 0 := by kernel_rfl
theorem tEx_B : (mkV (mes tEx)).1.B = 4 := by kernel_rfl
theorem tEx_en : P56.en tEx 1 = 4 := by kernel_rfl
theorem tEx_ok : P56.check tEx = 0 := by kernel_rfl
end K57
#print axioms tEx_B
end Go.Proofs.Ytabfhoipclbeeaa


/- standbytop: playCertified. -/
namespace Go.Proofs.Ytabfhoipclbeeaa
open Go.RowKit Go.Shelf C55 K57
namespace K57
theorem tEx_cov : covE (mkV (mes tEx)).1 tEx = 0 ∧ covV (mkV (mes tEx)).1 tEx = true := by
  have he : bndE (mes tEx) = 0 := by
    have := mk_2 (mes tEx)
    rw [tEx_mk] at this
    exact this.symm
  have hc : (mkV (mes tEx)).1 = { mes tEx with B := bndV (mes tEx) } := by
    unfold mkV
    rw [if_pos he]
  exact mes_cov (P56.check_ok.1 tEx_ok) (by decide) (by decide) hc he (L := 1) (A := 0) (by decide) (by decide) (by decide) (by decide)
end K57
set_option maxRecDepth 20000 in
set_option maxHeartbeats 4000000 in
theorem certified_c (own : Nat → Prop) (W : World) (hl : ∀ b, own b → b < W.heap.size) :
    Calls Try.prog 41 ⟨[]⟩ W (Ret W fun v _ => v = .bool true) := by
  have hM := Mm.start hl
  obtain ⟨-, D, hpl, hbd⟩ := plays_of tEx_cov.1 tEx_cov.2 (by decide) (by decide) (by decide) (by decide)
  have hz := tEx_mk
  have hB := tEx_B
  have hap : P56.ap tEx 0 = 5 := by
    unfold P56.ap
    rw [tEx_en]
    rfl
  have hcy : 0 < P56.cycles tEx := by decide
  have e1 := fun (aw ac : Option Addr) (cw cc : Nat) mw mc {own W} => playCert_c tEx hpl.ok (by decide) (by decide) aw ac cw cc mw mc own W
  have e2 := fun (aw ac : Option Addr) (cw cc : Nat) {own W} => greatest_c tEx D hpl aw ac cw cc own W
  obtain ⟨x, hx⟩ : ∃ x, mkV (mes tEx) = x := ⟨_, rfl⟩
  rw [hx] at hz hB hbd
  simp only [hx] at e1
  rw [hB] at hbd
  refine f_start Try.func41 rfl Try.ntmps41 rfl rfl ?_; intro a hF
  (repeat (first | (with_reducible refine w_seq ?_) | (with_reducible refine c_region ?_) | (with_reducible refine s_nil ?_) | ((with_reducible apply s_lit hF hM); exact rfl; exact rfl; exact rfl; exact rfl; clear hF hM a; intro bl w a hM hF; replace hM := Mm.freeze hM) | (with_reducible refine q_then_n ?_) | ((with_reducible apply s_pure hF); exact rfl; exact rfl; exact rfl; (first | exact trivial | omega | exact ⟨Int.natCast_nonneg _, Int.ofNat_lt.2 (by assumption)⟩ | decide); clear hF a; intro a hF) | ((with_reducible apply s_load hF hM); exact rfl; exact rfl; (repeat (first | exact List.mem_cons_self | refine List.mem_cons_of_mem _ ?_)); exact rfl; exact rfl; clear hF a; intro a hF) | ((with_reducible apply s_store hF hM); exact rfl; exact rfl; exact rfl; exact rfl; (repeat (first | exact Upd.z | apply Upd.s)); exact rfl; exact rfl; exact rfl; clear hM; intro w hM) | ((with_reducible apply s_alloc hF hM); exact rfl; exact rfl; exact rfl; clear hF hM a; intro b w a hM hF)))
  rename_i blA _ _ _
  have hA := Has.ints (hM.facts (BxF blA _ _) (List.mem_cons_of_mem _ List.mem_cons_self)) tEx.W rfl
  have hS := Has.ints (hM.facts (BxF bl _ _) List.mem_cons_self) tEx.C rfl
  replace hM := (hM.addFact hA).addFact hS
  clear hA hS
  generalize bl = blS at *
  generalize b = bt at *
  (((with_reducible apply s_call (f := 42) hF hM); exact rfl; exact rfl; exact rfl; exact rfl; exact rfl; exact (e1 (some ⟨blA, 0, none⟩) (some ⟨blS, 0, none⟩) 2 1 (by decide) (by decide) hM.lt (hM.facts (RdF (Value.int .i64) (some ⟨blA, 0, none⟩) tEx.W) (by (repeat (first | with_reducible exact List.mem_cons_self | refine List.mem_cons_of_mem _ ?_)))) (hM.facts (RdF (Value.int .i64) (some ⟨blS, 0, none⟩) tEx.C) (by (repeat (first | with_reducible exact List.mem_cons_self | refine List.mem_cons_of_mem _ ?_))))); clear hF hM a; rintro v w a ⟨p1, r1, p2, r2, rfl, f1, f2, k1, k2⟩ - hM hF; rw [decide_eq_true hz] at hF))
  (repeat (first | (with_reducible refine w_seq ?_) | (with_reducible refine c_region ?_) | (with_reducible refine s_nil ?_) | (with_reducible refine q_then_n ?_) | ((with_reducible apply s_pure hF); exact rfl; exact rfl; exact rfl; (first | exact trivial | omega | exact ⟨Int.natCast_nonneg _, Int.ofNat_lt.2 (by assumption)⟩ | decide); clear hF a; intro a hF) | ((with_reducible apply s_load hF hM); exact rfl; exact rfl; (repeat (first | exact List.mem_cons_self | refine List.mem_cons_of_mem _ ?_)); exact rfl; exact rfl; clear hF a; intro a hF) | ((with_reducible apply s_store hF hM); exact rfl; exact rfl; exact rfl; exact rfl; (repeat (first | exact Upd.z | apply Upd.s)); exact rfl; exact rfl; exact rfl; clear hM; intro w hM) | ((with_reducible apply s_alloc hF hM); exact rfl; exact rfl; exact rfl; clear hF hM a; intro b w a hM hF)))
  generalize b = b2 at *
  rw [decide_eq_true hB] at hF
  (repeat (first | ((with_reducible apply s_load hF hM); exact rfl; exact rfl; (repeat (first | exact List.mem_cons_self | refine List.mem_cons_of_mem _ ?_)); exact rfl; exact rfl; clear hF a; intro a hF)))
  (((with_reducible apply s_call (f := 43) hF hM); exact rfl; exact rfl; exact rfl; exact rfl; exact rfl; exact (e2 (some ⟨blA, 0, none⟩) (some ⟨blS, 0, none⟩) 2 1 hM.lt (hM.facts (RdF (Value.int .i64) (some ⟨blA, 0, none⟩) tEx.W) (by (repeat (first | with_reducible exact List.mem_cons_self | refine List.mem_cons_of_mem _ ?_)))) (hM.facts (RdF (Value.int .i64) (some ⟨blS, 0, none⟩) tEx.C) (by (repeat (first | with_reducible exact List.mem_cons_self | refine List.mem_cons_of_mem _ ?_))))); clear hF hM a; rintro v w a ⟨g, rfl, hg0, hg1, hg2, hg3⟩ - hM hF))
  have hg : g = 4 := by
    have q1 := hg2 hcy
    have q2 := hg3 4 (by decide) fun k _ => hbd k
    omega
  subst hg
  (repeat (first | (with_reducible refine s_nil ?_) | (with_reducible refine q_then_n ?_) | ((with_reducible apply s_pure hF); exact rfl; exact rfl; exact rfl; (first | exact trivial | omega | exact ⟨Int.natCast_nonneg _, Int.ofNat_lt.2 (by assumption)⟩ | decide); clear hF a; intro a hF) | (with_reducible refine w_ret ?_)))
  (apply f_ret Try.results41 hF hM; (repeat (first | exact RL.nil | (apply RL.tmp; exact rfl) | (apply RL.cell; exact rfl; (repeat (first | exact List.mem_cons_self | refine List.mem_cons_of_mem _ ?_)); exact rfl))); refine Ret.mk hM.since ?_; dsimp only [resV])
  rfl
end Go.Proofs.Ytabfhoipclbeeaa

