/- Texts of this seat, one behind the other: Ne Nf Ng. -/
import Derived.Test.YtabfhoipclbeeaaQVBe
set_option linter.unusedSimpArgs false
set_option linter.unusedVariables false
set_option linter.unusedSectionVars false
set_option maxRecDepth 3000
/- certificate's laws: CertificateOrders. -/
namespace Go.Proofs.Ytabfhoipclbeeaa
open Go.RowKit Go.Shelf C55 K57
section
variable {n : Nat} {ds : List Deferred} {l : List (Nat × Value)} {a : Act} {w : World}
variable {os rest : List Oper} {Q : Exit → Act → World → Prop}
variable {d : Nat} {ty : TypeId} {pos : String} {af : Array Edge} {g : Option (Nat × Bool)}
theorem e_addW {t t' : TypeId} {X Y : Operand} {k : IntKind} {x y : Int} (hF : Fr n ds l a) (hX : ev l X = some (.int k x)) (hY : ev l Y = some (.int k y)) (w : World) {dst : Option Tmp} :
    (execOp a.eval ⟨dst, .binOp .add t X Y t', ty, pos, af, g⟩).run Try.prog w = .ok (.value (.int k (k.wrap (x + y)))) w := by
  simp [execOp, hF.eval hX, hF.eval hY, eqGuard, Sem.run_bind, Result.andThen, binOp, Op.intArith]
theorem s_addW {t t' : TypeId} {X Y : Operand} {k : IntKind} {x y : Int} (hF : Fr n ds l a) (hg : wantO os l g = some true) (hX : ev l X = some (.int k x)) (hY : ev l Y = some (.int k y)) (hd : Nat.blt d n = true)
    (kk : ∀ a, Fr n ds ((d, .int k (k.wrap (x + y))) :: l) a → wl ⟨os⟩ Q rest a w) : wl ⟨os⟩ Q (⟨some d, .binOp .add t X Y t', ty, pos, af, g⟩ :: rest) a w :=
  s_op hF hg fun _ hK => upon_value (e_addW hF hX hY w) (hK _ _ (kk _ (hF.put hd _)))
end
set_option maxRecDepth 20000 in
set_option maxHeartbeats 4000000 in
theorem orders57_law (c d : Ce) (x y : Int) (hx : 0 ≤ x ∧ x ≤ 255) (hy : 0 ≤ y ∧ y ≤ 255) (wL : -9223372036854775808 ≤ c.L ∧ c.L ≤ 9223372036854775807) (wD : -9223372036854775808 ≤ c.D ∧ c.D ≤ 9223372036854775807) (a1 a2 a3 a4 : Option Addr) (c1 c2 c3 c4 : Nat) (l1 : c.A.V.length ≤ 9223372036854775807) (m1 : c.A.V.length ≤ c1) (l2 : c.S.V.length ≤ 9223372036854775807) (m2 : c.S.V.length ≤ c2) (l3 : d.A.V.length ≤ 9223372036854775807) (m3 : d.A.V.length ≤ c3) (l4 : d.S.V.length ≤ 9223372036854775807) (m4 : d.S.V.length ≤ c4) (W : World)
    (h1 : Has (fun _ => False) W (RdF (Value.int .i64) a1 c.A.V)) (h2 : Has (fun _ => False) W (RdF (Value.int .i64) a2 c.S.V)) (h3 : Has (fun _ => False) W (RdF (Value.int .i64) a3 d.A.V)) (h4 : Has (fun _ => False) W (RdF (Value.int .i64) a4 d.S.V)) :
    Calls Try.prog 5 ⟨[.agg ⟨fourL c.A c.S d.A d.S a1 c1 a2 c2 a3 c3 a4 c4⟩, .agg #[.int .i64 c.P, .int .i64 c.L, .int .i64 c.D], .agg #[.int .u8 x, .int .u8 y]]⟩ W (Ret W fun x _ => x = .bool true) := by
  have hM := ((((Mm.start (fun _ h => h.elim)).known h1).known h2).known h3).known h4
  refine f_start Try.func5 rfl Try.ntmps5 rfl rfl ?_; intro a hF
  (repeat (first | (with_reducible refine w_seq ?_) | (with_reducible refine c_region ?_) | (with_reducible refine s_nil ?_) | ((with_reducible apply s_arrSl hF); exact rfl; exact rfl; exact rfl; exact rfl; clear hF a; intro a hF) | (with_reducible refine q_then_n ?_) | ((with_reducible apply s_pure hF); exact rfl; exact rfl; exact rfl; (first | exact trivial | omega | exact ⟨Int.natCast_nonneg _, Int.ofNat_lt.2 (by assumption)⟩ | decide); clear hF a; intro a hF) | ((with_reducible apply s_box hF hM); exact rfl; exact rfl; exact rfl; exact rfl; clear hF hM a; intro b w a hM hF)))
  rename_i bx _ bn _
  generalize b = bm at *
  replace hM := hM.freeze.freeze.freeze
  by_cases hbig : 20 < c.A.V.length ∨ 20 < c.S.V.length ∨ 20 < d.A.V.length ∨ 20 < d.S.V.length
  · (((with_reducible apply s_call (f := 24) hF hM); exact rfl; exact rfl; exact rfl; exact rfl; exact rfl; exact (manyC_c c.A c.S d.A d.S a1 a2 a3 a4 c1 c2 c3 c4 bx _ _ _ hM.lt (hM.facts (BxF bx _ _) List.mem_cons_self)); clear hF hM a; rintro v w a rfl - hM hF; rw [decide_eq_true hbig] at hF))
    (repeat' (first | (with_reducible refine w_seq ?_) | (with_reducible refine c_region ?_) | (with_reducible refine s_nil ?_) | ((with_reducible apply s_call (f := 15) hF hM); exact rfl; exact rfl; exact rfl; exact rfl; exact rfl; exact (awake57_c _ _ hM.lt); clear hF hM a; rintro v w a rfl - hM hF) | (with_reducible refine q_then_n ?_) | ((with_reducible apply s_pure hF); exact rfl; exact rfl; exact rfl; (first | exact trivial | omega | exact ⟨Int.natCast_nonneg _, Int.ofNat_lt.2 (by assumption)⟩ | decide); clear hF a; intro a hF) | (with_reducible refine w_ret ?_) | (with_reducible refine q_then_r ?_) | ((with_reducible apply c_true2 hF); exact rfl; (first | with_reducible rfl | (refine congrArg Value.bool ?_; focus (simp; done))))))
    all_goals (apply f_ret Try.results5 hF hM; (repeat (first | exact RL.nil | (apply RL.tmp; exact rfl) | (apply RL.cell; exact rfl; (repeat (first | exact List.mem_cons_self | refine List.mem_cons_of_mem _ ?_)); exact rfl))); refine Ret.mk hM.since ?_; dsimp only [resV])
  (((with_reducible apply s_call (f := 24) hF hM); exact rfl; exact rfl; exact rfl; exact rfl; exact rfl; exact (manyC_c c.A c.S d.A d.S a1 a2 a3 a4 c1 c2 c3 c4 bx _ _ _ hM.lt (hM.facts (BxF bx _ _) List.mem_cons_self)); clear hF hM a; rintro v w a rfl - hM hF; rw [decide_eq_false hbig] at hF))
  (repeat' (first | (with_reducible refine w_seq ?_) | (with_reducible refine c_region ?_) | (with_reducible refine s_nil ?_) | (with_reducible refine q_then_n ?_) | ((with_reducible apply s_pure hF); exact rfl; exact rfl; exact rfl; (first | exact trivial | omega | exact ⟨Int.natCast_nonneg _, Int.ofNat_lt.2 (by assumption)⟩ | decide); clear hF a; intro a hF) | ((with_reducible apply s_loadK hF hM); exact rfl; exact rfl; (repeat (first | exact List.mem_cons_self | refine List.mem_cons_of_mem _ ?_)); exact rfl; exact rfl; clear hF a; intro a hF) | (with_reducible refine w_skip ?_) | ((with_reducible apply c_false2 hF); exact rfl; (first | with_reducible rfl | (refine congrArg Value.bool ?_; focus (simp; done))))))
  obtain ⟨u, hu⟩ : ∃ u, mkV c = u := ⟨_, rfl⟩
  have e1 := fun {own W} hl hv hu => mk_uni (own := own) (W := W) (make_c c (by omega) (by omega) (.agg #[.slice a1 c.A.V.length c1, .int .i64 c.A.S]) (.agg #[.slice a2 c.S.V.length c2, .int .i64 c.S.S]) own W hl hv hu)
  obtain ⟨d', hd'⟩ : ∃ d' : Ce, d' = ⟨d.A, d.S, c.P, IntKind.i64.wrap (c.L + x), IntKind.i64.wrap (c.D + y), 0⟩ := ⟨_, rfl⟩
  have eA : d'.A = d.A := by rw [hd']
  have eS : d'.S = d.S := by rw [hd']
  obtain ⟨v, hv⟩ : ∃ v, mkV d' = v := ⟨_, rfl⟩
  have eP : d'.P = c.P := by rw [hd']
  have eL : d'.L = IntKind.i64.wrap (c.L + x) := by rw [hd']
  have eD : d'.D = IntKind.i64.wrap (c.D + y) := by rw [hd']
  have e2 := fun {own W} hl hv hu => mk_uni (own := own) (W := W) (make_c d' (by rw [eA]; omega) (by rw [eS]; omega) (.agg #[.slice a3 d.A.V.length c3, .int .i64 d.A.S]) (.agg #[.slice a4 d.S.V.length c4, .int .i64 d.S.S]) own W hl hv hu)
  clear hd'
  rw [hu] at e1
  rw [hv, eP, eL, eD, eA, eS] at e2
  have ord : v.2 = 0 → check c.A = 0 → check c.S = 0 → blw c.A d.A = true → blw d.S c.S = true → u.2 = 0 ∨ u.2 = 21 → u.2 = 0 ∧ u.1.B + x + y ≤ v.1.B ∧ 0 ≤ u.1.B ∧ u.1.B ≤ 9999999999 := by
    intro g1 g2 g3 g4 g5 g6
    have hb : bndE d' = 0 := by
      rw [← hv] at g1
      unfold mkV at g1
      split at g1 <;> assumption
    have hd2 := bnd_ok.1 hb
    have hc1 : bndE c = 0 ∨ bndE c = 21 := by
      rw [← hu] at g6
      unfold mkV at g6
      split at g6
      · exact .inl (by assumption)
      · exact g6
    have oA := check_ok.1 g2
    have oS := check_ok.1 g3
    have dA : Ok d.A := eA ▸ hd2.A
    have dS : Ok d.S := eS ▸ hd2.S
    obtain ⟨k1, k2⟩ := orders hd2 oS (fun k => by rw [eA]; exact blw_all oA dA g4 k) (fun k => by rw [eS]; exact blw_all dS oS g5 k) eP.symm hc1
    have hcn := (bnd_ok.1 k1).num
    have hct := (bnd_ok.1 k1).tr
    obtain ⟨e0, t0, -, -⟩ := tr_nat (bnd_ok.1 k1)
    rw [IntKind.wrap_i64] at eL eD
    have q1 : u.1.B = c.P + tr c + c.L + c.D - 1 := by
      rw [← hu]; unfold mkV; rw [if_pos k1]; rfl
    have q2 : v.1.B = d'.P + tr d' + d'.L + d'.D - 1 := by
      rw [← hv]; unfold mkV; rw [if_pos hb]; rfl
    refine ⟨?_, by omega, by omega, by omega⟩
    rw [← hu]; unfold mkV; rw [if_pos k1]
  have hdok : v.2 = 0 → Ok d.A ∧ Ok d.S := by
    intro g1
    have hb : bndE d' = 0 := by
      rw [← hv] at g1
      unfold mkV at g1
      split at g1 <;> assumption
    have hd2 := bnd_ok.1 hb
    exact ⟨eA ▸ hd2.A, eS ▸ hd2.S⟩
  clear hu hv eP eL eD
  (((with_reducible apply s_call (f := 16) hF hM); exact rfl; exact rfl; exact rfl; exact rfl; exact rfl; exact (e1 hM.lt (isCu_mk (hM.facts (RdF (Value.int .i64) a1 c.A.V) (by (repeat (first | with_reducible exact List.mem_cons_self | refine List.mem_cons_of_mem _ ?_)))) l1 m1) (isCu_mk (hM.facts (RdF (Value.int .i64) a2 c.S.V) (by (repeat (first | with_reducible exact List.mem_cons_self | refine List.mem_cons_of_mem _ ?_)))) l2 m2)); clear hF hM a; rintro v w a ⟨p1, r1, p2, r2, rfl, f1, f2, k1, k2⟩ - hM hF))
  (repeat (first | (with_reducible refine w_seq ?_) | (with_reducible refine c_region ?_) | (with_reducible refine s_nil ?_) | ((with_reducible apply s_addW hF); exact rfl; exact rfl; exact rfl; exact rfl; clear hF a; intro a hF) | (with_reducible refine q_then_n ?_) | ((with_reducible apply s_pure hF); exact rfl; exact rfl; exact rfl; (first | exact trivial | omega | exact ⟨Int.natCast_nonneg _, Int.ofNat_lt.2 (by assumption)⟩ | decide); clear hF a; intro a hF) | ((with_reducible apply s_loadK hF hM); exact rfl; exact rfl; (repeat (first | exact List.mem_cons_self | refine List.mem_cons_of_mem _ ?_)); exact rfl; exact rfl; clear hF a; intro a hF) | ((with_reducible apply s_store hF hM); exact rfl; exact rfl; exact rfl; exact rfl; (repeat (first | exact Upd.z | apply Upd.s)); exact rfl; exact rfl; exact rfl; clear hM; intro w hM) | ((with_reducible apply s_alloc hF hM); exact rfl; exact rfl; exact rfl; clear hF hM a; intro b w a hM hF)))
  generalize b = bu at *
  (((with_reducible apply s_call (f := 16) hF hM); exact rfl; exact rfl; exact rfl; exact rfl; exact rfl; exact (e2 hM.lt (isCu_mk (hM.facts (RdF (Value.int .i64) a3 d.A.V) (by (repeat (first | with_reducible exact List.mem_cons_self | refine List.mem_cons_of_mem _ ?_)))) l3 m3) (isCu_mk (hM.facts (RdF (Value.int .i64) a4 d.S.V) (by (repeat (first | with_reducible exact List.mem_cons_self | refine List.mem_cons_of_mem _ ?_)))) l4 m4)); clear hF hM a; rintro v w a ⟨p3, r3, p4, r4, rfl, f3, f4, k3, k4⟩ - hM hF))
  (repeat (first | (with_reducible refine w_seq ?_) | (with_reducible refine c_region ?_) | (with_reducible refine s_nil ?_) | (with_reducible refine q_then_n ?_) | ((with_reducible apply s_pure hF); exact rfl; exact rfl; exact rfl; (first | exact trivial | omega | exact ⟨Int.natCast_nonneg _, Int.ofNat_lt.2 (by assumption)⟩ | decide); clear hF a; intro a hF) | ((with_reducible apply s_store hF hM); exact rfl; exact rfl; exact rfl; exact rfl; (repeat (first | exact Upd.z | apply Upd.s)); exact rfl; exact rfl; exact rfl; clear hM; intro w hM) | ((with_reducible apply s_alloc hF hM); exact rfl; exact rfl; exact rfl; clear hF hM a; intro b w a hM hF)))
  generalize b = bv at *
  by_cases hv0 : v.2 = 0
  case neg =>
    (repeat' (first | (with_reducible refine w_seq ?_) | (with_reducible refine c_region ?_) | (with_reducible refine s_nil ?_) | ((with_reducible apply s_call (f := 15) hF hM); exact rfl; exact rfl; exact rfl; exact rfl; exact rfl; exact (awake57_c _ _ hM.lt); clear hF hM a; rintro v w a rfl - hM hF) | (with_reducible refine q_then_n ?_) | ((with_reducible apply s_pure hF); exact rfl; exact rfl; exact rfl; (first | exact trivial | omega | exact ⟨Int.natCast_nonneg _, Int.ofNat_lt.2 (by assumption)⟩ | decide); clear hF a; intro a hF) | (with_reducible refine w_ret ?_) | (with_reducible refine q_then_r ?_) | ((with_reducible apply c_true2 hF); exact rfl; (first | with_reducible rfl | (refine congrArg Value.bool ?_; focus (simp; done)))) | ((with_reducible apply s_skip hF); exact rfl; exact rfl; clear hF a; intro a hF) | ((fail_if_success ((with_reducible refine g_known true hF ?_ ?_); focus exact rfl)); (fail_if_success ((with_reducible refine g_known false hF ?_ ?_); focus exact rfl)); (with_reducible apply g_dec hF); exact rfl; exact rfl; all_goals (clear hF; intro hc hF); all_goals (try (exfalso; omega)))))
    all_goals first | (exfalso; omega) | (apply f_ret Try.results5 hF hM; (repeat (first | exact RL.nil | (apply RL.tmp; exact rfl) | (apply RL.cell; exact rfl; (repeat (first | exact List.mem_cons_self | refine List.mem_cons_of_mem _ ?_)); exact rfl))); refine Ret.mk hM.since ?_; dsimp only [resV])
  obtain ⟨dA, dS⟩ := hdok hv0
  (repeat' (first | ((with_reducible apply s_pure hF); exact rfl; exact rfl; exact rfl; (first | exact trivial | omega | exact ⟨Int.natCast_nonneg _, Int.ofNat_lt.2 (by assumption)⟩ | decide); clear hF a; intro a hF) | ((with_reducible apply s_loadK hF hM); exact rfl; exact rfl; (repeat (first | exact List.mem_cons_self | refine List.mem_cons_of_mem _ ?_)); exact rfl; exact rfl; clear hF a; intro a hF) | ((fail_if_success ((with_reducible refine g_known true hF ?_ ?_); focus exact rfl)); (fail_if_success ((with_reducible refine g_known false hF ?_ ?_); focus exact rfl)); (with_reducible apply g_dec hF); exact rfl; exact rfl; all_goals (clear hF; intro hc hF); all_goals (try (exfalso; omega)))))
  (((with_reducible apply s_call (f := 26) hF hM); exact rfl; exact rfl; exact rfl; exact rfl; exact rfl; exact (refCheck_c c.A (.agg #[.slice a1 c.A.V.length c1, .int .i64 c.A.S]) _ _ hM.lt (isCu_mk (hM.facts (RdF (Value.int .i64) a1 c.A.V) (by (repeat (first | with_reducible exact List.mem_cons_self | refine List.mem_cons_of_mem _ ?_)))) l1 m1)); clear hF hM a; rintro v w a rfl - hM hF))
  by_cases hA0 : check c.A = 0
  case neg =>
    (repeat' (first | (with_reducible refine w_seq ?_) | (with_reducible refine c_region ?_) | (with_reducible refine s_nil ?_) | ((with_reducible apply s_call (f := 15) hF hM); exact rfl; exact rfl; exact rfl; exact rfl; exact rfl; exact (awake57_c _ _ hM.lt); clear hF hM a; rintro v w a rfl - hM hF) | (with_reducible refine q_then_n ?_) | ((with_reducible apply s_pure hF); exact rfl; exact rfl; exact rfl; (first | exact trivial | omega | exact ⟨Int.natCast_nonneg _, Int.ofNat_lt.2 (by assumption)⟩ | decide); clear hF a; intro a hF) | (with_reducible refine w_ret ?_) | (with_reducible refine q_then_r ?_) | ((with_reducible apply c_true2 hF); exact rfl; (first | with_reducible rfl | (refine congrArg Value.bool ?_; focus (simp; done)))) | ((with_reducible apply s_skip hF); exact rfl; exact rfl; clear hF a; intro a hF) | ((fail_if_success ((with_reducible refine g_known true hF ?_ ?_); focus exact rfl)); (fail_if_success ((with_reducible refine g_known false hF ?_ ?_); focus exact rfl)); (with_reducible apply g_dec hF); exact rfl; exact rfl; all_goals (clear hF; intro hc hF); all_goals (try (exfalso; omega)))))
    all_goals first | (exfalso; omega) | (apply f_ret Try.results5 hF hM; (repeat (first | exact RL.nil | (apply RL.tmp; exact rfl) | (apply RL.cell; exact rfl; (repeat (first | exact List.mem_cons_self | refine List.mem_cons_of_mem _ ?_)); exact rfl))); refine Ret.mk hM.since ?_; dsimp only [resV])
  (repeat' (first | ((with_reducible apply s_pure hF); exact rfl; exact rfl; exact rfl; (first | exact trivial | omega | exact ⟨Int.natCast_nonneg _, Int.ofNat_lt.2 (by assumption)⟩ | decide); clear hF a; intro a hF) | ((with_reducible apply s_loadK hF hM); exact rfl; exact rfl; (repeat (first | exact List.mem_cons_self | refine List.mem_cons_of_mem _ ?_)); exact rfl; exact rfl; clear hF a; intro a hF) | ((fail_if_success ((with_reducible refine g_known true hF ?_ ?_); focus exact rfl)); (fail_if_success ((with_reducible refine g_known false hF ?_ ?_); focus exact rfl)); (with_reducible apply g_dec hF); exact rfl; exact rfl; all_goals (clear hF; intro hc hF); all_goals (try (exfalso; omega)))))
  (((with_reducible apply s_call (f := 26) hF hM); exact rfl; exact rfl; exact rfl; exact rfl; exact rfl; exact (refCheck_c c.S (.agg #[.slice a2 c.S.V.length c2, .int .i64 c.S.S]) _ _ hM.lt (isCu_mk (hM.facts (RdF (Value.int .i64) a2 c.S.V) (by (repeat (first | with_reducible exact List.mem_cons_self | refine List.mem_cons_of_mem _ ?_)))) l2 m2)); clear hF hM a; rintro v w a rfl - hM hF))
  by_cases hS0 : check c.S = 0
  case neg =>
    (repeat' (first | (with_reducible refine w_seq ?_) | (with_reducible refine c_region ?_) | (with_reducible refine s_nil ?_) | ((with_reducible apply s_call (f := 15) hF hM); exact rfl; exact rfl; exact rfl; exact rfl; exact rfl; exact (awake57_c _ _ hM.lt); clear hF hM a; rintro v w a rfl - hM hF) | (with_reducible refine q_then_n ?_) | ((with_reducible apply s_pure hF); exact rfl; exact rfl; exact rfl; (first | exact trivial | omega | exact ⟨Int.natCast_nonneg _, Int.ofNat_lt.2 (by assumption)⟩ | decide); clear hF a; intro a hF) | (with_reducible refine w_ret ?_) | (with_reducible refine q_then_r ?_) | ((with_reducible apply c_true2 hF); exact rfl; (first | with_reducible rfl | (refine congrArg Value.bool ?_; focus (simp; done)))) | ((with_reducible apply s_skip hF); exact rfl; exact rfl; clear hF a; intro a hF) | ((fail_if_success ((with_reducible refine g_known true hF ?_ ?_); focus exact rfl)); (fail_if_success ((with_reducible refine g_known false hF ?_ ?_); focus exact rfl)); (with_reducible apply g_dec hF); exact rfl; exact rfl; all_goals (clear hF; intro hc hF); all_goals (try (exfalso; omega)))))
    all_goals first | (exfalso; omega) | (apply f_ret Try.results5 hF hM; (repeat (first | exact RL.nil | (apply RL.tmp; exact rfl) | (apply RL.cell; exact rfl; (repeat (first | exact List.mem_cons_self | refine List.mem_cons_of_mem _ ?_)); exact rfl))); refine Ret.mk hM.since ?_; dsimp only [resV])
  (repeat' (first | ((with_reducible apply s_pure hF); exact rfl; exact rfl; exact rfl; (first | exact trivial | omega | exact ⟨Int.natCast_nonneg _, Int.ofNat_lt.2 (by assumption)⟩ | decide); clear hF a; intro a hF) | ((with_reducible apply s_loadK hF hM); exact rfl; exact rfl; (repeat (first | exact List.mem_cons_self | refine List.mem_cons_of_mem _ ?_)); exact rfl; exact rfl; clear hF a; intro a hF) | ((fail_if_success ((with_reducible refine g_known true hF ?_ ?_); focus exact rfl)); (fail_if_success ((with_reducible refine g_known false hF ?_ ?_); focus exact rfl)); (with_reducible apply g_dec hF); exact rfl; exact rfl; all_goals (clear hF; intro hc hF); all_goals (try (exfalso; omega)))))
  have oA := check_ok.1 hA0
  have oS := check_ok.1 hS0
  cases hbA : blw c.A d.A with
  | false =>
    (((with_reducible apply s_call (f := 27) hF hM); exact rfl; exact rfl; exact rfl; exact rfl; exact rfl; exact (below_c c.A d.A oA dA a1 a3 c1 c3 m1 m3 _ _ hM.lt (hM.facts (RdF (Value.int .i64) a1 c.A.V) (by (repeat (first | with_reducible exact List.mem_cons_self | refine List.mem_cons_of_mem _ ?_)))) (hM.facts (RdF (Value.int .i64) a3 d.A.V) (by (repeat (first | with_reducible exact List.mem_cons_self | refine List.mem_cons_of_mem _ ?_))))); clear hF hM a; rintro v w a rfl - hM hF; rw [hbA] at hF))
    (repeat' (first | (with_reducible refine w_seq ?_) | (with_reducible refine c_region ?_) | (with_reducible refine s_nil ?_) | ((with_reducible apply s_call (f := 15) hF hM); exact rfl; exact rfl; exact rfl; exact rfl; exact rfl; exact (awake57_c _ _ hM.lt); clear hF hM a; rintro v w a rfl - hM hF) | (with_reducible refine q_then_n ?_) | ((with_reducible apply s_pure hF); exact rfl; exact rfl; exact rfl; (first | exact trivial | omega | exact ⟨Int.natCast_nonneg _, Int.ofNat_lt.2 (by assumption)⟩ | decide); clear hF a; intro a hF) | (with_reducible refine w_ret ?_) | (with_reducible refine q_then_r ?_) | ((with_reducible apply c_true2 hF); exact rfl; (first | with_reducible rfl | (refine congrArg Value.bool ?_; focus (simp; done)))) | ((with_reducible apply s_skip hF); exact rfl; exact rfl; clear hF a; intro a hF)))
    all_goals first | (exfalso; omega) | (apply f_ret Try.results5 hF hM; (repeat (first | exact RL.nil | (apply RL.tmp; exact rfl) | (apply RL.cell; exact rfl; (repeat (first | exact List.mem_cons_self | refine List.mem_cons_of_mem _ ?_)); exact rfl))); refine Ret.mk hM.since ?_; dsimp only [resV])
  | true =>
  (((with_reducible apply s_call (f := 27) hF hM); exact rfl; exact rfl; exact rfl; exact rfl; exact rfl; exact (below_c c.A d.A oA dA a1 a3 c1 c3 m1 m3 _ _ hM.lt (hM.facts (RdF (Value.int .i64) a1 c.A.V) (by (repeat (first | with_reducible exact List.mem_cons_self | refine List.mem_cons_of_mem _ ?_)))) (hM.facts (RdF (Value.int .i64) a3 d.A.V) (by (repeat (first | with_reducible exact List.mem_cons_self | refine List.mem_cons_of_mem _ ?_))))); clear hF hM a; rintro v w a rfl - hM hF; rw [hbA] at hF))
  (repeat' (first | ((with_reducible apply s_pure hF); exact rfl; exact rfl; exact rfl; (first | exact trivial | omega | exact ⟨Int.natCast_nonneg _, Int.ofNat_lt.2 (by assumption)⟩ | decide); clear hF a; intro a hF) | ((with_reducible apply s_loadK hF hM); exact rfl; exact rfl; (repeat (first | exact List.mem_cons_self | refine List.mem_cons_of_mem _ ?_)); exact rfl; exact rfl; clear hF a; intro a hF)))
  cases hbS : blw d.S c.S with
  | false =>
    (((with_reducible apply s_call (f := 27) hF hM); exact rfl; exact rfl; exact rfl; exact rfl; exact rfl; exact (below_c d.S c.S dS oS a4 a2 c4 c2 m4 m2 _ _ hM.lt (hM.facts (RdF (Value.int .i64) a4 d.S.V) (by (repeat (first | with_reducible exact List.mem_cons_self | refine List.mem_cons_of_mem _ ?_)))) (hM.facts (RdF (Value.int .i64) a2 c.S.V) (by (repeat (first | with_reducible exact List.mem_cons_self | refine List.mem_cons_of_mem _ ?_))))); clear hF hM a; rintro v w a rfl - hM hF; rw [hbS] at hF))
    (repeat' (first | (with_reducible refine w_seq ?_) | (with_reducible refine c_region ?_) | (with_reducible refine s_nil ?_) | ((with_reducible apply s_call (f := 15) hF hM); exact rfl; exact rfl; exact rfl; exact rfl; exact rfl; exact (awake57_c _ _ hM.lt); clear hF hM a; rintro v w a rfl - hM hF) | (with_reducible refine q_then_n ?_) | ((with_reducible apply s_pure hF); exact rfl; exact rfl; exact rfl; (first | exact trivial | omega | exact ⟨Int.natCast_nonneg _, Int.ofNat_lt.2 (by assumption)⟩ | decide); clear hF a; intro a hF) | (with_reducible refine w_ret ?_) | (with_reducible refine q_then_r ?_) | ((with_reducible apply c_true2 hF); exact rfl; (first | with_reducible rfl | (refine congrArg Value.bool ?_; focus (simp; done)))) | ((with_reducible apply s_skip hF); exact rfl; exact rfl; clear hF a; intro a hF)))
    all_goals first | (exfalso; omega) | (apply f_ret Try.results5 hF hM; (repeat (first | exact RL.nil | (apply RL.tmp; exact rfl) | (apply RL.cell; exact rfl; (repeat (first | exact List.mem_cons_self | refine List.mem_cons_of_mem _ ?_)); exact rfl))); refine Ret.mk hM.since ?_; dsimp only [resV])
  | true =>
  (((with_reducible apply s_call (f := 27) hF hM); exact rfl; exact rfl; exact rfl; exact rfl; exact rfl; exact (below_c d.S c.S dS oS a4 a2 c4 c2 m4 m2 _ _ hM.lt (hM.facts (RdF (Value.int .i64) a4 d.S.V) (by (repeat (first | with_reducible exact List.mem_cons_self | refine List.mem_cons_of_mem _ ?_)))) (hM.facts (RdF (Value.int .i64) a2 c.S.V) (by (repeat (first | with_reducible exact List.mem_cons_self | refine List.mem_cons_of_mem _ ?_))))); clear hF hM a; rintro v w a rfl - hM hF; rw [hbS] at hF))
  replace ord := ord hv0 hA0 hS0 hbA hbS
  by_cases he : u.2 = 0 ∨ u.2 = 21
  case neg =>
    (repeat' (first | (with_reducible refine w_seq ?_) | (with_reducible refine c_region ?_) | (with_reducible refine s_nil ?_) | ((with_reducible apply s_call (f := 15) hF hM); exact rfl; exact rfl; exact rfl; exact rfl; exact rfl; exact (awake57_c _ _ hM.lt); clear hF hM a; rintro v w a rfl - hM hF) | (with_reducible refine q_then_n ?_) | ((with_reducible apply s_pure hF); exact rfl; exact rfl; exact rfl; (first | exact trivial | omega | exact ⟨Int.natCast_nonneg _, Int.ofNat_lt.2 (by assumption)⟩ | decide); clear hF a; intro a hF) | (with_reducible refine w_ret ?_) | (with_reducible refine q_then_r ?_) | ((fail_if_success ((with_reducible refine g_known true hF ?_ ?_); focus exact rfl)); (fail_if_success ((with_reducible refine g_known false hF ?_ ?_); focus exact rfl)); (with_reducible apply g_dec hF); exact rfl; exact rfl; all_goals (clear hF; intro hc hF); all_goals (try (exfalso; omega))) | ((with_reducible apply c_dec hF); exact rfl; all_goals intro hc; all_goals (try (exfalso; omega)))))
    all_goals first | (exfalso; omega) | (apply f_ret Try.results5 hF hM; (repeat (first | exact RL.nil | (apply RL.tmp; exact rfl) | (apply RL.cell; exact rfl; (repeat (first | exact List.mem_cons_self | refine List.mem_cons_of_mem _ ?_)); exact rfl))); refine Ret.mk hM.since ?_; dsimp only [resV])
  obtain ⟨o1, o2, o3, o4⟩ := ord he
  have ow : IntKind.i64.wrap (IntKind.i64.wrap (u.1.B + x) + y) = u.1.B + x + y := by
    rw [IntKind.wrap_i64, IntKind.wrap_i64]
    omega
  (repeat' (first | (with_reducible refine w_seq ?_) | (with_reducible refine c_region ?_) | (with_reducible refine s_nil ?_) | ((with_reducible apply s_call (f := 15) hF hM); exact rfl; exact rfl; exact rfl; exact rfl; exact rfl; exact (awake57_c _ _ hM.lt); clear hF hM a; rintro v w a rfl - hM hF) | ((with_reducible apply s_addW hF); exact rfl; exact rfl; exact rfl; exact rfl; clear hF a; intro a hF) | (with_reducible refine q_then_n ?_) | ((with_reducible apply s_pure hF); exact rfl; exact rfl; exact rfl; (first | exact trivial | omega | exact ⟨Int.natCast_nonneg _, Int.ofNat_lt.2 (by assumption)⟩ | decide); clear hF a; intro a hF) | ((with_reducible apply s_load hF hM); exact rfl; exact rfl; (repeat (first | exact List.mem_cons_self | refine List.mem_cons_of_mem _ ?_)); exact rfl; exact rfl; clear hF a; intro a hF) | ((with_reducible apply s_loadK hF hM); exact rfl; exact rfl; (repeat (first | exact List.mem_cons_self | refine List.mem_cons_of_mem _ ?_)); exact rfl; exact rfl; clear hF a; intro a hF) | (with_reducible refine w_skip ?_) | (with_reducible refine w_ret ?_) | ((with_reducible apply c_false2 hF); exact rfl; (first | with_reducible rfl | (refine congrArg Value.bool ?_; focus (simp; done)))) | ((with_reducible apply s_skip hF); exact rfl; exact rfl; clear hF a; intro a hF) | ((fail_if_success ((with_reducible refine g_known true hF ?_ ?_); focus exact rfl)); (fail_if_success ((with_reducible refine g_known false hF ?_ ?_); focus exact rfl)); (with_reducible apply g_dec hF); exact rfl; exact rfl; all_goals (clear hF; intro hc hF); all_goals (try (exfalso; omega)))))
  all_goals first | (exfalso; omega) | (apply f_ret Try.results5 hF hM; (repeat (first | exact RL.nil | (apply RL.tmp; exact rfl) | (apply RL.cell; exact rfl; (repeat (first | exact List.mem_cons_self | refine List.mem_cons_of_mem _ ?_)); exact rfl))); refine Ret.mk hM.since ?_; dsimp only [resV])
end Go.Proofs.Ytabfhoipclbeeaa


/- Plain law of layer 57: the certificate for the curves of a trace covers this trace. -/
namespace Go.Proofs.Ytabfhoipclbeeaa
namespace K57
open C55
/-- A sequence of a trace that has few ticks. -/
structure Med (l : List Int) (S : Int) : Prop where
  n : l.length ≤ 60
  v : ∀ x ∈ l, 0 ≤ x ∧ x ≤ 4096
  s : 0 ≤ S ∧ S ≤ 4096
theorem sum_med : ∀ {l : List Int}, (∀ x ∈ l, 0 ≤ x ∧ x ≤ 4096) → 0 ≤ l.sum ∧ l.sum ≤ (l.length : Int) * 4096
  | [], _ => by simp
  | x :: l, h => by
    have h1 := h x (by simp)
    have h2 := sum_med (l := l) fun y hy => h y (by simp [hy])
    simp only [List.sum_cons, List.length_cons]
    omega
section
variable {l : List Int} {S : Int} (h : Med l S)
include h
theorem Med.ok : SOk l S :=
  ⟨by have := h.n; omega, fun x hx => by have := h.v x hx; omega, by have := sum_med h.v; have := h.n; omega, by have := h.s; omega⟩
theorem Med.upB {t : Nat} (ht : t ≤ 1000) : 0 ≤ up l S t ∧ up l S t ≤ 5000000 := by
  have h1 := sum_take_le (l := l) (fun x hx => (h.v x hx).1) t
  have h2 := mul_bd (x := ((t - l.length : Nat) : Int)) (a := 1000) (y := S) (b := 4096) (by omega) h.s
  have h3 := sum_med h.v
  have h4 := h.n
  unfold up
  omega
theorem Med.winB {s k : Nat} (hs : s ≤ 500) (hk : k ≤ 500) : 0 ≤ win l S s k ∧ win l S s k ≤ 5000000 := by
  have h1 := h.upB (t := s) (by omega)
  have h2 := h.upB (t := s + k) (by omega)
  have h3 := h.ok.up_mono s k
  unfold win
  omega
theorem Med.bwB (g : Bool) {k n : Nat} (hk : k ≤ 500) (hn : n ≤ 500) : 0 ≤ bw g l S k n ∧ bw g l S k n ≤ 5000000 := by
  obtain ⟨i, h1, h2⟩ := bw_one g l S k n
  rw [h2]
  exact h.winB (by omega) hk
theorem Med.wcOk (g : Bool) : Ok (wc g l S) := wc_ok h.ok fun k hk => by
  have := (h.bwB g (k := k) (n := l.length) (by have := h.n; omega) (by have := h.n; omega)).2
  omega
theorem Med.wins (g : Bool) : wins g l S = (wc g l S, 0) := by
  unfold C55.wins
  rw [if_neg (by rw [seq_ok.2 h.ok]; simp), if_neg]
  · rfl
  rw [Bool.not_eq_true, List.any_eq_false]
  intro x hx
  obtain ⟨k, hk, rfl⟩ := List.mem_map.1 hx
  have hk := List.mem_range.1 hk
  have := (h.bwB g (k := k) (n := l.length) (by have := h.n; omega) (by have := h.n; omega)).2
  simp only [decide_eq_true_eq]
  omega
theorem Med.up1 (t : Nat) : up l S (t + 1) ≤ up l S t + 4096 := by
  rcases Nat.lt_or_ge t l.length with e | e
  · rw [up_step (S := S) (List.getElem?_eq_getElem e)]
    have := h.v _ (List.getElem_mem e)
    omega
  · rw [up_over e]
    have := h.s
    omega
end
theorem win_add (l : List Int) (S : Int) (i s t : Nat) : win l S i (s + t) = win l S i s + win l S (i + s) t := by
  unfold win
  rw [show i + (s + t) = i + s + t by omega]
  omega
theorem bw_zero (g : Bool) (l : List Int) (S : Int) (n : Nat) : bw g l S 0 n = 0 := by
  obtain ⟨i, -, e⟩ := bw_one g l S 0 n
  rw [e]
  unfold win
  rw [Nat.add_zero]
  omega
theorem wc_add (g : Bool) (l : List Int) (S : Int) : addB g (wc g l S) = true := by
  refine addB_iff.2 ⟨?_, fun s t _ _ _ _ => ?_⟩
  · have h1 := wc_get g l S (k := 0) (by omega)
    rw [List.getD_eq_getElem?_getD, h1, bw_zero]
    rfl
  · unfold addAt
    rw [wc_vl, wc_vl, wc_vl]
    obtain ⟨i, -, e⟩ := bw_one g l S (s + t) l.length
    have a := bw_every g l S s i
    have b := bw_every g l S t (i + s)
    rw [e, win_add]
    cases g <;> simp only [better, if_true, if_false, Bool.false_eq_true] at a b <;> unfold hold <;> simp <;> omega
theorem wc_gen (g : Bool) {l : List Int} {S : Int} (h : Med l S) : genB (wc g l S) = true := by
  refine genB_iff.2 ⟨fun t _ => ?_, h.s.2⟩
  rw [wc_vl, wc_vl]
  cases g with
  | true =>
    obtain ⟨i, -, e⟩ := bw_one true l S (t + 1) l.length
    have a := bw_every true l S t i
    simp only [better, if_true] at a
    have u := h.up1 (i + t)
    rw [e]
    unfold win at a ⊢
    rw [show i + (t + 1) = i + t + 1 by omega]
    omega
  | false =>
    obtain ⟨i, -, e⟩ := bw_one false l S t l.length
    have a := bw_every false l S (t + 1) i
    simp only [better, if_false, Bool.false_eq_true] at a
    have u := h.up1 (i + t)
    rw [e]
    unfold win at a ⊢
    rw [show i + (t + 1) = i + t + 1 by omega] at a
    omega
/-- The certificate for the curves of a trace. -/
def mes (t : P56.Tr) : Ce := ⟨wc true t.W 0, wc false t.C (P56.last t.C), t.P, t.L, t.A, 0⟩
section
variable {t : P56.Tr} (ok : P56.Ok t)
include ok
theorem mes_last : 0 ≤ P56.last t.C ∧ P56.last t.C ≤ 4096 := P56.last_nonneg ok.c
theorem mes_W (h : t.W.length ≤ 40) : Med t.W 0 := ⟨by omega, ok.w, by omega⟩
theorem mes_C (h : t.C.length ≤ 60) : Med t.C (P56.last t.C) := ⟨h, ok.c, mes_last ok⟩
variable (hW : t.W.length ≤ 40) (hC : t.C.length ≤ 60)
include hW hC
theorem mes_e : bndE (mes t) = 0 ∨ bndE (mes t) = 21 := by
  have h1 : check (mes t).A = 0 := check_ok.2 ((mes_W ok hW).wcOk true)
  have h2 : check (mes t).S = 0 := check_ok.2 ((mes_C ok hC).wcOk false)
  have h3 : (addB true (mes t).A && addB false (mes t).S) = true := by
    rw [Bool.and_eq_true]
    exact ⟨wc_add true _ _, wc_add false _ _⟩
  have h4 : (genB (mes t).A && genB (mes t).S && numB (mes t)) = true := by
    rw [Bool.and_eq_true, Bool.and_eq_true]
    exact ⟨⟨wc_gen true (mes_W ok hW), wc_gen false (mes_C ok hC)⟩, decide_eq_true ⟨ok.p0, ok.p, ok.l0, ok.a0, ok.l, ok.a⟩⟩
  cases h5 : late (mes t) with
  | true => exact .inr (bndE_21 h1 h2 h3 h4 h5)
  | false => exact .inl (bndE_0 h1 h2 h3 h4 h5)
/-- The certificate covers the trace, with less latency and less time for applying. -/
theorem mes_cov {c : Ce} (hc : c = { mes t with B := bndV (mes t) }) (he : bndE (mes t) = 0) {L A : Int} (h1 : 0 ≤ L) (h2 : L ≤ t.L) (h3 : 0 ≤ A) (h4 : A ≤ t.A) : covE c { t with L := L, A := A } = 0 ∧ covV c { t with L := L, A := A } = true := by
  have hk : chkE c = 0 := by
    have e1 : bndE c = bndE (mes t) := by subst hc; rfl
    have e2 : bndV c = c.B := by subst hc; rfl
    unfold chkE
    rw [if_neg (by omega), if_pos e2]
  have ht : P56.check { t with L := L, A := A } = 0 := P56.check_ok.2 ⟨ok.wlen, ok.clen0, ok.clen, ok.w, ok.c, ok.p0, ok.p, h1, by have := ok.l; show L ≤ _; omega, h3, by have := ok.a; show A ≤ _; omega⟩
  have hE : covE c { t with L := L, A := A } = 0 := by
    unfold covE
    rw [if_neg (by omega), ht]
  refine ⟨hE, ?_⟩
  unfold covV
  rw [Bool.and_eq_true, decide_eq_true_eq, hE]
  refine ⟨⟨rfl, by rw [hc]; rfl, by rw [hc]; exact h2, by rw [hc]; exact h4, by rw [hc]; exact Int.le_refl _⟩, ?_⟩
  rw [covAll_iff]
  intro k s _ _
  unfold covAt
  rw [Bool.and_eq_true, decide_eq_true_eq, decide_eq_true_eq]
  have a := bw_every true t.W 0 k s
  have b := bw_every false t.C (P56.last t.C) k s
  simp only [better, if_true, if_false, Bool.false_eq_true] at a b
  subst hc
  show win t.W 0 s k ≤ vl (wc true t.W 0) k ∧ vl (wc false t.C (P56.last t.C)) k ≤ win t.C (P56.last t.C) s k
  rw [wc_vl, wc_vl]
  exact ⟨a, b⟩
end
end K57
end Go.Proofs.Ytabfhoipclbeeaa


/- certificate's laws: CertificateMeasured. -/
namespace Go.Proofs.Ytabfhoipclbeeaa
open Go.RowKit Go.Shelf C55 K57
theorem mk_2 (c : Ce) : (mkV c).2 = bndE c := by
  unfold mkV
  split
  · rename_i h; exact h.symm
  · rfl
theorem wins_m {g : Bool} {l : List Int} {S : Int} (h : Med l S) (f : FuncId) {args : Array Value} {W : World} {own : Nat → Prop} (hc : Calls Try.prog f args W (Ret W (CvR own (wins g l S)))) :
    Calls Try.prog f args W (Ret W fun v w => ∃ a1 c1, v = .tuple #[.agg #[.slice a1 (l.length + 1) c1, .int .i64 S], .int .i64 0] ∧ Has own w (IsCu · (.agg #[.slice a1 (l.length + 1) c1, .int .i64 S]) (wc g l S))) := by
  refine hc.mono ?_
  rintro e w' ⟨v, rfl, hs, cv, rfl, hcv⟩
  rw [h.wins g] at hcv
  have hq := hcv
  obtain ⟨a1, c1, rfl, hr, -, -⟩ := isCu_open hcv
  refine ⟨_, rfl, hs, a1, c1, ?_, ?_⟩
  · rw [h.wins g]
    show _ = _
    rw [wc_len]
    rfl
  · have := hq
    rw [wc_len] at this
    exact this
set_option maxRecDepth 20000 in
set_option maxHeartbeats 4000000 in
theorem measured57_law (t : P56.Tr) (x y : Int) (hx : 0 ≤ x ∧ x ≤ 255) (hy : 0 ≤ y ∧ y ≤ 255) (aw ac : Option Addr) (cw cc : Nat) (lw : t.W.length ≤ 9223372036854775807) (mw : t.W.length ≤ cw) (lc : t.C.length ≤ 9223372036854775807) (mc : t.C.length ≤ cc) (W : World)
    (h3 : Has (fun _ => False) W (RdF (Value.int .i64) aw t.W)) (h4 : Has (fun _ => False) W (RdF (Value.int .i64) ac t.C)) :
    Calls Try.prog 11 ⟨[.agg ⟨trL t aw cw ac cc⟩, .agg #[.int .u8 x, .int .u8 y]]⟩ W (Ret W fun x _ => x = .bool true) := by
  have hM := ((Mm.start (fun _ h => h.elim)).known h3).known h4
  refine f_start Try.func11 rfl Try.ntmps11 rfl rfl ?_; intro a hF
  (repeat (first | (with_reducible refine w_seq ?_) | (with_reducible refine c_region ?_) | (with_reducible refine s_nil ?_) | (with_reducible refine q_then_n ?_) | ((with_reducible apply s_pure hF); exact rfl; exact rfl; exact rfl; (first | exact trivial | omega | exact ⟨Int.natCast_nonneg _, Int.ofNat_lt.2 (by assumption)⟩ | decide); clear hF a; intro a hF) | ((with_reducible apply s_load hF hM); exact rfl; exact rfl; (repeat (first | exact List.mem_cons_self | refine List.mem_cons_of_mem _ ?_)); exact rfl; exact rfl; clear hF a; intro a hF) | ((with_reducible apply s_box hF hM); exact rfl; exact rfl; exact rfl; exact rfl; clear hF hM a; intro b w a hM hF)))
  rename_i b2 _
  generalize b = b3 at *
  by_cases hbig : ¬ (t.W.length ≤ 40 ∧ t.C.length ≤ 60)
  · (repeat' (first | (with_reducible refine w_seq ?_) | (with_reducible refine c_region ?_) | (with_reducible refine s_nil ?_) | ((with_reducible apply s_call (f := 33) hF hM); exact rfl; exact rfl; exact rfl; exact rfl; exact rfl; exact (refFewTrace_c t aw ac cw cc lw lc _ _ hM.lt); clear hF hM a; rintro v w a rfl - hM hF) | ((with_reducible apply s_call (f := 15) hF hM); exact rfl; exact rfl; exact rfl; exact rfl; exact rfl; exact (awake57_c _ _ hM.lt); clear hF hM a; rintro v w a rfl - hM hF) | (with_reducible refine q_then_n ?_) | ((with_reducible apply s_pure hF); exact rfl; exact rfl; exact rfl; (first | exact trivial | omega | exact ⟨Int.natCast_nonneg _, Int.ofNat_lt.2 (by assumption)⟩ | decide); clear hF a; intro a hF) | (with_reducible refine w_ret ?_) | (with_reducible refine q_then_r ?_) | ((with_reducible apply c_true2 hF); exact rfl; (first | with_reducible rfl | (refine congrArg Value.bool ?_; focus (simp; done)))) | ((with_reducible apply s_skip hF); exact rfl; exact rfl; clear hF a; intro a hF) | ((fail_if_success ((with_reducible refine g_known true hF ?_ ?_); focus exact rfl)); (fail_if_success ((with_reducible refine g_known false hF ?_ ?_); focus exact rfl)); (with_reducible apply g_ndec hF); exact rfl; exact rfl; all_goals (clear hF; intro hc hF); all_goals (try (exfalso; omega)))))
    all_goals (apply f_ret Try.results11 hF hM; (repeat (first | exact RL.nil | (apply RL.tmp; exact rfl) | (apply RL.cell; exact rfl; (repeat (first | exact List.mem_cons_self | refine List.mem_cons_of_mem _ ?_)); exact rfl))); refine Ret.mk hM.since ?_; dsimp only [resV])
  (repeat' (first | ((with_reducible apply s_call (f := 33) hF hM); exact rfl; exact rfl; exact rfl; exact rfl; exact rfl; exact (refFewTrace_c t aw ac cw cc lw lc _ _ hM.lt); clear hF hM a; rintro v w a rfl - hM hF) | ((with_reducible apply s_pure hF); exact rfl; exact rfl; exact rfl; (first | exact trivial | omega | exact ⟨Int.natCast_nonneg _, Int.ofNat_lt.2 (by assumption)⟩ | decide); clear hF a; intro a hF) | ((with_reducible apply s_load hF hM); exact rfl; exact rfl; (repeat (first | exact List.mem_cons_self | refine List.mem_cons_of_mem _ ?_)); exact rfl; exact rfl; clear hF a; intro a hF) | ((fail_if_success ((with_reducible refine g_known true hF ?_ ?_); focus exact rfl)); (fail_if_success ((with_reducible refine g_known false hF ?_ ?_); focus exact rfl)); (with_reducible apply g_ndec hF); exact rfl; exact rfl; all_goals (clear hF; intro hc hF); all_goals (try (exfalso; omega)))))
  by_cases ht : P56.check t = 0
  case neg =>
    (((with_reducible apply s_call (f := 37) hF hM); exact rfl; exact rfl; exact rfl; exact rfl; exact rfl; exact (Ret.of (check_any t _ _ (isTr_mk (hM.facts (RdF (Value.int .i64) aw t.W) (by (repeat (first | with_reducible exact List.mem_cons_self | refine List.mem_cons_of_mem _ ?_)))) (hM.facts (RdF (Value.int .i64) ac t.C) (by (repeat (first | with_reducible exact List.mem_cons_self | refine List.mem_cons_of_mem _ ?_)))) lw lc mw mc).get)); clear hF hM a; rintro v w a rfl - hM hF))
    (repeat' (first | (with_reducible refine w_seq ?_) | (with_reducible refine c_region ?_) | (with_reducible refine s_nil ?_) | ((with_reducible apply s_call (f := 15) hF hM); exact rfl; exact rfl; exact rfl; exact rfl; exact rfl; exact (awake57_c _ _ hM.lt); clear hF hM a; rintro v w a rfl - hM hF) | (with_reducible refine q_then_n ?_) | ((with_reducible apply s_pure hF); exact rfl; exact rfl; exact rfl; (first | exact trivial | omega | exact ⟨Int.natCast_nonneg _, Int.ofNat_lt.2 (by assumption)⟩ | decide); clear hF a; intro a hF) | (with_reducible refine w_ret ?_) | (with_reducible refine q_then_r ?_) | ((with_reducible apply c_dec hF); exact rfl; all_goals intro hc; all_goals (try (exfalso; omega)))))
    all_goals first | (exfalso; omega) | (apply f_ret Try.results11 hF hM; (repeat (first | exact RL.nil | (apply RL.tmp; exact rfl) | (apply RL.cell; exact rfl; (repeat (first | exact List.mem_cons_self | refine List.mem_cons_of_mem _ ?_)); exact rfl))); refine Ret.mk hM.since ?_; dsimp only [resV])
  (((with_reducible apply s_call (f := 37) hF hM); exact rfl; exact rfl; exact rfl; exact rfl; exact rfl; exact (Ret.of (check_any t _ _ (isTr_mk (hM.facts (RdF (Value.int .i64) aw t.W) (by (repeat (first | with_reducible exact List.mem_cons_self | refine List.mem_cons_of_mem _ ?_)))) (hM.facts (RdF (Value.int .i64) ac t.C) (by (repeat (first | with_reducible exact List.mem_cons_self | refine List.mem_cons_of_mem _ ?_)))) lw lc mw mc).get)); clear hF hM a; rintro v w a rfl - hM hF))
  rw [ht] at hF
  have ok := P56.check_ok.1 ht
  have hlast : t.C[((t.C.length : Int) - 1).toNat]? = some (P56.last t.C) := by
    have := ok.clen0
    unfold P56.last
    rw [show ((t.C.length : Int) - 1).toNat = t.C.length - 1 by omega, List.getLastD_eq_getLast?, List.getLast?_eq_getElem?]
    rw [List.getElem?_eq_getElem (by omega)]
    rfl
  have hlr := mes_last ok
  have hC0 := ok.clen0
  have mW := mes_W ok (by omega)
  have mC := mes_C ok (by omega)
  have hE := mes_e ok (by omega) (by omega)
  have hcov := fun {c : Ce} => mes_cov ok (c := c) (by omega) (by omega)
  have hL := ok.l
  have hL0 := ok.l0
  have hA := ok.a
  have hA0 := ok.a0
  obtain ⟨S, hS⟩ : ∃ x, P56.last t.C = x := ⟨_, rfl⟩
  rw [hS] at hlast mC hlr
  (repeat' (first | (with_reducible refine w_seq ?_) | (with_reducible refine c_region ?_) | (with_reducible refine s_nil ?_) | (with_reducible refine q_then_n ?_) | ((with_reducible apply s_pure hF); exact rfl; exact rfl; exact rfl; (first | exact trivial | omega | exact ⟨Int.natCast_nonneg _, Int.ofNat_lt.2 (by assumption)⟩ | decide); clear hF a; intro a hF) | ((with_reducible apply s_load hF hM); exact rfl; exact rfl; (repeat (first | exact List.mem_cons_self | refine List.mem_cons_of_mem _ ?_)); exact rfl; exact rfl; clear hF a; intro a hF) | (with_reducible refine w_skip ?_) | ((with_reducible apply c_false2 hF); exact rfl; (first | with_reducible rfl | (refine congrArg Value.bool ?_; focus (simp; done))))))
  obtain ⟨adc, rfl⟩ := rd_some hM (a := ac) (by (repeat (first | exact List.mem_cons_self | refine List.mem_cons_of_mem _ ?_))) hlast
  have hS2 := mk_2 (mes t)
  have hS3 : (mes t).A = wc true t.W 0 := rfl
  have hS4 : (mes t).S = wc false t.C (P56.last t.C) := rfl
  have e3 := fun v u {own W} hl hv hu => mk_uni (own := own) (W := W) (make_c (mes t) (by show (wc true t.W 0).V.length ≤ _; rw [wc_len]; omega) (by show (wc false t.C (P56.last t.C)).V.length ≤ _; rw [wc_len]; omega) v u own W hl hv hu)
  rw [hS3, hS4, show (mes t).P = t.P from rfl, show (mes t).L = t.L from rfl, show (mes t).D = t.A from rfl, hS] at e3
  obtain ⟨z, hz⟩ : ∃ z, mkV (mes t) = z := ⟨_, rfl⟩
  have hcv : z.2 = 0 → z.1 = { mes t with B := bndV (mes t) } ∧ bndE (mes t) = 0 := by
    intro h0
    rw [← hz, hS2] at h0
    refine ⟨?_, h0⟩
    rw [← hz]
    unfold mkV
    rw [if_pos h0]
  have hzl : z.1.A.V.length ≤ 41 ∧ z.1.S.V.length ≤ 61 := by
    have q1 := mkV_A (mes t)
    have q2 := mkV_S (mes t)
    rw [hz] at q1 q2
    rw [hS3, wc_len] at q1
    rw [hS4, wc_len] at q2
    omega
  rw [← hS2, hz] at hE
  rw [hz] at e3
  clear hS2 hS3 hS4 hz
  have e1 := fun {own W} hl hv => wins_m mW _ (arrival_c t.W 0 aw cw own W hl lw hv)
  have e2 := fun {own W} hl hv => wins_m mC _ (service_c t.C S (some adc) cc own W hl lc hv)
  (((with_reducible apply s_call (f := 38) hF hM); exact rfl; exact rfl; exact rfl; exact rfl; exact rfl; exact (e1 hM.lt (hM.facts (RdF (Value.int .i64) aw t.W) (by (repeat (first | with_reducible exact List.mem_cons_self | refine List.mem_cons_of_mem _ ?_))))); clear hF hM a; rintro v w a ⟨p1, r1, rfl, f1⟩ - hM hF; replace hM := hM.addFact f1))
  (repeat' (first | (with_reducible refine w_seq ?_) | (with_reducible refine s_nil ?_) | (with_reducible refine q_then_n ?_) | ((with_reducible apply s_pure hF); exact rfl; exact rfl; exact rfl; (first | exact trivial | omega | exact ⟨Int.natCast_nonneg _, Int.ofNat_lt.2 (by assumption)⟩ | decide); clear hF a; intro a hF) | ((with_reducible apply s_store hF hM); exact rfl; exact rfl; exact rfl; exact rfl; (repeat (first | exact Upd.z | apply Upd.s)); exact rfl; exact rfl; exact rfl; clear hM; intro w hM) | ((with_reducible apply s_alloc hF hM); exact rfl; exact rfl; exact rfl; clear hF hM a; intro b w a hM hF)))
  generalize b = b5 at *
  refine c_cut (fun a w => ∃ (b7 : Nat) (p2 : Option Addr) (r2 : Nat), Fr 130 [] [(8, .int .i64 0), (7, .pointer (some ⟨b7, 0, none⟩)), (6, .int .i64 0), (5, .pointer (some ⟨b5, 0, none⟩)), (3, .pointer (some ⟨b3, 0, none⟩)), (2, .pointer (some ⟨b2, 0, none⟩))] a ∧
    Mm (fun _ => False) W [⟨b7, ⟨[.slice p2 (t.C.length + 1) r2, .int .i64 S]⟩, 24⟩, ⟨b5, ⟨[.slice p1 (t.W.length + 1) r1, .int .i64 0]⟩, 24⟩, ⟨b3, ⟨[.int .u8 x, .int .u8 y]⟩, 50⟩, ⟨b2, ⟨trL t aw cw (some adc) cc⟩, 42⟩] []
      [(IsCu · (.agg #[.slice p2 (t.C.length + 1) r2, .int .i64 S]) (wc false t.C S)), (IsCu · (.agg #[.slice p1 (t.W.length + 1) r1, .int .i64 0]) (wc true t.W 0)), RdF (Value.int .i64) (some adc) t.C, RdF (Value.int .i64) aw t.W] w) ?_ ?_
  · refine c_draw (fun i => Nat.ble 16 i) hM ?_; clear hM; intro w hM
    (first | (refine t_pure (i := 0) hF rfl rfl rfl rfl (by kernel_rfl) hM.sm (fun _ _ _ h => h) ?_ ?_; (first | exact trivial | omega | decide); clear hF a; intro a hF))
    (first | (apply t_load (i := 1) hF rfl rfl rfl; (repeat (first | exact List.mem_cons_self | refine List.mem_cons_of_mem _ ?_)); exact rfl; exact rfl; kernel_rfl; exact hM.sm; exact (fun _ _ _ h => h); clear hF a; intro a hF))
    (first | (refine t_pure (i := 2) hF rfl rfl rfl rfl (by kernel_rfl) hM.sm (fun _ _ _ h => h) ?_ ?_; (first | exact trivial | omega | decide); clear hF a; intro a hF))
    (first | (apply t_load (i := 3) hF rfl rfl rfl; (repeat (first | exact List.mem_cons_self | refine List.mem_cons_of_mem _ ?_)); exact rfl; exact rfl; kernel_rfl; exact hM.sm; exact (fun _ _ _ h => h); clear hF a; intro a hF))
    (first | (refine t_pure (i := 4) hF rfl rfl rfl rfl (by kernel_rfl) hM.sm (fun _ _ _ h => h) ?_ ?_; (first | exact trivial | omega | decide); clear hF a; intro a hF))
    (first | (apply t_load (i := 5) hF rfl rfl rfl; (repeat (first | exact List.mem_cons_self | refine List.mem_cons_of_mem _ ?_)); exact rfl; exact rfl; kernel_rfl; exact hM.sm; exact (fun _ _ _ h => h); clear hF a; intro a hF))
    (first | (refine t_pure (i := 6) hF rfl rfl rfl rfl (by kernel_rfl) hM.sm (fun _ _ _ h => h) ?_ ?_; (first | exact trivial | omega | decide); clear hF a; intro a hF))
    (first | (refine t_pure (i := 7) hF rfl rfl rfl rfl (by kernel_rfl) hM.sm (fun _ _ _ h => h) ?_ ?_; (first | exact trivial | omega | decide); clear hF a; intro a hF))
    (first | (refine t_pure (i := 8) hF rfl rfl rfl rfl (by kernel_rfl) hM.sm (fun _ _ _ h => h) ?_ ?_; (first | exact trivial | omega | decide); clear hF a; intro a hF))
    (first | (apply t_loadF (i := 9) hF rfl rfl rfl; (repeat (first | exact List.mem_cons_self | refine List.mem_cons_of_mem _ ?_)); (first | with_reducible assumption | (simp only [Int.toNat_natCast]; with_reducible assumption)); exact rfl; exact rfl; kernel_rfl; exact hM.sm; exact (fun _ _ _ h => h); clear hF a; intro a hF))
    refine t_two (i := 10) (j := 14) hF rfl rfl (by kernel_rfl) rfl rfl ?_ ?_
    ·
      intro K hK
      (apply x_call hF hM; exact rfl; exact rfl; exact rfl; exact rfl; exact (e2 hM.lt (hM.facts (RdF (Value.int .i64) (some adc) t.C) (by (repeat (first | with_reducible exact List.mem_cons_self | refine List.mem_cons_of_mem _ ?_))))); clear hF hM a; rintro v w a ⟨p2, r2, rfl, f2⟩ - hM hF)
      replace hM := hM.addFact f2
      refine hK _ _ (fun _ => (hM.sm.sub (fun x hx => by repeat (first | exact hx | refine List.mem_cons_of_mem _ ?_)) (fun _ h => by repeat (first | exact h | refine List.mem_cons_of_mem _ ?_)))) ?_; clear hK
      (first | (refine t_pure (i := 11) hF rfl rfl rfl rfl (by kernel_rfl) (hM.sm.sub (fun x hx => by repeat (first | exact hx | refine List.mem_cons_of_mem _ ?_)) (fun _ h => by repeat (first | exact h | refine List.mem_cons_of_mem _ ?_))) (fun _ _ _ h => h) ?_ ?_; (first | exact trivial | omega | decide); clear hF a; intro a hF))
      (first | (refine t_pure (i := 12) hF rfl rfl rfl rfl (by kernel_rfl) (hM.sm.sub (fun x hx => by repeat (first | exact hx | refine List.mem_cons_of_mem _ ?_)) (fun _ h => by repeat (first | exact h | refine List.mem_cons_of_mem _ ?_))) (fun _ _ _ h => h) ?_ ?_; (first | exact trivial | omega | decide); clear hF a; intro a hF))
      (first | (refine t_pure (i := 13) hF rfl rfl rfl rfl (by kernel_rfl) (hM.sm.sub (fun x hx => by repeat (first | exact hx | refine List.mem_cons_of_mem _ ?_)) (fun _ h => by repeat (first | exact h | refine List.mem_cons_of_mem _ ?_))) (fun _ _ _ h => h) ?_ ?_; (first | exact trivial | omega | decide); clear hF a; intro a hF))
      refine t_one (i := 14) hF rfl (by kernel_rfl) rfl ?_
      intro K hK
      (refine x_alloc hF hM rfl rfl ?_; clear hF hM a; intro b w a hM hF)
      refine hK _ _ (fun _ => (hM.sm.sub (fun x hx => by repeat (first | exact hx | refine List.mem_cons_of_mem _ ?_)) (fun _ h => by repeat (first | exact h | refine List.mem_cons_of_mem _ ?_)))) ?_; clear hK
      refine t_one (i := 15) hF rfl (by kernel_rfl) rfl ?_
      intro K hK
      (apply x_store hF hM rfl rfl rfl; (repeat (first | exact Upd.z | apply Upd.s)); exact rfl; exact rfl; exact rfl; clear hF hM a; intro w a hM hF)
      refine hK _ _ (fun _ => (hM.sm.sub (fun x hx => by repeat (first | exact hx | refine List.mem_cons_of_mem _ ?_)) (fun _ h => by repeat (first | exact h | refine List.mem_cons_of_mem _ ?_)))) ?_; clear hK
      refine t_one (i := 16) hF rfl (by kernel_rfl) rfl ?_
      intro K hK
      (first | (refine x_pure hF hM rfl rfl ?_ ?_; (first | exact trivial | omega | decide); clear hF a; intro a hF) | (apply x_load hF hM rfl; (repeat (first | exact List.mem_cons_self | refine List.mem_cons_of_mem _ ?_)); exact rfl; exact rfl; clear hF a; intro a hF))
      refine hK _ _ (fun h => by cases h) ?_; clear hK
      refine t_done (by kernel_rfl) ?_
      refine q_cut ?_
      apply Exists.intro
      apply Exists.intro
      apply Exists.intro
      apply And.intro
      · exact hF.sub (by repeat (first | exact Sub.nil | refine Sub.cons rfl (by first | with_reducible rfl | (refine congrArg (Value.int _) ?_; omega) | exact rfl) ?_))
      · exact hM
    ·
      intro K hK
      (refine x_alloc hF hM rfl rfl ?_; clear hF hM a; intro b w a hM hF)
      refine hK _ _ (fun _ => (hM.sm.sub (fun x hx => by repeat (first | exact hx | refine List.mem_cons_of_mem _ ?_)) (fun _ h => by repeat (first | exact h | refine List.mem_cons_of_mem _ ?_)))) ?_; clear hK
      refine t_one (i := 10) hF rfl (by kernel_rfl) rfl ?_
      intro K hK
      (apply x_call hF hM; exact rfl; exact rfl; exact rfl; exact rfl; exact (e2 hM.lt (hM.facts (RdF (Value.int .i64) (some adc) t.C) (by (repeat (first | with_reducible exact List.mem_cons_self | refine List.mem_cons_of_mem _ ?_))))); clear hF hM a; rintro v w a ⟨p2, r2, rfl, f2⟩ - hM hF)
      replace hM := hM.addFact f2
      refine hK _ _ (fun _ => (hM.sm.sub (fun x hx => by repeat (first | exact hx | refine List.mem_cons_of_mem _ ?_)) (fun _ h => by repeat (first | exact h | refine List.mem_cons_of_mem _ ?_)))) ?_; clear hK
      (first | (refine t_pure (i := 11) hF rfl rfl rfl rfl (by kernel_rfl) (hM.sm.sub (fun x hx => by repeat (first | exact hx | refine List.mem_cons_of_mem _ ?_)) (fun _ h => by repeat (first | exact h | refine List.mem_cons_of_mem _ ?_))) (fun _ _ _ h => h) ?_ ?_; (first | exact trivial | omega | decide); clear hF a; intro a hF))
      (first | (refine t_pure (i := 12) hF rfl rfl rfl rfl (by kernel_rfl) (hM.sm.sub (fun x hx => by repeat (first | exact hx | refine List.mem_cons_of_mem _ ?_)) (fun _ h => by repeat (first | exact h | refine List.mem_cons_of_mem _ ?_))) (fun _ _ _ h => h) ?_ ?_; (first | exact trivial | omega | decide); clear hF a; intro a hF))
      (first | (refine t_pure (i := 13) hF rfl rfl rfl rfl (by kernel_rfl) (hM.sm.sub (fun x hx => by repeat (first | exact hx | refine List.mem_cons_of_mem _ ?_)) (fun _ h => by repeat (first | exact h | refine List.mem_cons_of_mem _ ?_))) (fun _ _ _ h => h) ?_ ?_; (first | exact trivial | omega | decide); clear hF a; intro a hF))
      refine t_one (i := 15) hF rfl (by kernel_rfl) rfl ?_
      intro K hK
      (apply x_store hF hM rfl rfl rfl; (repeat (first | exact Upd.z | apply Upd.s)); exact rfl; exact rfl; exact rfl; clear hF hM a; intro w a hM hF)
      refine hK _ _ (fun _ => (hM.sm.sub (fun x hx => by repeat (first | exact hx | refine List.mem_cons_of_mem _ ?_)) (fun _ h => by repeat (first | exact h | refine List.mem_cons_of_mem _ ?_)))) ?_; clear hK
      refine t_one (i := 16) hF rfl (by kernel_rfl) rfl ?_
      intro K hK
      (first | (refine x_pure hF hM rfl rfl ?_ ?_; (first | exact trivial | omega | decide); clear hF a; intro a hF) | (apply x_load hF hM rfl; (repeat (first | exact List.mem_cons_self | refine List.mem_cons_of_mem _ ?_)); exact rfl; exact rfl; clear hF a; intro a hF))
      refine hK _ _ (fun h => by cases h) ?_; clear hK
      refine t_done (by kernel_rfl) ?_
      refine q_cut ?_
      apply Exists.intro
      apply Exists.intro
      apply Exists.intro
      apply And.intro
      · exact hF.sub (by repeat (first | exact Sub.nil | refine Sub.cons rfl (by first | with_reducible rfl | (refine congrArg (Value.int _) ?_; omega) | exact rfl) ?_))
      · exact hM
  clear hF hM a
  rintro a w ⟨b7, p2, r2, hF, hM⟩
  (repeat' (first | (with_reducible refine w_seq ?_) | (with_reducible refine c_region ?_) | (with_reducible refine s_nil ?_) | (with_reducible refine q_then_n ?_) | ((with_reducible apply s_pure hF); exact rfl; exact rfl; exact rfl; (first | exact trivial | omega | exact ⟨Int.natCast_nonneg _, Int.ofNat_lt.2 (by assumption)⟩ | decide); clear hF a; intro a hF) | ((with_reducible apply s_load hF hM); exact rfl; exact rfl; (repeat (first | exact List.mem_cons_self | refine List.mem_cons_of_mem _ ?_)); exact rfl; exact rfl; clear hF a; intro a hF) | (with_reducible refine w_skip ?_) | ((with_reducible apply c_false2 hF); exact rfl; (first | with_reducible rfl | (refine congrArg Value.bool ?_; focus (simp; done))))))
  (((with_reducible apply s_call (f := 16) hF hM); exact rfl; exact rfl; exact rfl; exact rfl; exact rfl; exact (e3 _ _ hM.lt (hM.facts (IsCu · (.agg #[.slice p1 (t.W.length + 1) r1, .int .i64 0]) (wc true t.W 0)) (by (repeat (first | with_reducible exact List.mem_cons_self | refine List.mem_cons_of_mem _ ?_)))) (hM.facts (IsCu · (.agg #[.slice p2 (t.C.length + 1) r2, .int .i64 S]) (wc false t.C S)) (by (repeat (first | with_reducible exact List.mem_cons_self | refine List.mem_cons_of_mem _ ?_))))); clear hF hM a; rintro v w a ⟨p3, r3, p4, r4, rfl, f3, f4, k3, k4⟩ - hM hF; replace hM := (hM.addFact f3).addFact f4))
  (repeat (first | (with_reducible refine w_seq ?_) | (with_reducible refine c_region ?_) | (with_reducible refine s_nil ?_) | (with_reducible refine q_then_n ?_) | ((with_reducible apply s_pure hF); exact rfl; exact rfl; exact rfl; (first | exact trivial | omega | exact ⟨Int.natCast_nonneg _, Int.ofNat_lt.2 (by assumption)⟩ | decide); clear hF a; intro a hF) | ((with_reducible apply s_store hF hM); exact rfl; exact rfl; exact rfl; exact rfl; (repeat (first | exact Upd.z | apply Upd.s)); exact rfl; exact rfl; exact rfl; clear hM; intro w hM) | ((with_reducible apply s_alloc hF hM); exact rfl; exact rfl; exact rfl; clear hF hM a; intro b w a hM hF)))
  generalize b = b9 at *
  by_cases hz2 : z.2 = 0
  case neg =>
    (repeat' (first | (with_reducible refine w_seq ?_) | (with_reducible refine c_region ?_) | (with_reducible refine s_nil ?_) | ((with_reducible apply s_call (f := 15) hF hM); exact rfl; exact rfl; exact rfl; exact rfl; exact rfl; exact (awake57_c _ _ hM.lt); clear hF hM a; rintro v w a rfl - hM hF) | (with_reducible refine q_then_n ?_) | ((with_reducible apply s_pure hF); exact rfl; exact rfl; exact rfl; (first | exact trivial | omega | exact ⟨Int.natCast_nonneg _, Int.ofNat_lt.2 (by assumption)⟩ | decide); clear hF a; intro a hF) | (with_reducible refine w_ret ?_) | (with_reducible refine q_then_r ?_) | ((fail_if_success ((with_reducible refine g_known true hF ?_ ?_); focus exact rfl)); (fail_if_success ((with_reducible refine g_known false hF ?_ ?_); focus exact rfl)); (with_reducible apply g_dec hF); exact rfl; exact rfl; all_goals (clear hF; intro hc hF); all_goals (try (exfalso; omega))) | ((with_reducible apply c_dec hF); exact rfl; all_goals intro hc; all_goals (try (exfalso; omega)))))
    all_goals first | (exfalso; omega) | (apply f_ret Try.results11 hF hM; (repeat (first | exact RL.nil | (apply RL.tmp; exact rfl) | (apply RL.cell; exact rfl; (repeat (first | exact List.mem_cons_self | refine List.mem_cons_of_mem _ ?_)); exact rfl))); refine Ret.mk hM.since ?_; dsimp only [resV])
  obtain ⟨hc1, hc2⟩ := hcv hz2
  replace hcov := fun {L A : Int} => hcov (L := L) (A := A) hc1 hc2
  clear e1 e2 e3 hcv hc1 f1 f3 f4
  obtain ⟨c, hc⟩ : ∃ c, z.1 = c := ⟨_, rfl⟩
  rw [hc] at hF hM hcov k3 k4 hzl
  obtain ⟨hcA, hcS⟩ := hzl
  have q0 : covE c t = 0 ∧ covV c t = true := hcov hL0 (Int.le_refl _) hA0 (Int.le_refl _)
  obtain ⟨L', hL'⟩ : ∃ L', max 0 (t.L - x) = L' := ⟨_, rfl⟩
  obtain ⟨A', hA'⟩ : ∃ A', max 0 (t.A - y) = A' := ⟨_, rfl⟩
  obtain ⟨t', ht'⟩ : ∃ t' : P56.Tr, t' = { t with L := L', A := A' } := ⟨_, rfl⟩
  have q1 : covE c t' = 0 ∧ covV c t' = true := by
    rw [ht']
    exact hcov (by omega) (by omega) (by omega) (by omega)
  obtain ⟨q2, q3⟩ := holds q1.1 q1.2
  have eW : t'.W = t.W := by rw [ht']
  have eC : t'.C = t.C := by rw [ht']
  have eP : t'.P = t.P := by rw [ht']
  have eL : t'.L = L' := by rw [ht']
  have eA : t'.A = A' := by rw [ht']
  have g1 := fun {own W} => covers_c c p3 p4 r3 r4 (by omega) k3 (by omega) k4 t aw (some adc) cw cc lw mw lc mc own W
  have g2 := fun {own W} => covers_c c p3 p4 r3 r4 (by omega) k3 (by omega) k4 t' aw (some adc) cw cc (by rw [eW]; exact lw) (by rw [eW]; exact mw) (by rw [eC]; exact lc) (by rw [eC]; exact mc) own W
  have g3 := fun {own W} => planB_c t' aw (some adc) cw cc (by rw [eW]; exact lw) (by rw [eW]; exact mw) (by rw [eC]; exact lc) (by rw [eC]; exact mc) own W
  rw [q0.1, q0.2] at g1
  rw [q1.1, q1.2] at g2
  rw [q2] at g3
  rw [show trL t' aw cw (some adc) cc = [.slice aw t.W.length cw, .slice (some adc) t.C.length cc, .int .i64 t.P, .int .i64 L', .int .i64 A'] from by unfold trL; rw [eW, eC, eP, eL, eA]] at g2 g3
  rw [eW, eC] at g2 g3
  generalize (P56.plan t').1.bound = q at *
  clear ht' hcov
  (repeat' (first | (with_reducible refine w_seq ?_) | (with_reducible refine c_region ?_) | (with_reducible refine q_then_n ?_) | ((with_reducible apply s_load hF hM); exact rfl; exact rfl; (repeat (first | exact List.mem_cons_self | refine List.mem_cons_of_mem _ ?_)); exact rfl; exact rfl; clear hF a; intro a hF) | (with_reducible refine w_skip ?_) | ((with_reducible apply c_dec hF); exact rfl; all_goals intro hc; all_goals (try (exfalso; omega)))))
  (((with_reducible apply s_call (f := 34) hF hM); exact rfl; exact rfl; exact rfl; exact rfl; exact rfl; exact (g1 hM.lt (hM.facts (RdF (Value.int .i64) p3 c.A.V) (by (repeat (first | with_reducible exact List.mem_cons_self | refine List.mem_cons_of_mem _ ?_)))) (hM.facts (RdF (Value.int .i64) p4 c.S.V) (by (repeat (first | with_reducible exact List.mem_cons_self | refine List.mem_cons_of_mem _ ?_)))) (hM.facts (RdF (Value.int .i64) aw t.W) (by (repeat (first | with_reducible exact List.mem_cons_self | refine List.mem_cons_of_mem _ ?_)))) (hM.facts (RdF (Value.int .i64) (some adc) t.C) (by (repeat (first | with_reducible exact List.mem_cons_self | refine List.mem_cons_of_mem _ ?_))))); clear hF hM a; rintro v w a rfl - hM hF))
  (repeat (first | (with_reducible refine w_seq ?_) | (with_reducible refine s_nil ?_) | (with_reducible refine q_then_n ?_) | ((with_reducible apply s_pure hF); exact rfl; exact rfl; exact rfl; (first | exact trivial | omega | exact ⟨Int.natCast_nonneg _, Int.ofNat_lt.2 (by assumption)⟩ | decide); clear hF a; intro a hF)))
  replace hM := (hM.sub (.cons_cons _ (.cons _ (.cons _ (.refl _)))) (.refl _) (fun _ h => h)).perm (List.perm_append_comm (l₁ := [_, _]) (l₂ := [_]))
  refine c_cut (fun a w => Fr 130 [] [(12, .int .i64 0), (11, .bool true), (9, .pointer (some ⟨b9, 0, none⟩)), (2, .pointer (some ⟨b2, 0, none⟩))] a ∧
    Mm (fun _ => False) W [⟨b2, ⟨[.slice aw t.W.length cw, .slice (some adc) t.C.length cc, .int .i64 t.P, .int .i64 L', .int .i64 A']⟩, 42⟩, ⟨b9, ⟨ceL c p3 r3 p4 r4⟩, 29⟩, ⟨b3, ⟨[.int .u8 x, .int .u8 y]⟩, 50⟩] []
      [RdF (Value.int .i64) p4 c.S.V, RdF (Value.int .i64) p3 c.A.V, (IsCu · (.agg #[.slice p2 (t.C.length + 1) r2, .int .i64 S]) (wc false t.C S)), (IsCu · (.agg #[.slice p1 (t.W.length + 1) r1, .int .i64 0]) (wc true t.W 0)), RdF (Value.int .i64) (some adc) t.C, RdF (Value.int .i64) aw t.W] w) ?_ ?_
  · refine c_drawS (fun i => Nat.ble 16 i) (fun x hx => List.mem_cons_of_mem _ (hx)) hM ?_; clear hM; intro w hM
    (first | (refine t_pure (i := 0) hF rfl rfl rfl rfl (by kernel_rfl) (hM.sm.sub (fun x hx => by repeat (first | exact hx | refine List.mem_cons_of_mem _ ?_)) (fun _ h => by repeat (first | exact h | refine List.mem_cons_of_mem _ ?_))) (fun _ _ _ h => h) ?_ ?_; (first | exact trivial | omega | decide); clear hF a; intro a hF))
    (first | (refine t_pure (i := 2) hF rfl rfl rfl rfl (by kernel_rfl) (hM.sm.sub (fun x hx => by repeat (first | exact hx | refine List.mem_cons_of_mem _ ?_)) (fun _ h => by repeat (first | exact h | refine List.mem_cons_of_mem _ ?_))) (fun _ _ _ h => h) ?_ ?_; (first | exact trivial | omega | decide); clear hF a; intro a hF))
    (first | (apply t_load (i := 3) hF rfl rfl rfl; (repeat (first | exact List.mem_cons_self | refine List.mem_cons_of_mem _ ?_)); exact rfl; exact rfl; kernel_rfl; exact (hM.sm.sub (fun x hx => by repeat (first | exact hx | refine List.mem_cons_of_mem _ ?_)) (fun _ h => by repeat (first | exact h | refine List.mem_cons_of_mem _ ?_))); exact (fun _ _ _ h => h); clear hF a; intro a hF))
    (first | (refine t_pure (i := 4) hF rfl rfl rfl rfl (by kernel_rfl) (hM.sm.sub (fun x hx => by repeat (first | exact hx | refine List.mem_cons_of_mem _ ?_)) (fun _ h => by repeat (first | exact h | refine List.mem_cons_of_mem _ ?_))) (fun _ _ _ h => h) ?_ ?_; (first | exact trivial | omega | decide); clear hF a; intro a hF))
    (first | (refine t_pure (i := 7) hF rfl rfl rfl rfl (by kernel_rfl) (hM.sm.sub (fun x hx => by repeat (first | exact hx | refine List.mem_cons_of_mem _ ?_)) (fun _ h => by repeat (first | exact h | refine List.mem_cons_of_mem _ ?_))) (fun _ _ _ h => h) ?_ ?_; (first | exact trivial | omega | decide); clear hF a; intro a hF))
    (first | (refine t_pure (i := 9) hF rfl rfl rfl rfl (by kernel_rfl) (hM.sm.sub (fun x hx => by repeat (first | exact hx | refine List.mem_cons_of_mem _ ?_)) (fun _ h => by repeat (first | exact h | refine List.mem_cons_of_mem _ ?_))) (fun _ _ _ h => h) ?_ ?_; (first | exact trivial | omega | decide); clear hF a; intro a hF))
    (first | (apply t_load (i := 10) hF rfl rfl rfl; (repeat (first | exact List.mem_cons_self | refine List.mem_cons_of_mem _ ?_)); exact rfl; exact rfl; kernel_rfl; exact (hM.sm.sub (fun x hx => by repeat (first | exact hx | refine List.mem_cons_of_mem _ ?_)) (fun _ h => by repeat (first | exact h | refine List.mem_cons_of_mem _ ?_))); exact (fun _ _ _ h => h); clear hF a; intro a hF))
    (first | (refine t_pure (i := 11) hF rfl rfl rfl rfl (by kernel_rfl) (hM.sm.sub (fun x hx => by repeat (first | exact hx | refine List.mem_cons_of_mem _ ?_)) (fun _ h => by repeat (first | exact h | refine List.mem_cons_of_mem _ ?_))) (fun _ _ _ h => h) ?_ ?_; (first | exact trivial | omega | decide); clear hF a; intro a hF))
    refine t_two (i := 1) (j := 8) hF rfl rfl (by kernel_rfl) rfl rfl ?_ ?_
    ·
      intro K hK
      (first | (refine x_pure hF hM rfl rfl ?_ ?_; (first | exact trivial | omega | decide); clear hF a; intro a hF) | (apply x_load hF hM rfl; (repeat (first | exact List.mem_cons_self | refine List.mem_cons_of_mem _ ?_)); exact rfl; exact rfl; clear hF a; intro a hF))
      refine hK _ _ (fun _ => (hM.sm.sub (fun x hx => by repeat (first | exact hx | refine List.mem_cons_of_mem _ ?_)) (fun _ h => by repeat (first | exact h | refine List.mem_cons_of_mem _ ?_)))) ?_; clear hK
      (first | (refine t_pure (i := 5) hF rfl rfl rfl rfl (by kernel_rfl) (hM.sm.sub (fun x hx => by repeat (first | exact hx | refine List.mem_cons_of_mem _ ?_)) (fun _ h => by repeat (first | exact h | refine List.mem_cons_of_mem _ ?_))) (fun _ _ _ h => h) ?_ ?_; (first | exact trivial | omega | decide); clear hF a; intro a hF))
      (first | (refine t_pure (i := 6) hF rfl rfl rfl rfl (by kernel_rfl) (hM.sm.sub (fun x hx => by repeat (first | exact hx | refine List.mem_cons_of_mem _ ?_)) (fun _ h => by repeat (first | exact h | refine List.mem_cons_of_mem _ ?_))) (fun _ _ _ h => h) ?_ ?_; (first | exact trivial | omega | decide); clear hF a; intro a hF))
      refine t_one (i := 8) hF rfl (by kernel_rfl) rfl ?_
      intro K hK
      (first | (refine x_pure hF hM rfl rfl ?_ ?_; (first | exact trivial | omega | decide); clear hF a; intro a hF) | (apply x_load hF hM rfl; (repeat (first | exact List.mem_cons_self | refine List.mem_cons_of_mem _ ?_)); exact rfl; exact rfl; clear hF a; intro a hF))
      refine hK _ _ (fun _ => (hM.sm.sub (fun x hx => by repeat (first | exact hx | refine List.mem_cons_of_mem _ ?_)) (fun _ h => by repeat (first | exact h | refine List.mem_cons_of_mem _ ?_)))) ?_; clear hK
      (first | (refine t_pure (i := 12) hF rfl rfl rfl rfl (by kernel_rfl) (hM.sm.sub (fun x hx => by repeat (first | exact hx | refine List.mem_cons_of_mem _ ?_)) (fun _ h => by repeat (first | exact h | refine List.mem_cons_of_mem _ ?_))) (fun _ _ _ h => h) ?_ ?_; (first | exact trivial | omega | decide); clear hF a; intro a hF))
      (first | (refine t_pure (i := 13) hF rfl rfl rfl rfl (by kernel_rfl) (hM.sm.sub (fun x hx => by repeat (first | exact hx | refine List.mem_cons_of_mem _ ?_)) (fun _ h => by repeat (first | exact h | refine List.mem_cons_of_mem _ ?_))) (fun _ _ _ h => h) ?_ ?_; (first | exact trivial | omega | decide); clear hF a; intro a hF))
      (first | (refine t_pure (i := 14) hF rfl rfl rfl rfl (by kernel_rfl) (hM.sm.sub (fun x hx => by repeat (first | exact hx | refine List.mem_cons_of_mem _ ?_)) (fun _ h => by repeat (first | exact h | refine List.mem_cons_of_mem _ ?_))) (fun _ _ _ h => h) ?_ ?_; (first | exact trivial | omega | decide); clear hF a; intro a hF))
      refine t_one (i := 15) hF rfl (by kernel_rfl) rfl ?_
      intro K hK
      (apply x_store hF hM rfl rfl rfl; (repeat (first | exact Upd.z | apply Upd.s)); exact rfl; exact rfl; exact rfl; clear hF hM a; intro w a hM hF)
      refine hK _ _ (fun _ => (hM.sm.sub (fun x hx => by repeat (first | exact hx | refine List.mem_cons_of_mem _ ?_)) (fun _ h => by repeat (first | exact h | refine List.mem_cons_of_mem _ ?_)))) ?_; clear hK
      refine t_one (i := 16) hF rfl (by kernel_rfl) rfl ?_
      intro K hK
      (first | (refine x_pure hF hM rfl rfl ?_ ?_; (first | exact trivial | omega | decide); clear hF a; intro a hF) | (apply x_load hF hM rfl; (repeat (first | exact List.mem_cons_self | refine List.mem_cons_of_mem _ ?_)); exact rfl; exact rfl; clear hF a; intro a hF))
      refine hK _ _ (fun h => by cases h) ?_; clear hK
      refine t_one (i := 17) hF rfl (by kernel_rfl) rfl ?_
      intro K hK
      (apply x_store hF hM rfl rfl rfl; (repeat (first | exact Upd.z | apply Upd.s)); exact rfl; exact rfl; exact rfl; clear hF hM a; intro w a hM hF)
      refine hK _ _ (fun h => by cases h) ?_; clear hK
      refine t_done (by kernel_rfl) ?_
      rw [hL', hA'] at hM
      exact q_cut ⟨hF.sub (by repeat (first | exact Sub.nil | refine Sub.cons rfl (by first | with_reducible rfl | (refine congrArg (Value.int _) ?_; omega) | exact rfl) ?_)), hM⟩
    ·
      intro K hK
      (first | (refine x_pure hF hM rfl rfl ?_ ?_; (first | exact trivial | omega | decide); clear hF a; intro a hF) | (apply x_load hF hM rfl; (repeat (first | exact List.mem_cons_self | refine List.mem_cons_of_mem _ ?_)); exact rfl; exact rfl; clear hF a; intro a hF))
      refine hK _ _ (fun _ => (hM.sm.sub (fun x hx => by repeat (first | exact hx | refine List.mem_cons_of_mem _ ?_)) (fun _ h => by repeat (first | exact h | refine List.mem_cons_of_mem _ ?_)))) ?_; clear hK
      (first | (refine t_pure (i := 12) hF rfl rfl rfl rfl (by kernel_rfl) (hM.sm.sub (fun x hx => by repeat (first | exact hx | refine List.mem_cons_of_mem _ ?_)) (fun _ h => by repeat (first | exact h | refine List.mem_cons_of_mem _ ?_))) (fun _ _ _ h => h) ?_ ?_; (first | exact trivial | omega | decide); clear hF a; intro a hF))
      (first | (refine t_pure (i := 13) hF rfl rfl rfl rfl (by kernel_rfl) (hM.sm.sub (fun x hx => by repeat (first | exact hx | refine List.mem_cons_of_mem _ ?_)) (fun _ h => by repeat (first | exact h | refine List.mem_cons_of_mem _ ?_))) (fun _ _ _ h => h) ?_ ?_; (first | exact trivial | omega | decide); clear hF a; intro a hF))
      refine t_one (i := 1) hF rfl (by kernel_rfl) rfl ?_
      intro K hK
      (first | (refine x_pure hF hM rfl rfl ?_ ?_; (first | exact trivial | omega | decide); clear hF a; intro a hF) | (apply x_load hF hM rfl; (repeat (first | exact List.mem_cons_self | refine List.mem_cons_of_mem _ ?_)); exact rfl; exact rfl; clear hF a; intro a hF))
      refine hK _ _ (fun _ => (hM.sm.sub (fun x hx => by repeat (first | exact hx | refine List.mem_cons_of_mem _ ?_)) (fun _ h => by repeat (first | exact h | refine List.mem_cons_of_mem _ ?_)))) ?_; clear hK
      (first | (refine t_pure (i := 5) hF rfl rfl rfl rfl (by kernel_rfl) (hM.sm.sub (fun x hx => by repeat (first | exact hx | refine List.mem_cons_of_mem _ ?_)) (fun _ h => by repeat (first | exact h | refine List.mem_cons_of_mem _ ?_))) (fun _ _ _ h => h) ?_ ?_; (first | exact trivial | omega | decide); clear hF a; intro a hF))
      (first | (refine t_pure (i := 6) hF rfl rfl rfl rfl (by kernel_rfl) (hM.sm.sub (fun x hx => by repeat (first | exact hx | refine List.mem_cons_of_mem _ ?_)) (fun _ h => by repeat (first | exact h | refine List.mem_cons_of_mem _ ?_))) (fun _ _ _ h => h) ?_ ?_; (first | exact trivial | omega | decide); clear hF a; intro a hF))
      (first | (refine t_pure (i := 14) hF rfl rfl rfl rfl (by kernel_rfl) (hM.sm.sub (fun x hx => by repeat (first | exact hx | refine List.mem_cons_of_mem _ ?_)) (fun _ h => by repeat (first | exact h | refine List.mem_cons_of_mem _ ?_))) (fun _ _ _ h => h) ?_ ?_; (first | exact trivial | omega | decide); clear hF a; intro a hF))
      refine t_one (i := 15) hF rfl (by kernel_rfl) rfl ?_
      intro K hK
      (apply x_store hF hM rfl rfl rfl; (repeat (first | exact Upd.z | apply Upd.s)); exact rfl; exact rfl; exact rfl; clear hF hM a; intro w a hM hF)
      refine hK _ _ (fun _ => (hM.sm.sub (fun x hx => by repeat (first | exact hx | refine List.mem_cons_of_mem _ ?_)) (fun _ h => by repeat (first | exact h | refine List.mem_cons_of_mem _ ?_)))) ?_; clear hK
      refine t_one (i := 16) hF rfl (by kernel_rfl) rfl ?_
      intro K hK
      (first | (refine x_pure hF hM rfl rfl ?_ ?_; (first | exact trivial | omega | decide); clear hF a; intro a hF) | (apply x_load hF hM rfl; (repeat (first | exact List.mem_cons_self | refine List.mem_cons_of_mem _ ?_)); exact rfl; exact rfl; clear hF a; intro a hF))
      refine hK _ _ (fun h => by cases h) ?_; clear hK
      refine t_one (i := 17) hF rfl (by kernel_rfl) rfl ?_
      intro K hK
      (apply x_store hF hM rfl rfl rfl; (repeat (first | exact Upd.z | apply Upd.s)); exact rfl; exact rfl; exact rfl; clear hF hM a; intro w a hM hF)
      refine hK _ _ (fun h => by cases h) ?_; clear hK
      refine t_done (by kernel_rfl) ?_
      rw [hL', hA'] at hM
      exact q_cut ⟨hF.sub (by repeat (first | exact Sub.nil | refine Sub.cons rfl (by first | with_reducible rfl | (refine congrArg (Value.int _) ?_; omega) | exact rfl) ?_)), hM⟩
  clear hF hM a
  rintro a w ⟨hF, hM⟩
  (repeat (first | (with_reducible refine w_seq ?_) | (with_reducible refine c_region ?_) | ((with_reducible apply s_load hF hM); exact rfl; exact rfl; (repeat (first | exact List.mem_cons_self | refine List.mem_cons_of_mem _ ?_)); exact rfl; exact rfl; clear hF a; intro a hF)))
  (((with_reducible apply s_call (f := 34) hF hM); exact rfl; exact rfl; exact rfl; exact rfl; exact rfl; exact (g2 hM.lt (hM.facts (RdF (Value.int .i64) p3 c.A.V) (by (repeat (first | with_reducible exact List.mem_cons_self | refine List.mem_cons_of_mem _ ?_)))) (hM.facts (RdF (Value.int .i64) p4 c.S.V) (by (repeat (first | with_reducible exact List.mem_cons_self | refine List.mem_cons_of_mem _ ?_)))) (hM.facts (RdF (Value.int .i64) aw t.W) (by (repeat (first | with_reducible exact List.mem_cons_self | refine List.mem_cons_of_mem _ ?_)))) (hM.facts (RdF (Value.int .i64) (some adc) t.C) (by (repeat (first | with_reducible exact List.mem_cons_self | refine List.mem_cons_of_mem _ ?_))))); clear hF hM a; rintro v w a rfl - hM hF))
  (repeat (first | (with_reducible refine w_seq ?_) | (with_reducible refine c_region ?_) | (with_reducible refine s_nil ?_) | (with_reducible refine q_then_n ?_) | ((with_reducible apply s_pure hF); exact rfl; exact rfl; exact rfl; (first | exact trivial | omega | exact ⟨Int.natCast_nonneg _, Int.ofNat_lt.2 (by assumption)⟩ | decide); clear hF a; intro a hF) | ((with_reducible apply s_load hF hM); exact rfl; exact rfl; (repeat (first | exact List.mem_cons_self | refine List.mem_cons_of_mem _ ?_)); exact rfl; exact rfl; clear hF a; intro a hF)))
  (((with_reducible apply s_call (f := 36) hF hM); exact rfl; exact rfl; exact rfl; exact rfl; exact rfl; exact (g3 hM.lt (hM.facts (RdF (Value.int .i64) aw t.W) (by (repeat (first | with_reducible exact List.mem_cons_self | refine List.mem_cons_of_mem _ ?_)))) (hM.facts (RdF (Value.int .i64) (some adc) t.C) (by (repeat (first | with_reducible exact List.mem_cons_self | refine List.mem_cons_of_mem _ ?_))))); clear hF hM a; rintro v w a ⟨y1, y2, y3, y4, n1, n2, n3, n4, d1, d2, d3, d4, rfl⟩ - hM hF; dsimp only at hF))
  (repeat' (first | (with_reducible refine w_seq ?_) | (with_reducible refine c_region ?_) | (with_reducible refine s_nil ?_) | ((with_reducible apply s_call (f := 15) hF hM); exact rfl; exact rfl; exact rfl; exact rfl; exact rfl; exact (awake57_c _ _ hM.lt); clear hF hM a; rintro v w a rfl - hM hF) | (with_reducible refine q_then_n ?_) | ((with_reducible apply s_pure hF); exact rfl; exact rfl; exact rfl; (first | exact trivial | omega | exact ⟨Int.natCast_nonneg _, Int.ofNat_lt.2 (by assumption)⟩ | decide); clear hF a; intro a hF) | ((with_reducible apply s_load hF hM); exact rfl; exact rfl; (repeat (first | exact List.mem_cons_self | refine List.mem_cons_of_mem _ ?_)); exact rfl; exact rfl; clear hF a; intro a hF) | ((with_reducible apply s_store hF hM); exact rfl; exact rfl; exact rfl; exact rfl; (repeat (first | exact Upd.z | apply Upd.s)); exact rfl; exact rfl; exact rfl; clear hM; intro w hM) | ((with_reducible apply s_alloc hF hM); exact rfl; exact rfl; exact rfl; clear hF hM a; intro b w a hM hF) | (with_reducible refine w_ret ?_) | ((fail_if_success ((with_reducible refine g_known true hF ?_ ?_); focus exact rfl)); (fail_if_success ((with_reducible refine g_known false hF ?_ ?_); focus exact rfl)); (with_reducible apply g_dec hF); exact rfl; exact rfl; all_goals (clear hF; intro hc hF); all_goals (try (exfalso; omega)))))
  all_goals first | (exfalso; omega) | (apply f_ret Try.results11 hF hM; (repeat (first | exact RL.nil | (apply RL.tmp; exact rfl) | (apply RL.cell; exact rfl; (repeat (first | exact List.mem_cons_self | refine List.mem_cons_of_mem _ ?_)); exact rfl))); refine Ret.mk hM.since ?_; dsimp only [resV])
end Go.Proofs.Ytabfhoipclbeeaa

