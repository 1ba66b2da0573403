/- Texts of this seat, one behind the other: Nl Nm Arn. -/
import Derived.Test.YtabfhoipclbeeaaQVCd
set_option linter.unusedSimpArgs false
set_option linter.unusedVariables false
set_option linter.unusedSectionVars false
set_option maxRecDepth 3000
/- standbytop's laws: TopCertificatesBound. -/
namespace Go.Proofs.Ytabfhoipclbeeaa
open Go.RowKit Go.Shelf C55 K57
abbrev plA (xs cs : List Int) (p l d : Int) (ax ac : Option Addr) (cx cc : Nat) : List Value := [.slice ax xs.length cx, .slice ac cs.length cc, .int .u8 p, .int .u8 l, .int .u8 d]
namespace K57
/-- Small numbers of a trace. -/
structure Sma (xs cs : List Int) (p l d : Int) : Prop where
  x : ∀ x ∈ xs, 0 ≤ x ∧ x < 256
  c : ∀ x ∈ cs, 0 ≤ x ∧ x < 256
  p : 0 ≤ p ∧ p ≤ 255
  l : 0 ≤ l ∧ l ≤ 255
  d : 0 ≤ d ∧ d ≤ 255
  lx : xs.length ≤ 1048576
  lc : cs.length ≤ 1048576
theorem Sma.ok {xs cs : List Int} {p l d : Int} (h : Sma xs cs p l d) (h1 : xs.length ≤ 24) (h2 : cs.length ≤ 12) {P : Int} (hP : 1 ≤ P ∧ P ≤ 8) : P56.Ok { pTr xs cs p l d with P := P } := by
  have hp := h.p
  have hl := h.l
  have hd := h.d
  refine ⟨by simp [pTr]; omega, by simp [pTr], by simp [pTr]; omega, ?_, ?_, hP.1, by show P ≤ _; omega, ?_, ?_, ?_, ?_⟩
  · intro z hz
    obtain ⟨y, hy, rfl⟩ := List.mem_map.1 (show z ∈ xs.map (· % 12) from hz)
    have := h.x y hy
    omega
  · intro z hz
    rcases List.mem_append.1 (show z ∈ cs.map (· % 16) ++ [p / 8 % 8 + 1] from hz) with hz | hz
    · obtain ⟨y, hy, rfl⟩ := List.mem_map.1 hz
      have := h.c y hy
      omega
    · rw [List.mem_singleton] at hz
      omega
  · show 0 ≤ l % 6; omega
  · show l % 6 ≤ _; omega
  · show 0 ≤ d % 4; omega
  · show d % 4 ≤ _; omega
theorem Sma.W (xs cs : List Int) (p l d : Int) : (pTr xs cs p l d).W.length = xs.length := by simp [pTr]
theorem Sma.C (xs cs : List Int) (p l d : Int) : (pTr xs cs p l d).C.length = cs.length + 1 := by simp [pTr]
end K57
set_option maxRecDepth 20000 in
set_option maxHeartbeats 4000000 in
theorem bound29_law (xs cs : List Int) (p l d : Int) (h : Sma xs cs p l d) (ys es : List Int) (q m n : Int) (g : Sma ys es q m n) (a1 a2 a3 a4 : Option Addr) (c1 c2 c3 c4 : Nat) (W : World)
    (h1 : Has (fun _ => False) W (RdF (Value.int .u8) a1 xs)) (h2 : Has (fun _ => False) W (RdF (Value.int .u8) a2 cs)) (h3 : Has (fun _ => False) W (RdF (Value.int .u8) a3 ys)) (h4 : Has (fun _ => False) W (RdF (Value.int .u8) a4 es)) :
    Calls Try.prog 12 ⟨[.agg ⟨plA xs cs p l d a1 a2 c1 c2⟩, .agg ⟨plA ys es q m n a3 a4 c3 c4⟩]⟩ W (Ret W fun x _ => x = .bool true) := by
  have hM := ((((Mm.start (fun _ h => h.elim)).known h1).known h2).known h3).known h4
  have e1 := fun {own W} => playTrace_c xs cs p l d h.p h.l h.d h.x h.c h.lx h.lc a1 a2 c1 c2 own W
  have e2 := fun {own W} => playTrace_c ys es q m n g.p g.l g.d g.x g.c g.lx g.lc a3 a4 c3 c4 own W
  have wT := Sma.W xs cs p l d
  have cT := Sma.C xs cs p l d
  have wU := Sma.W ys es q m n
  have cU := Sma.C ys es q m n
  have okT := fun a b c => h.ok (P := p % 8 + 1) a b c
  have okU := fun a b c => g.ok (P := p % 8 + 1) a b c
  have tP : (pTr xs cs p l d).P = p % 8 + 1 := rfl
  have hp := h.p
  obtain ⟨T, hT⟩ : ∃ T, pTr xs cs p l d = T := ⟨_, rfl⟩
  obtain ⟨U, hU⟩ : ∃ U, pTr ys es q m n = U := ⟨_, rfl⟩
  rw [hT] at e1 wT cT tP
  rw [hU] at e2 wU cU
  simp only [hT] at okT
  simp only [hU] at okU
  rw [← tP] at okT okU
  refine f_start Try.func12 rfl Try.ntmps12 rfl rfl ?_; intro a hF
  (repeat (first | (with_reducible refine w_seq ?_) | (with_reducible refine c_region ?_) | (with_reducible refine s_nil ?_) | (with_reducible refine q_then_n ?_) | ((with_reducible apply s_pure hF); exact rfl; exact rfl; exact rfl; (first | exact trivial | omega | exact ⟨Int.natCast_nonneg _, Int.ofNat_lt.2 (by assumption)⟩ | decide); clear hF a; intro a hF) | ((with_reducible apply s_load hF hM); exact rfl; exact rfl; (repeat (first | exact List.mem_cons_self | refine List.mem_cons_of_mem _ ?_)); exact rfl; exact rfl; clear hF a; intro a hF) | ((with_reducible apply s_box hF hM); exact rfl; exact rfl; exact rfl; exact rfl; clear hF hM a; intro b w a hM hF)))
  rename_i bx _
  generalize b = bY at *
  (((with_reducible apply s_call (f := 40) hF hM); exact rfl; exact rfl; exact rfl; exact rfl; exact rfl; exact (e1 hM.lt (hM.facts (RdF (Value.int .u8) a1 xs) (by (repeat (first | with_reducible exact List.mem_cons_self | refine List.mem_cons_of_mem _ ?_)))) (hM.facts (RdF (Value.int .u8) a2 cs) (by (repeat (first | with_reducible exact List.mem_cons_self | refine List.mem_cons_of_mem _ ?_))))); clear hF hM a; rintro v w a ⟨t1, u1, t2, u2, rfl, f1, f2, k1, k2⟩ - hM hF; replace hM := (hM.addFact f1).addFact f2))
  (repeat (first | (with_reducible refine w_seq ?_) | (with_reducible refine c_region ?_) | (with_reducible refine s_nil ?_) | (with_reducible refine q_then_n ?_) | ((with_reducible apply s_pure hF); exact rfl; exact rfl; exact rfl; (first | exact trivial | omega | exact ⟨Int.natCast_nonneg _, Int.ofNat_lt.2 (by assumption)⟩ | decide); clear hF a; intro a hF) | ((with_reducible apply s_load hF hM); exact rfl; exact rfl; (repeat (first | exact List.mem_cons_self | refine List.mem_cons_of_mem _ ?_)); exact rfl; exact rfl; clear hF a; intro a hF) | ((with_reducible apply s_store hF hM); exact rfl; exact rfl; exact rfl; exact rfl; (repeat (first | exact Upd.z | apply Upd.s)); exact rfl; exact rfl; exact rfl; clear hM; intro w hM) | ((with_reducible apply s_alloc hF hM); exact rfl; exact rfl; exact rfl; clear hF hM a; intro b w a hM hF)))
  generalize b = bt at *
  (((with_reducible apply s_call (f := 40) hF hM); exact rfl; exact rfl; exact rfl; exact rfl; exact rfl; exact (e2 hM.lt (hM.facts (RdF (Value.int .u8) a3 ys) (by (repeat (first | with_reducible exact List.mem_cons_self | refine List.mem_cons_of_mem _ ?_)))) (hM.facts (RdF (Value.int .u8) a4 es) (by (repeat (first | with_reducible exact List.mem_cons_self | refine List.mem_cons_of_mem _ ?_))))); clear hF hM a; rintro v w a ⟨t3, u3, t4, u4, rfl, f3, f4, k3, k4⟩ - hM hF; replace hM := (hM.addFact f3).addFact f4))
  (repeat (first | (with_reducible refine w_seq ?_) | (with_reducible refine c_region ?_) | (with_reducible refine s_nil ?_) | (with_reducible refine q_then_n ?_) | ((with_reducible apply s_pure hF); exact rfl; exact rfl; exact rfl; (first | exact trivial | omega | exact ⟨Int.natCast_nonneg _, Int.ofNat_lt.2 (by assumption)⟩ | decide); clear hF a; intro a hF) | ((with_reducible apply s_store hF hM); exact rfl; exact rfl; exact rfl; exact rfl; (repeat (first | exact Upd.z | apply Upd.s)); exact rfl; exact rfl; exact rfl; clear hM; intro w hM) | ((with_reducible apply s_alloc hF hM); exact rfl; exact rfl; exact rfl; clear hF hM a; intro b w a hM hF)))
  generalize b = bu at *
  clear e1 e2
  by_cases hs : (xs.length ≤ 24 ∧ cs.length ≤ 12) ∧ (ys.length ≤ 24 ∧ es.length ≤ 12)
  case neg =>
    (repeat' (first | (with_reducible refine w_seq ?_) | (with_reducible refine c_region ?_) | (with_reducible refine s_nil ?_) | ((with_reducible apply s_call (f := 41) hF hM); exact rfl; exact rfl; exact rfl; exact rfl; exact rfl; exact (certified_c _ _ hM.lt); clear hF hM a; rintro v w a rfl - hM hF) | (with_reducible refine q_then_n ?_) | ((with_reducible apply s_pure hF); exact rfl; exact rfl; exact rfl; (first | exact trivial | omega | exact ⟨Int.natCast_nonneg _, Int.ofNat_lt.2 (by assumption)⟩ | decide); clear hF a; intro a hF) | (with_reducible refine w_ret ?_) | (with_reducible refine q_then_r ?_) | ((with_reducible apply c_true2 hF); exact rfl; (first | with_reducible rfl | (refine congrArg Value.bool ?_; focus (simp; done)))) | ((with_reducible apply s_skip hF); exact rfl; exact rfl; clear hF a; intro a hF) | ((fail_if_success ((with_reducible refine g_known true hF ?_ ?_); focus exact rfl)); (fail_if_success ((with_reducible refine g_known false hF ?_ ?_); focus exact rfl)); (with_reducible apply g_ndec hF); exact rfl; exact rfl; all_goals (clear hF; intro hc hF); all_goals (try (exfalso; omega))) | ((with_reducible apply c_ndec hF); exact rfl; all_goals intro hc; all_goals (try (exfalso; omega)))))
    all_goals first | (exfalso; omega) | (apply f_ret Try.results12 hF hM; (repeat (first | exact RL.nil | (apply RL.tmp; exact rfl) | (apply RL.cell; exact rfl; (repeat (first | exact List.mem_cons_self | refine List.mem_cons_of_mem _ ?_)); exact rfl))); refine Ret.mk hM.since ?_; dsimp only [resV])
  obtain ⟨hs1, hs2⟩ := hs
  rw [decide_eq_true hs1, decide_eq_true hs2] at hF
  obtain ⟨hx24, hc12⟩ := hs1
  obtain ⟨hy24, hd12⟩ := hs2
  replace okT := okT hx24 hc12 (by omega)
  replace okU := okU hy24 hd12 (by omega)
  have okT' : P56.Ok T := okT
  obtain ⟨U', hU'⟩ : ∃ U' : P56.Tr, U' = { U with P := T.P } := ⟨_, rfl⟩
  rw [← hU'] at okU
  have uW : U'.W = U.W := by rw [hU']
  have uC : U'.C = U.C := by rw [hU']
  have uP : U'.P = T.P := by rw [hU']
  have uL : U'.L = U.L := by rw [hU']
  have uA : U'.A = U.A := by rw [hU']
  have e3 := fun {own W} => playCert_c T okT' (by omega) (by omega) t1 t2 u1 u2 k1 k2 own W
  have hcv : (mkV (mes T)).2 = 0 → (mkV (mes T)).1 = { mes T with B := bndV (mes T) } ∧ bndE (mes T) = 0 := by
    intro h0
    rw [mk_2] at h0
    refine ⟨?_, h0⟩
    unfold mkV
    rw [if_pos h0]
  have hzl : (mkV (mes T)).1.A.V.length ≤ 41 ∧ (mkV (mes T)).1.S.V.length ≤ 61 := by
    have q1 := mkV_A (mes T)
    have q2 := mkV_S (mes T)
    rw [show (mes T).A = wc true T.W 0 from rfl, wc_len] at q1
    rw [show (mes T).S = wc false T.C (P56.last T.C) from rfl, wc_len] at q2
    omega
  obtain ⟨z, hz⟩ : ∃ z, mkV (mes T) = z := ⟨_, rfl⟩
  rw [hz] at hcv hzl
  simp only [hz] at e3
  clear hz
  (repeat' (first | (with_reducible refine w_seq ?_) | (with_reducible refine c_region ?_) | (with_reducible refine s_nil ?_) | (with_reducible refine q_then_n ?_) | ((with_reducible apply s_pure hF); exact rfl; exact rfl; exact rfl; (first | exact trivial | omega | exact ⟨Int.natCast_nonneg _, Int.ofNat_lt.2 (by assumption)⟩ | decide); clear hF a; intro a hF) | ((with_reducible apply s_load hF hM); exact rfl; exact rfl; (repeat (first | exact List.mem_cons_self | refine List.mem_cons_of_mem _ ?_)); exact rfl; exact rfl; clear hF a; intro a hF) | (with_reducible refine w_skip ?_) | ((with_reducible apply c_false2 hF); exact rfl; (first | with_reducible rfl | (refine congrArg Value.bool ?_; focus (simp; done))))))
  (((with_reducible apply s_call (f := 42) hF hM); exact rfl; exact rfl; exact rfl; exact rfl; exact rfl; exact (e3 hM.lt (hM.facts (RdF (Value.int .i64) t1 T.W) (by (repeat (first | with_reducible exact List.mem_cons_self | refine List.mem_cons_of_mem _ ?_)))) (hM.facts (RdF (Value.int .i64) t2 T.C) (by (repeat (first | with_reducible exact List.mem_cons_self | refine List.mem_cons_of_mem _ ?_))))); clear hF hM a; rintro v w a ⟨p1, r1, p2, r2, rfl, f5, f6, k5, k6⟩ - hM hF; replace hM := (hM.addFact f5).addFact f6))
  (repeat (first | (with_reducible refine w_seq ?_) | (with_reducible refine c_region ?_) | (with_reducible refine s_nil ?_) | (with_reducible refine q_then_n ?_) | ((with_reducible apply s_pure hF); exact rfl; exact rfl; exact rfl; (first | exact trivial | omega | exact ⟨Int.natCast_nonneg _, Int.ofNat_lt.2 (by assumption)⟩ | decide); clear hF a; intro a hF) | ((with_reducible apply s_store hF hM); exact rfl; exact rfl; exact rfl; exact rfl; (repeat (first | exact Upd.z | apply Upd.s)); exact rfl; exact rfl; exact rfl; clear hM; intro w hM) | ((with_reducible apply s_alloc hF hM); exact rfl; exact rfl; exact rfl; clear hF hM a; intro b w a hM hF) | (with_reducible refine w_skip ?_) | ((with_reducible apply c_false2 hF); exact rfl; (first | with_reducible rfl | (refine congrArg Value.bool ?_; focus (simp; done))))))
  generalize b = bc at *
  clear e3
  by_cases hz2 : z.2 = 0
  case neg =>
    rw [decide_eq_false hz2] at hF
    (repeat' (first | (with_reducible refine w_seq ?_) | (with_reducible refine c_region ?_) | (with_reducible refine s_nil ?_) | ((with_reducible apply s_call (f := 41) hF hM); exact rfl; exact rfl; exact rfl; exact rfl; exact rfl; exact (certified_c _ _ hM.lt); clear hF hM a; rintro v w a rfl - hM hF) | (with_reducible refine q_then_n ?_) | ((with_reducible apply s_pure hF); exact rfl; exact rfl; exact rfl; (first | exact trivial | omega | exact ⟨Int.natCast_nonneg _, Int.ofNat_lt.2 (by assumption)⟩ | decide); clear hF a; intro a hF) | (with_reducible refine w_ret ?_) | (with_reducible refine q_then_r ?_) | ((with_reducible apply c_true2 hF); exact rfl; (first | with_reducible rfl | (refine congrArg Value.bool ?_; focus (simp; done))))))
    all_goals first | (exfalso; omega) | (apply f_ret Try.results12 hF hM; (repeat (first | exact RL.nil | (apply RL.tmp; exact rfl) | (apply RL.cell; exact rfl; (repeat (first | exact List.mem_cons_self | refine List.mem_cons_of_mem _ ?_)); exact rfl))); refine Ret.mk hM.since ?_; dsimp only [resV])
  rw [decide_eq_true hz2] at hF
  obtain ⟨hc1, hc2⟩ := hcv hz2
  obtain ⟨hzA, hzS⟩ := hzl
  have q0 : covE z.1 T = 0 ∧ covV z.1 T = true := mes_cov okT' (by omega) (by omega) hc1 hc2 okT'.l0 (Int.le_refl _) okT'.a0 (Int.le_refl _)
  obtain ⟨c, hc⟩ : ∃ c, z.1 = c := ⟨_, rfl⟩
  rw [hc] at hF hM k5 k6 hzA hzS q0
  clear hc hc1 hc2 hcv f1 f2 f3 f4 f5 f6
  have hTL : T.L ≤ 5 := by rw [← hT]; show l % 6 ≤ 5; omega
  have hTA : T.A ≤ 3 := by rw [← hT]; show d % 4 ≤ 3; omega
  have hUL : U'.L ≤ 5 := by rw [uL, ← hU]; show m % 6 ≤ 5; omega
  have hUA : U'.A ≤ 3 := by rw [uA, ← hU]; show n % 4 ≤ 3; omega
  obtain ⟨hB0, D, hpl, hbd⟩ := plays_of q0.1 q0.2 (by omega) (by omega) (by omega) (by omega)
  have g1 := fun {own W} => covers_c c p1 p2 r1 r2 (by omega) k5 (by omega) k6 T t1 t2 u1 u2 (by omega) k1 (by omega) k2 own W
  rw [q0.1, q0.2] at g1
  have g2 := fun {own W} => greatest_c T D hpl t1 t2 u1 u2 own W
  have hEU : covE c U' = 0 := by
    have := q0.1
    unfold covE at this ⊢
    have := P56.check_ok.2 okU
    split at * <;> omega
  have g3 := fun {own W} => covers_c c p1 p2 r1 r2 (by omega) k5 (by omega) k6 U' t3 t4 u3 u4 (by rw [uW]; omega) (by rw [uW]; omega) (by rw [uC]; omega) (by rw [uC]; omega) own W
  rw [hEU] at g3
  have eU : trL U' t3 u3 t4 u4 = [.slice t3 U.W.length u3, .slice t4 U.C.length u4, .int .i64 T.P, .int .i64 U.L, .int .i64 U.A] := by unfold trL; rw [uW, uC, uP, uL, uA]
  have g4 : covV c U' = true → ∀ {own W}, (∀ b, own b → b < W.heap.size) → Has own W (RdF (Value.int .i64) t3 U.W) → Has own W (RdF (Value.int .i64) t4 U.C) → Calls Try.prog 43 ⟨[.agg ⟨[.slice t3 U.W.length u3, .slice t4 U.C.length u4, .int .i64 T.P, .int .i64 U.L, .int .i64 U.A]⟩]⟩ W (Ret W fun v _ => ∃ g : Int, v = .int .i64 g ∧ g ≤ c.B) := by
    intro hv own W h1 h2 h3
    obtain ⟨-, D2, hpl2, hbd2⟩ := plays_of hEU hv (by rw [uW]; omega) (by omega) (by omega) (by omega)
    have := greatest_c U' D2 hpl2 t3 t4 u3 u4 own W h1 (by rw [uW]; exact h2) (by rw [uC]; exact h3)
    rw [eU] at this
    refine this.mono ?_
    rintro e w' ⟨v, rfl, hs, g, rfl, -, -, -, hg⟩
    exact ⟨_, rfl, hs, g, rfl, hg c.B hB0 fun k _ => hbd2 k⟩
  rw [eU, uW, uC] at g3
  clear eU hU'
  (repeat' (first | (with_reducible refine w_seq ?_) | (with_reducible refine c_region ?_) | (with_reducible refine q_then_n ?_) | ((with_reducible apply s_load hF hM); exact rfl; exact rfl; (repeat (first | exact List.mem_cons_self | refine List.mem_cons_of_mem _ ?_)); exact rfl; exact rfl; clear hF a; intro a hF) | (with_reducible refine w_skip ?_) | ((with_reducible apply c_false2 hF); exact rfl; (first | with_reducible rfl | (refine congrArg Value.bool ?_; focus (simp; done))))))
  (((with_reducible apply s_call (f := 34) hF hM); exact rfl; exact rfl; exact rfl; exact rfl; exact rfl; exact (g1 hM.lt (hM.facts (RdF (Value.int .i64) p1 c.A.V) (by (repeat (first | with_reducible exact List.mem_cons_self | refine List.mem_cons_of_mem _ ?_)))) (hM.facts (RdF (Value.int .i64) p2 c.S.V) (by (repeat (first | with_reducible exact List.mem_cons_self | refine List.mem_cons_of_mem _ ?_)))) (hM.facts (RdF (Value.int .i64) t1 T.W) (by (repeat (first | with_reducible exact List.mem_cons_self | refine List.mem_cons_of_mem _ ?_)))) (hM.facts (RdF (Value.int .i64) t2 T.C) (by (repeat (first | with_reducible exact List.mem_cons_self | refine List.mem_cons_of_mem _ ?_))))); clear hF hM a; rintro v w a rfl - hM hF))
  (repeat (first | (with_reducible refine w_seq ?_) | (with_reducible refine s_nil ?_) | (with_reducible refine q_then_n ?_) | ((with_reducible apply s_pure hF); exact rfl; exact rfl; exact rfl; (first | exact trivial | omega | exact ⟨Int.natCast_nonneg _, Int.ofNat_lt.2 (by assumption)⟩ | decide); clear hF a; intro a hF)))
  refine c_draw (fun i => Nat.ble 13 i) hM ?_; clear hM; intro w hM
  (first | (refine t_pure (i := 0) hF rfl rfl rfl rfl (by kernel_rfl) hM.sm (fun _ _ _ h => h) ?_ ?_; (first | exact trivial | omega | decide); clear hF a; intro a hF))
  (first | (refine t_pure (i := 1) hF rfl rfl rfl rfl (by kernel_rfl) hM.sm (fun _ _ _ h => h) ?_ ?_; (first | exact trivial | omega | decide); clear hF a; intro a hF))
  (first | (refine t_pure (i := 2) hF rfl rfl rfl rfl (by kernel_rfl) hM.sm (fun _ _ _ h => h) ?_ ?_; (first | exact trivial | omega | decide); clear hF a; intro a hF))
  (first | (refine t_pure (i := 3) hF rfl rfl rfl rfl (by kernel_rfl) hM.sm (fun _ _ _ h => h) ?_ ?_; (first | exact trivial | omega | decide); clear hF a; intro a hF))
  (first | (refine t_pure (i := 4) hF rfl rfl rfl rfl (by kernel_rfl) hM.sm (fun _ _ _ h => h) ?_ ?_; (first | exact trivial | omega | decide); clear hF a; intro a hF))
  (first | (refine t_pure (i := 5) hF rfl rfl rfl rfl (by kernel_rfl) hM.sm (fun _ _ _ h => h) ?_ ?_; (first | exact trivial | omega | decide); clear hF a; intro a hF))
  (first | (refine t_pure (i := 6) hF rfl rfl rfl rfl (by kernel_rfl) hM.sm (fun _ _ _ h => h) ?_ ?_; (first | exact trivial | omega | decide); clear hF a; intro a hF))
  (first | (apply t_load (i := 7) hF rfl rfl rfl; (repeat (first | exact List.mem_cons_self | refine List.mem_cons_of_mem _ ?_)); exact rfl; exact rfl; kernel_rfl; exact hM.sm; exact (fun _ _ _ h => h); clear hF a; intro a hF))
  (first | (refine t_pure (i := 9) hF rfl rfl rfl rfl (by kernel_rfl) hM.sm (fun _ _ _ h => h) ?_ ?_; (first | exact trivial | omega | decide); clear hF a; intro a hF))
  (first | (apply t_load (i := 10) hF rfl rfl rfl; (repeat (first | exact List.mem_cons_self | refine List.mem_cons_of_mem _ ?_)); exact rfl; exact rfl; kernel_rfl; exact hM.sm; exact (fun _ _ _ h => h); clear hF a; intro a hF))
  refine t_one (i := 8) hF rfl (by kernel_rfl) rfl ?_
  intro K hK
  (apply x_call hF hM; exact rfl; exact rfl; exact rfl; exact rfl; exact (g2 hM.lt (hM.facts (RdF (Value.int .i64) t1 T.W) (by (repeat (first | with_reducible exact List.mem_cons_self | refine List.mem_cons_of_mem _ ?_)))) (hM.facts (RdF (Value.int .i64) t2 T.C) (by (repeat (first | with_reducible exact List.mem_cons_self | refine List.mem_cons_of_mem _ ?_))))); clear hF hM a; rintro v w a ⟨v1, rfl, hv0, hv1, hv2, hv3⟩ - hM hF)
  refine hK _ _ (fun _ => hM.sm) ?_; clear hK
  (first | (refine t_pure (i := 11) hF rfl rfl rfl rfl (by kernel_rfl) hM.sm (fun _ _ _ h => h) ?_ ?_; (first | exact trivial | omega | decide); clear hF a; intro a hF))
  (first | (refine t_pure (i := 12) hF rfl rfl rfl rfl (by kernel_rfl) hM.sm (fun _ _ _ h => h) ?_ ?_; (first | exact trivial | omega | decide); clear hF a; intro a hF))
  refine t_done (by kernel_rfl) ?_
  have hvB := hv3 c.B hB0 fun k _ => hbd k
  (repeat' (first | (with_reducible refine w_seq ?_) | (with_reducible refine c_region ?_) | (with_reducible refine s_nil ?_) | (with_reducible refine q_then_n ?_) | ((with_reducible apply s_pure hF); exact rfl; exact rfl; exact rfl; (first | exact trivial | omega | exact ⟨Int.natCast_nonneg _, Int.ofNat_lt.2 (by assumption)⟩ | decide); clear hF a; intro a hF) | ((with_reducible apply s_load hF hM); exact rfl; exact rfl; (repeat (first | exact List.mem_cons_self | refine List.mem_cons_of_mem _ ?_)); exact rfl; exact rfl; clear hF a; intro a hF) | ((with_reducible apply s_store hF hM); exact rfl; exact rfl; exact rfl; exact rfl; (repeat (first | exact Upd.z | apply Upd.s)); exact rfl; exact rfl; exact rfl; clear hM; intro w hM) | (with_reducible refine w_skip ?_) | ((with_reducible apply c_dec hF); exact rfl; all_goals intro hc; all_goals (try (exfalso; omega)))))
  cases hV : covV c U' with
  | true =>
    replace g4 := fun {own W} => g4 hV (own := own) (W := W)
    rw [hV] at g3
    (((with_reducible apply s_call (f := 34) hF hM); exact rfl; exact rfl; exact rfl; exact rfl; exact rfl; exact (g3 hM.lt (hM.facts (RdF (Value.int .i64) p1 c.A.V) (by (repeat (first | with_reducible exact List.mem_cons_self | refine List.mem_cons_of_mem _ ?_)))) (hM.facts (RdF (Value.int .i64) p2 c.S.V) (by (repeat (first | with_reducible exact List.mem_cons_self | refine List.mem_cons_of_mem _ ?_)))) (hM.facts (RdF (Value.int .i64) t3 U.W) (by (repeat (first | with_reducible exact List.mem_cons_self | refine List.mem_cons_of_mem _ ?_)))) (hM.facts (RdF (Value.int .i64) t4 U.C) (by (repeat (first | with_reducible exact List.mem_cons_self | refine List.mem_cons_of_mem _ ?_))))); clear hF hM a; rintro v w a rfl - hM hF))
    (repeat' (first | (with_reducible refine w_seq ?_) | (with_reducible refine s_nil ?_) | (with_reducible refine q_then_n ?_) | ((with_reducible apply s_pure hF); exact rfl; exact rfl; exact rfl; (first | exact trivial | omega | exact ⟨Int.natCast_nonneg _, Int.ofNat_lt.2 (by assumption)⟩ | decide); clear hF a; intro a hF)))
    refine c_draw (fun i => Nat.ble 17 i) hM ?_; clear hM; intro w hM
    (first | (refine t_pure (i := 0) hF rfl rfl rfl rfl (by kernel_rfl) hM.sm (fun _ _ _ h => h) ?_ ?_; (first | exact trivial | omega | decide); clear hF a; intro a hF))
    (first | (refine t_pure (i := 1) hF rfl rfl rfl rfl (by kernel_rfl) hM.sm (fun _ _ _ h => h) ?_ ?_; (first | exact trivial | omega | decide); clear hF a; intro a hF))
    (first | (refine t_pure (i := 2) hF rfl rfl rfl rfl (by kernel_rfl) hM.sm (fun _ _ _ h => h) ?_ ?_; (first | exact trivial | omega | decide); clear hF a; intro a hF))
    (first | (refine t_pure (i := 3) hF rfl rfl rfl rfl (by kernel_rfl) hM.sm (fun _ _ _ h => h) ?_ ?_; (first | exact trivial | omega | decide); clear hF a; intro a hF))
    (first | (refine t_pure (i := 4) hF rfl rfl rfl rfl (by kernel_rfl) hM.sm (fun _ _ _ h => h) ?_ ?_; (first | exact trivial | omega | decide); clear hF a; intro a hF))
    (first | (refine t_pure (i := 5) hF rfl rfl rfl rfl (by kernel_rfl) hM.sm (fun _ _ _ h => h) ?_ ?_; (first | exact trivial | omega | decide); clear hF a; intro a hF))
    (first | (apply t_load (i := 6) hF rfl rfl rfl; (repeat (first | exact List.mem_cons_self | refine List.mem_cons_of_mem _ ?_)); exact rfl; exact rfl; kernel_rfl; exact hM.sm; exact (fun _ _ _ h => h); clear hF a; intro a hF))
    (first | (refine t_pure (i := 8) hF rfl rfl rfl rfl (by kernel_rfl) hM.sm (fun _ _ _ h => h) ?_ ?_; (first | exact trivial | omega | decide); clear hF a; intro a hF))
    (first | (apply t_load (i := 9) hF rfl rfl rfl; (repeat (first | exact List.mem_cons_self | refine List.mem_cons_of_mem _ ?_)); exact rfl; exact rfl; kernel_rfl; exact hM.sm; exact (fun _ _ _ h => h); clear hF a; intro a hF))
    refine t_one (i := 7) hF rfl (by kernel_rfl) rfl ?_
    intro K hK
    (apply x_call hF hM; exact rfl; exact rfl; exact rfl; exact rfl; exact (g4 hM.lt (hM.facts (RdF (Value.int .i64) t3 U.W) (by (repeat (first | with_reducible exact List.mem_cons_self | refine List.mem_cons_of_mem _ ?_)))) (hM.facts (RdF (Value.int .i64) t4 U.C) (by (repeat (first | with_reducible exact List.mem_cons_self | refine List.mem_cons_of_mem _ ?_))))); clear hF hM a; rintro v w a ⟨v2, rfl, hw⟩ - hM hF)
    refine hK _ _ (fun _ => hM.sm) ?_; clear hK
    (first | (refine t_pure (i := 10) hF rfl rfl rfl rfl (by kernel_rfl) hM.sm (fun _ _ _ h => h) ?_ ?_; (first | exact trivial | omega | decide); clear hF a; intro a hF))
    rw [decide_eq_true hw] at hF
    (first | (refine t_pure (i := 11) hF rfl rfl rfl rfl (by kernel_rfl) (hM.sm.sub (fun x hx => by repeat (first | exact hx | refine List.mem_cons_of_mem _ ?_)) (fun _ h => by repeat (first | exact h | refine List.mem_cons_of_mem _ ?_))) (fun _ _ _ h => h) ?_ ?_; (first | exact trivial | omega | decide); clear hF a; intro a hF))
    (first | (refine t_pure (i := 12) hF rfl rfl rfl rfl (by kernel_rfl) (hM.sm.sub (fun x hx => by repeat (first | exact hx | refine List.mem_cons_of_mem _ ?_)) (fun _ h => by repeat (first | exact h | refine List.mem_cons_of_mem _ ?_))) (fun _ _ _ h => h) ?_ ?_; (first | exact trivial | omega | decide); clear hF a; intro a hF))
    (first | (refine t_pure (i := 13) hF rfl rfl rfl rfl (by kernel_rfl) (hM.sm.sub (fun x hx => by repeat (first | exact hx | refine List.mem_cons_of_mem _ ?_)) (fun _ h => by repeat (first | exact h | refine List.mem_cons_of_mem _ ?_))) (fun _ _ _ h => h) ?_ ?_; (first | exact trivial | omega | decide); clear hF a; intro a hF))
    refine t_one (i := 14) hF rfl (by kernel_rfl) rfl ?_
    intro K hK
    (apply x_call hF hM; exact rfl; exact rfl; exact rfl; exact rfl; exact (certified_c _ _ hM.lt); clear hF hM a; rintro v w a rfl - hM hF)
    refine hK _ _ (fun _ => (hM.sm.sub (fun x hx => by repeat (first | exact hx | refine List.mem_cons_of_mem _ ?_)) (fun _ h => by repeat (first | exact h | refine List.mem_cons_of_mem _ ?_)))) ?_; clear hK
    (first | (refine t_pure (i := 15) hF rfl rfl rfl rfl (by kernel_rfl) (hM.sm.sub (fun x hx => by repeat (first | exact hx | refine List.mem_cons_of_mem _ ?_)) (fun _ h => by repeat (first | exact h | refine List.mem_cons_of_mem _ ?_))) (fun _ _ _ h => h) ?_ ?_; (first | exact trivial | omega | decide); clear hF a; intro a hF))
    (first | (refine t_pure (i := 16) hF rfl rfl rfl rfl (by kernel_rfl) (hM.sm.sub (fun x hx => by repeat (first | exact hx | refine List.mem_cons_of_mem _ ?_)) (fun _ h => by repeat (first | exact h | refine List.mem_cons_of_mem _ ?_))) (fun _ _ _ h => h) ?_ ?_; (first | exact trivial | omega | decide); clear hF a; intro a hF))
    refine t_done (by kernel_rfl) ?_
    (repeat (first | (with_reducible refine q_then_n ?_) | (with_reducible refine w_ret ?_)))
    (apply f_ret Try.results12 hF hM; (repeat (first | exact RL.nil | (apply RL.tmp; exact rfl) | (apply RL.cell; exact rfl; (repeat (first | exact List.mem_cons_self | refine List.mem_cons_of_mem _ ?_)); exact rfl))); refine Ret.mk hM.since ?_; dsimp only [resV])
  | false =>
    clear g4
    rw [hV] at g3
    (((with_reducible apply s_call (f := 34) hF hM); exact rfl; exact rfl; exact rfl; exact rfl; exact rfl; exact (g3 hM.lt (hM.facts (RdF (Value.int .i64) p1 c.A.V) (by (repeat (first | with_reducible exact List.mem_cons_self | refine List.mem_cons_of_mem _ ?_)))) (hM.facts (RdF (Value.int .i64) p2 c.S.V) (by (repeat (first | with_reducible exact List.mem_cons_self | refine List.mem_cons_of_mem _ ?_)))) (hM.facts (RdF (Value.int .i64) t3 U.W) (by (repeat (first | with_reducible exact List.mem_cons_self | refine List.mem_cons_of_mem _ ?_)))) (hM.facts (RdF (Value.int .i64) t4 U.C) (by (repeat (first | with_reducible exact List.mem_cons_self | refine List.mem_cons_of_mem _ ?_))))); clear hF hM a; rintro v w a rfl - hM hF))
    (repeat' (first | (with_reducible refine w_seq ?_) | (with_reducible refine s_nil ?_) | (with_reducible refine q_then_n ?_) | ((with_reducible apply s_pure hF); exact rfl; exact rfl; exact rfl; (first | exact trivial | omega | exact ⟨Int.natCast_nonneg _, Int.ofNat_lt.2 (by assumption)⟩ | decide); clear hF a; intro a hF)))
    refine c_draw (fun i => Nat.ble 17 i) hM ?_; clear hM; intro w hM
    (first | (refine t_pure (i := 0) hF rfl rfl rfl rfl (by kernel_rfl) hM.sm (fun _ _ _ h => h) ?_ ?_; (first | exact trivial | omega | decide); clear hF a; intro a hF))
    (first | (refine t_pure (i := 1) hF rfl rfl rfl rfl (by kernel_rfl) hM.sm (fun _ _ _ h => h) ?_ ?_; (first | exact trivial | omega | decide); clear hF a; intro a hF))
    (first | (refine t_pure (i := 2) hF rfl rfl rfl rfl (by kernel_rfl) hM.sm (fun _ _ _ h => h) ?_ ?_; (first | exact trivial | omega | decide); clear hF a; intro a hF))
    (first | (refine t_pure (i := 3) hF rfl rfl rfl rfl (by kernel_rfl) hM.sm (fun _ _ _ h => h) ?_ ?_; (first | exact trivial | omega | decide); clear hF a; intro a hF))
    (first | (refine t_pure (i := 4) hF rfl rfl rfl rfl (by kernel_rfl) hM.sm (fun _ _ _ h => h) ?_ ?_; (first | exact trivial | omega | decide); clear hF a; intro a hF))
    (first | (refine t_pure (i := 5) hF rfl rfl rfl rfl (by kernel_rfl) hM.sm (fun _ _ _ h => h) ?_ ?_; (first | exact trivial | omega | decide); clear hF a; intro a hF))
    (first | (refine t_skip (i := 6) hF rfl rfl rfl (by kernel_rfl) hM.sm (fun _ _ _ h => h) ?_; clear hF a; intro a hF))
    (refine t_skip (i := 7) hF rfl rfl rfl (by kernel_rfl) hM.sm (fun _ _ _ h => h) ?_; clear hF a; intro a hF)
    (first | (refine t_skip (i := 8) hF rfl rfl rfl (by kernel_rfl) hM.sm (fun _ _ _ h => h) ?_; clear hF a; intro a hF))
    (first | (refine t_skip (i := 9) hF rfl rfl rfl (by kernel_rfl) hM.sm (fun _ _ _ h => h) ?_; clear hF a; intro a hF))
    (first | (refine t_skip (i := 10) hF rfl rfl rfl (by kernel_rfl) hM.sm (fun _ _ _ h => h) ?_; clear hF a; intro a hF))
    (first | (refine t_pure (i := 11) hF rfl rfl rfl rfl (by kernel_rfl) hM.sm (fun _ _ _ h => h) ?_ ?_; (first | exact trivial | omega | decide); clear hF a; intro a hF))
    (first | (refine t_pure (i := 12) hF rfl rfl rfl rfl (by kernel_rfl) hM.sm (fun _ _ _ h => h) ?_ ?_; (first | exact trivial | omega | decide); clear hF a; intro a hF))
    (first | (refine t_pure (i := 13) hF rfl rfl rfl rfl (by kernel_rfl) hM.sm (fun _ _ _ h => h) ?_ ?_; (first | exact trivial | omega | decide); clear hF a; intro a hF))
    refine t_one (i := 14) hF rfl (by kernel_rfl) rfl ?_
    intro K hK
    (apply x_call hF hM; exact rfl; exact rfl; exact rfl; exact rfl; exact (certified_c _ _ hM.lt); clear hF hM a; rintro v w a rfl - hM hF)
    refine hK _ _ (fun _ => hM.sm) ?_; clear hK
    (first | (refine t_pure (i := 15) hF rfl rfl rfl rfl (by kernel_rfl) hM.sm (fun _ _ _ h => h) ?_ ?_; (first | exact trivial | omega | decide); clear hF a; intro a hF))
    (first | (refine t_pure (i := 16) hF rfl rfl rfl rfl (by kernel_rfl) hM.sm (fun _ _ _ h => h) ?_ ?_; (first | exact trivial | omega | decide); clear hF a; intro a hF))
    refine t_done (by kernel_rfl) ?_
    (repeat (first | (with_reducible refine q_then_n ?_) | (with_reducible refine w_ret ?_)))
    (apply f_ret Try.results12 hF hM; (repeat (first | exact RL.nil | (apply RL.tmp; exact rfl) | (apply RL.cell; exact rfl; (repeat (first | exact List.mem_cons_self | refine List.mem_cons_of_mem _ ?_)); exact rfl))); refine Ret.mk hM.since ?_; dsimp only [resV])
end Go.Proofs.Ytabfhoipclbeeaa


/- standbytop's laws: TopCertificatesReached. -/
namespace Go.Proofs.Ytabfhoipclbeeaa
open Go.RowKit Go.Shelf C55 K57
namespace K57
/-- The first image of the worst trace becomes as old as the bound. -/
theorem wrs_first {c : Ce} {n : Int} (h : wrsE c n = 0) : P56.ap (wrsT c n.toNat) 0 - 1 = c.B ∧ 0 < P56.cycles (wrsT c n.toNat) := by
  obtain ⟨hc, hn, hn2, hl⟩ := wrsE_ok h
  obtain ⟨hb, hB⟩ := chk_bok hc
  have hp := hb.num
  obtain ⟨m, hm⟩ : ∃ m : Nat, n = m := ⟨n.toNat, by omega⟩
  subst hm
  rw [Int.toNat_natCast]
  have okt := wrs_ok (n := m) hb (by omega) hl
  obtain ⟨d, hd, hd1, hd2⟩ := tr_nat hb
  have hA0 := vl_0 hb.A hb.sub
  have hS0 := vl_0 hb.S hb.sup
  have hP : (wrsT c m).P.toNat = c.P.toNat := rfl
  have hsz : P56.size (wrsT c m) 0 = most c := by
    rw [size_win, hP, Nat.zero_mul]
    show win (tab (gr c.A) m) 0 0 c.P.toNat = _
    unfold win
    rw [up_zero, Nat.zero_add, up_W hA0, show min c.P.toNat m = c.P.toNat by omega]
    unfold most
    omega
  have hcar : ∀ x, P56.carr (wrsT c m).C x = wF c.S c.P.toNat x := by
    intro x
    have hlast : P56.last (wrsT c m).C = c.S.S := last_C hb.S _
    have : P56.carr (wrsT c m).C x = up (wrsT c m).C (P56.last (wrsT c m).C) x := rfl
    rw [this, hlast]
    exact up_C hb.S hS0 _ x
  have hend : P56.IsEnd (wrsT c m).C c.P.toNat (most c) (c.P.toNat + d) := by
    refine ⟨by omega, ?_, fun x h1 h2 => ?_⟩
    · rw [hcar, hcar]
      unfold wF
      rw [Nat.min_self, Nat.sub_self, hS0, show min (c.P.toNat + d) c.P.toNat = c.P.toNat by omega, show c.P.toNat + d - c.P.toNat = d by omega]
      omega
    · have := hd2 (x - c.P.toNat) (by omega)
      rw [hcar, hcar]
      unfold wF
      rw [Nat.min_self, Nat.sub_self, hS0, show min x c.P.toNat = c.P.toNat by omega]
      omega
  have hen : P56.en (wrsT c m) 1 = c.P.toNat + d := by
    have hf := P56.finish_of_isEnd okt.c hend
    unfold P56.en P56.endOf P56.endOf
    rw [Option.bind_some, hP, hsz, show max ((0 + 1) * c.P.toNat) 0 = c.P.toNat by omega, hf]
    rfl
  have hap : P56.ap (wrsT c m) 0 = (c.P.toNat : Int) + d + c.L + c.D := by
    unfold P56.ap
    rw [hen]
    show ((c.P.toNat + d : Nat) : Int) + c.L + c.D = _
    omega
  have hcy : 1 ≤ P56.cycles (wrsT c m) := by
    unfold P56.cycles
    rw [wrsT_W, hP]
    exact (Nat.le_div_iff_mul_le (by omega)).2 (by omega)
  unfold bndV at hB
  omega
theorem chk_is {c : Ce} (h : chkE c = 0) (z : Int) : chkE { c with B := z } = 0 ↔ z = c.B := by
  obtain ⟨hb, hB⟩ := chk_bok h
  have e1 : bndE { c with B := z } = bndE c := rfl
  have e2 : bndV { c with B := z } = bndV c := rfl
  unfold chkE
  rw [e1, e2, bnd_ok.2 hb, if_neg (by decide)]
  show (if bndV c = z then (0 : Int) else 22) = 0 ↔ _
  split <;> omega
end K57
set_option maxRecDepth 20000 in
set_option maxHeartbeats 4000000 in
theorem reached29_law (xs cs : List Int) (p l d : Int) (h : Sma xs cs p l d) (x y : Int) (hx : 0 ≤ x ∧ x ≤ 255) (hy : 0 ≤ y ∧ y ≤ 255) (a1 a2 : Option Addr) (c1 c2 : Nat) (W : World)
    (h1 : Has (fun _ => False) W (RdF (Value.int .u8) a1 xs)) (h2 : Has (fun _ => False) W (RdF (Value.int .u8) a2 cs)) :
    Calls Try.prog 13 ⟨[.agg ⟨plA xs cs p l d a1 a2 c1 c2⟩, .int .u8 x, .int .u8 y]⟩ W (Ret W fun x _ => x = .bool true) := by
  have hM := ((Mm.start (fun _ h => h.elim)).known h1).known h2
  have e1 := fun {own W} => playTrace_c xs cs p l d h.p h.l h.d h.x h.c h.lx h.lc a1 a2 c1 c2 own W
  have wT := Sma.W xs cs p l d
  have cT := Sma.C xs cs p l d
  have okT := fun a b c => h.ok (P := p % 8 + 1) a b c
  have tP : (pTr xs cs p l d).P = p % 8 + 1 := rfl
  have hp := h.p
  obtain ⟨T, hT⟩ : ∃ T, pTr xs cs p l d = T := ⟨_, rfl⟩
  rw [hT] at e1 wT cT tP
  simp only [hT] at okT
  rw [← tP] at okT
  refine f_start Try.func13 rfl Try.ntmps13 rfl rfl ?_; intro a hF
  (repeat (first | (with_reducible refine w_seq ?_) | (with_reducible refine c_region ?_) | (with_reducible refine s_nil ?_) | (with_reducible refine q_then_n ?_) | ((with_reducible apply s_pure hF); exact rfl; exact rfl; exact rfl; (first | exact trivial | omega | exact ⟨Int.natCast_nonneg _, Int.ofNat_lt.2 (by assumption)⟩ | decide); clear hF a; intro a hF) | ((with_reducible apply s_load hF hM); exact rfl; exact rfl; (repeat (first | exact List.mem_cons_self | refine List.mem_cons_of_mem _ ?_)); exact rfl; exact rfl; clear hF a; intro a hF) | ((with_reducible apply s_box hF hM); exact rfl; exact rfl; exact rfl; exact rfl; clear hF hM a; intro b w a hM hF)))
  generalize b = bx at *
  (((with_reducible apply s_call (f := 40) hF hM); exact rfl; exact rfl; exact rfl; exact rfl; exact rfl; exact (e1 hM.lt (hM.facts (RdF (Value.int .u8) a1 xs) (by (repeat (first | with_reducible exact List.mem_cons_self | refine List.mem_cons_of_mem _ ?_)))) (hM.facts (RdF (Value.int .u8) a2 cs) (by (repeat (first | with_reducible exact List.mem_cons_self | refine List.mem_cons_of_mem _ ?_))))); clear hF hM a; rintro v w a ⟨t1, u1, t2, u2, rfl, f1, f2, k1, k2⟩ - hM hF; replace hM := (hM.addFact f1).addFact f2))
  (repeat (first | (with_reducible refine w_seq ?_) | (with_reducible refine c_region ?_) | (with_reducible refine s_nil ?_) | (with_reducible refine q_then_n ?_) | ((with_reducible apply s_pure hF); exact rfl; exact rfl; exact rfl; (first | exact trivial | omega | exact ⟨Int.natCast_nonneg _, Int.ofNat_lt.2 (by assumption)⟩ | decide); clear hF a; intro a hF) | ((with_reducible apply s_store hF hM); exact rfl; exact rfl; exact rfl; exact rfl; (repeat (first | exact Upd.z | apply Upd.s)); exact rfl; exact rfl; exact rfl; clear hM; intro w hM) | ((with_reducible apply s_alloc hF hM); exact rfl; exact rfl; exact rfl; clear hF hM a; intro b w a hM hF)))
  generalize b = bt at *
  clear e1
  by_cases hs : xs.length ≤ 24 ∧ cs.length ≤ 12
  case neg =>
    rw [decide_eq_false hs] at hF
    (repeat' (first | (with_reducible refine w_seq ?_) | (with_reducible refine c_region ?_) | (with_reducible refine s_nil ?_) | ((with_reducible apply s_call (f := 41) hF hM); exact rfl; exact rfl; exact rfl; exact rfl; exact rfl; exact (certified_c _ _ hM.lt); clear hF hM a; rintro v w a rfl - hM hF) | (with_reducible refine q_then_n ?_) | ((with_reducible apply s_pure hF); exact rfl; exact rfl; exact rfl; (first | exact trivial | omega | exact ⟨Int.natCast_nonneg _, Int.ofNat_lt.2 (by assumption)⟩ | decide); clear hF a; intro a hF) | (with_reducible refine w_ret ?_) | (with_reducible refine q_then_r ?_) | ((with_reducible apply c_true2 hF); exact rfl; (first | with_reducible rfl | (refine congrArg Value.bool ?_; focus (simp; done))))))
    all_goals first | (exfalso; omega) | (apply f_ret Try.results13 hF hM; (repeat (first | exact RL.nil | (apply RL.tmp; exact rfl) | (apply RL.cell; exact rfl; (repeat (first | exact List.mem_cons_self | refine List.mem_cons_of_mem _ ?_)); exact rfl))); refine Ret.mk hM.since ?_; dsimp only [resV])
  rw [decide_eq_true hs] at hF
  obtain ⟨hx24, hc12⟩ := hs
  have okT' : P56.Ok T := okT hx24 hc12 (by omega)
  have e3 := fun {own W} => playCert_c T okT' (by omega) (by omega) t1 t2 u1 u2 k1 k2 own W
  have hcv : (mkV (mes T)).2 = 0 → (mkV (mes T)).1 = { mes T with B := bndV (mes T) } ∧ bndE (mes T) = 0 := by
    intro h0
    rw [mk_2] at h0
    refine ⟨?_, h0⟩
    unfold mkV
    rw [if_pos h0]
  have hzl : (mkV (mes T)).1.A.V.length ≤ 41 ∧ (mkV (mes T)).1.S.V.length ≤ 61 := by
    have q1 := mkV_A (mes T)
    have q2 := mkV_S (mes T)
    rw [show (mes T).A = wc true T.W 0 from rfl, wc_len] at q1
    rw [show (mes T).S = wc false T.C (P56.last T.C) from rfl, wc_len] at q2
    omega
  obtain ⟨z, hz⟩ : ∃ z, mkV (mes T) = z := ⟨_, rfl⟩
  rw [hz] at hcv hzl
  simp only [hz] at e3
  clear hz okT
  (repeat' (first | (with_reducible refine w_seq ?_) | (with_reducible refine c_region ?_) | (with_reducible refine q_then_n ?_) | ((with_reducible apply s_load hF hM); exact rfl; exact rfl; (repeat (first | exact List.mem_cons_self | refine List.mem_cons_of_mem _ ?_)); exact rfl; exact rfl; clear hF a; intro a hF) | (with_reducible refine w_skip ?_) | ((with_reducible apply c_false2 hF); exact rfl; (first | with_reducible rfl | (refine congrArg Value.bool ?_; focus (simp; done))))))
  (((with_reducible apply s_call (f := 42) hF hM); exact rfl; exact rfl; exact rfl; exact rfl; exact rfl; exact (e3 hM.lt (hM.facts (RdF (Value.int .i64) t1 T.W) (by (repeat (first | with_reducible exact List.mem_cons_self | refine List.mem_cons_of_mem _ ?_)))) (hM.facts (RdF (Value.int .i64) t2 T.C) (by (repeat (first | with_reducible exact List.mem_cons_self | refine List.mem_cons_of_mem _ ?_))))); clear hF hM a; rintro v w a ⟨p1, r1, p2, r2, rfl, f5, f6, k5, k6⟩ - hM hF; replace hM := (hM.addFact f5).addFact f6))
  (repeat (first | (with_reducible refine w_seq ?_) | (with_reducible refine c_region ?_) | (with_reducible refine s_nil ?_) | (with_reducible refine q_then_n ?_) | ((with_reducible apply s_pure hF); exact rfl; exact rfl; exact rfl; (first | exact trivial | omega | exact ⟨Int.natCast_nonneg _, Int.ofNat_lt.2 (by assumption)⟩ | decide); clear hF a; intro a hF) | ((with_reducible apply s_store hF hM); exact rfl; exact rfl; exact rfl; exact rfl; (repeat (first | exact Upd.z | apply Upd.s)); exact rfl; exact rfl; exact rfl; clear hM; intro w hM) | ((with_reducible apply s_alloc hF hM); exact rfl; exact rfl; exact rfl; clear hF hM a; intro b w a hM hF) | (with_reducible refine w_skip ?_) | ((with_reducible apply c_false2 hF); exact rfl; (first | with_reducible rfl | (refine congrArg Value.bool ?_; focus (simp; done))))))
  generalize b = bc at *
  clear e3
  by_cases hz2 : z.2 = 0
  case neg =>
    rw [decide_eq_false hz2] at hF
    (repeat' (first | (with_reducible refine w_seq ?_) | (with_reducible refine c_region ?_) | (with_reducible refine s_nil ?_) | ((with_reducible apply s_call (f := 41) hF hM); exact rfl; exact rfl; exact rfl; exact rfl; exact rfl; exact (certified_c _ _ hM.lt); clear hF hM a; rintro v w a rfl - hM hF) | (with_reducible refine q_then_n ?_) | ((with_reducible apply s_pure hF); exact rfl; exact rfl; exact rfl; (first | exact trivial | omega | exact ⟨Int.natCast_nonneg _, Int.ofNat_lt.2 (by assumption)⟩ | decide); clear hF a; intro a hF) | (with_reducible refine w_ret ?_) | (with_reducible refine q_then_r ?_) | ((with_reducible apply c_true2 hF); exact rfl; (first | with_reducible rfl | (refine congrArg Value.bool ?_; focus (simp; done))))))
    all_goals first | (exfalso; omega) | (apply f_ret Try.results13 hF hM; (repeat (first | exact RL.nil | (apply RL.tmp; exact rfl) | (apply RL.cell; exact rfl; (repeat (first | exact List.mem_cons_self | refine List.mem_cons_of_mem _ ?_)); exact rfl))); refine Ret.mk hM.since ?_; dsimp only [resV])
  rw [decide_eq_true hz2] at hF
  obtain ⟨hc1, hc2⟩ := hcv hz2
  obtain ⟨hzA, hzS⟩ := hzl
  have hck := mk_chk hc2 hc1
  have hcP : z.1.P = T.P := by rw [hc1]; rfl
  have hcL : z.1.L = T.L := by rw [hc1]; rfl
  have hcD : z.1.D = T.A := by rw [hc1]; rfl
  obtain ⟨c, hc⟩ : ∃ c, z.1 = c := ⟨_, rfl⟩
  rw [hc] at hF hM k5 k6 hzA hzS hck hcP hcL hcD
  clear hc hc1 hc2 hcv f1 f2 f5 f6
  have hTL : T.L ≤ 5 := by rw [← hT]; show l % 6 ≤ 5; have := h.l; omega
  have hTA : T.A ≤ 3 := by rw [← hT]; show d % 4 ≤ 3; have := h.d; omega
  obtain ⟨m, hm⟩ : ∃ m : Nat, x % 30 = m := ⟨(x % 30).toNat, by omega⟩
  have hm30 : m < 30 := by omega
  have hw : wrsE c (c.P + m) = 0 := by
    unfold wrsE
    rw [if_neg (by omega), if_neg (by omega), if_neg (by omega)]
  obtain ⟨q1, q2, -, -⟩ := reached hw
  obtain ⟨q3, q4⟩ := wrs_first hw
  have q5 := wrsT_W c (c.P + m).toNat
  have q6 := wrsT_C c (c.P + m).toNat
  have q7 : (wrsT c (c.P + m).toNat).P = c.P := rfl
  have q8 : (wrsT c (c.P + m).toNat).L = c.L := rfl
  have q9 : (wrsT c (c.P + m).toNat).A = c.D := rfl
  have e2 := fun {own W} => worst_ok hw p1 p2 r1 r2 (by omega) k5 (by omega) k6 own W
  obtain ⟨V, hV⟩ : ∃ V, wrsT c (c.P + m).toNat = V := ⟨_, rfl⟩
  rw [hV] at q1 q2 q3 q4 q5 q6 q7 q8 q9
  simp only [hV] at e2
  obtain ⟨hB0, D, hpl, hbd⟩ := plays_of q1 q2 (by omega) (by omega) (by omega) (by omega)
  have bP := (chk_bok hck).1.num
  (repeat' (first | (with_reducible refine w_seq ?_) | (with_reducible refine c_region ?_) | (with_reducible refine q_then_n ?_) | ((with_reducible apply s_pure hF); exact rfl; exact rfl; exact rfl; (first | exact trivial | omega | exact ⟨Int.natCast_nonneg _, Int.ofNat_lt.2 (by assumption)⟩ | decide); clear hF a; intro a hF) | ((with_reducible apply s_load hF hM); exact rfl; exact rfl; (repeat (first | exact List.mem_cons_self | refine List.mem_cons_of_mem _ ?_)); exact rfl; exact rfl; clear hF a; intro a hF) | (with_reducible refine w_skip ?_) | ((with_reducible apply c_false2 hF); exact rfl; (first | with_reducible rfl | (refine congrArg Value.bool ?_; focus (simp; done))))))
  rw [hm] at hF
  (((with_reducible apply s_call (f := 21) hF hM); exact rfl; exact rfl; exact rfl; exact rfl; exact rfl; exact (e2 hM.lt (hM.facts (RdF (Value.int .i64) p1 c.A.V) (by (repeat (first | with_reducible exact List.mem_cons_self | refine List.mem_cons_of_mem _ ?_)))) (hM.facts (RdF (Value.int .i64) p2 c.S.V) (by (repeat (first | with_reducible exact List.mem_cons_self | refine List.mem_cons_of_mem _ ?_))))); clear hF hM a; rintro v w a ⟨pw, cw, pc, cc, rfl, f3, f4, k3, k4⟩ - hM hF; replace hM := (hM.addFact f3).addFact f4))
  (repeat (first | (with_reducible refine w_seq ?_) | (with_reducible refine c_region ?_) | (with_reducible refine s_nil ?_) | (with_reducible refine q_then_n ?_) | ((with_reducible apply s_pure hF); exact rfl; exact rfl; exact rfl; (first | exact trivial | omega | exact ⟨Int.natCast_nonneg _, Int.ofNat_lt.2 (by assumption)⟩ | decide); clear hF a; intro a hF) | ((with_reducible apply s_load hF hM); exact rfl; exact rfl; (repeat (first | exact List.mem_cons_self | refine List.mem_cons_of_mem _ ?_)); exact rfl; exact rfl; clear hF a; intro a hF) | ((with_reducible apply s_store hF hM); exact rfl; exact rfl; exact rfl; exact rfl; (repeat (first | exact Upd.z | apply Upd.s)); exact rfl; exact rfl; exact rfl; clear hM; intro w hM) | ((with_reducible apply s_alloc hF hM); exact rfl; exact rfl; exact rfl; clear hF hM a; intro b w a hM hF)))
  generalize b = bw at *
  clear e2 hw hV f3 f4
  have e4 := fun {own W} => covers_c c p1 p2 r1 r2 (by omega) k5 (by omega) k6 V pw pc cw cc (by omega) k3 (by omega) k4 own W
  rw [q1, q2] at e4
  have e5 := fun {own W} => greatest_c V D hpl pw pc cw cc own W
  have hen : encE c = 0 := encE_few hck (by omega) (by omega)
  have hel := encB_len hen
  have e6 := fun {own W} => encode_ok hen p1 p2 r1 r2 (by omega) k5 (by omega) k6 own W
  have e7 := fun (pe : Option Addr) (ce : Nat) ke {own W} => decode_ok (decC_encB hen) encB_by (by omega) pe ce ke own W
  have e8 := fun (p3 p4 : Option Addr) (r3 r4 : Nat) k7 k8 {own W} => ceCheck_c c p3 p4 r3 r4 (by omega) k7 (by omega) k8 own W
  obtain ⟨B', hB'⟩ : ∃ B', c.B + (y % 20 - 10) = B' := ⟨_, rfl⟩
  have hci := chk_is hck B'
  have e9 := fun (p3 p4 : Option Addr) (r3 r4 : Nat) k7 k8 {own W} => ceCheck_c { c with B := B' } p3 p4 r3 r4 (by show c.A.V.length ≤ _; omega) k7 (by show c.S.V.length ≤ _; omega) k8 own W
  rw [hck] at e8
  have hbv := (chk_bok hck).2
  have htr := (chk_bok hck).1.tr
  obtain ⟨tn, htn, -, -⟩ := tr_nat (chk_bok hck).1
  have hBu : c.B ≤ 2147500000 := by
    unfold bndV at hbv
    omega
  obtain ⟨X, hX⟩ : ∃ X, chkE { c with B := B' } = X := ⟨_, rfl⟩
  rw [hX] at hci
  simp only [hX] at e9
  generalize encB c = bs at *
  (repeat' (first | (with_reducible refine w_seq ?_) | (with_reducible refine c_region ?_) | (with_reducible refine s_nil ?_) | (with_reducible refine q_then_n ?_) | ((with_reducible apply s_pure hF); exact rfl; exact rfl; exact rfl; (first | exact trivial | omega | exact ⟨Int.natCast_nonneg _, Int.ofNat_lt.2 (by assumption)⟩ | decide); clear hF a; intro a hF) | ((with_reducible apply s_load hF hM); exact rfl; exact rfl; (repeat (first | exact List.mem_cons_self | refine List.mem_cons_of_mem _ ?_)); exact rfl; exact rfl; clear hF a; intro a hF) | (with_reducible refine w_skip ?_) | ((fail_if_success ((with_reducible refine g_known true hF ?_ ?_); focus exact rfl)); (fail_if_success ((with_reducible refine g_known false hF ?_ ?_); focus exact rfl)); (with_reducible apply g_dec hF); exact rfl; exact rfl; all_goals (clear hF; intro hc hF); all_goals (try (exfalso; omega))) | ((with_reducible apply c_dec hF); exact rfl; all_goals intro hc; all_goals (try (exfalso; omega)))))
  (((with_reducible apply s_call (f := 34) hF hM); exact rfl; exact rfl; exact rfl; exact rfl; exact rfl; exact (e4 hM.lt (hM.facts (RdF (Value.int .i64) p1 c.A.V) (by (repeat (first | with_reducible exact List.mem_cons_self | refine List.mem_cons_of_mem _ ?_)))) (hM.facts (RdF (Value.int .i64) p2 c.S.V) (by (repeat (first | with_reducible exact List.mem_cons_self | refine List.mem_cons_of_mem _ ?_)))) (hM.facts (RdF (Value.int .i64) pw V.W) (by (repeat (first | with_reducible exact List.mem_cons_self | refine List.mem_cons_of_mem _ ?_)))) (hM.facts (RdF (Value.int .i64) pc V.C) (by (repeat (first | with_reducible exact List.mem_cons_self | refine List.mem_cons_of_mem _ ?_))))); clear hF hM a; rintro v w a rfl - hM hF))
  (repeat (first | (with_reducible refine w_seq ?_) | (with_reducible refine s_nil ?_) | (with_reducible refine q_then_n ?_) | ((with_reducible apply s_pure hF); exact rfl; exact rfl; exact rfl; (first | exact trivial | omega | exact ⟨Int.natCast_nonneg _, Int.ofNat_lt.2 (by assumption)⟩ | decide); clear hF a; intro a hF)))
  refine c_draw (fun i => Nat.ble 13 i) hM ?_; clear hM; intro w hM
  (first | (refine t_pure (i := 0) hF rfl rfl rfl rfl (by kernel_rfl) hM.sm (fun _ _ _ h => h) ?_ ?_; (first | exact trivial | omega | decide); clear hF a; intro a hF))
  (first | (refine t_pure (i := 1) hF rfl rfl rfl rfl (by kernel_rfl) hM.sm (fun _ _ _ h => h) ?_ ?_; (first | exact trivial | omega | decide); clear hF a; intro a hF))
  (first | (refine t_pure (i := 2) hF rfl rfl rfl rfl (by kernel_rfl) hM.sm (fun _ _ _ h => h) ?_ ?_; (first | exact trivial | omega | decide); clear hF a; intro a hF))
  (first | (refine t_pure (i := 3) hF rfl rfl rfl rfl (by kernel_rfl) hM.sm (fun _ _ _ h => h) ?_ ?_; (first | exact trivial | omega | decide); clear hF a; intro a hF))
  (first | (refine t_pure (i := 4) hF rfl rfl rfl rfl (by kernel_rfl) hM.sm (fun _ _ _ h => h) ?_ ?_; (first | exact trivial | omega | decide); clear hF a; intro a hF))
  (first | (refine t_pure (i := 5) hF rfl rfl rfl rfl (by kernel_rfl) hM.sm (fun _ _ _ h => h) ?_ ?_; (first | exact trivial | omega | decide); clear hF a; intro a hF))
  (first | (refine t_pure (i := 6) hF rfl rfl rfl rfl (by kernel_rfl) hM.sm (fun _ _ _ h => h) ?_ ?_; (first | exact trivial | omega | decide); clear hF a; intro a hF))
  (first | (apply t_load (i := 7) hF rfl rfl rfl; (repeat (first | exact List.mem_cons_self | refine List.mem_cons_of_mem _ ?_)); exact rfl; exact rfl; kernel_rfl; exact hM.sm; exact (fun _ _ _ h => h); clear hF a; intro a hF))
  (first | (refine t_pure (i := 9) hF rfl rfl rfl rfl (by kernel_rfl) hM.sm (fun _ _ _ h => h) ?_ ?_; (first | exact trivial | omega | decide); clear hF a; intro a hF))
  (first | (apply t_load (i := 10) hF rfl rfl rfl; (repeat (first | exact List.mem_cons_self | refine List.mem_cons_of_mem _ ?_)); exact rfl; exact rfl; kernel_rfl; exact hM.sm; exact (fun _ _ _ h => h); clear hF a; intro a hF))
  refine t_one (i := 8) hF rfl (by kernel_rfl) rfl ?_
  intro K hK
  (apply x_call hF hM; exact rfl; exact rfl; exact rfl; exact rfl; exact (e5 hM.lt (hM.facts (RdF (Value.int .i64) pw V.W) (by (repeat (first | with_reducible exact List.mem_cons_self | refine List.mem_cons_of_mem _ ?_)))) (hM.facts (RdF (Value.int .i64) pc V.C) (by (repeat (first | with_reducible exact List.mem_cons_self | refine List.mem_cons_of_mem _ ?_))))); clear hF hM a; rintro v w a ⟨v1, rfl, hv0, hv1, hv2, hv3⟩ - hM hF)
  refine hK _ _ (fun _ => hM.sm) ?_; clear hK
  (first | (refine t_pure (i := 11) hF rfl rfl rfl rfl (by kernel_rfl) hM.sm (fun _ _ _ h => h) ?_ ?_; (first | exact trivial | omega | decide); clear hF a; intro a hF))
  (first | (refine t_pure (i := 12) hF rfl rfl rfl rfl (by kernel_rfl) hM.sm (fun _ _ _ h => h) ?_ ?_; (first | exact trivial | omega | decide); clear hF a; intro a hF))
  refine t_done (by kernel_rfl) ?_
  have hvB := hv3 c.B hB0 fun k _ => hbd k
  have hvC := hv2 q4
  obtain rfl : v1 = c.B := by omega
  clear hv0 hv1 hv2 hv3 hvB hvC
  (repeat' (first | (with_reducible refine w_seq ?_) | (with_reducible refine c_region ?_) | (with_reducible refine q_then_n ?_) | ((with_reducible apply s_load hF hM); exact rfl; exact rfl; (repeat (first | exact List.mem_cons_self | refine List.mem_cons_of_mem _ ?_)); exact rfl; exact rfl; clear hF a; intro a hF) | (with_reducible refine w_skip ?_) | ((with_reducible apply c_false2 hF); exact rfl; (first | with_reducible rfl | (refine congrArg Value.bool ?_; focus (simp; done))))))
  (((with_reducible apply s_call (f := 28) hF hM); exact rfl; exact rfl; exact rfl; exact rfl; exact rfl; exact (e6 hM.lt (hM.facts (RdF (Value.int .i64) p1 c.A.V) (by (repeat (first | with_reducible exact List.mem_cons_self | refine List.mem_cons_of_mem _ ?_)))) (hM.facts (RdF (Value.int .i64) p2 c.S.V) (by (repeat (first | with_reducible exact List.mem_cons_self | refine List.mem_cons_of_mem _ ?_))))); clear hF hM a; rintro v w a ⟨pe, ce, rfl, f5, k7⟩ - hM hF; replace hM := hM.addFact f5))
  (repeat (first | (with_reducible refine w_seq ?_) | (with_reducible refine c_region ?_) | (with_reducible refine s_nil ?_) | (with_reducible refine q_then_n ?_) | ((with_reducible apply s_pure hF); exact rfl; exact rfl; exact rfl; (first | exact trivial | omega | exact ⟨Int.natCast_nonneg _, Int.ofNat_lt.2 (by assumption)⟩ | decide); clear hF a; intro a hF)))
  (((with_reducible apply s_call (f := 30) hF hM); exact rfl; exact rfl; exact rfl; exact rfl; exact rfl; exact (e7 pe ce k7 hM.lt (hM.facts (RdF (Value.int .u8) pe bs) (by (repeat (first | with_reducible exact List.mem_cons_self | refine List.mem_cons_of_mem _ ?_))))); clear hF hM a; rintro v w a ⟨p3, r3, p4, r4, rfl, f6, f7, k8, k9⟩ - hM hF; replace hM := (hM.addFact f6).addFact f7))
  (repeat (first | (with_reducible refine w_seq ?_) | (with_reducible refine c_region ?_) | (with_reducible refine s_nil ?_) | (with_reducible refine q_then_n ?_) | ((with_reducible apply s_pure hF); exact rfl; exact rfl; exact rfl; (first | exact trivial | omega | exact ⟨Int.natCast_nonneg _, Int.ofNat_lt.2 (by assumption)⟩ | decide); clear hF a; intro a hF) | ((with_reducible apply s_load hF hM); exact rfl; exact rfl; (repeat (first | exact List.mem_cons_self | refine List.mem_cons_of_mem _ ?_)); exact rfl; exact rfl; clear hF a; intro a hF) | ((with_reducible apply s_store hF hM); exact rfl; exact rfl; exact rfl; exact rfl; (repeat (first | exact Upd.z | apply Upd.s)); exact rfl; exact rfl; exact rfl; clear hM; intro w hM) | ((with_reducible apply s_alloc hF hM); exact rfl; exact rfl; exact rfl; clear hF hM a; intro b w a hM hF)))
  generalize b = bd at *
  clear e4 e5 e6 e7 f5 f6 f7
  replace e8 := fun {own W} => e8 p3 p4 r3 r4 k8 k9 (own := own) (W := W)
  replace e9 := fun {own W} => e9 p3 p4 r3 r4 k8 k9 (own := own) (W := W)
  have hbb : decide (decide (X = 0) = decide (B' = c.B)) = true := by
    rw [decide_eq_true_eq, Bool.eq_iff_iff, decide_eq_true_eq, decide_eq_true_eq]
    exact hci
  (repeat' (first | (with_reducible refine w_seq ?_) | (with_reducible refine c_region ?_) | (with_reducible refine s_nil ?_) | ((with_reducible apply s_call (f := 19) hF hM); exact rfl; exact rfl; exact rfl; exact rfl; exact rfl; exact (e8 hM.lt (hM.facts (RdF (Value.int .i64) p3 c.A.V) (by (repeat (first | with_reducible exact List.mem_cons_self | refine List.mem_cons_of_mem _ ?_)))) (hM.facts (RdF (Value.int .i64) p4 c.S.V) (by (repeat (first | with_reducible exact List.mem_cons_self | refine List.mem_cons_of_mem _ ?_))))); clear hF hM a; rintro v w a rfl - hM hF) | (with_reducible refine q_then_n ?_) | ((with_reducible apply s_pure hF); exact rfl; exact rfl; exact rfl; (first | exact trivial | omega | exact ⟨Int.natCast_nonneg _, Int.ofNat_lt.2 (by assumption)⟩ | decide); clear hF a; intro a hF) | ((with_reducible apply s_load hF hM); exact rfl; exact rfl; (repeat (first | exact List.mem_cons_self | refine List.mem_cons_of_mem _ ?_)); exact rfl; exact rfl; clear hF a; intro a hF) | ((with_reducible apply s_store hF hM); exact rfl; exact rfl; exact rfl; exact rfl; (repeat (first | exact Upd.z | apply Upd.s)); exact rfl; exact rfl; exact rfl; clear hM; intro w hM) | (with_reducible refine w_skip ?_) | ((with_reducible apply c_false2 hF); exact rfl; (first | with_reducible rfl | (refine congrArg Value.bool ?_; focus (simp; done)))) | ((fail_if_success ((with_reducible refine g_known true hF ?_ ?_); focus exact rfl)); (fail_if_success ((with_reducible refine g_known false hF ?_ ?_); focus exact rfl)); (with_reducible apply g_dec hF); exact rfl; exact rfl; all_goals (clear hF; intro hc hF); all_goals (try (exfalso; omega)))))
  rw [hB'] at hF hM
  refine c_draw (fun i => Nat.ble 13 i) hM ?_; clear hM; intro w hM
  (first | (apply t_load (i := 0) hF rfl rfl rfl; (repeat (first | exact List.mem_cons_self | refine List.mem_cons_of_mem _ ?_)); exact rfl; exact rfl; kernel_rfl; exact hM.sm; exact (fun _ _ _ h => h); clear hF a; intro a hF))
  (first | (refine t_pure (i := 3) hF rfl rfl rfl rfl (by kernel_rfl) hM.sm (fun _ _ _ h => h) ?_ ?_; (first | exact trivial | omega | decide); clear hF a; intro a hF))
  (first | (apply t_load (i := 4) hF rfl rfl rfl; (repeat (first | exact List.mem_cons_self | refine List.mem_cons_of_mem _ ?_)); exact rfl; exact rfl; kernel_rfl; exact hM.sm; exact (fun _ _ _ h => h); clear hF a; intro a hF))
  (first | (refine t_pure (i := 5) hF rfl rfl rfl rfl (by kernel_rfl) hM.sm (fun _ _ _ h => h) ?_ ?_; (first | exact trivial | omega | decide); clear hF a; intro a hF))
  (first | (apply t_load (i := 6) hF rfl rfl rfl; (repeat (first | exact List.mem_cons_self | refine List.mem_cons_of_mem _ ?_)); exact rfl; exact rfl; kernel_rfl; exact hM.sm; exact (fun _ _ _ h => h); clear hF a; intro a hF))
  (first | (refine t_pure (i := 7) hF rfl rfl rfl rfl (by kernel_rfl) hM.sm (fun _ _ _ h => h) ?_ ?_; (first | exact trivial | omega | decide); clear hF a; intro a hF))
  refine t_one (i := 1) hF rfl (by kernel_rfl) rfl ?_
  intro K hK
  (apply x_call hF hM; exact rfl; exact rfl; exact rfl; exact rfl; exact (e9 hM.lt (hM.facts (RdF (Value.int .i64) p3 c.A.V) (by (repeat (first | with_reducible exact List.mem_cons_self | refine List.mem_cons_of_mem _ ?_)))) (hM.facts (RdF (Value.int .i64) p4 c.S.V) (by (repeat (first | with_reducible exact List.mem_cons_self | refine List.mem_cons_of_mem _ ?_))))); clear hF hM a; rintro v w a rfl - hM hF)
  refine hK _ _ (fun _ => hM.sm) ?_; clear hK
  (first | (refine t_pure (i := 2) hF rfl rfl rfl rfl (by kernel_rfl) hM.sm (fun _ _ _ h => h) ?_ ?_; (first | exact trivial | omega | decide); clear hF a; intro a hF))
  refine t_one (i := 8) hF rfl (by kernel_rfl) rfl ?_
  intro K hK
  (refine upon_value (e_eqBo hF rfl rfl Try.underlying4 (by kernel_rfl) _) ?_; rw [hbb]; replace hF := hF.put (d := 140) rfl (.bool true); generalize a.put (some 140) _ = a at *)
  refine hK _ _ (fun _ => (hM.sm.sub (fun x hx => by repeat (first | exact hx | refine List.mem_cons_of_mem _ ?_)) (fun _ h => by repeat (first | exact h | refine List.mem_cons_of_mem _ ?_)))) ?_; clear hK
  (first | (refine t_pure (i := 9) hF rfl rfl rfl rfl (by kernel_rfl) (hM.sm.sub (fun x hx => by repeat (first | exact hx | refine List.mem_cons_of_mem _ ?_)) (fun _ h => by repeat (first | exact h | refine List.mem_cons_of_mem _ ?_))) (fun _ _ _ h => h) ?_ ?_; (first | exact trivial | omega | decide); clear hF a; intro a hF))
  refine t_one (i := 10) hF rfl (by kernel_rfl) rfl ?_
  intro K hK
  (apply x_call hF hM; exact rfl; exact rfl; exact rfl; exact rfl; exact (certified_c _ _ hM.lt); clear hF hM a; rintro v w a rfl - hM hF)
  refine hK _ _ (fun _ => (hM.sm.sub (fun x hx => by repeat (first | exact hx | refine List.mem_cons_of_mem _ ?_)) (fun _ h => by repeat (first | exact h | refine List.mem_cons_of_mem _ ?_)))) ?_; clear hK
  (first | (refine t_pure (i := 11) hF rfl rfl rfl rfl (by kernel_rfl) (hM.sm.sub (fun x hx => by repeat (first | exact hx | refine List.mem_cons_of_mem _ ?_)) (fun _ h => by repeat (first | exact h | refine List.mem_cons_of_mem _ ?_))) (fun _ _ _ h => h) ?_ ?_; (first | exact trivial | omega | decide); clear hF a; intro a hF))
  (first | (refine t_pure (i := 12) hF rfl rfl rfl rfl (by kernel_rfl) (hM.sm.sub (fun x hx => by repeat (first | exact hx | refine List.mem_cons_of_mem _ ?_)) (fun _ h => by repeat (first | exact h | refine List.mem_cons_of_mem _ ?_))) (fun _ _ _ h => h) ?_ ?_; (first | exact trivial | omega | decide); clear hF a; intro a hF))
  refine t_done (by kernel_rfl) ?_
  (repeat (first | (with_reducible refine q_then_n ?_) | (with_reducible refine w_ret ?_)))
  (apply f_ret Try.results13 hF hM; (repeat (first | exact RL.nil | (apply RL.tmp; exact rfl) | (apply RL.cell; exact rfl; (repeat (first | exact List.mem_cons_self | refine List.mem_cons_of_mem _ ?_)); exact rfl))); refine Ret.mk hM.since ?_; dsimp only [resV])
end Go.Proofs.Ytabfhoipclbeeaa


/- Arguments of the rows of standbytop: traces of small numbers, not too long. -/
namespace Go.Proofs.Ytabfhoipclbeeaa
open Go.RowKit Go.Shelf Go.ChangeShapes Go.WideShapes Go.ChangeAt C55 K57
section
variable {H : Type} {enc : TypeId × Value → H} {w : World} {r : Reach} {b0 base : Nat} {spare : Nat → Bool} {held : Bool}
theorem bulk_len {H : Type} (l : List (DataW H)) : l.length ≤ Rows.uptoBulkAll l := by
  induction l with
  | nil => simp [Rows.uptoBulkAll]
  | cons x r ih =>
    have h1 : 1 ≤ Rows.uptoBulk x := by
      cases x with
      | lit l => cases l <;> simp [Rows.uptoBulk]
      | _ => simp [Rows.uptoBulk]
    simp only [Rows.uptoBulkAll, List.length_cons]
    omega
theorem slice_bulk {t e : TypeId} {n : Nat} {c : Value} {y : DataW H × List MemPlace} (ht : Try.prog.underlying t = some (.slice e)) (h : DataW.trod enc Try.prog w base spare held n t [c] = some y) {a : Option Addr} {len cap : Nat} (hc : c = .slice a len cap) : len ≤ Rows.uptoBulk y.1 := by
  rcases DataW.trod_slice ht h with ⟨h1, h2⟩ | ⟨a', len', cap', elems, rest, n', -, h1, h2, -, -, -, hl, -⟩
  · simp only [List.cons.injEq, and_true] at h1
    rw [hc] at h1
    injection h1 with _ h3 _
    omega
  · simp only [List.cons.injEq, and_true] at h1
    rw [hc] at h1
    injection h1 with _ h3 _
    have := bulk_len (elems.map (·.1))
    rw [List.length_map] at this
    rw [h2]
    simp only [Rows.uptoBulk]
    omega
theorem play_arg {v : Value} {d : DataW H} {p : List MemPlace} (hv : Value.okWide Try.prog w r b0 82 v) (h : DataW.Trod enc Try.prog w 0 (fun _ => true) held 82 v d p) (hk : Rows.uptoBulk d ≤ 1048576) :
    ∃ (xs cs : List Int) (x y z : Int) (a1 a2 : Option Addr) (c1 c2 : Nat), v = .agg ⟨plA xs cs x y z a1 a2 c1 c2⟩ ∧ Has (fun _ => False) w (RdF (Value.int .u8) a1 xs) ∧ Has (fun _ => False) w (RdF (Value.int .u8) a2 cs) ∧ Sma xs cs x y z := by
  obtain ⟨cells, rfl, hsz⟩ := okWide_struct Try.underlying82 hv
  obtain ⟨fuel, hf⟩ := h
  obtain ⟨xs, n, _, hd, hl, hlen, hx⟩ := DataW.trod_struct Try.underlying82 hf
  obtain ⟨l⟩ := cells
  have hl2 : l.length = 5 := hl.trans (by kernel_rfl)
  have q0 := hx 0 _ rfl
  have q1 := hx 1 _ rfl
  have q2 := hx 2 _ rfl
  have q3 := hx 3 _ rfl
  have q4 := hx 4 _ rfl
  match l, hl2, xs, hlen with
  | [u0, u1, u2, u3, u4], _, [y0, y1, y2, y3, y4], _ =>
    rw [show Try.prog.cellsOf _ = 1 from (by kernel_rfl)] at q0
    rw [show Try.prog.cellsOf _ = 1 from (by kernel_rfl)] at q1
    rw [show Try.prog.cellsOf _ = 1 from (by kernel_rfl)] at q2
    rw [show Try.prog.cellsOf _ = 1 from (by kernel_rfl)] at q3
    rw [show Try.prog.cellsOf _ = 1 from (by kernel_rfl)] at q4
    obtain ⟨a1, X, c1, e1, h1, l1, m1, b1⟩ := of_sliceK Try.underlying57 Try.underlying5 (by kernel_rfl) (c := u0) q0
    obtain ⟨a2, C, c2, e2, h2, l2, m2, b2⟩ := of_sliceK Try.underlying57 Try.underlying5 (by kernel_rfl) (c := u1) q1
    have k1 := slice_bulk (c := u0) Try.underlying57 q0 e1
    have k2 := slice_bulk (c := u1) Try.underlying57 q1 e2
    obtain ⟨x, g2, -, w2⟩ := DataW.trod_int Try.underlying5 (cs := [u2]) q2
    simp only [List.cons.injEq, and_true] at g2
    obtain ⟨y, g3, -, w3⟩ := DataW.trod_int Try.underlying5 (cs := [u3]) q3
    simp only [List.cons.injEq, and_true] at g3
    obtain ⟨z, g4, -, w4⟩ := DataW.trod_int Try.underlying5 (cs := [u4]) q4
    simp only [List.cons.injEq, and_true] at g4
    subst e1 e2 g2 g3 g4
    have hd' : d = .agg [y0.1, y1.1, y2.1, y3.1, y4.1] := by
      have := congrArg Prod.fst hd
      simpa using this
    rw [hd'] at hk
    simp only [Rows.uptoBulk, Rows.uptoBulkAll] at hk
    exact ⟨X, C, x, y, z, a1, a2, c1, c2, rfl, Has.reads h1, Has.reads h2, fun x hx => u8_wf (b1 x hx), fun x hx => u8_wf (b2 x hx), Go.bounds_u8 w2, Go.bounds_u8 w3, Go.bounds_u8 w4, by omega, by omega⟩
end
end Go.Proofs.Ytabfhoipclbeeaa

