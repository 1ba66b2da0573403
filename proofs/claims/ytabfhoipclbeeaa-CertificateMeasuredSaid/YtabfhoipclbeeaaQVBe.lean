/- Texts of this seat, one behind the other: Ql3 Ql4 Ql5 Ql6 Ql7 Qs Kq Kr Ks Kt Ku Kv Kw Ark Kx Ky Kz Na Nb Nc Nd Arl. -/
import Derived.Test.YtabfhoipclbeeaaQVBd
set_option linter.unusedSimpArgs false
set_option linter.unusedVariables false
set_option linter.unusedSectionVars false
set_option maxRecDepth 3000
/- The planner: plan, given sizes. -/
namespace Go.Proofs.Ytabfhoipclbeeaa
open Go.RowKit Go.Shelf
/-- The sizes of the cycles. -/
def szs (t : P56.Tr) : List Int := (List.range (P56.cycles t)).map (P56.size t)
theorem szs_get (t : P56.Tr) {k : Nat} (h : k < P56.cycles t) : (szs t)[k]? = some (P56.size t k) := by simp [szs, h]
/-- What sizes answers. -/
def SizesSpec : Prop := ∀ (t : P56.Tr) (a0 : Option Addr) (c : Nat) (y : Option Addr) (z u : Nat) (own : Nat → Prop) (W : World), (∀ b, own b → b < W.heap.size) → Has own W (RdF (Value.int .i64) a0 t.W) → P56.Ok t → t.W.length ≤ c →
  Calls Try.prog 111 ⟨[.agg #[.slice a0 t.W.length c, .slice y z u, .int .i64 t.P, .int .i64 t.L, .int .i64 t.A]]⟩ W (Ret W fun v w' => ∃ a1 c1, v = .slice a1 (P56.cycles t) c1 ∧ Has own w' (RdF (Value.int .i64) a1 (szs t)))
theorem max_st {t : P56.Tr} {p : Nat} (hp : t.P = (p : Int)) {k : Nat} : max (((k : Int) + 1) * (p : Int)) (P56.en t k : Int) = (P56.st t k : Int) := by
  unfold P56.st
  rw [show t.P.toNat = p from by omega]
  have h4 : ((k : Int) + 1) * (p : Int) = (((k + 1) * p : Nat) : Int) := by rw [Int.natCast_mul]; simp
  rw [h4]; omega
theorem bdL_lists (t : P56.Tr) (hP : 1 ≤ t.P.toNat) (n : Nat) : ∀ k, k ≤ n → bdL (P56.aps t n) (P56.cls t n) k = P56.bdP t k := by
  intro k
  induction k with
  | zero => intro _; rfl
  | succ k ih =>
    intro hk
    have hA : ∀ j, j < n → (P56.aps t n).getD j 0 = P56.ap t j := fun j hj => by simp [P56.aps, hj]
    have hC : ∀ j, j < n → (P56.cls t n).getD j 0 = P56.cl t j := fun j hj => by simp [P56.cls, hj]
    rw [bdL, P56.bdP, ih (by omega), hA k (by omega), hC k (by omega), hA (k - 1) (by omega), hC (k - 1) (by omega)]
    have e : (if k = 0 then (0 : Int) else P56.cl t (k - 1)) = ((k * t.P.toNat : Nat) : Int) := by
      split
      · rename_i h; subst h; simp
      · unfold P56.cl; rw [show k - 1 + 1 = k by omega]
    rw [e]
theorem aps_bd {t : P56.Tr} (ok : P56.Ok t) : ∀ x ∈ P56.aps t (P56.cycles t), 0 ≤ x ∧ x ≤ 100000000000000 := by
  intro x hx
  simp only [P56.aps, List.mem_map, List.mem_range] at hx
  obtain ⟨k, hk, rfl⟩ := hx
  have := P56.ap_bd ok k (by have := P56.cycles_le ok; omega)
  omega
theorem cls_bd {t : P56.Tr} (ok : P56.Ok t) : ∀ x ∈ P56.cls t (P56.cycles t), 0 ≤ x ∧ x ≤ 100000000000000 := by
  intro x hx
  simp only [P56.cls, List.mem_map, List.mem_range] at hx
  obtain ⟨k, hk, rfl⟩ := hx
  have h2 : (k + 1) * t.P.toNat ≤ 4097 * t.P.toNat := Nat.mul_le_mul_right _ (by have := P56.cycles_le ok; omega)
  have := ok.p
  unfold P56.cl; omega
theorem bdL_bound {t : P56.Tr} (ok : P56.Ok t) : bdL (P56.lists t (P56.cycles t) 0).applied (P56.lists t (P56.cycles t) 0).close (P56.lists t (P56.cycles t) 0).applied.length = P56.boundR t := by
  have hP : 1 ≤ t.P.toNat := by have := ok.p0; omega
  show bdL (P56.aps t (P56.cycles t)) (P56.cls t (P56.cycles t)) (P56.aps t (P56.cycles t)).length = _
  rw [P56.aps_length, bdL_lists t hP _ _ (Nat.le_refl _), P56.bdP_eq t hP, P56.boundR_eq t hP]
/-- A plan and an error. -/
def PlanR (own : Nat → Prop) (r : P56.Pl × Int) (v : Value) (w' : World) : Prop := ∃ pv, v = .tuple #[pv, .int .i64 r.2] ∧ Has own w' (IsPl · pv r.1)
set_option maxHeartbeats 4000000 in
theorem plan_c (SZ : SizesSpec) (t : P56.Tr) (a0 : Option Addr) (c : Nat) (y : Option Addr) (z u : Nat) (cv : Value) (own : Nat → Prop) (W : World) (hl : ∀ b, own b → b < W.heap.size) (hr : Has own W (RdF (Value.int .i64) a0 t.W)) (hc : Has own W (IsCar · cv t.C)) (ok : P56.Ok t) (hwc : t.W.length ≤ c) :
    Calls Try.prog 81 ⟨[.agg #[.slice a0 t.W.length c, .slice y z u, .int .i64 t.P, .int .i64 t.L, .int .i64 t.A], .func (.func 83) #[cv] #[]]⟩ W (Ret W (PlanR own (P56.planOk t))) := by
  have hM := ((Mm.start hl).known hc).known hr
  obtain ⟨p, hp⟩ : ∃ p : Nat, t.P = p := ⟨t.P.toNat, by have := ok.p0; omega⟩
  have hp0 : 1 ≤ p := by have := ok.p0; omega
  have hp1 : p ≤ 4096 := by have := ok.p; omega
  have hcy := P56.cycles_le ok
  have hL : 0 ≤ t.L ∧ t.L ≤ 1073741824 := ⟨ok.l0, ok.l⟩
  have hA : 0 ≤ t.A ∧ t.A ≤ 1073741824 := ⟨ok.a0, ok.a⟩
  refine f_start Try.func81 rfl Try.ntmps81 rfl rfl ?_; intro a hF
  (repeat (first | (with_reducible refine w_seq ?_) | (with_reducible refine c_region ?_) | (with_reducible refine s_nil ?_) | ((with_reducible apply s_call (f := 111) hF hM); exact rfl; exact rfl; exact rfl; exact rfl; exact rfl; exact (SZ t a0 c y z u _ _ hM.lt (hM.facts _ (by (repeat (first | exact List.mem_cons_self | refine List.mem_cons_of_mem _ ?_)))) ok hwc); clear hF hM a; rintro v w a ⟨as_, cs_, rfl, hsz⟩ - hM hF) | (with_reducible refine q_then_n ?_) | ((with_reducible apply s_pure hF); exact rfl; exact rfl; exact rfl; (first | exact trivial | omega | exact ⟨Int.natCast_nonneg _, Int.ofNat_lt.2 (by assumption)⟩ | decide); clear hF a; intro a hF) | ((with_reducible apply s_load hF hM); exact rfl; exact rfl; (repeat (first | exact List.mem_cons_self | refine List.mem_cons_of_mem _ ?_)); exact rfl; exact rfl; clear hF a; intro a hF) | ((with_reducible apply s_alloc hF hM); exact rfl; exact rfl; exact rfl; clear hF hM a; intro b w a hM hF) | ((with_reducible apply s_box hF hM); exact rfl; exact rfl; exact rfl; exact rfl; clear hF hM a; intro b w a hM hF) | (with_reducible refine w_block ?_)))
  rename_i b2 wx b4 wy wz
  replace hM := ((hM.addFact hsz).nilRow 3 1).nilRow 3 1 |>.nilRow 3 1 |>.nilRow 3 1
  clear hsz
  refine c_loop (m := P56.cycles t) (fun m a w' => ∃ (k : Nat) (v1 v2 v3 v4 : Value), m + k = P56.cycles t ∧ P56.endOf t k = some (P56.en t k) ∧ Fr _ [] [(17, .int .i64 k), (16, .int .i64 (P56.cycles t)), (15, .slice as_ (P56.cycles t) cs_), (7, .int .i64 (P56.en t k)), (6, .pointer (some ⟨b, 0, none⟩)), (4, .pointer (some ⟨b4, 0, none⟩)), (2, .pointer (some ⟨b2, 0, none⟩)), (1, .func (.func 83) #[cv] #[])] a ∧
    Mm own W [⟨b, ⟨[v1, v2, v3, v4, .int .i64 0]⟩, 73⟩, ⟨b4, ⟨[.slice none 0 0, .slice none 0 0, .slice none 0 0, .slice none 0 0, .int .i64 0]⟩, 73⟩, ⟨b2, ⟨[.slice a0 t.W.length c, .slice y z u, .int .i64 t.P, .int .i64 t.L, .int .i64 t.A]⟩, 42⟩]
      [⟨3, 1, v1, k, (P56.cls t k).map (Value.int .i64)⟩, ⟨3, 1, v2, k, (P56.sts t k).map (Value.int .i64)⟩, ⟨3, 1, v3, k, (P56.ens t k).map (Value.int .i64)⟩, ⟨3, 1, v4, k, (P56.aps t k).map (Value.int .i64)⟩]
      [RdF (Value.int .i64) as_ (szs t), RdF (Value.int .i64) a0 t.W, (IsCar · cv t.C)] w') ⟨0, _, _, _, _, by omega, rfl, hF.sub (by repeat (first | exact Sub.nil | refine Sub.cons rfl (by first | with_reducible rfl | (refine congrArg (Value.int _) ?_; omega) | exact rfl) ?_)), hM⟩ ?_
  clear hF hM a
  rintro m a w' ⟨k, v1, v2, v3, v4, hk, hE, hF, hM⟩
  have hen := P56.en_le ok (show k ≤ 4097 by omega)
  obtain ⟨e0, e1, e2, e3⟩ := P56.mul_bd (k := k) (p := p) (by omega) hp1
  by_cases hlt : k < P56.cycles t
  · have hsg := szs_get t hlt
    obtain ⟨ad, rfl⟩ := rd_some hM (by (repeat (first | exact List.mem_cons_self | refine List.mem_cons_of_mem _ ?_))) hsg
    have hsb := P56.size_bd ok k
    have hst : P56.st t k ≤ 900000000000 := by
      have h2 : (k + 1) * t.P.toNat ≤ 4097 * t.P.toNat := Nat.mul_le_mul_right _ (by omega)
      unfold P56.st; omega
    have hEs := P56.endOf_succ hE
    rw [hp] at hM
    (repeat' (first | (with_reducible refine w_seq ?_) | (with_reducible refine c_region ?_) | (with_reducible refine s_nil ?_) | (with_reducible refine q_then_n ?_) | ((with_reducible apply s_pure hF); exact rfl; exact rfl; exact rfl; (first | exact trivial | omega | exact ⟨Int.natCast_nonneg _, Int.ofNat_lt.2 (by assumption)⟩ | decide); clear hF a; intro a hF) | ((with_reducible apply s_load hF hM); exact rfl; exact rfl; (repeat (first | exact List.mem_cons_self | refine List.mem_cons_of_mem _ ?_)); exact rfl; exact rfl; clear hF a; intro a hF) | ((with_reducible apply s_loadF hF hM); exact rfl; exact rfl; (repeat (first | exact List.mem_cons_self | refine List.mem_cons_of_mem _ ?_)); exact rfl; exact rfl; (first | with_reducible assumption | (simp only [Int.toNat_natCast]; with_reducible assumption)); clear hF a; intro a hF) | (with_reducible refine w_skip ?_) | (with_reducible refine w_block ?_) | ((with_reducible apply c_dec hF); exact rfl; all_goals intro hc; all_goals (try (exfalso; omega)))))
    rw [max_st hp] at hF
    (repeat (first | (with_reducible refine w_seq ?_) | (with_reducible refine c_region ?_) | (with_reducible refine s_nil ?_) | ((with_reducible apply s_callc (f := 83) hF hM); exact rfl; exact rfl; exact rfl; exact rfl; exact rfl; exact rfl; exact rfl; exact (Ret.of (end_any t.C cv (P56.st t k) (P56.size t k) _ (hM.fact (f := (IsCar · cv t.C)) (by (repeat (first | exact List.mem_cons_self | refine List.mem_cons_of_mem _ ?_)))) ok.clen ok.c hst hsb.1 hsb.2)); clear hF hM a; rintro v w a rfl - hM hF) | (with_reducible refine q_then_n ?_) | ((with_reducible apply s_pure hF); exact rfl; exact rfl; exact rfl; (first | exact trivial | omega | exact ⟨Int.natCast_nonneg _, Int.ofNat_lt.2 (by assumption)⟩ | decide); clear hF a; intro a hF)))
    generalize P56.finish t.C (P56.st t k) (P56.size t k) = fi at *
    cases fi with
    | none =>
      (repeat' (first | (with_reducible refine w_seq ?_) | (with_reducible refine c_region ?_) | (with_reducible refine s_nil ?_) | (with_reducible refine q_then_n ?_) | ((with_reducible apply s_pure hF); exact rfl; exact rfl; exact rfl; (first | exact trivial | omega | exact ⟨Int.natCast_nonneg _, Int.ofNat_lt.2 (by assumption)⟩ | decide); clear hF a; intro a hF) | ((with_reducible apply s_store hF hM); exact rfl; exact rfl; exact rfl; exact rfl; (repeat (first | exact Upd.z | apply Upd.s)); exact rfl; exact rfl; exact rfl; clear hM; intro w hM) | (with_reducible refine w_ret ?_) | (with_reducible refine q_then_r ?_) | (with_reducible refine q_blk_r ?_) | ((with_reducible apply c_true2 hF); exact rfl; (first | with_reducible rfl | (refine congrArg Value.bool ?_; focus (simp; done))))))
      (apply f_ret Try.results81 hF hM; (repeat (first | exact RL.nil | (apply RL.tmp; exact rfl) | (apply RL.cell; exact rfl; (repeat (first | exact List.mem_cons_self | refine List.mem_cons_of_mem _ ?_)); exact rfl))); refine Ret.mk hM.since ?_; dsimp only [resV])
      rw [P56.planOk_none (show k + 1 ≤ P56.cycles t by omega) hEs]
      exact ⟨_, rfl, Has.pure fun w => isPl_none w⟩
    | some x =>
      have hx : P56.en t (k + 1) = x := by unfold P56.en; rw [hEs]; rfl
      have hxb := P56.en_le ok (show k + 1 ≤ 4097 by omega)
      rw [hx] at hxb
      have hap : (x : Int) + t.L + t.A = P56.ap t k := by unfold P56.ap; rw [hx]
      (repeat' (first | (with_reducible refine w_seq ?_) | (with_reducible refine c_region ?_) | (with_reducible refine s_nil ?_) | (with_reducible refine q_then_n ?_) | ((with_reducible apply s_pure hF); exact rfl; exact rfl; exact rfl; (first | exact trivial | omega | exact ⟨Int.natCast_nonneg _, Int.ofNat_lt.2 (by assumption)⟩ | decide); clear hF a; intro a hF) | (with_reducible refine w_skip ?_) | ((with_reducible apply c_false2 hF); exact rfl; (first | with_reducible rfl | (refine congrArg Value.bool ?_; focus (simp; done))))))
      simp only [Option.getD_some, Option.isSome_some] at hF
      have e1 : (P56.cls t k).map (Value.int .i64) ++ [.int .i64 (((k : Int) + 1) * (p : Int))] = (P56.cls t (k + 1)).map (Value.int .i64) := by rw [P56.cls_step hp, List.map_append]; rfl
      have e2 : (P56.sts t k).map (Value.int .i64) ++ [.int .i64 (P56.st t k)] = (P56.sts t (k + 1)).map (Value.int .i64) := by rw [P56.sts_succ, List.map_append]; rfl
      have e3 : (P56.ens t k).map (Value.int .i64) ++ [.int .i64 x] = (P56.ens t (k + 1)).map (Value.int .i64) := by rw [P56.ens_succ, List.map_append, hx]; rfl
      have e4 : (P56.aps t k).map (Value.int .i64) ++ [.int .i64 ((x : Int) + t.L + t.A)] = (P56.aps t (k + 1)).map (Value.int .i64) := by rw [P56.aps_succ, List.map_append, hap]; rfl
      refine c_cut (fun a w' => ∃ u1 u2, Fr 76 [] [(12, .int .i64 x), (17, .int .i64 k), (16, .int .i64 (P56.cycles t)), (15, .slice (some ad) (P56.cycles t) cs_), (7, .int .i64 x), (6, .pointer (some ⟨b, 0, none⟩)), (4, .pointer (some ⟨b4, 0, none⟩)), (2, .pointer (some ⟨b2, 0, none⟩)), (1, .func (.func 83) #[cv] #[])] a ∧ Mm own W [⟨b, ⟨[u1, u2, v3, v4, .int .i64 0]⟩, 73⟩, ⟨b4, ⟨[.slice none 0 0, .slice none 0 0, .slice none 0 0, .slice none 0 0, .int .i64 0]⟩, 73⟩, ⟨b2, ⟨[.slice a0 t.W.length c, .slice y z u, .int .i64 p, .int .i64 t.L, .int .i64 t.A]⟩, 42⟩] [⟨3, 1, u1, k + 1, (P56.cls t k).map (Value.int .i64) ++ [.int .i64 (((k : Int) + 1) * (p : Int))]⟩, ⟨3, 1, u2, k + 1, (P56.sts t k).map (Value.int .i64) ++ [.int .i64 (P56.st t k)]⟩, ⟨3, 1, v3, k, (P56.ens t k).map (Value.int .i64)⟩, ⟨3, 1, v4, k, (P56.aps t k).map (Value.int .i64)⟩] [RdF (Value.int .i64) (some ad) (szs t), RdF (Value.int .i64) a0 t.W, (IsCar · cv t.C)] w') ?_ ?_
      · refine c_draw (fun i => Nat.ble 11 i) hM ?_; clear hM; intro w hM
        (first | (refine t_pure (i := 0) hF rfl rfl rfl rfl (by kernel_rfl) hM.sm (fun _ _ _ h => h) ?_ ?_; (first | exact trivial | omega | decide); clear hF a; intro a hF))
        (first | (apply t_load (i := 1) hF rfl rfl rfl; (repeat (first | exact List.mem_cons_self | refine List.mem_cons_of_mem _ ?_)); exact rfl; exact rfl; kernel_rfl; exact hM.sm; exact (fun _ _ _ h => h); clear hF a; intro a hF))
        (first | (refine t_pure (i := 2) hF rfl rfl rfl rfl (by kernel_rfl) hM.sm (fun _ _ _ h => h) ?_ ?_; (first | exact trivial | omega | decide); clear hF a; intro a hF))
        (first | (refine t_pure (i := 5) hF rfl rfl rfl rfl (by kernel_rfl) hM.sm (fun _ _ _ h => h) ?_ ?_; (first | exact trivial | omega | decide); clear hF a; intro a hF))
        (first | (apply t_load (i := 6) hF rfl rfl rfl; (repeat (first | exact List.mem_cons_self | refine List.mem_cons_of_mem _ ?_)); exact rfl; exact rfl; kernel_rfl; exact hM.sm; exact (fun _ _ _ h => h); clear hF a; intro a hF))
        (first | (refine t_pure (i := 7) hF rfl rfl rfl rfl (by kernel_rfl) hM.sm (fun _ _ _ h => h) ?_ ?_; (first | exact trivial | omega | decide); clear hF a; intro a hF))
        refine t_two (i := 3) (j := 8) hF rfl rfl (by kernel_rfl) rfl rfl ?_ ?_
        ·
          intro K hK
          (refine x_lit hF hM rfl rfl rfl ?_; clear hF hM a; intro bl w a hM hF)
          refine hK _ _ (fun _ => (hM.sm.sub (fun x hx => by repeat (first | exact hx | refine List.mem_cons_of_mem _ ?_)) (fun _ h => by repeat (first | exact h | refine List.mem_cons_of_mem _ ?_)))) ?_; clear hK
          refine t_two (i := 4) (j := 8) hF rfl rfl (by kernel_rfl) rfl rfl ?_ ?_
          ·
            intro K hK
            (apply x_app hF hM rfl rfl rfl; (repeat (first | exact List.mem_cons_self | refine List.mem_cons_of_mem _ ?_)); (repeat (first | exact Kth.z | apply Kth.s)); exact rfl; exact rfl; exact rfl; exact rfl; omega; clear hF hM a; intro g cap w a hM hF; dsimp only [List.set] at hM)
            refine hK _ _ (fun _ => (hM.sm.sub (fun x hx => by repeat (first | exact hx | refine List.mem_cons_of_mem _ ?_)) (fun _ h => by repeat (first | exact h | refine List.mem_cons_of_mem _ ?_)))) ?_; clear hK
            (first | (refine t_pure (i := 10) hF rfl rfl rfl rfl (by kernel_rfl) (hM.sm.sub (fun x hx => by repeat (first | exact hx | refine List.mem_cons_of_mem _ ?_)) (fun _ h => by repeat (first | exact h | refine List.mem_cons_of_mem _ ?_))) (fun _ _ _ h => h) ?_ ?_; (first | exact trivial | omega | decide); clear hF a; intro a hF))
            refine t_one (i := 8) hF rfl (by kernel_rfl) rfl ?_
            intro K hK
            (refine x_lit hF hM rfl rfl rfl ?_; clear hF hM a; intro bl w a hM hF)
            refine hK _ _ (fun _ => (hM.sm.sub (fun x hx => by repeat (first | exact hx | refine List.mem_cons_of_mem _ ?_)) (fun _ h => by repeat (first | exact h | refine List.mem_cons_of_mem _ ?_)))) ?_; clear hK
            refine t_one (i := 9) hF rfl (by kernel_rfl) rfl ?_
            intro K hK
            (apply x_app hF hM rfl rfl rfl; (repeat (first | exact List.mem_cons_self | refine List.mem_cons_of_mem _ ?_)); (repeat (first | exact Kth.z | apply Kth.s)); exact rfl; exact rfl; exact rfl; exact rfl; omega; clear hF hM a; intro g cap w a hM hF; dsimp only [List.set] at hM)
            refine hK _ _ (fun _ => (hM.sm.sub (fun x hx => by repeat (first | exact hx | refine List.mem_cons_of_mem _ ?_)) (fun _ h => by repeat (first | exact h | refine List.mem_cons_of_mem _ ?_)))) ?_; clear hK
            refine t_one (i := 11) hF rfl (by kernel_rfl) rfl ?_
            intro K hK
            (apply x_store hF hM rfl rfl rfl; (repeat (first | exact Upd.z | apply Upd.s)); exact rfl; exact rfl; exact rfl; clear hF hM a; intro w a hM hF)
            refine hK _ _ (fun h => by cases h) ?_; clear hK
            refine t_one (i := 12) hF rfl (by kernel_rfl) rfl ?_
            intro K hK
            (first | (refine x_pure hF hM rfl rfl ?_ ?_; (first | exact trivial | omega | decide); clear hF a; intro a hF) | (apply x_load hF hM rfl; (repeat (first | exact List.mem_cons_self | refine List.mem_cons_of_mem _ ?_)); exact rfl; exact rfl; clear hF a; intro a hF))
            refine hK _ _ (fun h => by cases h) ?_; clear hK
            refine t_one (i := 13) hF rfl (by kernel_rfl) rfl ?_
            intro K hK
            (apply x_store hF hM rfl rfl rfl; (repeat (first | exact Upd.z | apply Upd.s)); exact rfl; exact rfl; exact rfl; clear hF hM a; intro w a hM hF)
            refine hK _ _ (fun h => by cases h) ?_; clear hK
            refine t_done (by kernel_rfl) ?_
            exact q_cut ⟨_, _, hF.sub (by repeat (first | exact Sub.nil | refine Sub.cons rfl (by first | with_reducible rfl | (refine congrArg (Value.int _) ?_; omega) | exact rfl) ?_)), hM.sub (.cons _ (.cons _ (.refl _))) (.refl _) (fun _ h => h)⟩
          ·
            intro K hK
            (refine x_lit hF hM rfl rfl rfl ?_; clear hF hM a; intro bl w a hM hF)
            refine hK _ _ (fun _ => (hM.sm.sub (fun x hx => by repeat (first | exact hx | refine List.mem_cons_of_mem _ ?_)) (fun _ h => by repeat (first | exact h | refine List.mem_cons_of_mem _ ?_)))) ?_; clear hK
            refine t_one (i := 4) hF rfl (by kernel_rfl) rfl ?_
            intro K hK
            (apply x_app hF hM rfl rfl rfl; (repeat (first | exact List.mem_cons_self | refine List.mem_cons_of_mem _ ?_)); (repeat (first | exact Kth.z | apply Kth.s)); exact rfl; exact rfl; exact rfl; exact rfl; omega; clear hF hM a; intro g cap w a hM hF; dsimp only [List.set] at hM)
            refine hK _ _ (fun _ => (hM.sm.sub (fun x hx => by repeat (first | exact hx | refine List.mem_cons_of_mem _ ?_)) (fun _ h => by repeat (first | exact h | refine List.mem_cons_of_mem _ ?_)))) ?_; clear hK
            (first | (refine t_pure (i := 10) hF rfl rfl rfl rfl (by kernel_rfl) (hM.sm.sub (fun x hx => by repeat (first | exact hx | refine List.mem_cons_of_mem _ ?_)) (fun _ h => by repeat (first | exact h | refine List.mem_cons_of_mem _ ?_))) (fun _ _ _ h => h) ?_ ?_; (first | exact trivial | omega | decide); clear hF a; intro a hF))
            refine t_one (i := 9) hF rfl (by kernel_rfl) rfl ?_
            intro K hK
            (apply x_app hF hM rfl rfl rfl; (repeat (first | exact List.mem_cons_self | refine List.mem_cons_of_mem _ ?_)); (repeat (first | exact Kth.z | apply Kth.s)); exact rfl; exact rfl; exact rfl; exact rfl; omega; clear hF hM a; intro g cap w a hM hF; dsimp only [List.set] at hM)
            refine hK _ _ (fun _ => (hM.sm.sub (fun x hx => by repeat (first | exact hx | refine List.mem_cons_of_mem _ ?_)) (fun _ h => by repeat (first | exact h | refine List.mem_cons_of_mem _ ?_)))) ?_; clear hK
            refine t_one (i := 11) hF rfl (by kernel_rfl) rfl ?_
            intro K hK
            (apply x_store hF hM rfl rfl rfl; (repeat (first | exact Upd.z | apply Upd.s)); exact rfl; exact rfl; exact rfl; clear hF hM a; intro w a hM hF)
            refine hK _ _ (fun h => by cases h) ?_; clear hK
            refine t_one (i := 12) hF rfl (by kernel_rfl) rfl ?_
            intro K hK
            (first | (refine x_pure hF hM rfl rfl ?_ ?_; (first | exact trivial | omega | decide); clear hF a; intro a hF) | (apply x_load hF hM rfl; (repeat (first | exact List.mem_cons_self | refine List.mem_cons_of_mem _ ?_)); exact rfl; exact rfl; clear hF a; intro a hF))
            refine hK _ _ (fun h => by cases h) ?_; clear hK
            refine t_one (i := 13) hF rfl (by kernel_rfl) rfl ?_
            intro K hK
            (apply x_store hF hM rfl rfl rfl; (repeat (first | exact Upd.z | apply Upd.s)); exact rfl; exact rfl; exact rfl; clear hF hM a; intro w a hM hF)
            refine hK _ _ (fun h => by cases h) ?_; clear hK
            refine t_done (by kernel_rfl) ?_
            exact q_cut ⟨_, _, hF.sub (by repeat (first | exact Sub.nil | refine Sub.cons rfl (by first | with_reducible rfl | (refine congrArg (Value.int _) ?_; omega) | exact rfl) ?_)), hM.sub (.cons _ (.cons _ (.refl _))) (.refl _) (fun _ h => h)⟩
        ·
          intro K hK
          (refine x_lit hF hM rfl rfl rfl ?_; clear hF hM a; intro bl w a hM hF)
          refine hK _ _ (fun _ => (hM.sm.sub (fun x hx => by repeat (first | exact hx | refine List.mem_cons_of_mem _ ?_)) (fun _ h => by repeat (first | exact h | refine List.mem_cons_of_mem _ ?_)))) ?_; clear hK
          refine t_one (i := 3) hF rfl (by kernel_rfl) rfl ?_
          intro K hK
          (refine x_lit hF hM rfl rfl rfl ?_; clear hF hM a; intro bl w a hM hF)
          refine hK _ _ (fun _ => (hM.sm.sub (fun x hx => by repeat (first | exact hx | refine List.mem_cons_of_mem _ ?_)) (fun _ h => by repeat (first | exact h | refine List.mem_cons_of_mem _ ?_)))) ?_; clear hK
          refine t_one (i := 4) hF rfl (by kernel_rfl) rfl ?_
          intro K hK
          (apply x_app hF hM rfl rfl rfl; (repeat (first | exact List.mem_cons_self | refine List.mem_cons_of_mem _ ?_)); (repeat (first | exact Kth.z | apply Kth.s)); exact rfl; exact rfl; exact rfl; exact rfl; omega; clear hF hM a; intro g cap w a hM hF; dsimp only [List.set] at hM)
          refine hK _ _ (fun _ => (hM.sm.sub (fun x hx => by repeat (first | exact hx | refine List.mem_cons_of_mem _ ?_)) (fun _ h => by repeat (first | exact h | refine List.mem_cons_of_mem _ ?_)))) ?_; clear hK
          (first | (refine t_pure (i := 10) hF rfl rfl rfl rfl (by kernel_rfl) (hM.sm.sub (fun x hx => by repeat (first | exact hx | refine List.mem_cons_of_mem _ ?_)) (fun _ h => by repeat (first | exact h | refine List.mem_cons_of_mem _ ?_))) (fun _ _ _ h => h) ?_ ?_; (first | exact trivial | omega | decide); clear hF a; intro a hF))
          refine t_one (i := 9) hF rfl (by kernel_rfl) rfl ?_
          intro K hK
          (apply x_app hF hM rfl rfl rfl; (repeat (first | exact List.mem_cons_self | refine List.mem_cons_of_mem _ ?_)); (repeat (first | exact Kth.z | apply Kth.s)); exact rfl; exact rfl; exact rfl; exact rfl; omega; clear hF hM a; intro g cap w a hM hF; dsimp only [List.set] at hM)
          refine hK _ _ (fun _ => (hM.sm.sub (fun x hx => by repeat (first | exact hx | refine List.mem_cons_of_mem _ ?_)) (fun _ h => by repeat (first | exact h | refine List.mem_cons_of_mem _ ?_)))) ?_; clear hK
          refine t_one (i := 11) hF rfl (by kernel_rfl) rfl ?_
          intro K hK
          (apply x_store hF hM rfl rfl rfl; (repeat (first | exact Upd.z | apply Upd.s)); exact rfl; exact rfl; exact rfl; clear hF hM a; intro w a hM hF)
          refine hK _ _ (fun h => by cases h) ?_; clear hK
          refine t_one (i := 12) hF rfl (by kernel_rfl) rfl ?_
          intro K hK
          (first | (refine x_pure hF hM rfl rfl ?_ ?_; (first | exact trivial | omega | decide); clear hF a; intro a hF) | (apply x_load hF hM rfl; (repeat (first | exact List.mem_cons_self | refine List.mem_cons_of_mem _ ?_)); exact rfl; exact rfl; clear hF a; intro a hF))
          refine hK _ _ (fun h => by cases h) ?_; clear hK
          refine t_one (i := 13) hF rfl (by kernel_rfl) rfl ?_
          intro K hK
          (apply x_store hF hM rfl rfl rfl; (repeat (first | exact Upd.z | apply Upd.s)); exact rfl; exact rfl; exact rfl; clear hF hM a; intro w a hM hF)
          refine hK _ _ (fun h => by cases h) ?_; clear hK
          refine t_done (by kernel_rfl) ?_
          exact q_cut ⟨_, _, hF.sub (by repeat (first | exact Sub.nil | refine Sub.cons rfl (by first | with_reducible rfl | (refine congrArg (Value.int _) ?_; omega) | exact rfl) ?_)), hM.sub (.cons _ (.cons _ (.refl _))) (.refl _) (fun _ h => h)⟩
      clear hF hM a
      rintro a w' ⟨u1, u2, hF, hM⟩
      rw [e1, e2] at hM
      (repeat (first | fail))
      refine c_draw (fun i => Nat.ble 17 i) hM ?_; clear hM; intro w hM
      (first | (refine t_pure (i := 0) hF rfl rfl rfl rfl (by kernel_rfl) hM.sm (fun _ _ _ h => h) ?_ ?_; (first | exact trivial | omega | decide); clear hF a; intro a hF))
      (first | (apply t_load (i := 1) hF rfl rfl rfl; (repeat (first | exact List.mem_cons_self | refine List.mem_cons_of_mem _ ?_)); exact rfl; exact rfl; kernel_rfl; exact hM.sm; exact (fun _ _ _ h => h); clear hF a; intro a hF))
      (first | (refine t_pure (i := 2) hF rfl rfl rfl rfl (by kernel_rfl) hM.sm (fun _ _ _ h => h) ?_ ?_; (first | exact trivial | omega | decide); clear hF a; intro a hF))
      (first | (refine t_pure (i := 5) hF rfl rfl rfl rfl (by kernel_rfl) hM.sm (fun _ _ _ h => h) ?_ ?_; (first | exact trivial | omega | decide); clear hF a; intro a hF))
      (first | (apply t_load (i := 6) hF rfl rfl rfl; (repeat (first | exact List.mem_cons_self | refine List.mem_cons_of_mem _ ?_)); exact rfl; exact rfl; kernel_rfl; exact hM.sm; exact (fun _ _ _ h => h); clear hF a; intro a hF))
      (first | (refine t_pure (i := 7) hF rfl rfl rfl rfl (by kernel_rfl) hM.sm (fun _ _ _ h => h) ?_ ?_; (first | exact trivial | omega | decide); clear hF a; intro a hF))
      (first | (refine t_pure (i := 8) hF rfl rfl rfl rfl (by kernel_rfl) hM.sm (fun _ _ _ h => h) ?_ ?_; (first | exact trivial | omega | decide); clear hF a; intro a hF))
      (first | (apply t_load (i := 9) hF rfl rfl rfl; (repeat (first | exact List.mem_cons_self | refine List.mem_cons_of_mem _ ?_)); exact rfl; exact rfl; kernel_rfl; exact hM.sm; exact (fun _ _ _ h => h); clear hF a; intro a hF))
      (first | (refine t_pure (i := 10) hF rfl rfl rfl rfl (by kernel_rfl) hM.sm (fun _ _ _ h => h) ?_ ?_; (first | exact trivial | omega | decide); clear hF a; intro a hF))
      (first | (refine t_pure (i := 11) hF rfl rfl rfl rfl (by kernel_rfl) hM.sm (fun _ _ _ h => h) ?_ ?_; (first | exact trivial | omega | decide); clear hF a; intro a hF))
      (first | (apply t_load (i := 12) hF rfl rfl rfl; (repeat (first | exact List.mem_cons_self | refine List.mem_cons_of_mem _ ?_)); exact rfl; exact rfl; kernel_rfl; exact hM.sm; exact (fun _ _ _ h => h); clear hF a; intro a hF))
      (first | (refine t_pure (i := 13) hF rfl rfl rfl rfl (by kernel_rfl) hM.sm (fun _ _ _ h => h) ?_ ?_; (first | exact trivial | omega | decide); clear hF a; intro a hF))
      refine t_two (i := 3) (j := 14) hF rfl rfl (by kernel_rfl) rfl rfl ?_ ?_
      ·
        intro K hK
        (refine x_lit hF hM rfl rfl rfl ?_; clear hF hM a; intro bl w a hM hF)
        refine hK _ _ (fun _ => (hM.sm.sub (fun x hx => by repeat (first | exact hx | refine List.mem_cons_of_mem _ ?_)) (fun _ h => by repeat (first | exact h | refine List.mem_cons_of_mem _ ?_)))) ?_; clear hK
        refine t_two (i := 4) (j := 14) hF rfl rfl (by kernel_rfl) rfl rfl ?_ ?_
        ·
          intro K hK
          (apply x_app hF hM rfl rfl rfl; (repeat (first | exact List.mem_cons_self | refine List.mem_cons_of_mem _ ?_)); (repeat (first | exact Kth.z | apply Kth.s)); exact rfl; exact rfl; exact rfl; exact rfl; omega; clear hF hM a; intro g cap w a hM hF; dsimp only [List.set] at hM)
          refine hK _ _ (fun _ => (hM.sm.sub (fun x hx => by repeat (first | exact hx | refine List.mem_cons_of_mem _ ?_)) (fun _ h => by repeat (first | exact h | refine List.mem_cons_of_mem _ ?_)))) ?_; clear hK
          (first | (refine t_pure (i := 16) hF rfl rfl rfl rfl (by kernel_rfl) (hM.sm.sub (fun x hx => by repeat (first | exact hx | refine List.mem_cons_of_mem _ ?_)) (fun _ h => by repeat (first | exact h | refine List.mem_cons_of_mem _ ?_))) (fun _ _ _ h => h) ?_ ?_; (first | exact trivial | omega | decide); clear hF a; intro a hF))
          refine t_one (i := 14) hF rfl (by kernel_rfl) rfl ?_
          intro K hK
          (refine x_lit hF hM rfl rfl rfl ?_; clear hF hM a; intro bl w a hM hF)
          refine hK _ _ (fun _ => (hM.sm.sub (fun x hx => by repeat (first | exact hx | refine List.mem_cons_of_mem _ ?_)) (fun _ h => by repeat (first | exact h | refine List.mem_cons_of_mem _ ?_)))) ?_; clear hK
          refine t_one (i := 15) hF rfl (by kernel_rfl) rfl ?_
          intro K hK
          (apply x_app hF hM rfl rfl rfl; (repeat (first | exact List.mem_cons_self | refine List.mem_cons_of_mem _ ?_)); (repeat (first | exact Kth.z | apply Kth.s)); exact rfl; exact rfl; exact rfl; exact rfl; omega; clear hF hM a; intro g cap w a hM hF; dsimp only [List.set] at hM)
          refine hK _ _ (fun _ => (hM.sm.sub (fun x hx => by repeat (first | exact hx | refine List.mem_cons_of_mem _ ?_)) (fun _ h => by repeat (first | exact h | refine List.mem_cons_of_mem _ ?_)))) ?_; clear hK
          refine t_one (i := 17) hF rfl (by kernel_rfl) rfl ?_
          intro K hK
          (apply x_store hF hM rfl rfl rfl; (repeat (first | exact Upd.z | apply Upd.s)); exact rfl; exact rfl; exact rfl; clear hF hM a; intro w a hM hF)
          refine hK _ _ (fun h => by cases h) ?_; clear hK
          refine t_one (i := 18) hF rfl (by kernel_rfl) rfl ?_
          intro K hK
          (first | (refine x_pure hF hM rfl rfl ?_ ?_; (first | exact trivial | omega | decide); clear hF a; intro a hF) | (apply x_load hF hM rfl; (repeat (first | exact List.mem_cons_self | refine List.mem_cons_of_mem _ ?_)); exact rfl; exact rfl; clear hF a; intro a hF))
          refine hK _ _ (fun h => by cases h) ?_; clear hK
          refine t_one (i := 19) hF rfl (by kernel_rfl) rfl ?_
          intro K hK
          (apply x_store hF hM rfl rfl rfl; (repeat (first | exact Upd.z | apply Upd.s)); exact rfl; exact rfl; exact rfl; clear hF hM a; intro w a hM hF)
          refine hK _ _ (fun h => by cases h) ?_; clear hK
          refine t_done (by kernel_rfl) ?_
          (repeat (first | (with_reducible refine c_region ?_) | (with_reducible refine s_nil ?_) | (with_reducible refine q_then_n ?_) | ((with_reducible apply s_pure hF); exact rfl; exact rfl; exact rfl; (first | exact trivial | omega | exact ⟨Int.natCast_nonneg _, Int.ofNat_lt.2 (by assumption)⟩ | decide); clear hF a; intro a hF) | (with_reducible refine q_blk_n ?_)))
          replace hM := hM.sub (.cons _ (.cons _ (.refl _))) (.refl _) (fun _ h => h)
          have hM : Mm own W [⟨b, ⟨[u1, u2, _, _, .int .i64 0]⟩, 73⟩, _, _] [_, _, ⟨3, 1, _, k + 1, (P56.ens t k).map (Value.int .i64) ++ [.int .i64 x]⟩, ⟨3, 1, _, k + 1, (P56.aps t k).map (Value.int .i64) ++ [.int .i64 ((x : Int) + t.L + t.A)]⟩] _ _ := hM
          rw [e3, e4, ← hp] at hM
          exact ⟨m - 1, by omega, k + 1, _, _, _, _, by omega, by rw [hEs, hx], hF.sub (by repeat (first | exact Sub.nil | refine Sub.cons rfl (by first | with_reducible rfl | (refine congrArg (Value.int _) ?_; omega) | (rw [hx]) | exact rfl) ?_)), hM⟩
        ·
          intro K hK
          (refine x_lit hF hM rfl rfl rfl ?_; clear hF hM a; intro bl w a hM hF)
          refine hK _ _ (fun _ => (hM.sm.sub (fun x hx => by repeat (first | exact hx | refine List.mem_cons_of_mem _ ?_)) (fun _ h => by repeat (first | exact h | refine List.mem_cons_of_mem _ ?_)))) ?_; clear hK
          refine t_one (i := 4) hF rfl (by kernel_rfl) rfl ?_
          intro K hK
          (apply x_app hF hM rfl rfl rfl; (repeat (first | exact List.mem_cons_self | refine List.mem_cons_of_mem _ ?_)); (repeat (first | exact Kth.z | apply Kth.s)); exact rfl; exact rfl; exact rfl; exact rfl; omega; clear hF hM a; intro g cap w a hM hF; dsimp only [List.set] at hM)
          refine hK _ _ (fun _ => (hM.sm.sub (fun x hx => by repeat (first | exact hx | refine List.mem_cons_of_mem _ ?_)) (fun _ h => by repeat (first | exact h | refine List.mem_cons_of_mem _ ?_)))) ?_; clear hK
          (first | (refine t_pure (i := 16) hF rfl rfl rfl rfl (by kernel_rfl) (hM.sm.sub (fun x hx => by repeat (first | exact hx | refine List.mem_cons_of_mem _ ?_)) (fun _ h => by repeat (first | exact h | refine List.mem_cons_of_mem _ ?_))) (fun _ _ _ h => h) ?_ ?_; (first | exact trivial | omega | decide); clear hF a; intro a hF))
          refine t_one (i := 15) hF rfl (by kernel_rfl) rfl ?_
          intro K hK
          (apply x_app hF hM rfl rfl rfl; (repeat (first | exact List.mem_cons_self | refine List.mem_cons_of_mem _ ?_)); (repeat (first | exact Kth.z | apply Kth.s)); exact rfl; exact rfl; exact rfl; exact rfl; omega; clear hF hM a; intro g cap w a hM hF; dsimp only [List.set] at hM)
          refine hK _ _ (fun _ => (hM.sm.sub (fun x hx => by repeat (first | exact hx | refine List.mem_cons_of_mem _ ?_)) (fun _ h => by repeat (first | exact h | refine List.mem_cons_of_mem _ ?_)))) ?_; clear hK
          refine t_one (i := 17) hF rfl (by kernel_rfl) rfl ?_
          intro K hK
          (apply x_store hF hM rfl rfl rfl; (repeat (first | exact Upd.z | apply Upd.s)); exact rfl; exact rfl; exact rfl; clear hF hM a; intro w a hM hF)
          refine hK _ _ (fun h => by cases h) ?_; clear hK
          refine t_one (i := 18) hF rfl (by kernel_rfl) rfl ?_
          intro K hK
          (first | (refine x_pure hF hM rfl rfl ?_ ?_; (first | exact trivial | omega | decide); clear hF a; intro a hF) | (apply x_load hF hM rfl; (repeat (first | exact List.mem_cons_self | refine List.mem_cons_of_mem _ ?_)); exact rfl; exact rfl; clear hF a; intro a hF))
          refine hK _ _ (fun h => by cases h) ?_; clear hK
          refine t_one (i := 19) hF rfl (by kernel_rfl) rfl ?_
          intro K hK
          (apply x_store hF hM rfl rfl rfl; (repeat (first | exact Upd.z | apply Upd.s)); exact rfl; exact rfl; exact rfl; clear hF hM a; intro w a hM hF)
          refine hK _ _ (fun h => by cases h) ?_; clear hK
          refine t_done (by kernel_rfl) ?_
          (repeat (first | (with_reducible refine c_region ?_) | (with_reducible refine s_nil ?_) | (with_reducible refine q_then_n ?_) | ((with_reducible apply s_pure hF); exact rfl; exact rfl; exact rfl; (first | exact trivial | omega | exact ⟨Int.natCast_nonneg _, Int.ofNat_lt.2 (by assumption)⟩ | decide); clear hF a; intro a hF) | (with_reducible refine q_blk_n ?_)))
          replace hM := hM.sub (.cons _ (.cons _ (.refl _))) (.refl _) (fun _ h => h)
          have hM : Mm own W [⟨b, ⟨[u1, u2, _, _, .int .i64 0]⟩, 73⟩, _, _] [_, _, ⟨3, 1, _, k + 1, (P56.ens t k).map (Value.int .i64) ++ [.int .i64 x]⟩, ⟨3, 1, _, k + 1, (P56.aps t k).map (Value.int .i64) ++ [.int .i64 ((x : Int) + t.L + t.A)]⟩] _ _ := hM
          rw [e3, e4, ← hp] at hM
          exact ⟨m - 1, by omega, k + 1, _, _, _, _, by omega, by rw [hEs, hx], hF.sub (by repeat (first | exact Sub.nil | refine Sub.cons rfl (by first | with_reducible rfl | (refine congrArg (Value.int _) ?_; omega) | (rw [hx]) | exact rfl) ?_)), hM⟩
      ·
        intro K hK
        (refine x_lit hF hM rfl rfl rfl ?_; clear hF hM a; intro bl w a hM hF)
        refine hK _ _ (fun _ => (hM.sm.sub (fun x hx => by repeat (first | exact hx | refine List.mem_cons_of_mem _ ?_)) (fun _ h => by repeat (first | exact h | refine List.mem_cons_of_mem _ ?_)))) ?_; clear hK
        refine t_one (i := 3) hF rfl (by kernel_rfl) rfl ?_
        intro K hK
        (refine x_lit hF hM rfl rfl rfl ?_; clear hF hM a; intro bl w a hM hF)
        refine hK _ _ (fun _ => (hM.sm.sub (fun x hx => by repeat (first | exact hx | refine List.mem_cons_of_mem _ ?_)) (fun _ h => by repeat (first | exact h | refine List.mem_cons_of_mem _ ?_)))) ?_; clear hK
        refine t_one (i := 4) hF rfl (by kernel_rfl) rfl ?_
        intro K hK
        (apply x_app hF hM rfl rfl rfl; (repeat (first | exact List.mem_cons_self | refine List.mem_cons_of_mem _ ?_)); (repeat (first | exact Kth.z | apply Kth.s)); exact rfl; exact rfl; exact rfl; exact rfl; omega; clear hF hM a; intro g cap w a hM hF; dsimp only [List.set] at hM)
        refine hK _ _ (fun _ => (hM.sm.sub (fun x hx => by repeat (first | exact hx | refine List.mem_cons_of_mem _ ?_)) (fun _ h => by repeat (first | exact h | refine List.mem_cons_of_mem _ ?_)))) ?_; clear hK
        (first | (refine t_pure (i := 16) hF rfl rfl rfl rfl (by kernel_rfl) (hM.sm.sub (fun x hx => by repeat (first | exact hx | refine List.mem_cons_of_mem _ ?_)) (fun _ h => by repeat (first | exact h | refine List.mem_cons_of_mem _ ?_))) (fun _ _ _ h => h) ?_ ?_; (first | exact trivial | omega | decide); clear hF a; intro a hF))
        refine t_one (i := 15) hF rfl (by kernel_rfl) rfl ?_
        intro K hK
        (apply x_app hF hM rfl rfl rfl; (repeat (first | exact List.mem_cons_self | refine List.mem_cons_of_mem _ ?_)); (repeat (first | exact Kth.z | apply Kth.s)); exact rfl; exact rfl; exact rfl; exact rfl; omega; clear hF hM a; intro g cap w a hM hF; dsimp only [List.set] at hM)
        refine hK _ _ (fun _ => (hM.sm.sub (fun x hx => by repeat (first | exact hx | refine List.mem_cons_of_mem _ ?_)) (fun _ h => by repeat (first | exact h | refine List.mem_cons_of_mem _ ?_)))) ?_; clear hK
        refine t_one (i := 17) hF rfl (by kernel_rfl) rfl ?_
        intro K hK
        (apply x_store hF hM rfl rfl rfl; (repeat (first | exact Upd.z | apply Upd.s)); exact rfl; exact rfl; exact rfl; clear hF hM a; intro w a hM hF)
        refine hK _ _ (fun h => by cases h) ?_; clear hK
        refine t_one (i := 18) hF rfl (by kernel_rfl) rfl ?_
        intro K hK
        (first | (refine x_pure hF hM rfl rfl ?_ ?_; (first | exact trivial | omega | decide); clear hF a; intro a hF) | (apply x_load hF hM rfl; (repeat (first | exact List.mem_cons_self | refine List.mem_cons_of_mem _ ?_)); exact rfl; exact rfl; clear hF a; intro a hF))
        refine hK _ _ (fun h => by cases h) ?_; clear hK
        refine t_one (i := 19) hF rfl (by kernel_rfl) rfl ?_
        intro K hK
        (apply x_store hF hM rfl rfl rfl; (repeat (first | exact Upd.z | apply Upd.s)); exact rfl; exact rfl; exact rfl; clear hF hM a; intro w a hM hF)
        refine hK _ _ (fun h => by cases h) ?_; clear hK
        refine t_done (by kernel_rfl) ?_
        (repeat (first | (with_reducible refine c_region ?_) | (with_reducible refine s_nil ?_) | (with_reducible refine q_then_n ?_) | ((with_reducible apply s_pure hF); exact rfl; exact rfl; exact rfl; (first | exact trivial | omega | exact ⟨Int.natCast_nonneg _, Int.ofNat_lt.2 (by assumption)⟩ | decide); clear hF a; intro a hF) | (with_reducible refine q_blk_n ?_)))
        replace hM := hM.sub (.cons _ (.cons _ (.refl _))) (.refl _) (fun _ h => h)
        have hM : Mm own W [⟨b, ⟨[u1, u2, _, _, .int .i64 0]⟩, 73⟩, _, _] [_, _, ⟨3, 1, _, k + 1, (P56.ens t k).map (Value.int .i64) ++ [.int .i64 x]⟩, ⟨3, 1, _, k + 1, (P56.aps t k).map (Value.int .i64) ++ [.int .i64 ((x : Int) + t.L + t.A)]⟩] _ _ := hM
        rw [e3, e4, ← hp] at hM
        exact ⟨m - 1, by omega, k + 1, _, _, _, _, by omega, by rw [hEs, hx], hF.sub (by repeat (first | exact Sub.nil | refine Sub.cons rfl (by first | with_reducible rfl | (refine congrArg (Value.int _) ?_; omega) | (rw [hx]) | exact rfl) ?_)), hM⟩
  · obtain rfl : k = P56.cycles t := by omega
    obtain ⟨a1, d1, rfl, -, -⟩ := hM.row (List.mem_cons_self)
    obtain ⟨a2, d2, rfl, -, -⟩ := hM.row (List.mem_cons_of_mem _ List.mem_cons_self)
    obtain ⟨a3, d3, rfl, -, -⟩ := hM.row (List.mem_cons_of_mem _ (List.mem_cons_of_mem _ List.mem_cons_self))
    obtain ⟨a4, d4, rfl, -, -⟩ := hM.row (List.mem_cons_of_mem _ (List.mem_cons_of_mem _ (List.mem_cons_of_mem _ List.mem_cons_self)))
    have hm2 : ∀ {α : Type} {x y z : α} {r : List α}, z ∈ x :: y :: z :: r := by simp
    have hm3 : ∀ {α : Type} {x y z u : α} {r : List α}, u ∈ x :: y :: z :: u :: r := by simp
    have f1 := hM.rowFact List.mem_cons_self
    have f2 := hM.rowFact (List.mem_cons_of_mem _ List.mem_cons_self)
    have f3 := hM.rowFact hm2
    have f4 := hM.rowFact hm3
    have hpl := fun (b : Int) => ((f1.and f2).and (f3.and f4)).imp fun _ k => isPl_lists (b := b) (c1 := d1) (c2 := d2) (c3 := d3) (c4 := d4) k.1.1 k.1.2 k.2.1 k.2.2 hcy
    clear f1 f2 f3 f4
    (repeat' (first | (with_reducible refine w_seq ?_) | (with_reducible refine c_region ?_) | (with_reducible refine s_nil ?_) | ((with_reducible apply s_call (f := 112) hF hM); exact rfl; exact rfl; exact rfl; exact rfl; exact rfl; exact (bound_any (P56.lists t (P56.cycles t) 0) _ own _ (fun b hb => Nat.lt_of_lt_of_le (hM.low b hb) hM.since.size) (hpl 0) (by simp [P56.lists]) (by simpa [P56.lists] using hcy) (aps_bd ok) (cls_bd ok)); clear hF hM a; rintro v w a rfl - hM hF) | (with_reducible refine q_then_n ?_) | ((with_reducible apply s_pure hF); exact rfl; exact rfl; exact rfl; (first | exact trivial | omega | exact ⟨Int.natCast_nonneg _, Int.ofNat_lt.2 (by assumption)⟩ | decide); clear hF a; intro a hF) | ((with_reducible apply s_load hF hM); exact rfl; exact rfl; (repeat (first | exact List.mem_cons_self | refine List.mem_cons_of_mem _ ?_)); exact rfl; exact rfl; clear hF a; intro a hF) | ((with_reducible apply s_store hF hM); exact rfl; exact rfl; exact rfl; exact rfl; (repeat (first | exact Upd.z | apply Upd.s)); exact rfl; exact rfl; exact rfl; clear hM; intro w hM) | (with_reducible refine w_exit ?_) | (with_reducible refine w_ret ?_) | (with_reducible refine q_then_x ?_) | (with_reducible refine q_blk_x ?_) | ((with_reducible apply c_false2 hF); exact rfl; (first | with_reducible rfl | (refine congrArg Value.bool ?_; focus (simp; done))))))
    (apply f_ret Try.results81 hF hM; (repeat (first | exact RL.nil | (apply RL.tmp; exact rfl) | (apply RL.cell; exact rfl; (repeat (first | exact List.mem_cons_self | refine List.mem_cons_of_mem _ ?_)); exact rfl))); refine Ret.mk hM.since ?_; dsimp only [resV])
    rw [P56.planOk_some hE]
    have g1 := hM.rowFact List.mem_cons_self
    have g2 := hM.rowFact (List.mem_cons_of_mem _ List.mem_cons_self)
    have g3 := hM.rowFact hm2
    have g4 := hM.rowFact hm3
    rw [← bdL_bound ok]
    exact ⟨_, rfl, ((g1.and g2).and (g3.and g4)).imp fun _ k => isPl_lists k.1.1 k.1.2 k.2.1 k.2.2 hcy⟩
end Go.Proofs.Ytabfhoipclbeeaa


/- The planner: Plan, Verify, Age, given sizes; slices.Equal. -/
namespace Go.Proofs.Ytabfhoipclbeeaa
open Go.RowKit Go.Shelf
theorem isTr_open {own : Nat → Prop} {w : World} {v : Value} {t : P56.Tr} (h : Has own w (IsTr · v t)) : ∃ a a' c c', v = .agg #[.slice a t.W.length c, .slice a' t.C.length c', .int .i64 t.P, .int .i64 t.L, .int .i64 t.A] ∧
    Has own w (RdF (Value.int .i64) a t.W) ∧ Has own w (RdF (Value.int .i64) a' t.C) ∧ t.W.length ≤ 9223372036854775807 ∧ t.C.length ≤ 9223372036854775807 ∧ t.W.length ≤ c ∧ t.C.length ≤ c' := by
  obtain ⟨a, a', c, c', hv, -, -, h1, h2, h3, h4⟩ := h.get
  have key : ∀ w', IsTr w' v t → Reads (Value.int .i64) w' a t.W ∧ Reads (Value.int .i64) w' a' t.C := by
    rintro w' ⟨b, b', d, d', e, q1, q2, -⟩
    rw [hv] at e
    simp only [Value.agg.injEq, Array.mk.injEq, List.cons.injEq, Value.slice.injEq, true_and, and_true] at e
    obtain ⟨⟨rfl, -⟩, rfl, -⟩ := e
    exact ⟨q1, q2⟩
  exact ⟨a, a', c, c', hv, h.imp fun w' k => (key w' k).1, h.imp fun w' k => (key w' k).2, h1, h2, h3, h4⟩
theorem Plan_c (SZ : SizesSpec) (t : P56.Tr) (v : Value) (own : Nat → Prop) (W : World) (hl : ∀ b, own b → b < W.heap.size) (hv : Has own W (IsTr · v t)) :
    Calls Try.prog 36 ⟨[v]⟩ W (Ret W (PlanR own (P56.plan t))) := by
  obtain ⟨a0, a1, c0, c1, rfl, hW, hC, l1, l2, l3, l4⟩ := isTr_open hv
  have hM := (((Mm.start hl).known hv).known hW).known hC
  refine f_start Try.func36 rfl Try.ntmps36 rfl rfl ?_; intro a hF
  (repeat (first | (with_reducible refine w_seq ?_) | (with_reducible refine c_region ?_) | (with_reducible refine s_nil ?_) | ((with_reducible apply s_call (f := 37) hF hM); exact rfl; exact rfl; exact rfl; exact rfl; exact rfl; exact (Ret.of (check_any t _ _ (hM.fact (f := (IsTr · _ t)) (by (repeat (first | exact List.mem_cons_self | refine List.mem_cons_of_mem _ ?_)))))); clear hF hM a; rintro v w a rfl - hM hF) | (with_reducible refine q_then_n ?_) | ((with_reducible apply s_pure hF); exact rfl; exact rfl; exact rfl; (first | exact trivial | omega | exact ⟨Int.natCast_nonneg _, Int.ofNat_lt.2 (by assumption)⟩ | decide); clear hF a; intro a hF) | ((with_reducible apply s_load hF hM); exact rfl; exact rfl; (repeat (first | exact List.mem_cons_self | refine List.mem_cons_of_mem _ ?_)); exact rfl; exact rfl; clear hF a; intro a hF) | ((with_reducible apply s_alloc hF hM); exact rfl; exact rfl; exact rfl; clear hF hM a; intro b w a hM hF) | ((with_reducible apply s_box hF hM); exact rfl; exact rfl; exact rfl; exact rfl; clear hF hM a; intro b w a hM hF)))
  have hbetw : ∀ n lo hi w, Calls Try.prog 84 ⟨[.int .i64 n, .int .i64 lo, .int .i64 hi]⟩ w (Ret w fun v _ => v = .bool (decide (lo ≤ n ∧ n ≤ hi))) := fun n lo hi w => Ret.of ((between_any n lo hi w).mono fun _ _ h => ⟨h.1, h.2 ▸ Since.refl _⟩)
  by_cases hchk : P56.check t = 0
  · have ok := P56.check_ok.1 hchk
    (repeat' (first | (with_reducible refine w_seq ?_) | (with_reducible refine q_then_n ?_) | (with_reducible refine w_skip ?_) | ((with_reducible apply c_dec hF); exact rfl; all_goals intro hc; all_goals (try (exfalso; omega)))))
    refine c_draw (fun i => Nat.ble 8 i) hM ?_; clear hM; intro w hM
    (first | (apply t_load (i := 0) hF rfl rfl rfl; (repeat (first | exact List.mem_cons_self | refine List.mem_cons_of_mem _ ?_)); exact rfl; exact rfl; kernel_rfl; exact hM.sm; exact (fun _ _ _ h => h); clear hF a; intro a hF))
    (first | (refine t_pure (i := 1) hF rfl rfl rfl rfl (by kernel_rfl) hM.sm (fun _ _ _ h => h) ?_ ?_; (first | exact trivial | omega | decide); clear hF a; intro a hF))
    (first | (apply t_load (i := 2) hF rfl rfl rfl; (repeat (first | exact List.mem_cons_self | refine List.mem_cons_of_mem _ ?_)); exact rfl; exact rfl; kernel_rfl; exact hM.sm; exact (fun _ _ _ h => h); clear hF a; intro a hF))
    refine t_one (i := 3) hF rfl (by kernel_rfl) rfl ?_
    intro K hK
    (apply x_call hF hM; exact rfl; exact rfl; exact rfl; exact rfl; exact (newCarrier_c t.C a1 c1 _ _ hM.lt (hM.facts _ (by (repeat (first | exact List.mem_cons_self | refine List.mem_cons_of_mem _ ?_)))) ok.clen ok.c); clear hF hM a; rintro v w a hcar - hM hF)
    replace hM := hM.addFact hcar
    refine hK _ _ (fun _ => (hM.sm.sub (fun x hx => by repeat (first | exact hx | refine List.mem_cons_of_mem _ ?_)) (fun _ h => by repeat (first | exact h | refine List.mem_cons_of_mem _ ?_)))) ?_; clear hK
    (first | (refine t_pure (i := 4) hF rfl rfl rfl rfl (by kernel_rfl) (hM.sm.sub (fun x hx => by repeat (first | exact hx | refine List.mem_cons_of_mem _ ?_)) (fun _ h => by repeat (first | exact h | refine List.mem_cons_of_mem _ ?_))) (fun _ _ _ h => h) ?_ ?_; (first | exact trivial | omega | decide); clear hF a; intro a hF))
    refine t_one (i := 5) hF rfl (by kernel_rfl) rfl ?_
    intro K hK
    (apply x_call hF hM; exact rfl; exact rfl; exact rfl; exact rfl; exact (plan_c SZ t a0 c0 a1 t.C.length c1 _ _ _ hM.lt (hM.facts _ (by (repeat (first | exact List.mem_cons_self | refine List.mem_cons_of_mem _ ?_)))) (hM.facts _ List.mem_cons_self) ok l3); clear hF hM a; rintro v w a ⟨pv, rfl, hpv⟩ - hM hF)
    obtain ⟨q1, q2, q3, q4, d1, d2, d3, d4, rfl, -⟩ := hpv.get; replace hM := hM.addFact hpv
    refine hK _ _ (fun _ => (hM.sm.sub (fun x hx => by repeat (first | exact hx | refine List.mem_cons_of_mem _ ?_)) (fun _ h => by repeat (first | exact h | refine List.mem_cons_of_mem _ ?_)))) ?_; clear hK
    (first | (refine t_pure (i := 6) hF rfl rfl rfl rfl (by kernel_rfl) (hM.sm.sub (fun x hx => by repeat (first | exact hx | refine List.mem_cons_of_mem _ ?_)) (fun _ h => by repeat (first | exact h | refine List.mem_cons_of_mem _ ?_))) (fun _ _ _ h => h) ?_ ?_; (first | exact trivial | omega | decide); clear hF a; intro a hF))
    (first | (refine t_pure (i := 7) hF rfl rfl rfl rfl (by kernel_rfl) (hM.sm.sub (fun x hx => by repeat (first | exact hx | refine List.mem_cons_of_mem _ ?_)) (fun _ h => by repeat (first | exact h | refine List.mem_cons_of_mem _ ?_))) (fun _ _ _ h => h) ?_ ?_; (first | exact trivial | omega | decide); clear hF a; intro a hF))
    refine t_one (i := 8) hF rfl (by kernel_rfl) rfl ?_
    intro K hK
    (apply x_store hF hM rfl rfl rfl; (repeat (first | exact Upd.z | apply Upd.s)); exact rfl; exact rfl; exact rfl; clear hF hM a; intro w a hM hF)
    refine hK _ _ (fun h => by cases h) ?_; clear hK
    refine t_one (i := 9) hF rfl (by kernel_rfl) rfl ?_
    intro K hK
    (first | (refine x_pure hF hM rfl rfl ?_ ?_; (first | exact trivial | omega | decide); clear hF a; intro a hF) | (apply x_load hF hM rfl; (repeat (first | exact List.mem_cons_self | refine List.mem_cons_of_mem _ ?_)); exact rfl; exact rfl; clear hF a; intro a hF))
    refine hK _ _ (fun h => by cases h) ?_; clear hK
    refine t_done (by kernel_rfl) ?_
    (repeat (first | (with_reducible refine q_then_n ?_) | (with_reducible refine w_ret ?_)))
    (apply f_ret Try.results36 hF hM; (repeat (first | exact RL.nil | (apply RL.tmp; exact rfl) | (apply RL.cell; exact rfl; (repeat (first | exact List.mem_cons_self | refine List.mem_cons_of_mem _ ?_)); exact rfl))); refine Ret.mk hM.since ?_; dsimp only [resV])
    unfold P56.plan
    rw [if_pos hchk]
    exact ⟨_, rfl, hM.factOut List.mem_cons_self⟩
  · (repeat' (first | (with_reducible refine w_seq ?_) | (with_reducible refine c_region ?_) | (with_reducible refine s_nil ?_) | (with_reducible refine q_then_n ?_) | ((with_reducible apply s_pure hF); exact rfl; exact rfl; exact rfl; (first | exact trivial | omega | exact ⟨Int.natCast_nonneg _, Int.ofNat_lt.2 (by assumption)⟩ | decide); clear hF a; intro a hF) | ((with_reducible apply s_store hF hM); exact rfl; exact rfl; exact rfl; exact rfl; (repeat (first | exact Upd.z | apply Upd.s)); exact rfl; exact rfl; exact rfl; clear hM; intro w hM) | (with_reducible refine w_ret ?_) | (with_reducible refine q_then_r ?_) | ((with_reducible apply c_dec hF); exact rfl; all_goals intro hc; all_goals (try (exfalso; omega)))))
    (apply f_ret Try.results36 hF hM; (repeat (first | exact RL.nil | (apply RL.tmp; exact rfl) | (apply RL.cell; exact rfl; (repeat (first | exact List.mem_cons_self | refine List.mem_cons_of_mem _ ?_)); exact rfl))); refine Ret.mk hM.since ?_; dsimp only [resV])
    unfold P56.plan
    rw [if_neg hchk]
    exact ⟨_, rfl, Has.pure fun w => isPl_none w⟩
end Go.Proofs.Ytabfhoipclbeeaa


/- The planner: sizes, a range over slices.Chunk. -/
namespace Go.Proofs.Ytabfhoipclbeeaa
open Go.RowKit Go.Shelf
theorem reads_part {α : Type} {enc : α → Value} {w : World} {ad : Addr} {xs : List α} (h : Reads enc w (some ad) xs) (q p : Nat) : Reads enc w (some ⟨ad.block, ad.off + q, none⟩) ((xs.drop q).take p) := by
  intro i x hx
  have hx' : xs[q + i]? = some x := by
    rw [List.getElem?_take] at hx
    split at hx
    · rw [List.getElem?_drop] at hx; exact hx
    · cases hx
  obtain ⟨b, off, e, hb, hc⟩ := h _ x hx'
  injection e with e
  subst e
  exact ⟨b, off + q, rfl, hb, by rw [← hc]; congr 2; omega⟩
theorem chunk_call (a0 : Option Addr) (len c p : Nat) (hp0 : 1 ≤ p) (w : World) : Calls Try.prog 128 ⟨[.slice a0 len c, .int .i64 p]⟩ w (Ret w fun v w' => v = .func (.func 132) #[] #[.pointer (some ⟨w.heap.size, 0, none⟩), .pointer (some ⟨w.heap.size + 1, 0, none⟩)] ∧ w' = (w.alloc (.cells ⟨[.slice a0 len c]⟩ 22)).alloc (.cells ⟨[.int .i64 p]⟩ 3)) :=
  ((callsIn_wide (n := 9)).1 (chunk_in Fence.wide 9 trivial rfl a0 len c p hp0 w)).mono fun e w' ⟨h1, h2⟩ => ⟨_, h1, h2 ▸ ((Since.refl w).alloc _).alloc _, rfl, h2⟩
theorem below_of {W A B : World} (h : Since W A) (k : Since W B) (hs : A.heap.size ≤ B.heap.size) : Below W.heap.size A B :=
  ⟨k.os.trans h.os.symm, k.tape.trans h.tape.symm, k.output.trans h.output.symm, hs, fun b hb => (k.block b hb).trans (h.block b hb).symm⟩
set_option maxHeartbeats 4000000 in
theorem sizes_c : SizesSpec := by
  intro t a0 c y z u own W hl hr ok hwc
  obtain ⟨p, hp⟩ : ∃ p : Nat, t.P = p := ⟨t.P.toNat, by have := ok.p0; omega⟩
  have hp0 : 1 ≤ p := by have := ok.p0; omega
  have hp1 : p ≤ 4096 := by have := ok.p; omega
  have hwl := ok.wlen
  have hcy := P56.cycles_le ok
  have hcyc : (t.W.length + p - 1) / p = P56.cycles t := by unfold P56.cycles; rw [hp]; rfl
  have hM := (Mm.start hl).known hr
  rw [hp]
  refine f_startM Try.func111 rfl Try.ntmps111 rfl rfl ?_; intro a hF
  (repeat (first | (with_reducible refine w_seq ?_) | (with_reducible refine c_region ?_) | (with_reducible refine s_nil ?_) | (with_reducible refine q_then_n ?_) | ((with_reducible apply s_pure hF); exact rfl; exact rfl; exact rfl; (first | exact trivial | omega | exact ⟨Int.natCast_nonneg _, Int.ofNat_lt.2 (by assumption)⟩ | decide); clear hF a; intro a hF) | ((with_reducible apply s_load hF hM); exact rfl; exact rfl; (repeat (first | exact List.mem_cons_self | refine List.mem_cons_of_mem _ ?_)); exact rfl; exact rfl; clear hF a; intro a hF) | ((with_reducible apply s_alloc hF hM); exact rfl; exact rfl; exact rfl; clear hF hM a; intro b w a hM hF) | ((with_reducible apply s_box hF hM); exact rfl; exact rfl; exact rfl; exact rfl; clear hF hM a; intro b w a hM hF)))
  rename_i b1 wx
  (with_reducible apply s_op hF)
  exact rfl
  intro K hK
  refine e_call (f := 128) hF rfl rfl rfl (chunk_call a0 t.W.length c p hp0 w) ?_
  rintro v w' hs ⟨rfl, rfl⟩
  replace hM := (hM.box ⟨[.slice a0 t.W.length c]⟩ 22).box ⟨[.int .i64 p]⟩ 3
  refine hK _ _ ?_
  clear hK
  have hF := hF.put (d := 12) rfl (.func (.func 132) #[] #[.pointer (some ⟨w.heap.size, 0, none⟩), .pointer (some ⟨w.heap.size + 1, 0, none⟩)])
  simp only [World.size_alloc] at hM
  generalize ((w.alloc (.cells ⟨[.slice a0 t.W.length c]⟩ 22)).alloc (.cells ⟨[.int .i64 p]⟩ 3)) = w2 at *
  generalize w.heap.size = Bs at *
  generalize a.put (some 12) _ = a at *
  (repeat (first | (with_reducible refine s_nil ?_) | (with_reducible refine q_then_n ?_) | (with_reducible refine w_block ?_)))
  have hrow := hM.nilRow 3 1
  have hBs := hM.bx (b := Bs) (by (repeat (first | exact List.mem_cons_self | refine List.mem_cons_of_mem _ ?_)))
  have hBp := hM.bx (b := Bs + 1) (by (repeat (first | exact List.mem_cons_self | refine List.mem_cons_of_mem _ ?_)))
  have hWr := hM.fact (f := RdF (Value.int .i64) a0 t.W) (by (repeat (first | exact List.mem_cons_self | refine List.mem_cons_of_mem _ ?_)))
  have hlt2 : W.heap.size ≤ w2.heap.size := hM.since.size
  have hTB : t.W.length ≤ 4096 := hwl
  refine c_range1 hF rfl rfl rfl (va := fun x => apart a0 t.W.length p x) (la := fun x => [(4, apart a0 t.W.length p x), (3, .pointer (some ⟨b, 0, none⟩))])
    (chunk_reads Fence.wide 8 trivial rfl (by omega) Bs (Bs + 1) W.heap.size c p a0 t.W hwl hp0 hp1 hwc w2 w2 hBs.lt hBp.lt hWr (by rw [hBs.rules.1]; rfl) (by rw [hBp.rules.1]; rfl)) (by omega)
    (fun _ => Chunk.Kept.refl _ _ _ _) (fun h k => h.trans k) ?kb (Below.refl _ _)
    (fun pre W' => ∃ v, Mm own W [⟨Bs + 1, ⟨[.int .i64 p]⟩, 3⟩, ⟨Bs, ⟨[.slice a0 t.W.length c]⟩, 22⟩, ⟨b, ⟨[v]⟩, 22⟩, ⟨b1, ⟨[.slice a0 t.W.length c, .slice y z u, .int .i64 p, .int .i64 t.L, .int .i64 t.A]⟩, 42⟩]
      [⟨3, 1, v, pre.length, (pre.map (P56.size t)).map (Value.int .i64)⟩] [] W') ?hI ?h0 ?assign ?body ?done
  case kb =>
    intro W' lb o o' h1 h2 h3 h4
    have e1 := hBs.lt
    have e2 := hBp.lt
    exact ⟨belowK_b hlt2 W' lb o o' h1 h2 h3 h4, Chunk.cell_putObj o' (by omega), Chunk.cell_putObj o' (by omega)⟩
  case hI =>
    rintro pre W1 W2 row ⟨v, hm⟩ hg hr
    exact ⟨v, hm.turn hg (fun r e => ⟨by have := (hr r e).1; omega, (hr r e).2⟩)⟩
  case h0 => exact ⟨.slice none 0 0, hrow.sub (.refl _) (.refl _) (by simp)⟩
  case assign =>
    intro l0 k x a W' hF
    (repeat (first | ((with_reducible refine c_regionR ?_ ?_); rotate_left; exact rfl) | (with_reducible refine s_nil ?_) | ((with_reducible apply s_pure hF); exact rfl; exact rfl; exact rfl; (first | exact trivial | omega | exact ⟨Int.natCast_nonneg _, Int.ofNat_lt.2 (by assumption)⟩ | decide); clear hF a; intro a hF)))
    exact q_cut ⟨rfl, hF.sub (by repeat (first | exact Sub.nil | refine Sub.cons rfl (by first | with_reducible rfl | (refine congrArg (Value.int _) ?_; omega) | exact rfl) ?_))⟩
  case done =>
    rintro D xs a W' hD rfl ⟨v, hM⟩ hK hF
    rw [hcyc] at hM
    simp only [List.length_range] at hM
    obtain ⟨av, cv, rfl, -, -⟩ := hM.row List.mem_cons_self
    replace hM := hM.addDef hK (by omega)
    (repeat (first | (with_reducible refine w_seq ?_) | (with_reducible refine c_region ?_) | (with_reducible refine s_nil ?_) | (with_reducible refine q_then_n ?_) | ((with_reducible apply s_pure hF); exact rfl; exact rfl; exact rfl; (first | exact trivial | omega | exact ⟨Int.natCast_nonneg _, Int.ofNat_lt.2 (by assumption)⟩ | decide); clear hF a; intro a hF) | ((with_reducible apply s_load hF hM); exact rfl; exact rfl; (repeat (first | exact List.mem_cons_self | refine List.mem_cons_of_mem _ ?_)); exact rfl; exact rfl; clear hF a; intro a hF) | (with_reducible refine w_ret ?_) | (with_reducible refine q_blk_n ?_)))
    apply f_retM Try.results111 hF hM List.mem_cons_self (by omega)
    · (repeat (first | exact RL.nil | (apply RL.tmp; exact rfl) | (apply RL.cell; exact rfl; (repeat (first | exact List.mem_cons_self | refine List.mem_cons_of_mem _ ?_)); exact rfl)))
    intro w' hM'
    exact Ret.mk hM'.since ⟨_, _, rfl, hM'.rowFact List.mem_cons_self⟩
  case body =>
    rintro l0 k pre x a W' ⟨v, hM⟩ hF hlt
    have hne : t.W.length ≠ 0 := by
      intro h0
      rw [h0, Nat.div_eq_of_lt (by omega)] at hlt
      omega
    obtain ⟨x0, hx0⟩ := get_of_lt (l := t.W) (i := 0) (by omega)
    obtain ⟨bb, off, rfl, -, -⟩ := hWr 0 x0 hx0
    have hsz : P56.size t x = ((t.W.drop (x * p)).take p).sum := by unfold P56.size; rw [hp]; rfl
    have hDl : ((t.W.drop (x * p)).take p).length = min p (t.W.length - x * p) := by simp
    have hDb : ∀ y ∈ (t.W.drop (x * p)).take p, 0 ≤ y ∧ y ≤ 4096 := fun y hy => ok.w y (List.mem_of_mem_drop (List.mem_of_mem_take hy))
    have hDF := (hM.old hr).imp fun w h => reads_part (enc := Value.int .i64) h (x * p) p
    have e : apart (some ⟨bb, off, none⟩) t.W.length p x = .slice (some ⟨bb, off + x * p, none⟩) ((t.W.drop (x * p)).take p).length ((t.W.drop (x * p)).take p).length := by rw [hDl]; rfl
    rw [e] at hF
    generalize (t.W.drop (x * p)).take p = D at *
    have hM0 := hM
    replace hM : Mm own W _ _ [KeepsFrom w2.heap.size W', RdF (Value.int .i64) (some ⟨bb, off + x * p, none⟩) D] W' := (hM.addFact hDF).addFact (hM.ko hlt2)
    (repeat (first | (with_reducible refine w_seq ?_) | ((with_reducible refine c_regionR ?_ ?_); rotate_left; exact rfl) | (with_reducible refine s_nil ?_) | (with_reducible refine q_then_n ?_) | ((with_reducible apply s_pure hF); exact rfl; exact rfl; exact rfl; (first | exact trivial | omega | exact ⟨Int.natCast_nonneg _, Int.ofNat_lt.2 (by assumption)⟩ | decide); clear hF a; intro a hF) | (with_reducible refine w_block ?_)))
    refine c_loop (m := D.length) (fun m a w' => ∃ j : Nat, m + j = D.length ∧ Fr _ [] [(5, .int .i64 (D.take j).sum), (14, .slice (some ⟨bb, off + x * p, none⟩) D.length D.length), (15, .int .i64 D.length), (16, .int .i64 j), (3, .pointer (some ⟨b, 0, none⟩))] a ∧ Mm own W _ _ _ w') ⟨0, by omega, hF.sub (by repeat (first | exact Sub.nil | refine Sub.cons rfl (by first | with_reducible rfl | (refine congrArg (Value.int _) ?_; omega) | exact rfl) ?_)), hM⟩ ?_
    clear hF hM a
    rintro m a w' ⟨j, hj, hF, hM⟩
    have hsb := P56.sum_take_bd hDb j (by omega)
    by_cases hjl : j < D.length
    · obtain ⟨y, hy⟩ := get_of_lt hjl
      have hy0 := hDb y (List.mem_of_getElem? hy)
      have hst := P56.sum_take_step hy
      (repeat' (first | (with_reducible refine w_seq ?_) | ((with_reducible refine c_regionR ?_ ?_); rotate_left; exact rfl) | (with_reducible refine s_nil ?_) | (with_reducible refine q_then_n ?_) | ((with_reducible apply s_pure hF); exact rfl; exact rfl; exact rfl; (first | exact trivial | omega | exact ⟨Int.natCast_nonneg _, Int.ofNat_lt.2 (by assumption)⟩ | decide); clear hF a; intro a hF) | ((with_reducible apply s_loadF hF hM); exact rfl; exact rfl; (repeat (first | exact List.mem_cons_self | refine List.mem_cons_of_mem _ ?_)); exact rfl; exact rfl; (first | with_reducible assumption | (simp only [Int.toNat_natCast]; with_reducible assumption)); clear hF a; intro a hF) | (with_reducible refine w_skip ?_) | (with_reducible refine w_block ?_) | (with_reducible refine q_blk_n ?_) | ((with_reducible apply c_dec hF); exact rfl; all_goals intro hc; all_goals (try (exfalso; omega)))))
      exact ⟨m - 1, by omega, j + 1, by omega, hF.sub (by repeat (first | exact Sub.nil | refine Sub.cons rfl (by first | with_reducible rfl | (refine congrArg (Value.int _) ?_; omega) | (rw [hst]) | exact rfl) ?_)), hM⟩
    · have hpl : pre.length ≤ 4096 := by omega
      rw [List.take_of_length_le (by omega)] at hF hsb
      (repeat' (first | (with_reducible refine w_seq ?_) | ((with_reducible refine c_regionR ?_ ?_); rotate_left; exact rfl) | (with_reducible refine s_nil ?_) | (with_reducible refine q_then_n ?_) | ((with_reducible apply s_pure hF); exact rfl; exact rfl; exact rfl; (first | exact trivial | omega | exact ⟨Int.natCast_nonneg _, Int.ofNat_lt.2 (by assumption)⟩ | decide); clear hF a; intro a hF) | ((with_reducible apply s_load hF hM); exact rfl; exact rfl; (repeat (first | exact List.mem_cons_self | refine List.mem_cons_of_mem _ ?_)); exact rfl; exact rfl; clear hF a; intro a hF) | ((with_reducible apply s_store hF hM); exact rfl; exact rfl; exact rfl; exact rfl; (repeat (first | exact Upd.z | apply Upd.s)); exact rfl; exact rfl; exact rfl; clear hM; intro w hM) | ((with_reducible apply s_lit hF hM); exact rfl; exact rfl; exact rfl; exact rfl; clear hF hM a; intro bl w a hM hF) | ((with_reducible apply s_app hF hM); exact rfl; exact rfl; exact rfl; exact rfl; (repeat (first | exact Kth.z | apply Kth.s)); exact rfl; exact rfl; exact rfl; exact rfl; omega; clear hF hM a; intro g cap w a hM hF; dsimp only [List.set] at hM) | (with_reducible refine w_exit ?_) | (with_reducible refine q_then_x ?_) | (with_reducible refine q_blk_n ?_) | (with_reducible refine q_blk_x ?_) | ((with_reducible apply c_dec hF); exact rfl; all_goals intro hc; all_goals (try (exfalso; omega)))))
      have hko := hM.fact (f := KeepsFrom w2.heap.size W') (by (repeat (first | exact List.mem_cons_self | refine List.mem_cons_of_mem _ ?_)))
      refine ⟨hko, ⟨below_of hM0.since hM.since hko.size, ?_, ?_⟩, ?_⟩
      · rw [(hM.bx (b := Bs) (by (repeat (first | exact List.mem_cons_self | refine List.mem_cons_of_mem _ ?_)))).rules.1, (hM0.bx (b := Bs) (by (repeat (first | exact List.mem_cons_self | refine List.mem_cons_of_mem _ ?_)))).rules.1]
      · rw [(hM.bx (b := Bs + 1) (by (repeat (first | exact List.mem_cons_self | refine List.mem_cons_of_mem _ ?_)))).rules.1, (hM0.bx (b := Bs + 1) (by (repeat (first | exact List.mem_cons_self | refine List.mem_cons_of_mem _ ?_)))).rules.1]
      · refine ⟨.slice (some ⟨g, 0, none⟩) (pre.length + 1) cap, ?_⟩
        rw [List.map_append, List.map_append, List.length_append]
        simp only [List.map_cons, List.map_nil]
        rw [hsz]
        exact hM.sub (.refl _) (.refl _) (by simp)
end Go.Proofs.Ytabfhoipclbeeaa


/- certificate's law: small functions. -/
namespace Go.Proofs.Ytabfhoipclbeeaa
open Go.RowKit Go.Shelf C55 K57
set_option maxRecDepth 20000 in
theorem equalB_c (xs ys : List Int) (hx : ∀ x ∈ xs, 0 ≤ x ∧ x < 256) (hy : ∀ y ∈ ys, 0 ≤ y ∧ y < 256) (a1 a2 : Option Addr) (m1 m2 c1 c2 : Nat) (h1 : xs.length = m1) (h2 : ys.length = m2) (own : Nat → Prop) (W : World) (hl : ∀ b, own b → b < W.heap.size) (hv1 : Has own W (RdF (Value.int .u8) a1 xs)) (hv2 : Has own W (RdF (Value.int .u8) a2 ys)) :
    Calls Try.prog 32 ⟨[.slice a1 m1 c1, .slice a2 m2 c2]⟩ W (Ret W fun v _ => v = .bool (decide (xs = ys))) := by
  have hM := ((Mm.start hl).known hv1).known hv2
  refine f_start Try.func32 rfl Try.ntmps32 rfl rfl ?_; intro a hF
  (repeat (first | (with_reducible refine w_seq ?_) | (with_reducible refine c_region ?_) | (with_reducible refine s_nil ?_) | ((with_reducible apply s_b2s hF hM); exact rfl; exact rfl; (repeat (first | exact List.mem_cons_self | refine List.mem_cons_of_mem _ ?_)); exact rfl; exact rfl; exact rfl; exact rfl; (first | with_reducible assumption | rfl); clear hF a; intro a hF) | ((with_reducible apply s_eqS hF); exact rfl; exact rfl; exact rfl; kernel_rfl; exact rfl; (with_reducible assumption); (with_reducible assumption); clear hF a; intro a hF) | (with_reducible refine q_then_n ?_) | ((with_reducible apply s_pure hF); exact rfl; exact rfl; exact rfl; (first | exact trivial | omega | exact ⟨Int.natCast_nonneg _, Int.ofNat_lt.2 (by assumption)⟩ | decide); clear hF a; intro a hF) | (with_reducible refine w_ret ?_)))
  (apply f_ret Try.results32 hF hM; (repeat (first | exact RL.nil | (apply RL.tmp; exact rfl) | (apply RL.cell; exact rfl; (repeat (first | exact List.mem_cons_self | refine List.mem_cons_of_mem _ ?_)); exact rfl))); refine Ret.mk hM.since ?_; dsimp only [resV])
theorem equal_c (l : List Int) (a0 a1 : Option Addr) (n m : Nat) (hn : l.length = n) (hm : l.length = m) (c0 c1 : Nat) (own : Nat → Prop) (W : World) (hl : ∀ b, own b → b < W.heap.size) (hlen : n ≤ 9000000000000000000) (hv : Has own W (RdF (Value.int .i64) a0 l)) (hu : Has own W (RdF (Value.int .i64) a1 l)) :
    Calls Try.prog 44 ⟨[.slice a0 n c0, .slice a1 m c1]⟩ W (Ret W fun r _ => r = .bool true) := by
  subst hn
  subst hm
  have hM := (((Mm.start hl).known hv).known hu)
  refine f_start Try.func44 rfl Try.ntmps44 rfl rfl ?_; intro a hF
  (repeat' (first | (with_reducible refine w_seq ?_) | (with_reducible refine c_region ?_) | (with_reducible refine s_nil ?_) | (with_reducible refine q_then_n ?_) | ((with_reducible apply s_pure hF); exact rfl; exact rfl; exact rfl; (first | exact trivial | omega | exact ⟨Int.natCast_nonneg _, Int.ofNat_lt.2 (by assumption)⟩ | decide); clear hF a; intro a hF) | (with_reducible refine w_skip ?_) | (with_reducible refine w_block ?_) | ((with_reducible apply c_false2 hF); exact rfl; (first | with_reducible rfl | (refine congrArg Value.bool ?_; focus (simp; done))))))
  refine c_loop (m := l.length) (fun m a w' => ∃ (k : Nat), m + k = l.length ∧
    Fr _ [] [(13, .int .i64 k), (12, .int .i64 l.length), (0, .slice a0 l.length c0), (1, .slice a1 l.length c1)] a ∧
    Mm own W [] [] [RdF (Value.int .i64) a1 l, RdF (Value.int .i64) a0 l] w') ⟨0, by omega, hF.sub (by repeat (first | exact Sub.nil | refine Sub.cons rfl (by first | with_reducible rfl | (refine congrArg (Value.int _) ?_; omega) | exact rfl) ?_)), hM⟩ ?_
  clear hF hM a
  rintro m a w' ⟨k, hk, hF, hM⟩
  by_cases hlt : k < l.length
  · obtain ⟨z, hz⟩ := get_of_lt hlt
    obtain ⟨ad, rfl⟩ := rd_some hM (a := a0) (by (repeat (first | exact List.mem_cons_self | refine List.mem_cons_of_mem _ ?_))) hz
    obtain ⟨ae, rfl⟩ := rd_some hM (a := a1) (by (repeat (first | exact List.mem_cons_self | refine List.mem_cons_of_mem _ ?_))) hz
    (repeat' (first | (with_reducible refine w_seq ?_) | (with_reducible refine c_region ?_) | (with_reducible refine s_nil ?_) | (with_reducible refine q_then_n ?_) | ((with_reducible apply s_pure hF); exact rfl; exact rfl; exact rfl; (first | exact trivial | omega | exact ⟨Int.natCast_nonneg _, Int.ofNat_lt.2 (by assumption)⟩ | decide); clear hF a; intro a hF) | (with_reducible refine w_skip ?_) | (with_reducible refine w_block ?_) | ((with_reducible apply c_dec hF); exact rfl; all_goals intro hc; all_goals (try (exfalso; omega)))))
    refine c_draw (fun i => Nat.ble 9 i) hM ?_; clear hM; intro w hM
    (first | (refine t_pure (i := 0) hF rfl rfl rfl rfl (by kernel_rfl) hM.sm (fun _ _ _ h => h) ?_ ?_; (first | exact trivial | omega | decide); clear hF a; intro a hF))
    (first | (refine t_pure (i := 1) hF rfl rfl rfl rfl (by kernel_rfl) hM.sm (fun _ _ _ h => h) ?_ ?_; (first | exact trivial | omega | decide); clear hF a; intro a hF))
    (first | (refine t_pure (i := 2) hF rfl rfl rfl rfl (by kernel_rfl) hM.sm (fun _ _ _ h => h) ?_ ?_; (first | exact trivial | omega | decide); clear hF a; intro a hF))
    (first | (apply t_loadF (i := 3) hF rfl rfl rfl; (repeat (first | exact List.mem_cons_self | refine List.mem_cons_of_mem _ ?_)); (first | with_reducible assumption | (simp only [Int.toNat_natCast]; with_reducible assumption)); exact rfl; exact rfl; kernel_rfl; exact hM.sm; exact (fun _ _ _ h => h); clear hF a; intro a hF))
    (first | (refine t_pure (i := 4) hF rfl rfl rfl rfl (by kernel_rfl) hM.sm (fun _ _ _ h => h) ?_ ?_; (first | exact trivial | omega | decide); clear hF a; intro a hF))
    (first | (refine t_pure (i := 5) hF rfl rfl rfl rfl (by kernel_rfl) hM.sm (fun _ _ _ h => h) ?_ ?_; (first | exact trivial | omega | decide); clear hF a; intro a hF))
    (first | (refine t_pure (i := 6) hF rfl rfl rfl rfl (by kernel_rfl) hM.sm (fun _ _ _ h => h) ?_ ?_; (first | exact trivial | omega | decide); clear hF a; intro a hF))
    (first | (apply t_loadF (i := 7) hF rfl rfl rfl; (repeat (first | exact List.mem_cons_self | refine List.mem_cons_of_mem _ ?_)); (first | with_reducible assumption | (simp only [Int.toNat_natCast]; with_reducible assumption)); exact rfl; exact rfl; kernel_rfl; exact hM.sm; exact (fun _ _ _ h => h); clear hF a; intro a hF))
    (first | (refine t_pure (i := 8) hF rfl rfl rfl rfl (by kernel_rfl) hM.sm (fun _ _ _ h => h) ?_ ?_; (first | exact trivial | omega | decide); clear hF a; intro a hF))
    refine t_done (by kernel_rfl) ?_
    (repeat' (first | (with_reducible refine c_region ?_) | (with_reducible refine s_nil ?_) | (with_reducible refine q_then_n ?_) | ((with_reducible apply s_pure hF); exact rfl; exact rfl; exact rfl; (first | exact trivial | omega | exact ⟨Int.natCast_nonneg _, Int.ofNat_lt.2 (by assumption)⟩ | decide); clear hF a; intro a hF) | (with_reducible refine w_skip ?_) | (with_reducible refine q_blk_n ?_) | ((with_reducible apply c_false2 hF); exact rfl; (first | with_reducible rfl | (refine congrArg Value.bool ?_; focus (simp; done))))))
    exact ⟨m - 1, by omega, k + 1, by omega, hF.sub (by repeat (first | exact Sub.nil | refine Sub.cons rfl (by first | with_reducible rfl | (refine congrArg (Value.int _) ?_; omega) | exact rfl) ?_)), hM⟩
  · obtain rfl : k = l.length := by omega
    (repeat' (first | (with_reducible refine w_seq ?_) | (with_reducible refine c_region ?_) | (with_reducible refine s_nil ?_) | (with_reducible refine q_then_n ?_) | ((with_reducible apply s_pure hF); exact rfl; exact rfl; exact rfl; (first | exact trivial | omega | exact ⟨Int.natCast_nonneg _, Int.ofNat_lt.2 (by assumption)⟩ | decide); clear hF a; intro a hF) | (with_reducible refine w_exit ?_) | (with_reducible refine w_ret ?_) | (with_reducible refine q_then_x ?_) | (with_reducible refine q_blk_x ?_) | ((with_reducible apply c_false2 hF); exact rfl; (first | with_reducible rfl | (refine congrArg Value.bool ?_; focus (simp; done))))))
    (apply f_ret Try.results44 hF hM; (repeat (first | exact RL.nil | (apply RL.tmp; exact rfl) | (apply RL.cell; exact rfl; (repeat (first | exact List.mem_cons_self | refine List.mem_cons_of_mem _ ?_)); exact rfl))); refine Ret.mk hM.since ?_; dsimp only [resV])
theorem refFewTrace_c (t : P56.Tr) (aw ac : Option Addr) (cw cc : Nat) (l1 : t.W.length ≤ 9223372036854775807) (l2 : t.C.length ≤ 9223372036854775807) (own : Nat → Prop) (W : World) (hl : ∀ b, own b → b < W.heap.size) :
    Calls Try.prog 33 ⟨[.agg ⟨trL t aw cw ac cc⟩]⟩ W (Ret W fun v _ => v = .bool (decide (t.W.length ≤ 40 ∧ t.C.length ≤ 60))) := by
  have hM := Mm.start hl
  refine f_start Try.func33 rfl Try.ntmps33 rfl rfl ?_; intro a hF
  (repeat' (first | (with_reducible refine w_seq ?_) | (with_reducible refine c_region ?_) | (with_reducible refine s_nil ?_) | (with_reducible refine q_then_n ?_) | ((with_reducible apply s_pure hF); exact rfl; exact rfl; exact rfl; (first | exact trivial | omega | exact ⟨Int.natCast_nonneg _, Int.ofNat_lt.2 (by assumption)⟩ | decide); clear hF a; intro a hF) | ((with_reducible apply s_load hF hM); exact rfl; exact rfl; (repeat (first | exact List.mem_cons_self | refine List.mem_cons_of_mem _ ?_)); exact rfl; exact rfl; clear hF a; intro a hF) | ((with_reducible apply s_box hF hM); exact rfl; exact rfl; exact rfl; exact rfl; clear hF hM a; intro b w a hM hF) | (with_reducible refine w_ret ?_) | ((with_reducible apply s_skip hF); exact rfl; exact rfl; clear hF a; intro a hF) | ((fail_if_success ((with_reducible refine g_known true hF ?_ ?_); focus exact rfl)); (fail_if_success ((with_reducible refine g_known false hF ?_ ?_); focus exact rfl)); (with_reducible apply g_dec hF); exact rfl; exact rfl; all_goals (clear hF; intro hc hF); all_goals (try (exfalso; omega)))))
  all_goals (apply f_ret Try.results33 hF hM; (repeat (first | exact RL.nil | (apply RL.tmp; exact rfl) | (apply RL.cell; exact rfl; (repeat (first | exact List.mem_cons_self | refine List.mem_cons_of_mem _ ?_)); exact rfl))); refine Ret.mk hM.since ?_; dsimp only [resV])
  all_goals first | (rw [decide_eq_false (by omega)]; done) | (congr 1; rw [decide_eq_decide]; omega)
end Go.Proofs.Ytabfhoipclbeeaa


/- Plain law: certificates are decoded from their encodings, and encodings are canonical. -/
namespace Go.Proofs.Ytabfhoipclbeeaa
open C55 K57
/-- Numbers that are put are read. -/
theorem rdN_puts (n : Nat) : ∀ (i f : Nat) (acc : Int) (xs ys : List Int), xs.drop i = puts n ++ ys → (puts n).length ≤ f → 0 ≤ acc → acc + n * 128 ^ i ≤ 9007199254740991 → (n = 0 → i = 0) → rdN xs f i acc = (acc + n * 128 ^ i, 0, i + (puts n).length) := by
  induction n using Nat.strongRecOn with
  | _ n ih =>
    intro i f acc xs ys hd hf ha hb h0
    have get0 : ∀ (b : Int) (r : List Int), puts n = b :: r → xs[i]? = some b := by
      intro b r e
      have : (xs.drop i)[0]? = some b := by rw [hd, e]; rfl
      rw [List.getElem?_drop] at this
      exact this
    by_cases h : n < 128
    · have e := puts_lt h
      rw [e] at hf ⊢
      simp only [List.length_cons, List.length_nil] at hf ⊢
      obtain ⟨f, rfl⟩ : ∃ k, f = k + 1 := ⟨f - 1, by omega⟩
      rw [rdN_some (get0 _ _ e), if_neg (by omega), if_neg]
      · rw [show ((n : Int)) % 128 = n by omega]
      · rw [show ((n : Int)) % 128 = n by omega]
        rintro (⟨h1, h2⟩ | h1)
        · have := h0 (by omega); omega
        · omega
    · have e := puts_ge h
      rw [e] at hf ⊢
      simp only [List.length_cons] at hf ⊢
      obtain ⟨f, rfl⟩ : ∃ k, f = k + 1 := ⟨f - 1, by omega⟩
      rw [rdN_some (get0 _ _ e), if_pos (by omega)]
      have hm : ((n % 128 + 128 : Nat) : Int) % 128 = ((n % 128 : Nat) : Int) := by omega
      rw [hm]
      have hp : (0 : Int) ≤ 128 ^ i := Int.pow_nonneg (by decide)
      have hq : ((n % 128 : Nat) : Int) * 128 ^ i + ((n / 128 : Nat) : Int) * 128 ^ (i + 1) = (n : Int) * 128 ^ i := by
        rw [Int.pow_succ, Int.mul_comm (128 ^ i) 128, ← Int.mul_assoc, ← Int.add_mul]
        congr 1
        omega
      have := ih (n / 128) (by omega) (i + 1) f (acc + ((n % 128 : Nat) : Int) * 128 ^ i) xs ys (by
        have h2 : xs.drop (i + 1) = (xs.drop i).drop 1 := by rw [List.drop_drop]
        rw [h2, hd, e]
        rfl) (by omega) (Int.add_nonneg ha (Int.mul_nonneg (by omega) hp)) (by rw [Int.add_assoc, hq]; exact hb) (fun h => by omega)
      rw [this, Int.add_assoc, hq]
      congr 2
      omega
theorem rdNum_puts {n : Nat} (hn : n ≤ 9007199254740991) (ys : List Int) : rdNum (puts n ++ ys) = ((n : Int), 0, (puts n).length) := by
  have := rdN_puts n 0 8 0 (puts n ++ ys) ys (by simp) (puts_len 7 n (by omega)) (by omega) (by omega) (fun _ => rfl)
  unfold rdNum
  rw [this]
  simp
/-- Numbers that are read have these bytes. -/
theorem rdN_can : ∀ (f i : Nat) (acc : Int) (xs : List Int), (∀ x ∈ xs, 0 ≤ x ∧ x < 256) → (rdN xs f i acc).2.1 = 0 → ∃ m : Nat, (rdN xs f i acc).1 = acc + m * 128 ^ i ∧ xs.drop i = puts m ++ xs.drop (rdN xs f i acc).2.2 ∧ (m = 0 → i = 0)
  | 0, i, acc, xs, hb, h => by rw [rdN] at h; exact absurd h (by decide)
  | f + 1, i, acc, xs, hb, h => by
    cases hx : xs[i]? with
    | none => rw [rdN_none hx] at h; exact absurd h (by decide)
    | some b =>
      have hbb := hb b (List.mem_of_getElem? hx)
      have hd : xs.drop i = b :: xs.drop (i + 1) := by
        obtain ⟨hi, e⟩ := List.getElem?_eq_some_iff.1 hx
        rw [List.drop_eq_getElem_cons hi, e]
      rw [rdN_some hx] at h ⊢
      split at h
      · rename_i h1
        rw [if_pos h1]
        obtain ⟨m, e1, e2, e3⟩ := rdN_can f (i + 1) _ xs hb h
        refine ⟨m * 128 + (b % 128).toNat, ?_, ?_, fun e => by have := e3 (by omega); omega⟩
        · rw [e1, Int.add_assoc, Int.pow_succ, Int.mul_comm (128 ^ i) 128, ← Int.mul_assoc, ← Int.add_mul]
          congr 2
          omega
        · have hm : m ≠ 0 := fun e => by have := e3 e; omega
          rw [hd, e2, puts_ge (n := m * 128 + (b % 128).toNat) (by omega), List.cons_append, show (m * 128 + (b % 128).toNat) / 128 = m by omega]
          congr 1
          omega
      · rename_i h1
        rw [if_neg h1]
        split at h
        · exact absurd h (by decide)
        · rename_i h2
          rw [if_neg h2]
          refine ⟨b.toNat, ?_, ?_, fun e => ?_⟩
          · show acc + b % 128 * 128 ^ i = _
            rw [show b % 128 = ((b.toNat : Nat) : Int) by omega]
          · rw [hd, puts_lt (by omega), show ((b.toNat : Nat) : Int) = b by omega]
            rfl
          · apply Classical.byContradiction
            intro hi
            exact h2 (.inl ⟨by omega, by omega⟩)
theorem rdI_can {xs ys : List Int} {n : Int} (hb : ∀ x ∈ xs, 0 ≤ x ∧ x < 256) (h : rdI xs = .ok (n, ys)) : xs = puts n.toNat ++ ys := by
  unfold rdI at h
  split at h
  · cases h
  · rename_i he
    injection h with h
    injection h with h1 h2
    obtain ⟨m, e1, e2, -⟩ := rdN_can 8 0 0 xs hb (show (rdNum xs).2.1 = 0 by omega)
    have e1' : (rdNum xs).1 = m := by unfold rdNum; rw [e1]; simp
    rw [List.drop_zero] at e2
    rw [← h1, e1', Int.toNat_natCast, ← h2]
    exact e2
theorem rdI_puts {n : Int} (h0 : 0 ≤ n) (h1 : n ≤ 9007199254740991) (ys : List Int) : rdI (puts n.toNat ++ ys) = .ok (n, ys) := by
  unfold rdI
  rw [rdNum_puts (by omega)]
  simp only [ne_eq, not_true_eq_false, if_false]
  rw [List.drop_left, Int.toNat_of_nonneg h0]
theorem rdNum_I {xs ys : List Int} {n : Int} (h : rdI xs = .ok (n, ys)) : (rdNum xs).2.1 = 0 ∧ (rdNum xs).1 = n ∧ xs.drop (rdNum xs).2.2 = ys := by
  unfold rdI at h
  split at h
  · cases h
  · rename_i he
    injection h with h
    injection h with h1 h2
    exact ⟨by omega, h1, h2⟩
theorem rdList_puts : ∀ (l : List Int) (ys : List Int), (∀ x ∈ l, 0 ≤ x ∧ x ≤ 9007199254740991) → rdList l.length ((l.map fun x => puts x.toNat).flatten ++ ys) = .ok (l, ys)
  | [], ys, _ => rfl
  | x :: l, ys, h => by
    have hx := h x (by simp)
    have h2 := rdNum_I (rdI_puts hx.1 hx.2 ((l.map fun x => puts x.toNat).flatten ++ ys))
    rw [List.length_cons, rdList, List.map_cons, List.flatten_cons, List.append_assoc, if_neg (by omega), h2.2.2, rdList_puts l ys (fun y hy => h y (List.mem_cons_of_mem _ hy)), h2.2.1]
theorem rdInts_puts {l : List Int} (hl : l.length ≤ 65536) (h : ∀ x ∈ l, 0 ≤ x ∧ x ≤ 9007199254740991) (ys : List Int) : rdInts (putsL l ++ ys) = .ok (l, ys) := by
  have h2 := rdNum_I (rdI_puts (n := (l.length : Int)) (by omega) (by omega) ((l.map fun x => puts x.toNat).flatten ++ ys))
  rw [Int.toNat_natCast] at h2
  unfold rdInts putsL
  rw [List.append_assoc, if_neg (by omega), h2.2.1, if_neg (by omega), h2.2.2, Int.toNat_natCast]
  exact rdList_puts l ys h
theorem rdList_can : ∀ (k : Nat) (xs ys l : List Int), (∀ x ∈ xs, 0 ≤ x ∧ x < 256) → rdList k xs = .ok (l, ys) → l.length = k ∧ xs = (l.map fun x => puts x.toNat).flatten ++ ys ∧ (∀ y ∈ ys, 0 ≤ y ∧ y < 256)
  | 0, xs, ys, l, hb, h => by
    rw [rdList] at h
    injection h with h
    injection h with h1 h2
    subst h1 h2
    exact ⟨rfl, rfl, hb⟩
  | k + 1, xs, ys, l, hb, h => by
    rw [rdList] at h
    split at h
    · cases h
    · rename_i he
      split at h
      · cases h
      · rename_i l' ys' hr
        injection h with h
        injection h with h1 h2
        subst h1 h2
        have hI : rdI xs = .ok ((rdNum xs).1, xs.drop (rdNum xs).2.2) := by unfold rdI; rw [if_neg (by omega)]
        obtain ⟨e1, e2, e3⟩ := rdList_can k _ _ _ (rdI_ok hb hI).1 hr
        refine ⟨by rw [List.length_cons, e1], ?_, e3⟩
        rw [List.map_cons, List.flatten_cons, List.append_assoc, ← e2]
        exact rdI_can hb hI
theorem rdInts_can {xs ys l : List Int} (hb : ∀ x ∈ xs, 0 ≤ x ∧ x < 256) (h : rdInts xs = .ok (l, ys)) : xs = putsL l ++ ys ∧ (∀ y ∈ ys, 0 ≤ y ∧ y < 256) := by
  have hnn := rdNum_nn hb
  unfold rdInts at h
  split at h
  · cases h
  · rename_i he
    split at h
    · cases h
    · have hI : rdI xs = .ok ((rdNum xs).1, xs.drop (rdNum xs).2.2) := by unfold rdI; rw [if_neg (by omega)]
      obtain ⟨e1, e2, e3⟩ := rdList_can _ _ _ _ (rdI_ok hb hI).1 h
      refine ⟨?_, e3⟩
      unfold putsL
      rw [e1, List.append_assoc, ← e2]
      exact rdI_can hb hI
theorem dec8_puts {c : Ce} (hc : chkE c = 0) (hA : c.A.V.length ≤ 65536) (hS : c.S.V.length ≤ 65536) : dec8 (encB c) = .ok (c, []) := by
  obtain ⟨r1, r2, r3, -, -⟩ := enc_rg hc
  have hb := (chk_bok hc).1
  have hn := hb.num
  have sA := hb.A.s
  have sS := hb.S.s
  unfold dec8 encB encCu
  simp only [List.append_assoc]
  rw [rdInts_puts hA r1]
  simp only
  rw [rdI_puts (by omega) (by omega)]
  simp only
  rw [rdInts_puts hS r2]
  simp only
  rw [rdI_puts (by omega) (by omega)]
  simp only
  rw [rdI_puts (by omega) (by omega)]
  simp only
  rw [rdI_puts (by omega) (by omega)]
  simp only
  rw [rdI_puts (by omega) (by omega)]
  simp only
  have := rdI_puts r3.1 r3.2 []
  rw [List.append_nil] at this
  rw [this]
theorem decC_encB {c : Ce} (h : encE c = 0) : decC (encB c) = .ok c := by
  unfold encE at h
  split at h
  · omega
  · rename_i hc
    split at h
    · omega
    · rename_i hl
      have hb := (chk_bok (show chkE c = 0 by omega)).1
      have k1 := hb.A.l1
      have k2 := hb.S.l1
      unfold decC
      rw [if_neg hl, dec8_puts (by omega) (by omega) (by omega)]
      simp only [List.length_nil, ne_eq, not_true_eq_false, if_false, hc]
theorem encB_decC {xs : List Int} {c : Ce} (hb : ∀ x ∈ xs, 0 ≤ x ∧ x < 256) (h : decC xs = .ok c) : encB c = xs ∧ encE c = 0 := by
  unfold decC at h
  split at h
  · cases h
  · rename_i hl
    split at h
    · cases h
    · rename_i c' ys h8
      split at h
      · cases h
      · rename_i h0
        split at h
        · cases h
        · rename_i hc
          injection h with h
          subst h
          have key : encB c' = xs := by
            unfold dec8 at h8
            split at h8
            · cases h8
            rename_i v1 y1 g1
            split at h8
            · cases h8
            rename_i s1 y2 g2
            split at h8
            · cases h8
            rename_i v2 y3 g3
            split at h8
            · cases h8
            rename_i s2 y4 g4
            split at h8
            · cases h8
            rename_i p y5 g5
            split at h8
            · cases h8
            rename_i l y6 g6
            split at h8
            · cases h8
            rename_i d y7 g7
            split at h8
            · cases h8
            rename_i b y8 g8
            injection h8 with h8
            injection h8 with h8 h9
            subst h8 h9
            obtain ⟨e1, b1⟩ := rdInts_can hb g1
            have e2 := rdI_can b1 g2
            have b2 := (rdI_ok b1 g2).1
            obtain ⟨e3, b3⟩ := rdInts_can b2 g3
            have e4 := rdI_can b3 g4
            have b4 := (rdI_ok b3 g4).1
            have e5 := rdI_can b4 g5
            have b5 := (rdI_ok b4 g5).1
            have e6 := rdI_can b5 g6
            have b6 := (rdI_ok b5 g6).1
            have e7 := rdI_can b6 g7
            have b7 := (rdI_ok b6 g7).1
            have e8 := rdI_can b7 g8
            have e9 : y8 = [] := List.length_eq_zero_iff.1 (by omega)
            subst e9
            rw [e1, e2, e3, e4, e5, e6, e7, e8]
            unfold encB encCu
            simp only [List.append_assoc, List.append_nil]
          refine ⟨key, ?_⟩
          unfold encE
          rw [if_neg hc, key, if_neg hl]
end Go.Proofs.Ytabfhoipclbeeaa


/- certificate's law: the examples. -/
namespace Go.Proofs.Ytabfhoipclbeeaa
open Go.RowKit Go.Shelf C55 K57
theorem isTr_mk {own : Nat → Prop} {w : World} {t : P56.Tr} {a a' : Option Addr} {c c' : Nat} (h1 : Has own w (RdF (Value.int .i64) a t.W)) (h2 : Has own w (RdF (Value.int .i64) a' t.C)) (l1 : t.W.length ≤ 9223372036854775807) (l2 : t.C.length ≤ 9223372036854775807) (l3 : t.W.length ≤ c) (l4 : t.C.length ≤ c') :
    Has own w (IsTr · (.agg #[.slice a t.W.length c, .slice a' t.C.length c', .int .i64 t.P, .int .i64 t.L, .int .i64 t.A]) t) :=
  (h1.and h2).imp fun w k => ⟨a, a', c, c', rfl, k.1, k.2, l1, l2, l3, l4⟩
def exA : Cu := ⟨[0, 4, 6], 1⟩
def exS : Cu := ⟨[0], 2⟩
def exC3 : Ce := ⟨exA, exS, 3, 1, 0, 0⟩
def exC4 : Ce := ⟨exA, exS, 4, 1, 0, 8⟩
theorem ex3_b : bndE exC3 = 21 := by decide
theorem ex4_b : bndE exC4 = 0 := by decide
theorem ex4_v : bndV exC4 = 8 := by decide
def exT : P56.Tr := ⟨[4, 2, 1, 1], [4096, 4096, 4096, 4096, 2], 4, 1, 0⟩
theorem ex4_w : wrsE exC4 4 = 0 := by decide
theorem ex4_t : wrsT exC4 4 = exT := rfl
def exPlan : P56.Pl := (P56.plan exT).1
theorem ex4_p : P56.plan exT = (exPlan, 0) := by decide
theorem ex4_pb : exPlan.bound = 8 := by decide
theorem putsL_len {l : List Int} (h : ∀ x ∈ l, 0 ≤ x ∧ x ≤ 9007199254740991) (hl : l.length ≤ 65536) : (putsL l).length ≤ 8 * (l.length + 1) := by
  have h1 := flat_len8 h
  have h2 := puts_len8 (n := l.length) (by omega)
  unfold putsL
  rw [List.length_append]
  omega
theorem encE_few {c : Ce} (h : chkE c = 0) (h1 : c.A.V.length ≤ 2000) (h2 : c.S.V.length ≤ 2000) : encE c = 0 := by
  obtain ⟨r1, r2, r3, -, -⟩ := enc_rg h
  have hb := (chk_bok h).1
  have hn := hb.num
  have sA := hb.A.s
  have sS := hb.S.s
  have q1 := putsL_len r1 (by omega)
  have q2 := putsL_len r2 (by omega)
  have q3 := puts_len8 (n := c.A.S.toNat) (by omega)
  have q4 := puts_len8 (n := c.S.S.toNat) (by omega)
  have q5 := puts_len8 (n := c.P.toNat) (by omega)
  have q6 := puts_len8 (n := c.L.toNat) (by omega)
  have q7 := puts_len8 (n := c.D.toNat) (by omega)
  have q8 := puts_len8 (n := c.B.toNat) (by omega)
  unfold encE
  rw [if_neg (by omega), if_neg]
  unfold encB encCu
  simp only [List.length_append]
  omega
theorem puts_by (n : Nat) : ∀ x ∈ puts n, (0 : Int) ≤ x ∧ x < 256 := by
  induction n using Nat.strongRecOn with
  | _ n ih =>
    by_cases h : n < 128
    · rw [puts_lt h]
      intro x hx
      simp at hx
      omega
    · rw [puts_ge h]
      intro x hx
      rcases List.mem_cons.1 hx with rfl | hx
      · omega
      · exact ih (n / 128) (by omega) x hx
theorem encB_by {c : Ce} : ∀ x ∈ encB c, 0 ≤ x ∧ x < 256 := by
  unfold encB encCu putsL
  intro x hx
  have hp : ∀ n, ∀ y ∈ puts n, 0 ≤ y ∧ y < 256 := puts_by
  simp only [List.mem_append, List.mem_flatten, List.mem_map] at hx
  rcases hx with ((((((hx | ⟨_, ⟨_, _, rfl⟩, hx⟩) | hx) | ((hx | ⟨_, ⟨_, _, rfl⟩, hx⟩) | hx)) | hx) | hx) | hx) | hx <;> exact hp _ _ hx
theorem exMk3_c (v u : Value) (own : Nat → Prop) (W : World) (hl : ∀ b, own b → b < W.heap.size) (hv : Has own W (IsCu · v exA)) (hu : Has own W (IsCu · u exS)) :
    Calls Try.prog 16 ⟨[v, u, .int .i64 3, .int .i64 1, .int .i64 0]⟩ W (Ret W fun v _ => v = .tuple #[.agg ⟨ceZ⟩, .int .i64 21]) := by
  have := mkErr (c := exC3) (by decide) (make_c exC3 (by decide) (by decide) v u own W hl hv hu)
  rw [ex3_b] at this
  exact this
theorem exMk4_c (v u : Value) (own : Nat → Prop) (W : World) (hl : ∀ b, own b → b < W.heap.size) (hv : Has own W (IsCu · v exA)) (hu : Has own W (IsCu · u exS)) :
    Calls Try.prog 16 ⟨[v, u, .int .i64 4, .int .i64 1, .int .i64 0]⟩ W (Ret W fun v w' => ∃ a1 c1 a2 c2, v = .tuple #[.agg ⟨ceL exC4 a1 c1 a2 c2⟩, .int .i64 0] ∧ Has own w' (RdF (Value.int .i64) a1 exA.V) ∧ Has own w' (RdF (Value.int .i64) a2 exS.V) ∧ exA.V.length ≤ c1 ∧ exS.V.length ≤ c2) := by
  have := mkOk (c := exC4) ex4_b (make_c exC4 (by decide) (by decide) v u own W hl hv hu)
  rw [ex4_v] at this
  exact this
theorem exWr_c (a1 a2 : Option Addr) (c1 c2 : Nat) (m1 : exA.V.length ≤ c1) (m2 : exS.V.length ≤ c2) (own : Nat → Prop) (W : World) (hl : ∀ b, own b → b < W.heap.size) (hA : Has own W (RdF (Value.int .i64) a1 exA.V)) (hS : Has own W (RdF (Value.int .i64) a2 exS.V)) :
    Calls Try.prog 21 ⟨[.agg ⟨ceL exC4 a1 c1 a2 c2⟩, .int .i64 4]⟩ W (Ret W fun v w' => ∃ aw cw ac cc, v = .tuple #[.agg ⟨trL exT aw cw ac cc⟩, .int .i64 0] ∧ Has own w' (RdF (Value.int .i64) aw exT.W) ∧ Has own w' (RdF (Value.int .i64) ac exT.C) ∧ exT.W.length ≤ cw ∧ exT.C.length ≤ cc) := by
  refine (worst_c exC4 a1 a2 c1 c2 (by decide) m1 (by decide) m2 4 own W hl hA hS).mono ?_
  rintro e w' ⟨v, rfl, hs, h | h⟩
  · exact absurd ex4_w h.1
  · obtain ⟨-, h⟩ := h
    rw [show (4 : Int).toNat = 4 from rfl, ex4_t] at h
    exact ⟨v, rfl, hs, h⟩
theorem exPlan_c (v : Value) (own : Nat → Prop) (W : World) (hl : ∀ b, own b → b < W.heap.size) (hv : Has own W (IsTr · v exT)) :
    Calls Try.prog 36 ⟨[v]⟩ W (Ret W (PlanR own (exPlan, 0))) := ex4_p ▸ Plan_c sizes_c _ _ _ _ hl hv
/-- What Encode answers for a certificate that has an encoding. -/
theorem encode_ok {c : Ce} (he : encE c = 0) (a1 a2 : Option Addr) (c1 c2 : Nat) (l1 : c.A.V.length ≤ 9223372036854775807) (m1 : c.A.V.length ≤ c1) (l2 : c.S.V.length ≤ 9223372036854775807) (m2 : c.S.V.length ≤ c2) (own : Nat → Prop) (W : World) (hl : ∀ b, own b → b < W.heap.size) (hA : Has own W (RdF (Value.int .i64) a1 c.A.V)) (hS : Has own W (RdF (Value.int .i64) a2 c.S.V)) :
    Calls Try.prog 28 ⟨[.agg ⟨ceL c a1 c1 a2 c2⟩]⟩ W (Ret W fun v w' => ∃ a' c', v = .tuple #[.slice a' (encB c).length c', .int .i64 0] ∧ Has own w' (RdF (Value.int .u8) a' (encB c)) ∧ (encB c).length ≤ c') := by
  refine (ceEncode_c c a1 a2 c1 c2 l1 m1 l2 m2 own W hl hA hS).mono ?_
  rintro e w' ⟨v, rfl, hs, h | h⟩
  · exact absurd he h.1
  · exact ⟨v, rfl, hs, h.2⟩
theorem decode_ok {c : Ce} {xs : List Int} (h : decC xs = .ok c) (hxb : ∀ x ∈ xs, 0 ≤ x ∧ x < 256) (hlen : xs.length ≤ 1000000) (a0 : Option Addr) (c0 : Nat) (hc0 : xs.length ≤ c0) (own : Nat → Prop) (W : World) (hl : ∀ b, own b → b < W.heap.size) (hv : Has own W (RdF (Value.int .u8) a0 xs)) :
    Calls Try.prog 30 ⟨[.slice a0 xs.length c0]⟩ W (Ret W fun v w' => ∃ a1 c1 a2 c2, v = .tuple #[.agg ⟨ceL c a1 c1 a2 c2⟩, .int .i64 0] ∧ Has own w' (RdF (Value.int .i64) a1 c.A.V) ∧ Has own w' (RdF (Value.int .i64) a2 c.S.V) ∧ c.A.V.length ≤ c1 ∧ c.S.V.length ≤ c2) := by
  have := ceDecode_c xs hxb hlen a0 c0 hc0 own W hl hv
  rw [h] at this
  exact this
theorem decode_err {e : Int} {xs : List Int} (h : decC xs = .error e) (hxb : ∀ x ∈ xs, 0 ≤ x ∧ x < 256) (hlen : xs.length ≤ 1000000) (a0 : Option Addr) (c0 : Nat) (hc0 : xs.length ≤ c0) (own : Nat → Prop) (W : World) (hl : ∀ b, own b → b < W.heap.size) (hv : Has own W (RdF (Value.int .u8) a0 xs)) :
    Calls Try.prog 30 ⟨[.slice a0 xs.length c0]⟩ W (Ret W fun v _ => v = .tuple #[.agg ⟨ceZ⟩, .int .i64 e]) := by
  have := ceDecode_c xs hxb hlen a0 c0 hc0 own W hl hv
  rw [h] at this
  exact this
theorem encB_len {c : Ce} (he : encE c = 0) : (encB c).length ≤ 65536 := by
  unfold encE at he
  split at he
  · omega
  · split at he <;> omega
end Go.Proofs.Ytabfhoipclbeeaa


/- certificate's law: awake. -/
namespace Go.Proofs.Ytabfhoipclbeeaa
open Go.RowKit Go.Shelf C55 K57
set_option maxRecDepth 20000 in
set_option maxHeartbeats 4000000 in
theorem awake57_c (own : Nat → Prop) (W : World) (hl : ∀ b, own b → b < W.heap.size) :
    Calls Try.prog 15 ⟨[]⟩ W (Ret W fun v _ => v = .bool true) := by
  have hM := Mm.start hl
  refine f_start Try.func15 rfl Try.ntmps15 rfl rfl ?_; intro a hF
  (repeat (first | (with_reducible refine w_seq ?_) | (with_reducible refine c_region ?_) | (with_reducible refine s_nil ?_) | ((with_reducible apply s_lit hF hM); exact rfl; exact rfl; exact rfl; exact rfl; clear hF hM a; intro bl w a hM hF; replace hM := Mm.freeze hM) | (with_reducible refine q_then_n ?_) | ((with_reducible apply s_pure hF); exact rfl; exact rfl; exact rfl; (first | exact trivial | omega | exact ⟨Int.natCast_nonneg _, Int.ofNat_lt.2 (by assumption)⟩ | decide); clear hF a; intro a hF) | ((with_reducible apply s_load hF hM); exact rfl; exact rfl; (repeat (first | exact List.mem_cons_self | refine List.mem_cons_of_mem _ ?_)); exact rfl; exact rfl; clear hF a; intro a hF) | ((with_reducible apply s_store hF hM); exact rfl; exact rfl; exact rfl; exact rfl; (repeat (first | exact Upd.z | apply Upd.s)); exact rfl; exact rfl; exact rfl; clear hM; intro w hM) | ((with_reducible apply s_alloc hF hM); exact rfl; exact rfl; exact rfl; clear hF hM a; intro b w a hM hF)))
  rename_i blA _ _ ba _ _ _
  have hA := Has.ints (hM.facts (BxF blA _ _) (List.mem_cons_of_mem _ List.mem_cons_self)) exA.V rfl
  have hS := Has.ints (hM.facts (BxF bl _ _) List.mem_cons_self) exS.V rfl
  replace hM := (hM.addFact hA).addFact hS
  clear hA hS
  generalize bl = blS at *
  generalize b = bs at *
  (((with_reducible apply s_call (f := 16) hF hM); exact rfl; exact rfl; exact rfl; exact rfl; exact rfl; exact (exMk3_c _ _ _ _ hM.lt (isCu_mk (c := exA) (hM.facts (RdF (Value.int .i64) (some ⟨blA, 0, none⟩) exA.V) (by (repeat (first | with_reducible exact List.mem_cons_self | refine List.mem_cons_of_mem _ ?_)))) (by decide) (by decide)) (isCu_mk (c := exS) (hM.facts (RdF (Value.int .i64) (some ⟨blS, 0, none⟩) exS.V) (by (repeat (first | with_reducible exact List.mem_cons_self | refine List.mem_cons_of_mem _ ?_)))) (by decide) (by decide))); clear hF hM a; rintro v w a rfl - hM hF))
  (repeat (first | (with_reducible refine w_seq ?_) | (with_reducible refine c_region ?_) | (with_reducible refine s_nil ?_) | (with_reducible refine q_then_n ?_) | ((with_reducible apply s_pure hF); exact rfl; exact rfl; exact rfl; (first | exact trivial | omega | exact ⟨Int.natCast_nonneg _, Int.ofNat_lt.2 (by assumption)⟩ | decide); clear hF a; intro a hF) | ((with_reducible apply s_load hF hM); exact rfl; exact rfl; (repeat (first | exact List.mem_cons_self | refine List.mem_cons_of_mem _ ?_)); exact rfl; exact rfl; clear hF a; intro a hF) | ((with_reducible apply s_store hF hM); exact rfl; exact rfl; exact rfl; exact rfl; (repeat (first | exact Upd.z | apply Upd.s)); exact rfl; exact rfl; exact rfl; clear hM; intro w hM) | ((with_reducible apply s_alloc hF hM); exact rfl; exact rfl; exact rfl; clear hF hM a; intro b w a hM hF)))
  generalize b = b3 at *
  (((with_reducible apply s_call (f := 16) hF hM); exact rfl; exact rfl; exact rfl; exact rfl; exact rfl; exact (exMk4_c _ _ _ _ hM.lt (isCu_mk (c := exA) (hM.facts (RdF (Value.int .i64) (some ⟨blA, 0, none⟩) exA.V) (by (repeat (first | with_reducible exact List.mem_cons_self | refine List.mem_cons_of_mem _ ?_)))) (by decide) (by decide)) (isCu_mk (c := exS) (hM.facts (RdF (Value.int .i64) (some ⟨blS, 0, none⟩) exS.V) (by (repeat (first | with_reducible exact List.mem_cons_self | refine List.mem_cons_of_mem _ ?_)))) (by decide) (by decide))); clear hF hM a; rintro v w a ⟨p1, c1, p2, c2, rfl, f1, f2, k1, k2⟩ - hM hF; replace hM := (hM.addFact f1).addFact f2))
  (repeat (first | (with_reducible refine w_seq ?_) | (with_reducible refine c_region ?_) | (with_reducible refine s_nil ?_) | (with_reducible refine q_then_n ?_) | ((with_reducible apply s_pure hF); exact rfl; exact rfl; exact rfl; (first | exact trivial | omega | exact ⟨Int.natCast_nonneg _, Int.ofNat_lt.2 (by assumption)⟩ | decide); clear hF a; intro a hF) | ((with_reducible apply s_load hF hM); exact rfl; exact rfl; (repeat (first | exact List.mem_cons_self | refine List.mem_cons_of_mem _ ?_)); exact rfl; exact rfl; clear hF a; intro a hF) | ((with_reducible apply s_store hF hM); exact rfl; exact rfl; exact rfl; exact rfl; (repeat (first | exact Upd.z | apply Upd.s)); exact rfl; exact rfl; exact rfl; clear hM; intro w hM) | ((with_reducible apply s_alloc hF hM); exact rfl; exact rfl; exact rfl; clear hF hM a; intro b w a hM hF)))
  generalize b = b4 at *
  (((with_reducible apply s_call (f := 21) hF hM); exact rfl; exact rfl; exact rfl; exact rfl; exact rfl; exact (exWr_c p1 p2 c1 c2 k1 k2 _ _ hM.lt (hM.facts (RdF (Value.int .i64) p1 exA.V) (by (repeat (first | with_reducible exact List.mem_cons_self | refine List.mem_cons_of_mem _ ?_)))) (hM.facts (RdF (Value.int .i64) p2 exS.V) (by (repeat (first | with_reducible exact List.mem_cons_self | refine List.mem_cons_of_mem _ ?_))))); clear hF hM a; rintro v w a ⟨pw, cw, pc, cc, rfl, f3, f4, k3, k4⟩ - hM hF; replace hM := (hM.addFact f3).addFact f4))
  (repeat (first | (with_reducible refine w_seq ?_) | (with_reducible refine c_region ?_) | (with_reducible refine s_nil ?_) | (with_reducible refine q_then_n ?_) | ((with_reducible apply s_pure hF); exact rfl; exact rfl; exact rfl; (first | exact trivial | omega | exact ⟨Int.natCast_nonneg _, Int.ofNat_lt.2 (by assumption)⟩ | decide); clear hF a; intro a hF) | ((with_reducible apply s_load hF hM); exact rfl; exact rfl; (repeat (first | exact List.mem_cons_self | refine List.mem_cons_of_mem _ ?_)); exact rfl; exact rfl; clear hF a; intro a hF) | ((with_reducible apply s_store hF hM); exact rfl; exact rfl; exact rfl; exact rfl; (repeat (first | exact Upd.z | apply Upd.s)); exact rfl; exact rfl; exact rfl; clear hM; intro w hM) | ((with_reducible apply s_alloc hF hM); exact rfl; exact rfl; exact rfl; clear hF hM a; intro b w a hM hF)))
  generalize b = bt at *
  (((with_reducible apply s_call (f := 36) hF hM); exact rfl; exact rfl; exact rfl; exact rfl; exact rfl; exact (exPlan_c _ _ _ hM.lt (isTr_mk (t := exT) (hM.facts (RdF (Value.int .i64) pw exT.W) (by (repeat (first | with_reducible exact List.mem_cons_self | refine List.mem_cons_of_mem _ ?_)))) (hM.facts (RdF (Value.int .i64) pc exT.C) (by (repeat (first | with_reducible exact List.mem_cons_self | refine List.mem_cons_of_mem _ ?_)))) (by decide) (by decide) k3 k4)); clear hF hM a; rintro v w a ⟨pv, rfl, hpv⟩ - hM hF; (obtain ⟨x1, x2, x3, x4, y1, y2, y3, y4, rfl, -⟩ := isPl_open hpv; clear hpv); dsimp only at hF))
  (repeat (first | (with_reducible refine w_seq ?_) | (with_reducible refine c_region ?_) | (with_reducible refine s_nil ?_) | (with_reducible refine q_then_n ?_) | ((with_reducible apply s_pure hF); exact rfl; exact rfl; exact rfl; (first | exact trivial | omega | exact ⟨Int.natCast_nonneg _, Int.ofNat_lt.2 (by assumption)⟩ | decide); clear hF a; intro a hF) | ((with_reducible apply s_load hF hM); exact rfl; exact rfl; (repeat (first | exact List.mem_cons_self | refine List.mem_cons_of_mem _ ?_)); exact rfl; exact rfl; clear hF a; intro a hF) | ((with_reducible apply s_store hF hM); exact rfl; exact rfl; exact rfl; exact rfl; (repeat (first | exact Upd.z | apply Upd.s)); exact rfl; exact rfl; exact rfl; clear hM; intro w hM) | ((with_reducible apply s_alloc hF hM); exact rfl; exact rfl; exact rfl; clear hF hM a; intro b w a hM hF)))
  generalize b = bp at *
  have e1 : encE exC4 = 0 := encE_few (by decide) (by decide) (by decide)
  have e2 := encB_len e1
  (((with_reducible apply s_call (f := 28) hF hM); exact rfl; exact rfl; exact rfl; exact rfl; exact rfl; exact (encode_ok e1 p1 p2 c1 c2 (by decide) k1 (by decide) k2 _ _ hM.lt (hM.facts (RdF (Value.int .i64) p1 exA.V) (by (repeat (first | with_reducible exact List.mem_cons_self | refine List.mem_cons_of_mem _ ?_)))) (hM.facts (RdF (Value.int .i64) p2 exS.V) (by (repeat (first | with_reducible exact List.mem_cons_self | refine List.mem_cons_of_mem _ ?_))))); clear hF hM a; rintro v w a ⟨pe, ce, rfl, f5, k5⟩ - hM hF; replace hM := hM.addFact f5))
  (repeat (first | (with_reducible refine w_seq ?_) | (with_reducible refine c_region ?_) | (with_reducible refine s_nil ?_) | (with_reducible refine q_then_n ?_) | ((with_reducible apply s_pure hF); exact rfl; exact rfl; exact rfl; (first | exact trivial | omega | exact ⟨Int.natCast_nonneg _, Int.ofNat_lt.2 (by assumption)⟩ | decide); clear hF a; intro a hF)))
  (((with_reducible apply s_call (f := 30) hF hM); exact rfl; exact rfl; exact rfl; exact rfl; exact rfl; exact (decode_ok (decC_encB e1) encB_by (by omega) pe ce k5 _ _ hM.lt (hM.facts (RdF (Value.int .u8) pe (encB exC4)) (by (repeat (first | with_reducible exact List.mem_cons_self | refine List.mem_cons_of_mem _ ?_))))); clear hF hM a; rintro v w a ⟨q1, d1, q2, d2, rfl, f6, f7, k6, k7⟩ - hM hF; replace hM := (hM.addFact f6).addFact f7))
  (repeat (first | (with_reducible refine w_seq ?_) | (with_reducible refine c_region ?_) | (with_reducible refine s_nil ?_) | (with_reducible refine q_then_n ?_) | ((with_reducible apply s_pure hF); exact rfl; exact rfl; exact rfl; (first | exact trivial | omega | exact ⟨Int.natCast_nonneg _, Int.ofNat_lt.2 (by assumption)⟩ | decide); clear hF a; intro a hF) | ((with_reducible apply s_load hF hM); exact rfl; exact rfl; (repeat (first | exact List.mem_cons_self | refine List.mem_cons_of_mem _ ?_)); exact rfl; exact rfl; clear hF a; intro a hF) | ((with_reducible apply s_store hF hM); exact rfl; exact rfl; exact rfl; exact rfl; (repeat (first | exact Upd.z | apply Upd.s)); exact rfl; exact rfl; exact rfl; clear hM; intro w hM) | ((with_reducible apply s_alloc hF hM); exact rfl; exact rfl; exact rfl; clear hF hM a; intro b w a hM hF) | ((with_reducible apply s_lit hF hM); exact rfl; exact rfl; exact rfl; exact rfl; clear hF hM a; intro bl w a hM hF)))
  generalize b = bd at *
  have hB : exC4.B = 8 := rfl
  have hB2 : exPlan.bound = 8 := ex4_pb
  generalize exPlan = EP at *
  (repeat' (first | fail))
  replace hM := hM.freeze
  have hq := Has.ints (hM.facts (BxF bl _ _) List.mem_cons_self) exT.W rfl
  (((with_reducible apply s_call (f := 44) hF hM); exact rfl; exact rfl; exact rfl; exact rfl; exact rfl; exact (equal_c exT.W pw (some ⟨bl, 0, none⟩) _ _ rfl rfl _ _ _ _ hM.lt (by decide) (hM.facts (RdF (Value.int .i64) pw exT.W) (by (repeat (first | with_reducible exact List.mem_cons_self | refine List.mem_cons_of_mem _ ?_)))) hq); clear hF hM a; rintro v w a rfl - hM hF))
  clear hq
  (repeat' (first | ((with_reducible apply s_lit hF hM); exact rfl; exact rfl; exact rfl; exact rfl; clear hF hM a; intro bl w a hM hF; replace hM := Mm.freeze hM) | ((with_reducible apply s_pure hF); exact rfl; exact rfl; exact rfl; (first | exact trivial | omega | exact ⟨Int.natCast_nonneg _, Int.ofNat_lt.2 (by assumption)⟩ | decide); clear hF a; intro a hF) | ((with_reducible apply s_load hF hM); exact rfl; exact rfl; (repeat (first | exact List.mem_cons_self | refine List.mem_cons_of_mem _ ?_)); exact rfl; exact rfl; clear hF a; intro a hF)))
  have hq := Has.ints (hM.facts (BxF bl _ _) List.mem_cons_self) exT.C rfl
  (((with_reducible apply s_call (f := 44) hF hM); exact rfl; exact rfl; exact rfl; exact rfl; exact rfl; exact (equal_c exT.C pc (some ⟨bl, 0, none⟩) _ _ rfl rfl _ _ _ _ hM.lt (by decide) (hM.facts (RdF (Value.int .i64) pc exT.C) (by (repeat (first | with_reducible exact List.mem_cons_self | refine List.mem_cons_of_mem _ ?_)))) hq); clear hF hM a; rintro v w a rfl - hM hF))
  clear hq
  (repeat' (first | ((with_reducible apply s_pure hF); exact rfl; exact rfl; exact rfl; (first | exact trivial | omega | exact ⟨Int.natCast_nonneg _, Int.ofNat_lt.2 (by assumption)⟩ | decide); clear hF a; intro a hF) | ((with_reducible apply s_load hF hM); exact rfl; exact rfl; (repeat (first | exact List.mem_cons_self | refine List.mem_cons_of_mem _ ?_)); exact rfl; exact rfl; clear hF a; intro a hF) | ((fail_if_success ((with_reducible refine g_known true hF ?_ ?_); focus exact rfl)); (fail_if_success ((with_reducible refine g_known false hF ?_ ?_); focus exact rfl)); (with_reducible apply g_dec hF); exact rfl; exact rfl; all_goals (clear hF; intro hc hF); all_goals (try (exfalso; omega)))))
  (((with_reducible apply s_call (f := 18) hF hM); exact rfl; exact rfl; exact rfl; exact rfl; exact rfl; exact (refSame57_c exC4 p1 p2 q1 q2 c1 c2 d1 d2 (by decide) k1 (by decide) k2 k6 k7 _ _ hM.lt (hM.facts (RdF (Value.int .i64) p1 exA.V) (by (repeat (first | with_reducible exact List.mem_cons_self | refine List.mem_cons_of_mem _ ?_)))) (hM.facts (RdF (Value.int .i64) p2 exS.V) (by (repeat (first | with_reducible exact List.mem_cons_self | refine List.mem_cons_of_mem _ ?_)))) (hM.facts (RdF (Value.int .i64) q1 exC4.A.V) (by (repeat (first | with_reducible exact List.mem_cons_self | refine List.mem_cons_of_mem _ ?_)))) (hM.facts (RdF (Value.int .i64) q2 exC4.S.V) (by (repeat (first | with_reducible exact List.mem_cons_self | refine List.mem_cons_of_mem _ ?_))))); clear hF hM a; rintro v w a rfl - hM hF))
  (repeat' (first | (with_reducible refine s_nil ?_) | (with_reducible refine q_then_n ?_) | ((with_reducible apply s_pure hF); exact rfl; exact rfl; exact rfl; (first | exact trivial | omega | exact ⟨Int.natCast_nonneg _, Int.ofNat_lt.2 (by assumption)⟩ | decide); clear hF a; intro a hF) | (with_reducible refine w_ret ?_)))
  all_goals (apply f_ret Try.results15 hF hM; (repeat (first | exact RL.nil | (apply RL.tmp; exact rfl) | (apply RL.cell; exact rfl; (repeat (first | exact List.mem_cons_self | refine List.mem_cons_of_mem _ ?_)); exact rfl))); refine Ret.mk hM.since ?_; dsimp only [resV])
  all_goals (exfalso; omega)
end Go.Proofs.Ytabfhoipclbeeaa


/- certificate's laws: CertificateMakes. -/
namespace Go.Proofs.Ytabfhoipclbeeaa
open Go.RowKit Go.Shelf C55 K57
namespace K57
def ce0 : Ce := ⟨⟨[], 0⟩, ⟨[], 0⟩, 0, 0, 0, 0⟩
def mkV (c : Ce) : Ce × Int := if bndE c = 0 then ({ c with B := bndV c }, 0) else (ce0, bndE c)
def dcV (r : Except Int Ce) : Ce × Int := match r with
  | .ok c => (c, 0)
  | .error e => (ce0, e)
theorem mkV_A (c : Ce) : (mkV c).1.A.V.length ≤ c.A.V.length := by
  unfold mkV
  split
  · exact Nat.le_refl _
  · exact Nat.zero_le _
theorem mkV_S (c : Ce) : (mkV c).1.S.V.length ≤ c.S.V.length := by
  unfold mkV
  split
  · exact Nat.le_refl _
  · exact Nat.zero_le _
end K57
/-- A certificate and a number of an error that are returned. -/
def CeR (own : Nat → Prop) (x : Ce × Int) (v : Value) (w' : World) : Prop := ∃ a1 c1 a2 c2, v = .tuple #[.agg ⟨ceL x.1 a1 c1 a2 c2⟩, .int .i64 x.2] ∧ Has own w' (RdF (Value.int .i64) a1 x.1.A.V) ∧ Has own w' (RdF (Value.int .i64) a2 x.1.S.V) ∧ x.1.A.V.length ≤ c1 ∧ x.1.S.V.length ≤ c2
theorem has_nil {own : Nat → Prop} {w : World} (a : Option Addr) : Has own w (RdF (Value.int .i64) a []) := Has.pure fun w i x hx => by simp at hx
theorem ceR_0 {own : Nat → Prop} {e : Int} {w : World} : CeR own (ce0, e) (.tuple #[.agg ⟨ceZ⟩, .int .i64 e]) w := ⟨none, 0, none, 0, rfl, has_nil _, has_nil _, Nat.le_refl _, Nat.le_refl _⟩
theorem mk_uni {f : FuncId} {args : Array Value} {W : World} {own : Nat → Prop} {c : Ce} (h : Calls Try.prog f args W (Ret W (MkR own c))) : Calls Try.prog f args W (Ret W (CeR own (mkV c))) := by
  refine h.mono ?_
  rintro e w' ⟨v, rfl, hs, h | h⟩
  · refine ⟨v, rfl, hs, ?_⟩
    unfold mkV
    rw [if_neg h.1, h.2]
    exact ceR_0
  · refine ⟨v, rfl, hs, ?_⟩
    unfold mkV
    rw [if_pos h.1]
    exact h.2
abbrev twoL (A S : Cu) (a1 : Option Addr) (c1 : Nat) (a2 : Option Addr) (c2 : Nat) : List Value := [.slice a1 A.V.length c1, .int .i64 A.S, .slice a2 S.V.length c2, .int .i64 S.S]
end Go.Proofs.Ytabfhoipclbeeaa


/- certificate's laws: CertificateWorst, CertificateCodes, CertificateCovers. -/
namespace Go.Proofs.Ytabfhoipclbeeaa
open Go.RowKit Go.Shelf C55 K57
namespace K57
theorem dcV_len (xs : List Int) : (dcV (decC xs)).1.A.V.length ≤ 4096 ∧ (dcV (decC xs)).1.S.V.length ≤ 4096 := by
  cases h : decC xs with
  | error e => exact ⟨Nat.zero_le _, Nat.zero_le _⟩
  | ok c =>
    unfold decC at h
    split at h
    · cases h
    · split at h
      · cases h
      · split at h
        · cases h
        · split at h
          · cases h
          · rename_i hc
            injection h with h
            subst h
            have hb := (chk_bok (Classical.not_not.1 hc)).1
            exact ⟨hb.A.l1, hb.S.l1⟩
end K57
section
variable (c : Ce) (a1 a2 : Option Addr) (c1 c2 : Nat) (l1 : c.A.V.length ≤ 9223372036854775807) (m1 : c.A.V.length ≤ c1) (l2 : c.S.V.length ≤ 9223372036854775807) (m2 : c.S.V.length ≤ c2) (W : World)
    (h1 : Has (fun _ => False) W (RdF (Value.int .i64) a1 c.A.V)) (h2 : Has (fun _ => False) W (RdF (Value.int .i64) a2 c.S.V))
include l1 m1 l2 m2 h1 h2
end
end Go.Proofs.Ytabfhoipclbeeaa


/- certificate's laws: CertificateBack. -/
namespace Go.Proofs.Ytabfhoipclbeeaa
open Go.RowKit Go.Shelf C55 K57
theorem encode_err {c : Ce} (he : encE c ≠ 0) (a1 a2 : Option Addr) (c1 c2 : Nat) (l1 : c.A.V.length ≤ 9223372036854775807) (m1 : c.A.V.length ≤ c1) (l2 : c.S.V.length ≤ 9223372036854775807) (m2 : c.S.V.length ≤ c2) (own : Nat → Prop) (W : World) (hl : ∀ b, own b → b < W.heap.size) (hA : Has own W (RdF (Value.int .i64) a1 c.A.V)) (hS : Has own W (RdF (Value.int .i64) a2 c.S.V)) :
    Calls Try.prog 28 ⟨[.agg ⟨ceL c a1 c1 a2 c2⟩]⟩ W (Ret W fun v w' => v = .tuple #[.slice none 0 0, .int .i64 (encE c)]) := by
  refine (ceEncode_c c a1 a2 c1 c2 l1 m1 l2 m2 own W hl hA hS).mono ?_
  rintro e w' ⟨v, rfl, hs, h | h⟩
  · exact ⟨v, rfl, hs, h.2⟩
  · exact absurd h.1 he
set_option maxRecDepth 20000 in
set_option maxHeartbeats 4000000 in
theorem back57_law (c : Ce) (a1 a2 : Option Addr) (c1 c2 : Nat) (l1 : c.A.V.length ≤ 9223372036854775807) (m1 : c.A.V.length ≤ c1) (l2 : c.S.V.length ≤ 9223372036854775807) (m2 : c.S.V.length ≤ c2) (W : World)
    (h1 : Has (fun _ => False) W (RdF (Value.int .i64) a1 c.A.V)) (h2 : Has (fun _ => False) W (RdF (Value.int .i64) a2 c.S.V)) (xs : List Int) (hxb : ∀ x ∈ xs, 0 ≤ x ∧ x < 256) (a0 : Option Addr) (c0 : Nat) (hc0 : xs.length ≤ c0) (l0 : xs.length ≤ 9223372036854775807) (h0 : Has (fun _ => False) W (RdF (Value.int .u8) a0 xs)) : Calls Try.prog 7 ⟨[.agg ⟨ceL c a1 c1 a2 c2⟩, .slice a0 xs.length c0]⟩ W (Ret W fun x _ => x = .bool true) := by
  have hM := (((Mm.start (fun _ h => h.elim)).known h1).known h2).known h0
  refine f_start Try.func7 rfl Try.ntmps7 rfl rfl ?_; intro a hF
  by_cases hbig : ¬ (c.A.V.length ≤ 40 ∧ c.S.V.length ≤ 40) ∨ 600 < xs.length
  · (repeat' (first | (with_reducible refine w_seq ?_) | (with_reducible refine c_region ?_) | (with_reducible refine s_nil ?_) | ((with_reducible apply s_call (f := 14) hF hM); exact rfl; exact rfl; exact rfl; exact rfl; exact rfl; exact (refFew57_c c a1 a2 c1 c2 l1 m1 l2 m2 _ _ hM.lt (hM.facts (RdF (Value.int .i64) a1 c.A.V) (by (repeat (first | with_reducible exact List.mem_cons_self | refine List.mem_cons_of_mem _ ?_)))) (hM.facts (RdF (Value.int .i64) a2 c.S.V) (by (repeat (first | with_reducible exact List.mem_cons_self | refine List.mem_cons_of_mem _ ?_))))); clear hF hM a; rintro v w a rfl - hM hF) | ((with_reducible apply s_call (f := 15) hF hM); exact rfl; exact rfl; exact rfl; exact rfl; exact rfl; exact (awake57_c _ _ hM.lt); clear hF hM a; rintro v w a rfl - hM hF) | (with_reducible refine q_then_n ?_) | ((with_reducible apply s_pure hF); exact rfl; exact rfl; exact rfl; (first | exact trivial | omega | exact ⟨Int.natCast_nonneg _, Int.ofNat_lt.2 (by assumption)⟩ | decide); clear hF a; intro a hF) | ((with_reducible apply s_load hF hM); exact rfl; exact rfl; (repeat (first | exact List.mem_cons_self | refine List.mem_cons_of_mem _ ?_)); exact rfl; exact rfl; clear hF a; intro a hF) | ((with_reducible apply s_box hF hM); exact rfl; exact rfl; exact rfl; exact rfl; clear hF hM a; intro b w a hM hF) | (with_reducible refine w_ret ?_) | (with_reducible refine q_then_r ?_) | ((with_reducible apply c_true2 hF); exact rfl; (first | with_reducible rfl | (refine congrArg Value.bool ?_; focus (simp; done)))) | ((with_reducible apply s_skip hF); exact rfl; exact rfl; clear hF a; intro a hF) | ((fail_if_success ((with_reducible refine g_known true hF ?_ ?_); focus exact rfl)); (fail_if_success ((with_reducible refine g_known false hF ?_ ?_); focus exact rfl)); (with_reducible apply g_ndec hF); exact rfl; exact rfl; all_goals (clear hF; intro hc hF); all_goals (try (exfalso; omega))) | ((with_reducible apply c_dec hF); exact rfl; all_goals intro hc; all_goals (try (exfalso; omega)))))
    all_goals (apply f_ret Try.results7 hF hM; (repeat (first | exact RL.nil | (apply RL.tmp; exact rfl) | (apply RL.cell; exact rfl; (repeat (first | exact List.mem_cons_self | refine List.mem_cons_of_mem _ ?_)); exact rfl))); refine Ret.mk hM.since ?_; dsimp only [resV])
  (repeat' (first | (with_reducible refine w_seq ?_) | (with_reducible refine c_region ?_) | (with_reducible refine s_nil ?_) | ((with_reducible apply s_call (f := 14) hF hM); exact rfl; exact rfl; exact rfl; exact rfl; exact rfl; exact (refFew57_c c a1 a2 c1 c2 l1 m1 l2 m2 _ _ hM.lt (hM.facts (RdF (Value.int .i64) a1 c.A.V) (by (repeat (first | with_reducible exact List.mem_cons_self | refine List.mem_cons_of_mem _ ?_)))) (hM.facts (RdF (Value.int .i64) a2 c.S.V) (by (repeat (first | with_reducible exact List.mem_cons_self | refine List.mem_cons_of_mem _ ?_))))); clear hF hM a; rintro v w a rfl - hM hF) | (with_reducible refine q_then_n ?_) | ((with_reducible apply s_pure hF); exact rfl; exact rfl; exact rfl; (first | exact trivial | omega | exact ⟨Int.natCast_nonneg _, Int.ofNat_lt.2 (by assumption)⟩ | decide); clear hF a; intro a hF) | ((with_reducible apply s_load hF hM); exact rfl; exact rfl; (repeat (first | exact List.mem_cons_self | refine List.mem_cons_of_mem _ ?_)); exact rfl; exact rfl; clear hF a; intro a hF) | ((with_reducible apply s_box hF hM); exact rfl; exact rfl; exact rfl; exact rfl; clear hF hM a; intro b w a hM hF) | (with_reducible refine w_skip ?_) | ((fail_if_success ((with_reducible refine g_known true hF ?_ ?_); focus exact rfl)); (fail_if_success ((with_reducible refine g_known false hF ?_ ?_); focus exact rfl)); (with_reducible apply g_ndec hF); exact rfl; exact rfl; all_goals (clear hF; intro hc hF); all_goals (try (exfalso; omega))) | ((with_reducible apply c_dec hF); exact rfl; all_goals intro hc; all_goals (try (exfalso; omega)))))
  by_cases he : encE c = 0
  · have e2 := encB_len he
    (((with_reducible apply s_call (f := 28) hF hM); exact rfl; exact rfl; exact rfl; exact rfl; exact rfl; exact (encode_ok he a1 a2 c1 c2 l1 m1 l2 m2 _ _ hM.lt (hM.facts (RdF (Value.int .i64) a1 c.A.V) (by (repeat (first | with_reducible exact List.mem_cons_self | refine List.mem_cons_of_mem _ ?_)))) (hM.facts (RdF (Value.int .i64) a2 c.S.V) (by (repeat (first | with_reducible exact List.mem_cons_self | refine List.mem_cons_of_mem _ ?_))))); clear hF hM a; rintro v w a ⟨pe, ce, rfl, f6, k6⟩ - hM hF; replace hM := hM.addFact f6))
    (repeat' (first | (with_reducible refine w_seq ?_) | (with_reducible refine c_region ?_) | (with_reducible refine s_nil ?_) | (with_reducible refine q_then_n ?_) | ((with_reducible apply s_pure hF); exact rfl; exact rfl; exact rfl; (first | exact trivial | omega | exact ⟨Int.natCast_nonneg _, Int.ofNat_lt.2 (by assumption)⟩ | decide); clear hF a; intro a hF) | ((with_reducible apply c_true2 hF); exact rfl; (first | with_reducible rfl | (refine congrArg Value.bool ?_; focus (simp; done))))))
    (((with_reducible apply s_call (f := 30) hF hM); exact rfl; exact rfl; exact rfl; exact rfl; exact rfl; exact (decode_ok (decC_encB he) encB_by (by omega) pe ce k6 _ _ hM.lt (hM.facts (RdF (Value.int .u8) pe (encB c)) (by (repeat (first | with_reducible exact List.mem_cons_self | refine List.mem_cons_of_mem _ ?_))))); clear hF hM a; rintro v w a ⟨p7, r7, p8, r8, rfl, f7, f8, k7, k8⟩ - hM hF; replace hM := (hM.addFact f7).addFact f8))
    (repeat' (first | (with_reducible refine w_seq ?_) | (with_reducible refine c_region ?_) | (with_reducible refine s_nil ?_) | (with_reducible refine q_then_n ?_) | ((with_reducible apply s_pure hF); exact rfl; exact rfl; exact rfl; (first | exact trivial | omega | exact ⟨Int.natCast_nonneg _, Int.ofNat_lt.2 (by assumption)⟩ | decide); clear hF a; intro a hF) | ((with_reducible apply s_load hF hM); exact rfl; exact rfl; (repeat (first | exact List.mem_cons_self | refine List.mem_cons_of_mem _ ?_)); exact rfl; exact rfl; clear hF a; intro a hF) | ((with_reducible apply s_store hF hM); exact rfl; exact rfl; exact rfl; exact rfl; (repeat (first | exact Upd.z | apply Upd.s)); exact rfl; exact rfl; exact rfl; clear hM; intro w hM) | ((with_reducible apply s_alloc hF hM); exact rfl; exact rfl; exact rfl; clear hF hM a; intro b w a hM hF)))
    (((with_reducible apply s_call (f := 18) hF hM); exact rfl; exact rfl; exact rfl; exact rfl; exact rfl; exact (refSame57_c c a1 a2 p7 p8 c1 c2 r7 r8 l1 m1 l2 m2 k7 k8 _ _ hM.lt (hM.facts (RdF (Value.int .i64) a1 c.A.V) (by (repeat (first | with_reducible exact List.mem_cons_self | refine List.mem_cons_of_mem _ ?_)))) (hM.facts (RdF (Value.int .i64) a2 c.S.V) (by (repeat (first | with_reducible exact List.mem_cons_self | refine List.mem_cons_of_mem _ ?_)))) (hM.facts (RdF (Value.int .i64) p7 c.A.V) (by (repeat (first | with_reducible exact List.mem_cons_self | refine List.mem_cons_of_mem _ ?_)))) (hM.facts (RdF (Value.int .i64) p8 c.S.V) (by (repeat (first | with_reducible exact List.mem_cons_self | refine List.mem_cons_of_mem _ ?_))))); clear hF hM a; rintro v w a rfl - hM hF))
    (repeat' (first | (with_reducible refine w_seq ?_) | (with_reducible refine c_region ?_) | (with_reducible refine s_nil ?_) | (with_reducible refine q_then_n ?_) | ((with_reducible apply s_pure hF); exact rfl; exact rfl; exact rfl; (first | exact trivial | omega | exact ⟨Int.natCast_nonneg _, Int.ofNat_lt.2 (by assumption)⟩ | decide); clear hF a; intro a hF) | (with_reducible refine w_skip ?_) | ((with_reducible apply c_false2 hF); exact rfl; (first | with_reducible rfl | (refine congrArg Value.bool ?_; focus (simp; done))))))
    cases hd : decC xs with
    | error e =>
      have he := decC_ne hd
      (((with_reducible apply s_call (f := 30) hF hM); exact rfl; exact rfl; exact rfl; exact rfl; exact rfl; exact (decode_err hd hxb (by omega) a0 c0 hc0 _ _ hM.lt (hM.facts (RdF (Value.int .u8) a0 xs) (by (repeat (first | with_reducible exact List.mem_cons_self | refine List.mem_cons_of_mem _ ?_))))); clear hF hM a; rintro v w a rfl - hM hF))
      (repeat' (first | (with_reducible refine w_seq ?_) | (with_reducible refine c_region ?_) | (with_reducible refine s_nil ?_) | ((with_reducible apply s_call (f := 15) hF hM); exact rfl; exact rfl; exact rfl; exact rfl; exact rfl; exact (awake57_c _ _ hM.lt); clear hF hM a; rintro v w a rfl - hM hF) | (with_reducible refine q_then_n ?_) | ((with_reducible apply s_pure hF); exact rfl; exact rfl; exact rfl; (first | exact trivial | omega | exact ⟨Int.natCast_nonneg _, Int.ofNat_lt.2 (by assumption)⟩ | decide); clear hF a; intro a hF) | ((with_reducible apply s_store hF hM); exact rfl; exact rfl; exact rfl; exact rfl; (repeat (first | exact Upd.z | apply Upd.s)); exact rfl; exact rfl; exact rfl; clear hM; intro w hM) | ((with_reducible apply s_alloc hF hM); exact rfl; exact rfl; exact rfl; clear hF hM a; intro b w a hM hF) | (with_reducible refine w_ret ?_) | (with_reducible refine q_then_r ?_) | ((with_reducible apply c_dec hF); exact rfl; all_goals intro hc; all_goals (try (exfalso; omega)))))
      all_goals (apply f_ret Try.results7 hF hM; (repeat (first | exact RL.nil | (apply RL.tmp; exact rfl) | (apply RL.cell; exact rfl; (repeat (first | exact List.mem_cons_self | refine List.mem_cons_of_mem _ ?_)); exact rfl))); refine Ret.mk hM.since ?_; dsimp only [resV])
    | ok d =>
      obtain ⟨q1, q2⟩ := encB_decC hxb hd
      have dl := dcV_len xs
      rw [hd] at dl
      have dl1 : d.A.V.length ≤ 4096 := dl.1
      have dl2 : d.S.V.length ≤ 4096 := dl.2
      (((with_reducible apply s_call (f := 30) hF hM); exact rfl; exact rfl; exact rfl; exact rfl; exact rfl; exact (decode_ok hd hxb (by omega) a0 c0 hc0 _ _ hM.lt (hM.facts (RdF (Value.int .u8) a0 xs) (by (repeat (first | with_reducible exact List.mem_cons_self | refine List.mem_cons_of_mem _ ?_))))); clear hF hM a; rintro v w a ⟨p3, r3, p4, r4, rfl, f3, f4, k3, k4⟩ - hM hF; replace hM := (hM.addFact f3).addFact f4))
      (repeat' (first | (with_reducible refine w_seq ?_) | (with_reducible refine c_region ?_) | (with_reducible refine s_nil ?_) | (with_reducible refine q_then_n ?_) | ((with_reducible apply s_pure hF); exact rfl; exact rfl; exact rfl; (first | exact trivial | omega | exact ⟨Int.natCast_nonneg _, Int.ofNat_lt.2 (by assumption)⟩ | decide); clear hF a; intro a hF) | ((with_reducible apply s_load hF hM); exact rfl; exact rfl; (repeat (first | exact List.mem_cons_self | refine List.mem_cons_of_mem _ ?_)); exact rfl; exact rfl; clear hF a; intro a hF) | ((with_reducible apply s_store hF hM); exact rfl; exact rfl; exact rfl; exact rfl; (repeat (first | exact Upd.z | apply Upd.s)); exact rfl; exact rfl; exact rfl; clear hM; intro w hM) | ((with_reducible apply s_alloc hF hM); exact rfl; exact rfl; exact rfl; clear hF hM a; intro b w a hM hF) | (with_reducible refine w_skip ?_) | ((with_reducible apply c_false2 hF); exact rfl; (first | with_reducible rfl | (refine congrArg Value.bool ?_; focus (simp; done))))))
      (((with_reducible apply s_call (f := 28) hF hM); exact rfl; exact rfl; exact rfl; exact rfl; exact rfl; exact (encode_ok q2 p3 p4 r3 r4 (by omega) k3 (by omega) k4 _ _ hM.lt (hM.facts (RdF (Value.int .i64) p3 d.A.V) (by (repeat (first | with_reducible exact List.mem_cons_self | refine List.mem_cons_of_mem _ ?_)))) (hM.facts (RdF (Value.int .i64) p4 d.S.V) (by (repeat (first | with_reducible exact List.mem_cons_self | refine List.mem_cons_of_mem _ ?_))))); clear hF hM a; rintro v w a ⟨p5, r5, rfl, f5, k5⟩ - hM hF; replace hM := hM.addFact f5; rw [q1] at hM hF))
      (repeat' (first | (with_reducible refine w_seq ?_) | (with_reducible refine c_region ?_) | (with_reducible refine s_nil ?_) | (with_reducible refine q_then_n ?_) | ((with_reducible apply s_pure hF); exact rfl; exact rfl; exact rfl; (first | exact trivial | omega | exact ⟨Int.natCast_nonneg _, Int.ofNat_lt.2 (by assumption)⟩ | decide); clear hF a; intro a hF)))
      (((with_reducible apply s_call (f := 32) hF hM); exact rfl; exact rfl; exact rfl; exact rfl; exact rfl; exact (equalB_c xs xs hxb hxb p5 a0 _ _ r5 c0 rfl rfl _ _ hM.lt (hM.facts (RdF (Value.int .u8) p5 xs) (by (repeat (first | with_reducible exact List.mem_cons_self | refine List.mem_cons_of_mem _ ?_)))) (hM.facts (RdF (Value.int .u8) a0 xs) (by (repeat (first | with_reducible exact List.mem_cons_self | refine List.mem_cons_of_mem _ ?_))))); clear hF hM a; rintro v w a rfl - hM hF; rw [show decide (xs = xs) = true from decide_eq_true rfl] at hF))
      (repeat' (first | (with_reducible refine s_nil ?_) | ((with_reducible apply s_call (f := 15) hF hM); exact rfl; exact rfl; exact rfl; exact rfl; exact rfl; exact (awake57_c _ _ hM.lt); clear hF hM a; rintro v w a rfl - hM hF) | (with_reducible refine q_then_n ?_) | ((with_reducible apply s_pure hF); exact rfl; exact rfl; exact rfl; (first | exact trivial | omega | exact ⟨Int.natCast_nonneg _, Int.ofNat_lt.2 (by assumption)⟩ | decide); clear hF a; intro a hF) | (with_reducible refine w_ret ?_)))
      all_goals (apply f_ret Try.results7 hF hM; (repeat (first | exact RL.nil | (apply RL.tmp; exact rfl) | (apply RL.cell; exact rfl; (repeat (first | exact List.mem_cons_self | refine List.mem_cons_of_mem _ ?_)); exact rfl))); refine Ret.mk hM.since ?_; dsimp only [resV])
  · (((with_reducible apply s_call (f := 28) hF hM); exact rfl; exact rfl; exact rfl; exact rfl; exact rfl; exact (encode_err he a1 a2 c1 c2 l1 m1 l2 m2 _ _ hM.lt (hM.facts (RdF (Value.int .i64) a1 c.A.V) (by (repeat (first | with_reducible exact List.mem_cons_self | refine List.mem_cons_of_mem _ ?_)))) (hM.facts (RdF (Value.int .i64) a2 c.S.V) (by (repeat (first | with_reducible exact List.mem_cons_self | refine List.mem_cons_of_mem _ ?_))))); clear hF hM a; rintro v w a rfl - hM hF))
    (repeat' (first | (with_reducible refine w_seq ?_) | (with_reducible refine c_region ?_) | (with_reducible refine s_nil ?_) | (with_reducible refine q_then_n ?_) | ((with_reducible apply s_pure hF); exact rfl; exact rfl; exact rfl; (first | exact trivial | omega | exact ⟨Int.natCast_nonneg _, Int.ofNat_lt.2 (by assumption)⟩ | decide); clear hF a; intro a hF) | (with_reducible refine w_skip ?_) | ((with_reducible apply c_dec hF); exact rfl; all_goals intro hc; all_goals (try (exfalso; omega)))))
    cases hd : decC xs with
    | error e =>
      have he := decC_ne hd
      (((with_reducible apply s_call (f := 30) hF hM); exact rfl; exact rfl; exact rfl; exact rfl; exact rfl; exact (decode_err hd hxb (by omega) a0 c0 hc0 _ _ hM.lt (hM.facts (RdF (Value.int .u8) a0 xs) (by (repeat (first | with_reducible exact List.mem_cons_self | refine List.mem_cons_of_mem _ ?_))))); clear hF hM a; rintro v w a rfl - hM hF))
      (repeat' (first | (with_reducible refine w_seq ?_) | (with_reducible refine c_region ?_) | (with_reducible refine s_nil ?_) | ((with_reducible apply s_call (f := 15) hF hM); exact rfl; exact rfl; exact rfl; exact rfl; exact rfl; exact (awake57_c _ _ hM.lt); clear hF hM a; rintro v w a rfl - hM hF) | (with_reducible refine q_then_n ?_) | ((with_reducible apply s_pure hF); exact rfl; exact rfl; exact rfl; (first | exact trivial | omega | exact ⟨Int.natCast_nonneg _, Int.ofNat_lt.2 (by assumption)⟩ | decide); clear hF a; intro a hF) | ((with_reducible apply s_store hF hM); exact rfl; exact rfl; exact rfl; exact rfl; (repeat (first | exact Upd.z | apply Upd.s)); exact rfl; exact rfl; exact rfl; clear hM; intro w hM) | ((with_reducible apply s_alloc hF hM); exact rfl; exact rfl; exact rfl; clear hF hM a; intro b w a hM hF) | (with_reducible refine w_ret ?_) | (with_reducible refine q_then_r ?_) | ((with_reducible apply c_dec hF); exact rfl; all_goals intro hc; all_goals (try (exfalso; omega)))))
      all_goals (apply f_ret Try.results7 hF hM; (repeat (first | exact RL.nil | (apply RL.tmp; exact rfl) | (apply RL.cell; exact rfl; (repeat (first | exact List.mem_cons_self | refine List.mem_cons_of_mem _ ?_)); exact rfl))); refine Ret.mk hM.since ?_; dsimp only [resV])
    | ok d =>
      obtain ⟨q1, q2⟩ := encB_decC hxb hd
      have dl := dcV_len xs
      rw [hd] at dl
      have dl1 : d.A.V.length ≤ 4096 := dl.1
      have dl2 : d.S.V.length ≤ 4096 := dl.2
      (((with_reducible apply s_call (f := 30) hF hM); exact rfl; exact rfl; exact rfl; exact rfl; exact rfl; exact (decode_ok hd hxb (by omega) a0 c0 hc0 _ _ hM.lt (hM.facts (RdF (Value.int .u8) a0 xs) (by (repeat (first | with_reducible exact List.mem_cons_self | refine List.mem_cons_of_mem _ ?_))))); clear hF hM a; rintro v w a ⟨p3, r3, p4, r4, rfl, f3, f4, k3, k4⟩ - hM hF; replace hM := (hM.addFact f3).addFact f4))
      (repeat' (first | (with_reducible refine w_seq ?_) | (with_reducible refine c_region ?_) | (with_reducible refine s_nil ?_) | (with_reducible refine q_then_n ?_) | ((with_reducible apply s_pure hF); exact rfl; exact rfl; exact rfl; (first | exact trivial | omega | exact ⟨Int.natCast_nonneg _, Int.ofNat_lt.2 (by assumption)⟩ | decide); clear hF a; intro a hF) | ((with_reducible apply s_load hF hM); exact rfl; exact rfl; (repeat (first | exact List.mem_cons_self | refine List.mem_cons_of_mem _ ?_)); exact rfl; exact rfl; clear hF a; intro a hF) | ((with_reducible apply s_store hF hM); exact rfl; exact rfl; exact rfl; exact rfl; (repeat (first | exact Upd.z | apply Upd.s)); exact rfl; exact rfl; exact rfl; clear hM; intro w hM) | ((with_reducible apply s_alloc hF hM); exact rfl; exact rfl; exact rfl; clear hF hM a; intro b w a hM hF) | (with_reducible refine w_skip ?_) | ((with_reducible apply c_false2 hF); exact rfl; (first | with_reducible rfl | (refine congrArg Value.bool ?_; focus (simp; done))))))
      (((with_reducible apply s_call (f := 28) hF hM); exact rfl; exact rfl; exact rfl; exact rfl; exact rfl; exact (encode_ok q2 p3 p4 r3 r4 (by omega) k3 (by omega) k4 _ _ hM.lt (hM.facts (RdF (Value.int .i64) p3 d.A.V) (by (repeat (first | with_reducible exact List.mem_cons_self | refine List.mem_cons_of_mem _ ?_)))) (hM.facts (RdF (Value.int .i64) p4 d.S.V) (by (repeat (first | with_reducible exact List.mem_cons_self | refine List.mem_cons_of_mem _ ?_))))); clear hF hM a; rintro v w a ⟨p5, r5, rfl, f5, k5⟩ - hM hF; replace hM := hM.addFact f5; rw [q1] at hM hF))
      (repeat' (first | (with_reducible refine w_seq ?_) | (with_reducible refine c_region ?_) | (with_reducible refine s_nil ?_) | (with_reducible refine q_then_n ?_) | ((with_reducible apply s_pure hF); exact rfl; exact rfl; exact rfl; (first | exact trivial | omega | exact ⟨Int.natCast_nonneg _, Int.ofNat_lt.2 (by assumption)⟩ | decide); clear hF a; intro a hF)))
      (((with_reducible apply s_call (f := 32) hF hM); exact rfl; exact rfl; exact rfl; exact rfl; exact rfl; exact (equalB_c xs xs hxb hxb p5 a0 _ _ r5 c0 rfl rfl _ _ hM.lt (hM.facts (RdF (Value.int .u8) p5 xs) (by (repeat (first | with_reducible exact List.mem_cons_self | refine List.mem_cons_of_mem _ ?_)))) (hM.facts (RdF (Value.int .u8) a0 xs) (by (repeat (first | with_reducible exact List.mem_cons_self | refine List.mem_cons_of_mem _ ?_))))); clear hF hM a; rintro v w a rfl - hM hF; rw [show decide (xs = xs) = true from decide_eq_true rfl] at hF))
      (repeat' (first | (with_reducible refine s_nil ?_) | ((with_reducible apply s_call (f := 15) hF hM); exact rfl; exact rfl; exact rfl; exact rfl; exact rfl; exact (awake57_c _ _ hM.lt); clear hF hM a; rintro v w a rfl - hM hF) | (with_reducible refine q_then_n ?_) | ((with_reducible apply s_pure hF); exact rfl; exact rfl; exact rfl; (first | exact trivial | omega | exact ⟨Int.natCast_nonneg _, Int.ofNat_lt.2 (by assumption)⟩ | decide); clear hF a; intro a hF) | (with_reducible refine w_ret ?_)))
      all_goals (apply f_ret Try.results7 hF hM; (repeat (first | exact RL.nil | (apply RL.tmp; exact rfl) | (apply RL.cell; exact rfl; (repeat (first | exact List.mem_cons_self | refine List.mem_cons_of_mem _ ?_)); exact rfl))); refine Ret.mk hM.since ?_; dsimp only [resV])
end Go.Proofs.Ytabfhoipclbeeaa


/- Arguments of the rows of layer 57. -/
namespace Go.Proofs.Ytabfhoipclbeeaa
open Go.RowKit Go.Shelf Go.ChangeShapes Go.WideShapes Go.ChangeAt C55 K57
section
variable {H : Type} {enc : TypeId × Value → H} {w : World} {r : Reach} {b0 base : Nat} {spare : Nat → Bool} {held : Bool}
theorem u8_wf {x : Int} (h : (Lit.int .u8 x).wf = true) : 0 ≤ x ∧ x < 256 := by have := Go.bounds_u8 h; omega
theorem bytes_arg {v : Value} {d : DataW H} {p : List MemPlace} (hv : Value.okWide Try.prog w r b0 57 v) (h : DataW.Trod enc Try.prog w 0 (fun _ => true) held 57 v d p) :
    ∃ (a : Option Addr) (xs : List Int) (cap : Nat), v = .slice a xs.length cap ∧ Has (fun _ => False) w (RdF (Value.int .u8) a xs) ∧ xs.length ≤ cap ∧ (∀ x ∈ xs, 0 ≤ x ∧ x < 256) ∧ xs.length ≤ 9223372036854775807 := by
  obtain ⟨a1, n1, c1, rfl⟩ := okWide_slice Try.underlying57 hv
  obtain ⟨a, xs, cap, e, hr, l1, l2, hb⟩ := slice_arg Try.underlying57 Try.underlying5 (by kernel_rfl) rfl h
  exact ⟨a, xs, cap, e, Has.reads hr, l2, fun x hx => u8_wf (hb x hx), l1⟩
theorem cu_cells {cells : List Value} {n : Nat} {y : DataW H × List MemPlace} (h : DataW.trod enc Try.prog w 0 (fun _ => true) held n 24 cells = some y) :
    ∃ (A : Cu) (a : Option Addr) (cap : Nat), cells = [.slice a A.V.length cap, .int .i64 A.S] ∧ Has (fun _ => False) w (RdF (Value.int .i64) a A.V) ∧ A.V.length ≤ 9223372036854775807 ∧ A.V.length ≤ cap := by
  obtain ⟨xs, m, _, _, hl, hlen, hx⟩ := DataW.trod_struct Try.underlying24 h
  have hl2 : cells.length = 2 := hl.trans (by kernel_rfl)
  have q0 := hx 0 _ rfl
  have q1 := hx 1 _ rfl
  match cells, hl2, xs, hlen with
  | [u, v], _, [y0, y1], _ =>
    rw [show Try.prog.cellsOf _ = 1 from (by kernel_rfl)] at q0
    rw [show Try.prog.cellsOf _ = 1 from (by kernel_rfl)] at q1
    obtain ⟨a, V, cap, rfl, hr, l1, l2, hb⟩ := of_slice Try.underlying22 Try.underlying3 (by kernel_rfl) (c := u) q0
    obtain ⟨x1, rfl, _⟩ := of_int Try.underlying3 (c := v) q1
    exact ⟨⟨V, x1⟩, a, cap, rfl, Has.reads hr, l1, l2⟩
theorem isCe_arg {v : Value} {d : DataW H} {p : List MemPlace} (hv : Value.okWide Try.prog w r b0 29 v) (h : DataW.Trod enc Try.prog w 0 (fun _ => true) held 29 v d p) :
    ∃ (c : Ce) (a1 a2 : Option Addr) (c1 c2 : Nat), v = .agg ⟨ceL c a1 c1 a2 c2⟩ ∧ Has (fun _ => False) w (RdF (Value.int .i64) a1 c.A.V) ∧ Has (fun _ => False) w (RdF (Value.int .i64) a2 c.S.V) ∧ c.A.V.length ≤ 9223372036854775807 ∧ c.A.V.length ≤ c1 ∧ c.S.V.length ≤ 9223372036854775807 ∧ c.S.V.length ≤ c2 := by
  obtain ⟨cs, rfl, hsz⟩ := okWide_struct Try.underlying29 hv
  obtain ⟨fuel, hf⟩ := h
  obtain ⟨xs, n, _, _, hl, hlen, hx⟩ := DataW.trod_struct Try.underlying29 hf
  obtain ⟨l⟩ := cs
  have hl2 : l.length = 8 := hl.trans (by kernel_rfl)
  have q0 := hx 0 _ rfl
  have q1 := hx 1 _ rfl
  have q2 := hx 2 _ rfl
  have q3 := hx 3 _ rfl
  have q4 := hx 4 _ rfl
  have q5 := hx 5 _ rfl
  match l, hl2, xs, hlen with
  | [u0, u1, u2, u3, u4, u5, u6, u7], _, [y0, y1, y2, y3, y4, y5], _ =>
    rw [show Try.prog.cellsOf _ = 2 from (by kernel_rfl)] at q0
    rw [show Try.prog.cellsOf _ = 2 from (by kernel_rfl)] at q1
    rw [show Try.prog.cellsOf _ = 1 from (by kernel_rfl)] at q2
    rw [show Try.prog.cellsOf _ = 1 from (by kernel_rfl)] at q3
    rw [show Try.prog.cellsOf _ = 1 from (by kernel_rfl)] at q4
    rw [show Try.prog.cellsOf _ = 1 from (by kernel_rfl)] at q5
    obtain ⟨A, a1, c1, e1, h1, l1, m1⟩ := cu_cells (cells := [u0, u1]) q0
    obtain ⟨S, a2, c2, e2, h2, l2, m2⟩ := cu_cells (cells := [u2, u3]) q1
    obtain ⟨x4, rfl, _⟩ := of_int Try.underlying3 (c := u4) q2
    obtain ⟨x5, rfl, _⟩ := of_int Try.underlying3 (c := u5) q3
    obtain ⟨x6, rfl, _⟩ := of_int Try.underlying3 (c := u6) q4
    obtain ⟨x7, rfl, _⟩ := of_int Try.underlying3 (c := u7) q5
    simp only [List.cons.injEq, and_true] at e1 e2
    obtain ⟨rfl, rfl⟩ := e1
    obtain ⟨rfl, rfl⟩ := e2
    exact ⟨⟨A, S, x4, x5, x6, x7⟩, a1, a2, c1, c2, rfl, h1, h2, l1, m1, l2, m2⟩
theorem two_arg {v : Value} {d : DataW H} {p : List MemPlace} (hv : Value.okWide Try.prog w r b0 25 v) (h : DataW.Trod enc Try.prog w 0 (fun _ => true) held 25 v d p) :
    ∃ (A S : Cu) (a1 a2 : Option Addr) (c1 c2 : Nat), v = .agg ⟨twoL A S a1 c1 a2 c2⟩ ∧ Has (fun _ => False) w (RdF (Value.int .i64) a1 A.V) ∧ Has (fun _ => False) w (RdF (Value.int .i64) a2 S.V) ∧ A.V.length ≤ 9223372036854775807 ∧ A.V.length ≤ c1 ∧ S.V.length ≤ 9223372036854775807 ∧ S.V.length ≤ c2 := by
  obtain ⟨cs, rfl, hsz⟩ := okWide_array Try.underlying25 hv
  obtain ⟨fuel, hf⟩ := h
  obtain ⟨xs, n, _, _, hl, hlen, hx⟩ := DataW.trod_array Try.underlying25 hf
  obtain ⟨l⟩ := cs
  have hl2 : l.length = 4 := hsz.trans (by kernel_rfl)
  have q0 := hx 0 (by decide)
  have q1 := hx 1 (by decide)
  rw [show Try.prog.cellsOf _ = 2 from (by kernel_rfl)] at q0
  rw [show Try.prog.cellsOf _ = 2 from (by kernel_rfl)] at q1
  match l, hl2, xs, hlen with
  | [u0, u1, u2, u3], _, [y0, y1], _ =>
    obtain ⟨A, a1, c1, e1, h1, l1, m1⟩ := cu_cells (cells := [u0, u1]) q0
    obtain ⟨S, a2, c2, e2, h2, l2, m2⟩ := cu_cells (cells := [u2, u3]) q1
    simp only [List.cons.injEq, and_true] at e1 e2
    obtain ⟨rfl, rfl⟩ := e1
    obtain ⟨rfl, rfl⟩ := e2
    exact ⟨A, S, a1, a2, c1, c2, rfl, h1, h2, l1, m1, l2, m2⟩
theorem nums_arg {v : Value} {d : DataW H} {p : List MemPlace} (hv : Value.okWide Try.prog w r b0 27 v) (h : DataW.Trod enc Try.prog w 0 (fun _ => true) held 27 v d p) :
    ∃ x y z : Int, v = .agg #[.int .i64 x, .int .i64 y, .int .i64 z] ∧ (-9223372036854775808 ≤ x ∧ x ≤ 9223372036854775807) ∧ (-9223372036854775808 ≤ y ∧ y ≤ 9223372036854775807) ∧ (-9223372036854775808 ≤ z ∧ z ≤ 9223372036854775807) := by
  obtain ⟨cs, rfl, hs, hf⟩ := open_aggN Try.underlying27 (by kernel_rfl) (by kernel_rfl) hv h
  obtain ⟨c0, y0, n0, e0, k0⟩ := hf 0 _ rfl
  obtain ⟨c1, y1, n1, e1, k1⟩ := hf 1 _ rfl
  obtain ⟨c2, y2, n2, e2, k2⟩ := hf 2 _ rfl
  obtain ⟨x0, rfl, w0⟩ := of_int Try.underlying3 k0
  obtain ⟨x1, rfl, w1⟩ := of_int Try.underlying3 k1
  obtain ⟨x2, rfl, w2⟩ := of_int Try.underlying3 k2
  obtain ⟨l⟩ := cs
  have hl : l = [.int .i64 x0, .int .i64 x1, .int .i64 x2] := by
    match l, hs with
    | [d0, d1, d2], _ => simp at e0 e1 e2; simp [e0, e1, e2]
  subst hl
  exact ⟨x0, x1, x2, rfl, w0, w1, w2⟩
theorem tr_arg {v : Value} {d : DataW H} {p : List MemPlace} (hv : Value.okWide Try.prog w r b0 42 v) (h : DataW.Trod enc Try.prog w 0 (fun _ => true) held 42 v d p) :
    ∃ (t : P56.Tr) (aw ac : Option Addr) (cw cc : Nat), v = .agg ⟨trL t aw cw ac cc⟩ ∧ Has (fun _ => False) w (RdF (Value.int .i64) aw t.W) ∧ Has (fun _ => False) w (RdF (Value.int .i64) ac t.C) ∧ t.W.length ≤ 9223372036854775807 ∧ t.W.length ≤ cw ∧ t.C.length ≤ 9223372036854775807 ∧ t.C.length ≤ cc := by
  obtain ⟨cs, rfl, hs, hf⟩ := open_aggN Try.underlying42 (by kernel_rfl) (by kernel_rfl) hv h
  obtain ⟨c0, y0, n0, e0, k0⟩ := hf 0 _ rfl
  obtain ⟨c1, y1, n1, e1, k1⟩ := hf 1 _ rfl
  obtain ⟨c2, y2, n2, e2, k2⟩ := hf 2 _ rfl
  obtain ⟨c3, y3, n3, e3, k3⟩ := hf 3 _ rfl
  obtain ⟨c4, y4, n4, e4, k4⟩ := hf 4 _ rfl
  obtain ⟨a, W, cap, rfl, hr, l1, l2, hb⟩ := of_slice Try.underlying22 Try.underlying3 (by kernel_rfl) k0
  obtain ⟨a', C, cap', rfl, hr', l1', l2', hb'⟩ := of_slice Try.underlying22 Try.underlying3 (by kernel_rfl) k1
  obtain ⟨x2, rfl, _⟩ := of_int Try.underlying3 k2
  obtain ⟨x3, rfl, _⟩ := of_int Try.underlying3 k3
  obtain ⟨x4, rfl, _⟩ := of_int Try.underlying3 k4
  obtain ⟨l⟩ := cs
  have hl : l = [.slice a W.length cap, .slice a' C.length cap', .int .i64 x2, .int .i64 x3, .int .i64 x4] := by
    match l, hs with
    | [d0, d1, d2, d3, d4], _ => simp at e0 e1 e2 e3 e4; simp [e0, e1, e2, e3, e4]
  subst hl
  exact ⟨⟨W, C, x2, x3, x4⟩, a, a', cap, cap', rfl, Has.reads hr, Has.reads hr', l1, l2, l1', l2'⟩
end
end Go.Proofs.Ytabfhoipclbeeaa


/- Plain law of layer 57: a trace that is covered has a plan whose bound is at most that of the certificate. -/
namespace Go.Proofs.Ytabfhoipclbeeaa
namespace K57
open C55
theorem win_near (l : List Int) (S : Int) {m : Nat} (hm : l.length ≤ m) (s k : Nat) : ∃ s', s' ≤ m ∧ win l S s k = win l S s' k := by
  by_cases hs : s ≤ m
  · exact ⟨s, hs, rfl⟩
  · refine ⟨l.length, hm, ?_⟩
    have := win_tail l S (s - l.length) k
    rwa [show l.length + (s - l.length) = s by omega] at this
theorem cov_A {c : Ce} {t : P56.Tr} (ok : Ok c.A) (h : covAll c t = true) (s k : Nat) : win t.W 0 s k ≤ vl c.A k := by
  rw [covAll_iff] at h
  obtain ⟨s', hs', e⟩ := win_near t.W 0 (m := mostT t) (by unfold mostT; omega) s k
  rw [e]
  have key : ∀ k, k ≤ max (mostT t) c.S.V.length → win t.W 0 s' k ≤ vl c.A k := by
    intro k hk
    have := h k s' hk hs'
    unfold covAt at this
    rw [Bool.and_eq_true, decide_eq_true_eq] at this
    exact this.1
  by_cases hk : k ≤ max (mostT t) c.S.V.length
  · exact key k hk
  · have h1 := win_over (l := t.W) (S := 0) (s := s') (k := max (mostT t) c.S.V.length) (by unfold mostT; omega) (k - max (mostT t) c.S.V.length)
    rw [show max (mostT t) c.S.V.length + (k - max (mostT t) c.S.V.length) = k by omega] at h1
    have h2 := key _ (Nat.le_refl _)
    have h3 := vl_le ok (k := max (mostT t) c.S.V.length) (j := k) (by omega)
    omega
theorem cov_S {c : Ce} {t : P56.Tr} (ok : Ok c.S) (hl : c.S.S ≤ P56.last t.C) (h : covAll c t = true) (s k : Nat) : vl c.S k ≤ win t.C (P56.last t.C) s k := by
  rw [covAll_iff] at h
  obtain ⟨s', hs', e⟩ := win_near t.C (P56.last t.C) (m := mostT t) (by unfold mostT; omega) s k
  rw [e]
  have key : ∀ k, k ≤ max (mostT t) c.S.V.length → vl c.S k ≤ win t.C (P56.last t.C) s' k := by
    intro k hk
    have := h k s' hk hs'
    unfold covAt at this
    rw [Bool.and_eq_true, decide_eq_true_eq, decide_eq_true_eq] at this
    exact this.2
  by_cases hk : k ≤ max (mostT t) c.S.V.length
  · exact key k hk
  · have h1 := win_over (l := t.C) (S := P56.last t.C) (s := s') (k := max (mostT t) c.S.V.length) (by unfold mostT; omega) (k - max (mostT t) c.S.V.length)
    have h4 := vl_line ok.l0 (k := max (mostT t) c.S.V.length) (by omega) (k - max (mostT t) c.S.V.length)
    rw [show max (mostT t) c.S.V.length + (k - max (mostT t) c.S.V.length) = k by omega] at h1 h4
    have h2 := key _ (Nat.le_refl _)
    have h3 := Int.mul_le_mul_of_nonneg_left hl (show (0 : Int) ≤ ((k - max (mostT t) c.S.V.length : Nat) : Int) by omega)
    omega
/-- The ticks of a transfer: the first time at which the service curve has as much as the greatest cycle. -/
theorem tr_nat {c : Ce} (h : BOk c) : ∃ d : Nat, tr c = d ∧ most c ≤ vl c.S d ∧ ∀ x, x < d → vl c.S x < most c := by
  have hz : c.S.S = 0 → fpos c.S.V (most c) < c.S.V.length := by
    intro h0
    have := h.nv
    unfold never at this
    rw [h0] at this
    simp at this
    have := fpos_le c.S.V (most c)
    omega
  obtain ⟨r, h1, h2, h3⟩ := rch_nat h.S hz
  exact ⟨r, h1, h2, h3⟩
theorem first_end {C : List Int} {s d : Nat} {n : Int} (h : P56.carr C s + n ≤ P56.carr C (s + d)) : ∃ e, e ≤ s + d ∧ P56.IsEnd C s n e := by
  induction d with
  | zero => exact ⟨s, by omega, by omega, h, fun x h1 h2 => by omega⟩
  | succ d ih =>
    by_cases h2 : P56.carr C s + n ≤ P56.carr C (s + d)
    · obtain ⟨e, he, hE⟩ := ih h2
      exact ⟨e, by omega, hE⟩
    · by_cases hall : ∃ x, s ≤ x ∧ x < s + d ∧ P56.carr C s + n ≤ P56.carr C x
      · obtain ⟨x, hx1, hx2, hx3⟩ := hall
        have hex : ∃ m, s ≤ s + m ∧ s + m < s + d ∧ P56.carr C s + n ≤ P56.carr C (s + m) := ⟨x - s, by omega, by omega, by rw [show s + (x - s) = x by omega]; exact hx3⟩
        obtain ⟨m, hm, hmin⟩ : ∃ m, (P56.carr C s + n ≤ P56.carr C (s + m) ∧ m < d) ∧ ∀ j, j < m → ¬ (P56.carr C s + n ≤ P56.carr C (s + j)) := by
          obtain ⟨m, h1, h3, h4⟩ := hex
          clear hx1 hx2 hx3 ih
          induction m using Nat.strongRecOn with
          | _ m ihm =>
            by_cases hj : ∃ j, j < m ∧ P56.carr C s + n ≤ P56.carr C (s + j)
            · obtain ⟨j, hj1, hj2⟩ := hj
              exact ihm j hj1 (by omega) (by omega) hj2
            · exact ⟨m, ⟨h4, by omega⟩, fun j hjm hc => hj ⟨j, hjm, hc⟩⟩
        refine ⟨s + m, by omega, by omega, hm.1, fun y hy1 hy2 => ?_⟩
        have := hmin (y - s) (by omega)
        rw [show s + (y - s) = y by omega] at this
        omega
      · refine ⟨s + (d + 1), by omega, by omega, h, fun y hy1 hy2 => ?_⟩
        apply Classical.byContradiction
        intro hc
        by_cases hyd : y = s + d
        · subst hyd; omega
        · exact hall ⟨y, hy1, by omega, by omega⟩
theorem size_win (t : P56.Tr) (k : Nat) : P56.size t k = win t.W 0 (k * t.P.toNat) t.P.toNat := by
  unfold P56.size win up
  have h1 := List.take_append_drop (k * t.P.toNat) (t.W.take (k * t.P.toNat + t.P.toNat))
  have h2 : ((t.W.drop (k * t.P.toNat)).take t.P.toNat) = (t.W.take (k * t.P.toNat + t.P.toNat)).drop (k * t.P.toNat) := by rw [List.drop_take]; congr 1; omega
  have h3 : (t.W.take (k * t.P.toNat + t.P.toNat)).take (k * t.P.toNat) = t.W.take (k * t.P.toNat) := by rw [List.take_take]; congr 1; omega
  rw [h3] at h1
  rw [h2]
  have h4 := congrArg List.sum h1
  rw [List.sum_append] at h4
  simp only [Int.mul_zero, Int.add_zero]
  omega
/-- No transfer of a covered trace lasts longer than the certificate says. -/
theorem cov_ends {c : Ce} {t : P56.Tr} (hb : BOk c) (okt : P56.Ok t) (hP : t.P = c.P) (hl : c.S.S ≤ P56.last t.C) (h : covAll c t = true) {d : Nat} (hd : tr c = d) (hm : most c ≤ vl c.S d) :
    ∀ k, ∃ e, P56.endOf t k = some e ∧ e ≤ k * t.P.toNat + d := by
  have hdP := hb.tr
  have hp := hb.num.1
  intro k
  induction k with
  | zero => exact ⟨0, rfl, by omega⟩
  | succ k ih =>
    obtain ⟨e, he, hle⟩ := ih
    have e1 : (k + 1) * t.P.toNat = k * t.P.toNat + t.P.toNat := Nat.succ_mul _ _
    have hst : max ((k + 1) * t.P.toNat) e = (k + 1) * t.P.toNat := by omega
    have hA := cov_A hb.A h (k * t.P.toNat) t.P.toNat
    rw [← size_win] at hA
    have hmost : vl c.A t.P.toNat = most c := by unfold most; rw [hP]
    have hS := cov_S hb.S hl h ((k + 1) * t.P.toNat) d
    have hcar : win t.C (P56.last t.C) ((k + 1) * t.P.toNat) d = P56.carr t.C ((k + 1) * t.P.toNat + d) - P56.carr t.C ((k + 1) * t.P.toNat) := rfl
    obtain ⟨e', he', hE⟩ := first_end (C := t.C) (s := (k + 1) * t.P.toNat) (d := d) (n := P56.size t k) (by omega)
    refine ⟨e', ?_, by omega⟩
    rw [P56.endOf, he, Option.bind_some, hst]
    exact P56.finish_of_isEnd okt.c hE
theorem cov_bdR {t : P56.Tr} {d : Nat} {B : Int} (hB : t.P.toNat + d + t.L + t.A - 1 ≤ B) (hB0 : 0 ≤ B) (h : ∀ k, ∃ e, P56.endOf t k = some e ∧ e ≤ k * t.P.toNat + d) : ∀ k, P56.bdR t k ≤ B := by
  intro k
  induction k with
  | zero => exact hB0
  | succ k ih =>
    obtain ⟨e, he, hle⟩ := h (k + 1)
    have e1 : (k + 1) * t.P.toNat = k * t.P.toNat + t.P.toNat := Nat.succ_mul _ _
    have hen : P56.en t (k + 1) = e := by unfold P56.en; rw [he]; rfl
    have hap : P56.ap t k = (e : Int) + t.L + t.A := by unfold P56.ap; rw [hen]
    rw [P56.bdR]
    split <;> omega
/-- The plan of a trace that is covered. -/
theorem holds {c : Ce} {t : P56.Tr} (hE : covE c t = 0) (hV : covV c t = true) : (P56.plan t).2 = 0 ∧ (P56.plan t).1.bound ≤ c.B := by
  have hc : chkE c = 0 := by
    unfold covE at hE
    split at hE <;> omega
  have ht : P56.check t = 0 := by
    unfold covE at hE
    split at hE <;> omega
  obtain ⟨hb, hB⟩ := chk_bok hc
  have okt := P56.check_ok.1 ht
  unfold covV at hV
  rw [Bool.and_eq_true, decide_eq_true_eq] at hV
  obtain ⟨⟨-, hP, hL, hD, hl⟩, hall⟩ := hV
  obtain ⟨d, hd, hm, -⟩ := tr_nat hb
  have hends := cov_ends hb okt hP hl hall hd hm
  have hp := hb.num
  have hL0 := okt.l0
  have hA0 := okt.a0
  unfold bndV at hB
  have hbd := cov_bdR (B := c.B) (by omega) (by omega) hends (P56.cycles t)
  unfold P56.plan P56.planOk
  obtain ⟨e, he, -⟩ := hends (P56.cycles t)
  rw [if_pos ht, he, Option.isSome_some, if_pos rfl]
  refine ⟨rfl, ?_⟩
  show P56.boundR t ≤ c.B
  rw [P56.boundR_eq t (by omega)]
  exact hbd
end K57
end Go.Proofs.Ytabfhoipclbeeaa


/- certificate's laws: CertificateHolds. -/
namespace Go.Proofs.Ytabfhoipclbeeaa
open Go.RowKit Go.Shelf C55 K57
/-- The error and the bound of a plan. -/
def PlR (x : Int × Int) (v : Value) : Prop := ∃ y1 y2 y3 y4 : Option Addr, ∃ n1 n2 n3 n4 d1 d2 d3 d4 : Nat, v = .tuple #[.agg #[.slice y1 n1 d1, .slice y2 n2 d2, .slice y3 n3 d3, .slice y4 n4 d4, .int .i64 x.1], .int .i64 x.2]
theorem planB_c (t : P56.Tr) (aw ac : Option Addr) (cw cc : Nat) (lw : t.W.length ≤ 9223372036854775807) (mw : t.W.length ≤ cw) (lc : t.C.length ≤ 9223372036854775807) (mc : t.C.length ≤ cc) (own : Nat → Prop) (W : World) (hl : ∀ b, own b → b < W.heap.size) (h3 : Has own W (RdF (Value.int .i64) aw t.W)) (h4 : Has own W (RdF (Value.int .i64) ac t.C)) :
    Calls Try.prog 36 ⟨[.agg ⟨trL t aw cw ac cc⟩]⟩ W (Ret W fun v _ => PlR ((P56.plan t).1.bound, (P56.plan t).2) v) := by
  refine (Plan_c sizes_c t _ own W hl (isTr_mk h3 h4 lw lc mw mc)).mono ?_
  rintro e w' ⟨v, rfl, hs, pv, rfl, hpv⟩
  obtain ⟨x1, x2, x3, x4, y1, y2, y3, y4, rfl, -⟩ := isPl_open hpv
  exact ⟨_, rfl, hs, x1, x2, x3, x4, _, _, _, _, y1, y2, y3, y4, rfl⟩
theorem covV_0 {c : Ce} {t : P56.Tr} (h : covV c t = true) : covE c t = 0 := by
  unfold covV at h
  rw [Bool.and_eq_true, decide_eq_true_eq] at h
  exact h.1.1
set_option maxRecDepth 20000 in
set_option maxHeartbeats 4000000 in
theorem holds57_law (c : Ce) (a1 a2 : Option Addr) (c1 c2 : Nat) (l1 : c.A.V.length ≤ 9223372036854775807) (m1 : c.A.V.length ≤ c1) (l2 : c.S.V.length ≤ 9223372036854775807) (m2 : c.S.V.length ≤ c2) (W : World)
    (h1 : Has (fun _ => False) W (RdF (Value.int .i64) a1 c.A.V)) (h2 : Has (fun _ => False) W (RdF (Value.int .i64) a2 c.S.V)) (t : P56.Tr) (aw ac : Option Addr) (cw cc : Nat) (lw : t.W.length ≤ 9223372036854775807) (mw : t.W.length ≤ cw) (lc : t.C.length ≤ 9223372036854775807) (mc : t.C.length ≤ cc) (h3 : Has (fun _ => False) W (RdF (Value.int .i64) aw t.W)) (h4 : Has (fun _ => False) W (RdF (Value.int .i64) ac t.C)) :
    Calls Try.prog 9 ⟨[.agg ⟨ceL c a1 c1 a2 c2⟩, .agg ⟨trL t aw cw ac cc⟩]⟩ W (Ret W fun x _ => x = .bool true) := by
  have hM := ((((Mm.start (fun _ h => h.elim)).known h1).known h2).known h3).known h4
  refine f_start Try.func9 rfl Try.ntmps9 rfl rfl ?_; intro a hF
  by_cases hbig : ¬ (c.A.V.length ≤ 40 ∧ c.S.V.length ≤ 40) ∨ ¬ (t.W.length ≤ 40 ∧ t.C.length ≤ 60)
  · (repeat' (first | (with_reducible refine w_seq ?_) | (with_reducible refine c_region ?_) | (with_reducible refine s_nil ?_) | ((with_reducible apply s_call (f := 14) hF hM); exact rfl; exact rfl; exact rfl; exact rfl; exact rfl; exact (refFew57_c c a1 a2 c1 c2 l1 m1 l2 m2 _ _ hM.lt (hM.facts (RdF (Value.int .i64) a1 c.A.V) (by (repeat (first | with_reducible exact List.mem_cons_self | refine List.mem_cons_of_mem _ ?_)))) (hM.facts (RdF (Value.int .i64) a2 c.S.V) (by (repeat (first | with_reducible exact List.mem_cons_self | refine List.mem_cons_of_mem _ ?_))))); clear hF hM a; rintro v w a rfl - hM hF) | ((with_reducible apply s_call (f := 33) hF hM); exact rfl; exact rfl; exact rfl; exact rfl; exact rfl; exact (refFewTrace_c t aw ac cw cc lw lc _ _ hM.lt); clear hF hM a; rintro v w a rfl - hM hF) | ((with_reducible apply s_call (f := 15) hF hM); exact rfl; exact rfl; exact rfl; exact rfl; exact rfl; exact (awake57_c _ _ hM.lt); clear hF hM a; rintro v w a rfl - hM hF) | (with_reducible refine q_then_n ?_) | ((with_reducible apply s_pure hF); exact rfl; exact rfl; exact rfl; (first | exact trivial | omega | exact ⟨Int.natCast_nonneg _, Int.ofNat_lt.2 (by assumption)⟩ | decide); clear hF a; intro a hF) | ((with_reducible apply s_load hF hM); exact rfl; exact rfl; (repeat (first | exact List.mem_cons_self | refine List.mem_cons_of_mem _ ?_)); exact rfl; exact rfl; clear hF a; intro a hF) | ((with_reducible apply s_box hF hM); exact rfl; exact rfl; exact rfl; exact rfl; clear hF hM a; intro b w a hM hF) | (with_reducible refine w_ret ?_) | (with_reducible refine q_then_r ?_) | ((with_reducible apply c_true2 hF); exact rfl; (first | with_reducible rfl | (refine congrArg Value.bool ?_; focus (simp; done)))) | ((with_reducible apply s_skip hF); exact rfl; exact rfl; clear hF a; intro a hF) | ((fail_if_success ((with_reducible refine g_known true hF ?_ ?_); focus exact rfl)); (fail_if_success ((with_reducible refine g_known false hF ?_ ?_); focus exact rfl)); (with_reducible apply g_ndec hF); exact rfl; exact rfl; all_goals (clear hF; intro hc hF); all_goals (try (exfalso; omega))) | ((with_reducible apply c_ndec hF); exact rfl; all_goals intro hc; all_goals (try (exfalso; omega)))))
    all_goals (apply f_ret Try.results9 hF hM; (repeat (first | exact RL.nil | (apply RL.tmp; exact rfl) | (apply RL.cell; exact rfl; (repeat (first | exact List.mem_cons_self | refine List.mem_cons_of_mem _ ?_)); exact rfl))); refine Ret.mk hM.since ?_; dsimp only [resV])
  (repeat' (first | (with_reducible refine w_seq ?_) | (with_reducible refine c_region ?_) | (with_reducible refine s_nil ?_) | ((with_reducible apply s_call (f := 14) hF hM); exact rfl; exact rfl; exact rfl; exact rfl; exact rfl; exact (refFew57_c c a1 a2 c1 c2 l1 m1 l2 m2 _ _ hM.lt (hM.facts (RdF (Value.int .i64) a1 c.A.V) (by (repeat (first | with_reducible exact List.mem_cons_self | refine List.mem_cons_of_mem _ ?_)))) (hM.facts (RdF (Value.int .i64) a2 c.S.V) (by (repeat (first | with_reducible exact List.mem_cons_self | refine List.mem_cons_of_mem _ ?_))))); clear hF hM a; rintro v w a rfl - hM hF) | ((with_reducible apply s_call (f := 33) hF hM); exact rfl; exact rfl; exact rfl; exact rfl; exact rfl; exact (refFewTrace_c t aw ac cw cc lw lc _ _ hM.lt); clear hF hM a; rintro v w a rfl - hM hF) | (with_reducible refine q_then_n ?_) | ((with_reducible apply s_pure hF); exact rfl; exact rfl; exact rfl; (first | exact trivial | omega | exact ⟨Int.natCast_nonneg _, Int.ofNat_lt.2 (by assumption)⟩ | decide); clear hF a; intro a hF) | ((with_reducible apply s_load hF hM); exact rfl; exact rfl; (repeat (first | exact List.mem_cons_self | refine List.mem_cons_of_mem _ ?_)); exact rfl; exact rfl; clear hF a; intro a hF) | ((with_reducible apply s_box hF hM); exact rfl; exact rfl; exact rfl; exact rfl; clear hF hM a; intro b w a hM hF) | (with_reducible refine w_skip ?_) | ((fail_if_success ((with_reducible refine g_known true hF ?_ ?_); focus exact rfl)); (fail_if_success ((with_reducible refine g_known false hF ?_ ?_); focus exact rfl)); (with_reducible apply g_ndec hF); exact rfl; exact rfl; all_goals (clear hF; intro hc hF); all_goals (try (exfalso; omega))) | ((with_reducible apply c_ndec hF); exact rfl; all_goals intro hc; all_goals (try (exfalso; omega)))))
  have e1 := fun {own W} => covers_c c a1 a2 c1 c2 l1 m1 l2 m2 t aw ac cw cc lw mw lc mc own W
  have e2 := fun {own W} => planB_c t aw ac cw cc lw mw lc mc own W
  cases hV : covV c t with
  | true =>
    have hE := covV_0 hV
    obtain ⟨hp1, hp2⟩ := holds hE hV
    rw [hV, hE] at e1
    rw [hp1] at e2
    generalize (P56.plan t).1.bound = q at *
    (((with_reducible apply s_call (f := 34) hF hM); exact rfl; exact rfl; exact rfl; exact rfl; exact rfl; exact (e1 hM.lt (hM.facts (RdF (Value.int .i64) a1 c.A.V) (by (repeat (first | with_reducible exact List.mem_cons_self | refine List.mem_cons_of_mem _ ?_)))) (hM.facts (RdF (Value.int .i64) a2 c.S.V) (by (repeat (first | with_reducible exact List.mem_cons_self | refine List.mem_cons_of_mem _ ?_)))) (hM.facts (RdF (Value.int .i64) aw t.W) (by (repeat (first | with_reducible exact List.mem_cons_self | refine List.mem_cons_of_mem _ ?_)))) (hM.facts (RdF (Value.int .i64) ac t.C) (by (repeat (first | with_reducible exact List.mem_cons_self | refine List.mem_cons_of_mem _ ?_))))); clear hF hM a; rintro v w a rfl - hM hF))
    (repeat' (first | (with_reducible refine w_seq ?_) | (with_reducible refine c_region ?_) | (with_reducible refine s_nil ?_) | (with_reducible refine q_then_n ?_) | ((with_reducible apply s_pure hF); exact rfl; exact rfl; exact rfl; (first | exact trivial | omega | exact ⟨Int.natCast_nonneg _, Int.ofNat_lt.2 (by assumption)⟩ | decide); clear hF a; intro a hF) | ((with_reducible apply s_load hF hM); exact rfl; exact rfl; (repeat (first | exact List.mem_cons_self | refine List.mem_cons_of_mem _ ?_)); exact rfl; exact rfl; clear hF a; intro a hF) | (with_reducible refine w_skip ?_) | ((with_reducible apply c_false2 hF); exact rfl; (first | with_reducible rfl | (refine congrArg Value.bool ?_; focus (simp; done))))))
    (((with_reducible apply s_call (f := 36) hF hM); exact rfl; exact rfl; exact rfl; exact rfl; exact rfl; exact (e2 hM.lt (hM.facts (RdF (Value.int .i64) aw t.W) (by (repeat (first | with_reducible exact List.mem_cons_self | refine List.mem_cons_of_mem _ ?_)))) (hM.facts (RdF (Value.int .i64) ac t.C) (by (repeat (first | with_reducible exact List.mem_cons_self | refine List.mem_cons_of_mem _ ?_))))); clear hF hM a; rintro v w a ⟨y1, y2, y3, y4, n1, n2, n3, n4, d1, d2, d3, d4, rfl⟩ - hM hF; dsimp only at hF))
    (repeat' (first | (with_reducible refine w_seq ?_) | (with_reducible refine c_region ?_) | (with_reducible refine s_nil ?_) | ((with_reducible apply s_call (f := 15) hF hM); exact rfl; exact rfl; exact rfl; exact rfl; exact rfl; exact (awake57_c _ _ hM.lt); clear hF hM a; rintro v w a rfl - hM hF) | (with_reducible refine q_then_n ?_) | ((with_reducible apply s_pure hF); exact rfl; exact rfl; exact rfl; (first | exact trivial | omega | exact ⟨Int.natCast_nonneg _, Int.ofNat_lt.2 (by assumption)⟩ | decide); clear hF a; intro a hF) | ((with_reducible apply s_load hF hM); exact rfl; exact rfl; (repeat (first | exact List.mem_cons_self | refine List.mem_cons_of_mem _ ?_)); exact rfl; exact rfl; clear hF a; intro a hF) | ((with_reducible apply s_store hF hM); exact rfl; exact rfl; exact rfl; exact rfl; (repeat (first | exact Upd.z | apply Upd.s)); exact rfl; exact rfl; exact rfl; clear hM; intro w hM) | ((with_reducible apply s_alloc hF hM); exact rfl; exact rfl; exact rfl; clear hF hM a; intro b w a hM hF) | (with_reducible refine w_ret ?_) | ((fail_if_success ((with_reducible refine g_known true hF ?_ ?_); focus exact rfl)); (fail_if_success ((with_reducible refine g_known false hF ?_ ?_); focus exact rfl)); (with_reducible apply g_dec hF); exact rfl; exact rfl; all_goals (clear hF; intro hc hF); all_goals (try (exfalso; omega)))))
    all_goals first | (exfalso; omega) | (apply f_ret Try.results9 hF hM; (repeat (first | exact RL.nil | (apply RL.tmp; exact rfl) | (apply RL.cell; exact rfl; (repeat (first | exact List.mem_cons_self | refine List.mem_cons_of_mem _ ?_)); exact rfl))); refine Ret.mk hM.since ?_; dsimp only [resV])
  | false =>
    rw [hV] at e1
    generalize covE c t = e at e1
    (((with_reducible apply s_call (f := 34) hF hM); exact rfl; exact rfl; exact rfl; exact rfl; exact rfl; exact (e1 hM.lt (hM.facts (RdF (Value.int .i64) a1 c.A.V) (by (repeat (first | with_reducible exact List.mem_cons_self | refine List.mem_cons_of_mem _ ?_)))) (hM.facts (RdF (Value.int .i64) a2 c.S.V) (by (repeat (first | with_reducible exact List.mem_cons_self | refine List.mem_cons_of_mem _ ?_)))) (hM.facts (RdF (Value.int .i64) aw t.W) (by (repeat (first | with_reducible exact List.mem_cons_self | refine List.mem_cons_of_mem _ ?_)))) (hM.facts (RdF (Value.int .i64) ac t.C) (by (repeat (first | with_reducible exact List.mem_cons_self | refine List.mem_cons_of_mem _ ?_))))); clear hF hM a; rintro v w a rfl - hM hF))
    by_cases he : e = 0
    · (repeat' (first | (with_reducible refine w_seq ?_) | (with_reducible refine c_region ?_) | (with_reducible refine s_nil ?_) | ((with_reducible apply s_call (f := 15) hF hM); exact rfl; exact rfl; exact rfl; exact rfl; exact rfl; exact (awake57_c _ _ hM.lt); clear hF hM a; rintro v w a rfl - hM hF) | (with_reducible refine q_then_n ?_) | ((with_reducible apply s_pure hF); exact rfl; exact rfl; exact rfl; (first | exact trivial | omega | exact ⟨Int.natCast_nonneg _, Int.ofNat_lt.2 (by assumption)⟩ | decide); clear hF a; intro a hF) | (with_reducible refine w_ret ?_) | (with_reducible refine q_then_r ?_) | ((with_reducible apply c_true2 hF); exact rfl; (first | with_reducible rfl | (refine congrArg Value.bool ?_; focus (simp; done)))) | ((with_reducible apply s_skip hF); exact rfl; exact rfl; clear hF a; intro a hF) | ((fail_if_success ((with_reducible refine g_known true hF ?_ ?_); focus exact rfl)); (fail_if_success ((with_reducible refine g_known false hF ?_ ?_); focus exact rfl)); (with_reducible apply g_dec hF); exact rfl; exact rfl; all_goals (clear hF; intro hc hF); all_goals (try (exfalso; omega)))))
      all_goals first | (exfalso; omega) | (apply f_ret Try.results9 hF hM; (repeat (first | exact RL.nil | (apply RL.tmp; exact rfl) | (apply RL.cell; exact rfl; (repeat (first | exact List.mem_cons_self | refine List.mem_cons_of_mem _ ?_)); exact rfl))); refine Ret.mk hM.since ?_; dsimp only [resV])
    · (repeat' (first | (with_reducible refine w_seq ?_) | (with_reducible refine c_region ?_) | (with_reducible refine s_nil ?_) | ((with_reducible apply s_call (f := 15) hF hM); exact rfl; exact rfl; exact rfl; exact rfl; exact rfl; exact (awake57_c _ _ hM.lt); clear hF hM a; rintro v w a rfl - hM hF) | (with_reducible refine q_then_n ?_) | ((with_reducible apply s_pure hF); exact rfl; exact rfl; exact rfl; (first | exact trivial | omega | exact ⟨Int.natCast_nonneg _, Int.ofNat_lt.2 (by assumption)⟩ | decide); clear hF a; intro a hF) | (with_reducible refine w_ret ?_) | (with_reducible refine q_then_r ?_) | ((with_reducible apply c_true2 hF); exact rfl; (first | with_reducible rfl | (refine congrArg Value.bool ?_; focus (simp; done)))) | ((with_reducible apply s_skip hF); exact rfl; exact rfl; clear hF a; intro a hF) | ((fail_if_success ((with_reducible refine g_known true hF ?_ ?_); focus exact rfl)); (fail_if_success ((with_reducible refine g_known false hF ?_ ?_); focus exact rfl)); (with_reducible apply g_dec hF); exact rfl; exact rfl; all_goals (clear hF; intro hc hF); all_goals (try (exfalso; omega)))))
      all_goals first | (exfalso; omega) | (apply f_ret Try.results9 hF hM; (repeat (first | exact RL.nil | (apply RL.tmp; exact rfl) | (apply RL.cell; exact rfl; (repeat (first | exact List.mem_cons_self | refine List.mem_cons_of_mem _ ?_)); exact rfl))); refine Ret.mk hM.since ?_; dsimp only [resV])
end Go.Proofs.Ytabfhoipclbeeaa


/- Plain law of layer 57: the worst trace of a certificate is covered, and its plan has the bound of the certificate. -/
namespace Go.Proofs.Ytabfhoipclbeeaa
namespace K57
open C55
theorem vl_0 {c : Cu} {sub : Bool} (ok : Ok c) (h : addB sub c = true) : vl c 0 = 0 := by
  have h0 := (addB_iff.1 h).1
  have h1 := ok.l0
  unfold vl val
  rw [if_pos (by omega)]
  exact h0
theorem add_all {c : Cu} {sub : Bool} (ok : Ok c) (h : addB sub c = true) (s t : Nat) : hold sub (vl c (s + t)) (vl c s + vl c t) = true := by
  have h0 := vl_0 ok h
  have hl := ok.l0
  have refl : ∀ x : Int, hold sub x x = true := fun x => by unfold hold; split <;> simp
  have small : ∀ s t : Nat, s ≤ c.V.length → t ≤ c.V.length → hold sub (vl c (s + t)) (vl c s + vl c t) = true := by
    intro s t hs ht
    by_cases e1 : s = 0
    · subst e1; rw [h0, Nat.zero_add, Int.zero_add]; exact refl _
    by_cases e2 : t = 0
    · subst e2; rw [h0, Nat.add_zero, Int.add_zero]; exact refl _
    exact (addB_iff.1 h).2 s t (by omega) hs (by omega) ht
  obtain ⟨s', u, hs, hs', hu⟩ : ∃ s' u, s = s' + u ∧ s' ≤ c.V.length ∧ (u = 0 ∨ s' = c.V.length) := by
    by_cases g : s ≤ c.V.length
    · exact ⟨s, 0, rfl, g, .inl rfl⟩
    · exact ⟨c.V.length, s - c.V.length, by omega, Nat.le_refl _, .inr rfl⟩
  obtain ⟨t', v, ht, ht', hv⟩ : ∃ t' v, t = t' + v ∧ t' ≤ c.V.length ∧ (v = 0 ∨ t' = c.V.length) := by
    by_cases g : t ≤ c.V.length
    · exact ⟨t, 0, rfl, g, .inl rfl⟩
    · exact ⟨c.V.length, t - c.V.length, by omega, Nat.le_refl _, .inr rfl⟩
  have key := small s' t' hs' ht'
  have q1 : vl c s = vl c s' + (u : Int) * c.S := by
    rcases hu with g | g
    · subst g; rw [hs]; simp
    · rw [hs]; exact vl_line hl (by omega) u
  have q2 : vl c t = vl c t' + (v : Int) * c.S := by
    rcases hv with g | g
    · subst g; rw [ht]; simp
    · rw [ht]; exact vl_line hl (by omega) v
  have q3 : vl c (s + t) = vl c (s' + t') + ((u + v : Nat) : Int) * c.S := by
    by_cases g : u = 0 ∧ v = 0
    · rw [hs, ht, g.1, g.2]; simp
    · rw [show s + t = s' + t' + (u + v) by omega]
      exact vl_line hl (by omega) (u + v)
  rw [Int.natCast_add, Int.add_mul] at q3
  unfold hold at key ⊢
  cases sub <;> simp only [if_true, if_false, Bool.false_eq_true, decide_eq_true_eq] at key ⊢ <;> omega
theorem gen_1 {c : Cu} (ok : Ok c) (h : genB c = true) (k : Nat) : vl c (k + 1) - vl c k ≤ 4096 := by
  obtain ⟨h1, h2⟩ := genB_iff.1 h
  by_cases g : k + 1 < c.V.length
  · exact h1 k g
  · have := vl_line ok.l0 (k := k) (by omega) 1
    omega
theorem gen_k {c : Cu} (ok : Ok c) (h : genB c = true) (k : Nat) : ∀ j : Nat, vl c (k + j) ≤ vl c k + 4096 * (j : Int)
  | 0 => by simp
  | j + 1 => by
    have h1 := gen_k ok h k j
    have h2 := gen_1 ok h (k + j)
    rw [show k + (j + 1) = k + j + 1 by omega]
    omega
theorem gr_rg {c : Cu} (ok : Ok c) (h : genB c = true) (k : Nat) : 0 ≤ gr c k ∧ gr c k ≤ 4096 := by
  have h1 := gen_1 ok h k
  have h2 := vl_step ok k
  unfold gr
  omega
theorem tab_mem {F : Nat → Int} {n : Nat} {x : Int} (h : x ∈ tab F n) : ∃ k, x = F k := by
  unfold tab at h
  obtain ⟨k, -, rfl⟩ := List.mem_map.1 h
  exact ⟨k, rfl⟩
/-- What has arrived up to a time. -/
theorem up_W {c : Cu} (h0 : vl c 0 = 0) (n : Nat) : ∀ k, up (tab (gr c) n) 0 k = vl c (min k n)
  | 0 => by rw [up_zero, Nat.zero_min, h0]
  | k + 1 => by
    by_cases g : k < n
    · rw [up_step (tab_at g), up_W h0 n k, show min k n = k by omega, show min (k + 1) n = k + 1 by omega]
      unfold gr
      omega
    · rw [up_over (by rw [tab_len]; omega), up_W h0 n k, show min k n = n by omega, show min (k + 1) n = n by omega]
      omega
def wF (S : Cu) (p k : Nat) : Int := 4096 * (min k p : Nat) + vl S (k - p)
theorem up_C {S : Cu} (ok : Ok S) (h0 : vl S 0 = 0) (p : Nat) : ∀ k, up (List.replicate p 4096 ++ tab (gr S) S.V.length) S.S k = wF S p k
  | 0 => by rw [up_zero]; unfold wF; rw [Nat.zero_min, Nat.zero_sub, h0]; simp
  | k + 1 => by
    have ih := up_C ok h0 p k
    by_cases g : k < p
    · have e : (List.replicate p (4096 : Int) ++ tab (gr S) S.V.length)[k]? = some 4096 := by
        rw [List.getElem?_append_left (by rw [List.length_replicate]; exact g), List.getElem?_replicate, if_pos g]
      rw [up_step e, ih]
      unfold wF
      rw [show min k p = k by omega, show min (k + 1) p = k + 1 by omega, show k - p = 0 by omega, show k + 1 - p = 0 by omega]
      omega
    · by_cases g2 : k - p < S.V.length
      · have e : (List.replicate p (4096 : Int) ++ tab (gr S) S.V.length)[k]? = some (gr S (k - p)) := by
          rw [List.getElem?_append_right (by rw [List.length_replicate]; omega), List.length_replicate, tab_at g2]
        rw [up_step e, ih]
        unfold wF gr
        rw [show min k p = p by omega, show min (k + 1) p = p by omega, show k + 1 - p = k - p + 1 by omega]
        omega
      · rw [up_over (by rw [List.length_append, List.length_replicate, tab_len]; omega), ih]
        unfold wF
        have := vl_line ok.l0 (k := k - p) (by omega) 1
        rw [show min k p = p by omega, show min (k + 1) p = p by omega, show k + 1 - p = k - p + 1 by omega]
        omega
theorem last_C {S : Cu} (ok : Ok S) (p : Nat) : P56.last (List.replicate p 4096 ++ tab (gr S) S.V.length) = S.S := by
  have hl := ok.l0
  obtain ⟨m, hm⟩ : ∃ m, S.V.length = m + 1 := ⟨S.V.length - 1, by omega⟩
  unfold P56.last
  rw [hm, tab_succ, ← List.append_assoc, List.getLastD_eq_getLast?, List.getLast?_append]
  simp only [List.getLast?_singleton, Option.some_or, Option.getD_some]
  have := vl_line hl (k := m) (by omega) 1
  unfold gr
  omega
section
variable {c : Ce} {n : Nat} (hb : BOk c) (hn : c.P ≤ n)
include hb
theorem wrs_A (s k : Nat) : win (wrsT c n).W 0 s k ≤ vl c.A k := by
  have h0 := vl_0 hb.A hb.sub
  show win (tab (gr c.A) n) 0 s k ≤ _
  unfold win
  rw [up_W h0, up_W h0]
  have h1 := add_all hb.A hb.sub (min s n) (min (s + k) n - min s n)
  rw [show min s n + (min (s + k) n - min s n) = min (s + k) n by omega] at h1
  have h2 := vl_le hb.A (k := min (s + k) n - min s n) (j := k) (by omega)
  unfold hold at h1
  simp only [if_true, decide_eq_true_eq] at h1
  omega
theorem wrs_S (s k : Nat) : vl c.S k ≤ win (wrsT c n).C (P56.last (wrsT c n).C) s k := by
  have h0 := vl_0 hb.S hb.sup
  have hl : P56.last (wrsT c n).C = c.S.S := last_C hb.S _
  rw [hl]
  show _ ≤ win (List.replicate c.P.toNat 4096 ++ tab (gr c.S) c.S.V.length) c.S.S s k
  unfold win
  rw [up_C hb.S h0, up_C hb.S h0]
  unfold wF
  generalize c.P.toNat = p
  have hadd := fun s t => add_all hb.S hb.sup s t
  simp only [hold, if_false, Bool.false_eq_true, decide_eq_true_eq] at hadd
  by_cases g : p ≤ s
  · have := hadd (s - p) k
    rw [show min (s + k) p = p by omega, show min s p = p by omega, show s + k - p = s - p + k by omega]
    omega
  · by_cases g2 : s + k ≤ p
    · have := gen_k hb.S hb.gS 0 k
      rw [Nat.zero_add] at this
      rw [show min (s + k) p = s + k by omega, show min s p = s by omega, show s + k - p = 0 by omega, show s - p = 0 by omega]
      omega
    · have := gen_k hb.S hb.gS (s + k - p) (p - s)
      rw [show s + k - p + (p - s) = k by omega] at this
      rw [show min (s + k) p = p by omega, show min s p = s by omega, show s - p = 0 by omega]
      omega
theorem wrs_ok (hn2 : n ≤ 4096) (hl : c.P + c.S.V.length ≤ 4096) : P56.Ok (wrsT c n) := by
  have hp := hb.num
  have hl0 := hb.S.l0
  refine ⟨by rw [wrsT_W]; exact hn2, by rw [wrsT_C]; omega, by rw [wrsT_C]; omega, fun x hx => ?_, fun x hx => ?_, hp.1, hp.2.1, hp.2.2.1, hp.2.2.2.2.1, hp.2.2.2.1, hp.2.2.2.2.2⟩
  · obtain ⟨k, rfl⟩ := tab_mem (show x ∈ tab (gr c.A) n from hx)
    exact gr_rg hb.A hb.gA k
  · rcases List.mem_append.1 (show x ∈ List.replicate c.P.toNat 4096 ++ tab (gr c.S) c.S.V.length from hx) with hx | hx
    · rw [List.eq_of_mem_replicate hx]; decide
    · obtain ⟨k, rfl⟩ := tab_mem hx
      exact gr_rg hb.S hb.gS k
end
theorem bdR_mono (t : P56.Tr) : ∀ k d, P56.bdR t k ≤ P56.bdR t (k + d)
  | _, 0 => Int.le_refl _
  | k, d + 1 => by
    have h1 := bdR_mono t k d
    rw [show k + (d + 1) = k + d + 1 by omega, P56.bdR]
    split <;> omega
/-- The worst trace is covered, and its plan has the bound. -/
theorem reached {c : Ce} {n : Int} (h : wrsE c n = 0) : covE c (wrsT c n.toNat) = 0 ∧ covV c (wrsT c n.toNat) = true ∧ (P56.plan (wrsT c n.toNat)).2 = 0 ∧ (P56.plan (wrsT c n.toNat)).1.bound = c.B := by
  obtain ⟨hc, hn, hn2, hl⟩ := wrsE_ok h
  obtain ⟨hb, hB⟩ := chk_bok hc
  have hp := hb.num
  obtain ⟨m, hm⟩ : ∃ m : Nat, n = m := ⟨n.toNat, by omega⟩
  subst hm
  rw [Int.toNat_natCast]
  have okt := wrs_ok (n := m) hb (by omega) hl
  have hE : covE c (wrsT c m) = 0 := by
    unfold covE
    rw [if_neg (by omega)]
    exact P56.check_ok.2 okt
  have hV : covV c (wrsT c m) = true := by
    unfold covV
    rw [Bool.and_eq_true, decide_eq_true_eq]
    refine ⟨⟨hE, rfl, Int.le_refl _, Int.le_refl _, by rw [show P56.last (wrsT c m).C = c.S.S from last_C hb.S _]; exact Int.le_refl _⟩, covAll_iff.2 fun k s _ _ => ?_⟩
    unfold covAt
    rw [Bool.and_eq_true, decide_eq_true_eq, decide_eq_true_eq]
    exact ⟨wrs_A hb s k, wrs_S hb s k⟩
  obtain ⟨hp1, hp2⟩ := holds hE hV
  refine ⟨hE, hV, hp1, ?_⟩
  obtain ⟨d, hd, hd1, hd2⟩ := tr_nat hb
  have hA0 := vl_0 hb.A hb.sub
  have hS0 := vl_0 hb.S hb.sup
  have hP : (wrsT c m).P.toNat = c.P.toNat := rfl
  have hsz : P56.size (wrsT c m) 0 = most c := by
    rw [size_win, hP, Nat.zero_mul]
    show win (tab (gr c.A) m) 0 0 c.P.toNat = _
    unfold win
    rw [up_zero, Nat.zero_add, up_W hA0, show min c.P.toNat m = c.P.toNat by omega]
    unfold most
    omega
  have hcar : ∀ x, P56.carr (wrsT c m).C x = wF c.S c.P.toNat x := by
    intro x
    have hlast : P56.last (wrsT c m).C = c.S.S := last_C hb.S _
    have : P56.carr (wrsT c m).C x = up (wrsT c m).C (P56.last (wrsT c m).C) x := rfl
    rw [this, hlast]
    exact up_C hb.S hS0 _ x
  have hend : P56.IsEnd (wrsT c m).C c.P.toNat (most c) (c.P.toNat + d) := by
    refine ⟨by omega, ?_, fun x h1 h2 => ?_⟩
    · rw [hcar, hcar]
      unfold wF
      rw [Nat.min_self, Nat.sub_self, hS0, show min (c.P.toNat + d) c.P.toNat = c.P.toNat by omega, show c.P.toNat + d - c.P.toNat = d by omega]
      omega
    · have := hd2 (x - c.P.toNat) (by omega)
      rw [hcar, hcar]
      unfold wF
      rw [Nat.min_self, Nat.sub_self, hS0, show min x c.P.toNat = c.P.toNat by omega]
      omega
  have hen : P56.en (wrsT c m) 1 = c.P.toNat + d := by
    have hf := P56.finish_of_isEnd okt.c hend
    unfold P56.en P56.endOf P56.endOf
    rw [Option.bind_some, hP, hsz, show max ((0 + 1) * c.P.toNat) 0 = c.P.toNat by omega, hf]
    rfl
  have hb1 : P56.bdR (wrsT c m) 1 = c.B := by
    have hap : P56.ap (wrsT c m) 0 = (c.P.toNat : Int) + d + c.L + c.D := by
      unfold P56.ap
      rw [hen]
      show ((c.P.toNat + d : Nat) : Int) + c.L + c.D = _
      omega
    have e1 : P56.bdR (wrsT c m) 1 = max 0 (P56.ap (wrsT c m) 0 - 1 - ((0 * (wrsT c m).P.toNat : Nat) : Int)) := by
      rw [P56.bdR, if_pos (.inl rfl)]
      rfl
    rw [e1, hap, Nat.zero_mul]
    unfold bndV at hB
    omega
  have hcy : 1 ≤ P56.cycles (wrsT c m) := by
    unfold P56.cycles
    rw [wrsT_W, hP]
    exact (Nat.le_div_iff_mul_le (by omega)).2 (by omega)
  have hge : c.B ≤ (P56.plan (wrsT c m)).1.bound := by
    have hm := bdR_mono (wrsT c m) 1 (P56.cycles (wrsT c m) - 1)
    rw [show 1 + (P56.cycles (wrsT c m) - 1) = P56.cycles (wrsT c m) by omega, hb1] at hm
    unfold P56.plan P56.planOk at hp1 ⊢
    rw [if_pos (P56.check_ok.2 okt)] at hp1 ⊢
    split at hp1
    · rename_i hs
      rw [if_pos hs]
      show c.B ≤ P56.boundR (wrsT c m)
      rw [P56.boundR_eq _ (by rw [hP]; omega)]
      exact hm
    · exact absurd hp1 (by decide)
  omega
end K57
end Go.Proofs.Ytabfhoipclbeeaa


/- certificate's laws: CertificateReached. -/
namespace Go.Proofs.Ytabfhoipclbeeaa
open Go.RowKit Go.Shelf C55 K57
theorem worst_ok {c : Ce} {n : Int} (h : wrsE c n = 0) (a1 a2 : Option Addr) (c1 c2 : Nat) (l1 : c.A.V.length ≤ 9223372036854775807) (m1 : c.A.V.length ≤ c1) (l2 : c.S.V.length ≤ 9223372036854775807) (m2 : c.S.V.length ≤ c2) (own : Nat → Prop) (W : World) (hl : ∀ b, own b → b < W.heap.size) (hA : Has own W (RdF (Value.int .i64) a1 c.A.V)) (hS : Has own W (RdF (Value.int .i64) a2 c.S.V)) :
    Calls Try.prog 21 ⟨[.agg ⟨ceL c a1 c1 a2 c2⟩, .int .i64 n]⟩ W (Ret W fun v w' => ∃ aw cw ac cc, v = .tuple #[.agg ⟨trL (wrsT c n.toNat) aw cw ac cc⟩, .int .i64 0] ∧ Has own w' (RdF (Value.int .i64) aw (wrsT c n.toNat).W) ∧ Has own w' (RdF (Value.int .i64) ac (wrsT c n.toNat).C) ∧ (wrsT c n.toNat).W.length ≤ cw ∧ (wrsT c n.toNat).C.length ≤ cc) := by
  refine (worst_c c a1 a2 c1 c2 l1 m1 l2 m2 n own W hl hA hS).mono ?_
  rintro e w' ⟨v, rfl, hs, k | k⟩
  · exact absurd h k.1
  · exact ⟨v, rfl, hs, k.2⟩
theorem mk_chk {d c : Ce} (h : bndE d = 0) (hc : c = { d with B := bndV d }) : chkE c = 0 := by
  have e1 : bndE c = bndE d := by subst hc; rfl
  have e2 : bndV c = c.B := by subst hc; rfl
  unfold chkE
  rw [if_neg (by omega), if_pos e2]
theorem mkC {f : FuncId} {args : Array Value} {W : World} {own : Nat → Prop} {d c : Ce} (hb : bndE d = 0) (hc : c = { d with B := bndV d }) (h : Calls Try.prog f args W (Ret W (MkR own d))) : Calls Try.prog f args W (Ret W fun v w' => ∃ a1 c1 a2 c2, v = .tuple #[.agg ⟨ceL c a1 c1 a2 c2⟩, .int .i64 0] ∧ Has own w' (RdF (Value.int .i64) a1 c.A.V) ∧ Has own w' (RdF (Value.int .i64) a2 c.S.V) ∧ c.A.V.length ≤ c1 ∧ c.S.V.length ≤ c2) := by
  subst hc
  exact mkOk hb h
set_option maxRecDepth 20000 in
set_option maxHeartbeats 4000000 in
theorem reached57_law (d : Ce) (x : Int) (hx : 0 ≤ x ∧ x ≤ 255) (a1 a2 : Option Addr) (c1 c2 : Nat) (l1 : d.A.V.length ≤ 9223372036854775807) (m1 : d.A.V.length ≤ c1) (l2 : d.S.V.length ≤ 9223372036854775807) (m2 : d.S.V.length ≤ c2) (W : World)
    (h1 : Has (fun _ => False) W (RdF (Value.int .i64) a1 d.A.V)) (h2 : Has (fun _ => False) W (RdF (Value.int .i64) a2 d.S.V)) :
    Calls Try.prog 10 ⟨[.agg ⟨twoL d.A d.S a1 c1 a2 c2⟩, .agg #[.int .i64 d.P, .int .i64 d.L, .int .i64 d.D], .int .u8 x]⟩ W (Ret W fun x _ => x = .bool true) := by
  have hM := ((Mm.start (fun _ h => h.elim)).known h1).known h2
  refine f_start Try.func10 rfl Try.ntmps10 rfl rfl ?_; intro a hF
  by_cases hbig : d.A.V.length > 20 ∨ d.S.V.length > 20 ∨ d.P > 40
  · (repeat' (first | (with_reducible refine w_seq ?_) | (with_reducible refine c_region ?_) | (with_reducible refine s_nil ?_) | ((with_reducible apply s_call (f := 15) hF hM); exact rfl; exact rfl; exact rfl; exact rfl; exact rfl; exact (awake57_c _ _ hM.lt); clear hF hM a; rintro v w a rfl - hM hF) | (with_reducible refine q_then_n ?_) | ((with_reducible apply s_pure hF); exact rfl; exact rfl; exact rfl; (first | exact trivial | omega | exact ⟨Int.natCast_nonneg _, Int.ofNat_lt.2 (by assumption)⟩ | decide); clear hF a; intro a hF) | ((with_reducible apply s_load hF hM); exact rfl; exact rfl; (repeat (first | exact List.mem_cons_self | refine List.mem_cons_of_mem _ ?_)); exact rfl; exact rfl; clear hF a; intro a hF) | ((with_reducible apply s_box hF hM); exact rfl; exact rfl; exact rfl; exact rfl; clear hF hM a; intro b w a hM hF) | (with_reducible refine w_ret ?_) | (with_reducible refine q_then_r ?_) | ((with_reducible apply c_true2 hF); exact rfl; (first | with_reducible rfl | (refine congrArg Value.bool ?_; focus (simp; done)))) | ((with_reducible apply s_skip hF); exact rfl; exact rfl; clear hF a; intro a hF) | ((fail_if_success ((with_reducible refine g_known true hF ?_ ?_); focus exact rfl)); (fail_if_success ((with_reducible refine g_known false hF ?_ ?_); focus exact rfl)); (with_reducible apply g_dec hF); exact rfl; exact rfl; all_goals (clear hF; intro hc hF); all_goals (try (exfalso; omega))) | ((with_reducible apply c_dec hF); exact rfl; all_goals intro hc; all_goals (try (exfalso; omega)))))
    all_goals first | (exfalso; omega) | (apply f_ret Try.results10 hF hM; (repeat (first | exact RL.nil | (apply RL.tmp; exact rfl) | (apply RL.cell; exact rfl; (repeat (first | exact List.mem_cons_self | refine List.mem_cons_of_mem _ ?_)); exact rfl))); refine Ret.mk hM.since ?_; dsimp only [resV])
  (repeat' (first | (with_reducible refine w_seq ?_) | (with_reducible refine c_region ?_) | (with_reducible refine s_nil ?_) | (with_reducible refine q_then_n ?_) | ((with_reducible apply s_pure hF); exact rfl; exact rfl; exact rfl; (first | exact trivial | omega | exact ⟨Int.natCast_nonneg _, Int.ofNat_lt.2 (by assumption)⟩ | decide); clear hF a; intro a hF) | ((with_reducible apply s_load hF hM); exact rfl; exact rfl; (repeat (first | exact List.mem_cons_self | refine List.mem_cons_of_mem _ ?_)); exact rfl; exact rfl; clear hF a; intro a hF) | ((with_reducible apply s_box hF hM); exact rfl; exact rfl; exact rfl; exact rfl; clear hF hM a; intro b w a hM hF) | (with_reducible refine w_skip ?_) | ((fail_if_success ((with_reducible refine g_known true hF ?_ ?_); focus exact rfl)); (fail_if_success ((with_reducible refine g_known false hF ?_ ?_); focus exact rfl)); (with_reducible apply g_dec hF); exact rfl; exact rfl; all_goals (clear hF; intro hc hF); all_goals (try (exfalso; omega))) | ((with_reducible apply c_dec hF); exact rfl; all_goals intro hc; all_goals (try (exfalso; omega)))))
  by_cases hb : bndE d = 0
  case neg =>
    (((with_reducible apply s_call (f := 16) hF hM); exact rfl; exact rfl; exact rfl; exact rfl; exact rfl; exact (mkErr hb (make_c d (by omega) (by omega) _ _ _ _ hM.lt (isCu_mk (hM.facts (RdF (Value.int .i64) a1 d.A.V) (by (repeat (first | with_reducible exact List.mem_cons_self | refine List.mem_cons_of_mem _ ?_)))) l1 m1) (isCu_mk (hM.facts (RdF (Value.int .i64) a2 d.S.V) (by (repeat (first | with_reducible exact List.mem_cons_self | refine List.mem_cons_of_mem _ ?_)))) l2 m2))); clear hF hM a; rintro v w a rfl - hM hF))
    (repeat' (first | (with_reducible refine w_seq ?_) | (with_reducible refine c_region ?_) | (with_reducible refine s_nil ?_) | ((with_reducible apply s_call (f := 15) hF hM); exact rfl; exact rfl; exact rfl; exact rfl; exact rfl; exact (awake57_c _ _ hM.lt); clear hF hM a; rintro v w a rfl - hM hF) | (with_reducible refine q_then_n ?_) | ((with_reducible apply s_pure hF); exact rfl; exact rfl; exact rfl; (first | exact trivial | omega | exact ⟨Int.natCast_nonneg _, Int.ofNat_lt.2 (by assumption)⟩ | decide); clear hF a; intro a hF) | ((with_reducible apply s_store hF hM); exact rfl; exact rfl; exact rfl; exact rfl; (repeat (first | exact Upd.z | apply Upd.s)); exact rfl; exact rfl; exact rfl; clear hM; intro w hM) | ((with_reducible apply s_alloc hF hM); exact rfl; exact rfl; exact rfl; clear hF hM a; intro b w a hM hF) | (with_reducible refine w_ret ?_) | (with_reducible refine q_then_r ?_) | ((with_reducible apply c_dec hF); exact rfl; all_goals intro hc; all_goals (try (exfalso; omega)))))
    all_goals first | (exfalso; omega) | (apply f_ret Try.results10 hF hM; (repeat (first | exact RL.nil | (apply RL.tmp; exact rfl) | (apply RL.cell; exact rfl; (repeat (first | exact List.mem_cons_self | refine List.mem_cons_of_mem _ ?_)); exact rfl))); refine Ret.mk hM.since ?_; dsimp only [resV])
  obtain ⟨c, hc⟩ : ∃ c : Ce, c = { d with B := bndV d } := ⟨_, rfl⟩
  have hck := mk_chk hb hc
  have hbd := (chk_bok hck).1.num
  obtain ⟨m, hm⟩ : ∃ m : Nat, x % 20 = m := ⟨(x % 20).toNat, by omega⟩
  have hm20 : m < 20 := by omega
  have e1 := fun {own W} hl hv hu => mkC (own := own) (W := W) hb hc (make_c d (by omega) (by omega) (.agg #[.slice a1 d.A.V.length c1, .int .i64 d.A.S]) (.agg #[.slice a2 d.S.V.length c2, .int .i64 d.S.S]) own W hl hv hu)
  have eA : c.A.V.length = d.A.V.length := by rw [hc]
  have eS : c.S.V.length = d.S.V.length := by rw [hc]
  have eP : c.P = d.P := by rw [hc]
  clear hc
  have hw : wrsE c (c.P + m) = 0 := by
    unfold wrsE
    rw [if_neg (by omega), if_neg (by omega), if_neg (by omega)]
  obtain ⟨q1, q2, q3, q4⟩ := reached hw
  have q5 := wrsT_W c (c.P + m).toNat
  have q6 := wrsT_C c (c.P + m).toNat
  have e2 := fun (p1 p2 : Option Addr) (r1 r2 : Nat) (k1 : c.A.V.length ≤ r1) (k2 : c.S.V.length ≤ r2) {own W} => worst_ok hw p1 p2 r1 r2 (by omega) k1 (by omega) k2 own W
  obtain ⟨T, hT⟩ : ∃ T, wrsT c (c.P + m).toNat = T := ⟨_, rfl⟩
  rw [hT] at q1 q2 q3 q4 q5 q6
  simp only [hT] at e2
  (((with_reducible apply s_call (f := 16) hF hM); exact rfl; exact rfl; exact rfl; exact rfl; exact rfl; exact (e1 hM.lt (isCu_mk (hM.facts (RdF (Value.int .i64) a1 d.A.V) (by (repeat (first | with_reducible exact List.mem_cons_self | refine List.mem_cons_of_mem _ ?_)))) l1 m1) (isCu_mk (hM.facts (RdF (Value.int .i64) a2 d.S.V) (by (repeat (first | with_reducible exact List.mem_cons_self | refine List.mem_cons_of_mem _ ?_)))) l2 m2)); clear hF hM a; rintro v w a ⟨p1, r1, p2, r2, rfl, f1, f2, k1, k2⟩ - hM hF; replace hM := (hM.addFact f1).addFact f2))
  (repeat' (first | (with_reducible refine w_seq ?_) | (with_reducible refine c_region ?_) | (with_reducible refine s_nil ?_) | (with_reducible refine q_then_n ?_) | ((with_reducible apply s_pure hF); exact rfl; exact rfl; exact rfl; (first | exact trivial | omega | exact ⟨Int.natCast_nonneg _, Int.ofNat_lt.2 (by assumption)⟩ | decide); clear hF a; intro a hF) | ((with_reducible apply s_load hF hM); exact rfl; exact rfl; (repeat (first | exact List.mem_cons_self | refine List.mem_cons_of_mem _ ?_)); exact rfl; exact rfl; clear hF a; intro a hF) | ((with_reducible apply s_store hF hM); exact rfl; exact rfl; exact rfl; exact rfl; (repeat (first | exact Upd.z | apply Upd.s)); exact rfl; exact rfl; exact rfl; clear hM; intro w hM) | ((with_reducible apply s_alloc hF hM); exact rfl; exact rfl; exact rfl; clear hF hM a; intro b w a hM hF) | (with_reducible refine w_skip ?_) | ((with_reducible apply c_false2 hF); exact rfl; (first | with_reducible rfl | (refine congrArg Value.bool ?_; focus (simp; done))))))
  rw [hm] at hF
  (((with_reducible apply s_call (f := 21) hF hM); exact rfl; exact rfl; exact rfl; exact rfl; exact rfl; exact (e2 p1 p2 r1 r2 k1 k2 hM.lt (hM.facts (RdF (Value.int .i64) p1 c.A.V) (by (repeat (first | with_reducible exact List.mem_cons_self | refine List.mem_cons_of_mem _ ?_)))) (hM.facts (RdF (Value.int .i64) p2 c.S.V) (by (repeat (first | with_reducible exact List.mem_cons_self | refine List.mem_cons_of_mem _ ?_))))); clear hF hM a; rintro v w a ⟨pw, cw, pc, cc, rfl, f3, f4, k3, k4⟩ - hM hF; replace hM := (hM.addFact f3).addFact f4))
  (repeat (first | (with_reducible refine w_seq ?_) | (with_reducible refine c_region ?_) | (with_reducible refine s_nil ?_) | (with_reducible refine q_then_n ?_) | ((with_reducible apply s_pure hF); exact rfl; exact rfl; exact rfl; (first | exact trivial | omega | exact ⟨Int.natCast_nonneg _, Int.ofNat_lt.2 (by assumption)⟩ | decide); clear hF a; intro a hF) | ((with_reducible apply s_load hF hM); exact rfl; exact rfl; (repeat (first | exact List.mem_cons_self | refine List.mem_cons_of_mem _ ?_)); exact rfl; exact rfl; clear hF a; intro a hF) | ((with_reducible apply s_store hF hM); exact rfl; exact rfl; exact rfl; exact rfl; (repeat (first | exact Upd.z | apply Upd.s)); exact rfl; exact rfl; exact rfl; clear hM; intro w hM) | ((with_reducible apply s_alloc hF hM); exact rfl; exact rfl; exact rfl; clear hF hM a; intro b w a hM hF)))
  generalize b = bT at *
  (repeat' (first | (with_reducible refine w_seq ?_) | (with_reducible refine c_region ?_) | (with_reducible refine q_then_n ?_) | ((with_reducible apply s_load hF hM); exact rfl; exact rfl; (repeat (first | exact List.mem_cons_self | refine List.mem_cons_of_mem _ ?_)); exact rfl; exact rfl; clear hF a; intro a hF) | (with_reducible refine w_skip ?_) | ((with_reducible apply c_dec hF); exact rfl; all_goals intro hc; all_goals (try (exfalso; omega)))))
  have e3 := fun {own W} => covers_c c p1 p2 r1 r2 (by omega) k1 (by omega) k2 T pw pc cw cc (by omega) k3 (by omega) k4 own W
  have e4 := fun {own W} => planB_c T pw pc cw cc (by omega) k3 (by omega) k4 own W
  rw [q1, q2] at e3
  rw [q3, q4] at e4
  (((with_reducible apply s_call (f := 34) hF hM); exact rfl; exact rfl; exact rfl; exact rfl; exact rfl; exact (e3 hM.lt (hM.facts (RdF (Value.int .i64) p1 c.A.V) (by (repeat (first | with_reducible exact List.mem_cons_self | refine List.mem_cons_of_mem _ ?_)))) (hM.facts (RdF (Value.int .i64) p2 c.S.V) (by (repeat (first | with_reducible exact List.mem_cons_self | refine List.mem_cons_of_mem _ ?_)))) (hM.facts (RdF (Value.int .i64) pw T.W) (by (repeat (first | with_reducible exact List.mem_cons_self | refine List.mem_cons_of_mem _ ?_)))) (hM.facts (RdF (Value.int .i64) pc T.C) (by (repeat (first | with_reducible exact List.mem_cons_self | refine List.mem_cons_of_mem _ ?_))))); clear hF hM a; rintro v w a rfl - hM hF))
  (repeat' (first | (with_reducible refine w_seq ?_) | (with_reducible refine c_region ?_) | (with_reducible refine s_nil ?_) | (with_reducible refine q_then_n ?_) | ((with_reducible apply s_pure hF); exact rfl; exact rfl; exact rfl; (first | exact trivial | omega | exact ⟨Int.natCast_nonneg _, Int.ofNat_lt.2 (by assumption)⟩ | decide); clear hF a; intro a hF) | ((with_reducible apply s_load hF hM); exact rfl; exact rfl; (repeat (first | exact List.mem_cons_self | refine List.mem_cons_of_mem _ ?_)); exact rfl; exact rfl; clear hF a; intro a hF)))
  (((with_reducible apply s_call (f := 36) hF hM); exact rfl; exact rfl; exact rfl; exact rfl; exact rfl; exact (e4 hM.lt (hM.facts (RdF (Value.int .i64) pw T.W) (by (repeat (first | with_reducible exact List.mem_cons_self | refine List.mem_cons_of_mem _ ?_)))) (hM.facts (RdF (Value.int .i64) pc T.C) (by (repeat (first | with_reducible exact List.mem_cons_self | refine List.mem_cons_of_mem _ ?_))))); clear hF hM a; rintro v w a ⟨y1, y2, y3, y4, n1, n2, n3, n4, d1, d2, d3, d4, rfl⟩ - hM hF; dsimp only at hF))
  (repeat' (first | (with_reducible refine w_seq ?_) | (with_reducible refine c_region ?_) | (with_reducible refine s_nil ?_) | ((with_reducible apply s_call (f := 15) hF hM); exact rfl; exact rfl; exact rfl; exact rfl; exact rfl; exact (awake57_c _ _ hM.lt); clear hF hM a; rintro v w a rfl - hM hF) | (with_reducible refine q_then_n ?_) | ((with_reducible apply s_pure hF); exact rfl; exact rfl; exact rfl; (first | exact trivial | omega | exact ⟨Int.natCast_nonneg _, Int.ofNat_lt.2 (by assumption)⟩ | decide); clear hF a; intro a hF) | ((with_reducible apply s_load hF hM); exact rfl; exact rfl; (repeat (first | exact List.mem_cons_self | refine List.mem_cons_of_mem _ ?_)); exact rfl; exact rfl; clear hF a; intro a hF) | ((with_reducible apply s_store hF hM); exact rfl; exact rfl; exact rfl; exact rfl; (repeat (first | exact Upd.z | apply Upd.s)); exact rfl; exact rfl; exact rfl; clear hM; intro w hM) | ((with_reducible apply s_alloc hF hM); exact rfl; exact rfl; exact rfl; clear hF hM a; intro b w a hM hF) | (with_reducible refine w_ret ?_) | ((fail_if_success ((with_reducible refine g_known true hF ?_ ?_); focus exact rfl)); (fail_if_success ((with_reducible refine g_known false hF ?_ ?_); focus exact rfl)); (with_reducible apply g_dec hF); exact rfl; exact rfl; all_goals (clear hF; intro hc hF); all_goals (try (exfalso; omega)))))
  all_goals first | (exfalso; omega) | (apply f_ret Try.results10 hF hM; (repeat (first | exact RL.nil | (apply RL.tmp; exact rfl) | (apply RL.cell; exact rfl; (repeat (first | exact List.mem_cons_self | refine List.mem_cons_of_mem _ ?_)); exact rfl))); refine Ret.mk hM.since ?_; dsimp only [resV])
end Go.Proofs.Ytabfhoipclbeeaa


/- Plain law of layer 57: more arrivals and less service never make the bound less. -/
namespace Go.Proofs.Ytabfhoipclbeeaa
namespace K57
open C55
theorem orders {c d : Ce} (hd : BOk d) (okS : Ok c.S) (hA : ∀ k, vl c.A k ≤ vl d.A k) (hS : ∀ k, vl d.S k ≤ vl c.S k) (hP : c.P = d.P) (hc : bndE c = 0 ∨ bndE c = 21) : bndE c = 0 ∧ tr c ≤ tr d := by
  obtain ⟨e, he, he1, -⟩ := tr_nat hd
  have hm : most c ≤ most d := by
    unfold most
    rw [hP]
    exact hA _
  have hS' := hS e
  have hz : c.S.S = 0 → fpos c.S.V (most c) < c.S.V.length := fun h0 => fpos_of_le okS (by
    have := val_flat okS h0 e
    omega)
  obtain ⟨r, h1, h2, h3⟩ := rch_nat okS hz
  have hre : r ≤ e := by
    apply Classical.byContradiction
    intro hn
    have := h3 e (by omega)
    omega
  have htr : tr c = r := h1
  have hdP := hd.tr
  refine ⟨?_, by omega⟩
  rcases hc with hc | hc
  · exact hc
  · exfalso
    have hl : late c = false := by
      unfold late never
      rw [Bool.or_eq_false_iff]
      refine ⟨?_, decide_eq_false (by omega)⟩
      rw [Bool.and_eq_false_iff]
      by_cases h0 : c.S.S = 0
      · exact .inl (decide_eq_false (by have := hz h0; omega))
      · exact .inr (decide_eq_false h0)
    unfold bndE at hc
    rw [hl] at hc
    have cA : check c.A ≠ 21 := by unfold check; repeat' split <;> try omega
    have cS : check c.S ≠ 21 := by unfold check; repeat' split <;> try omega
    split at hc
    · omega
    · split at hc
      · omega
      · split at hc
        · omega
        · split at hc
          · omega
          · simp at hc
end K57
end Go.Proofs.Ytabfhoipclbeeaa


/- certificate's law: below, and the curves with many values. -/
namespace Go.Proofs.Ytabfhoipclbeeaa
open Go.RowKit Go.Shelf C55 K57
/-- Whether a curve is nowhere greater than another one, for so many times. -/
def blwN (A B : Cu) : Nat → Bool
  | 0 => true
  | k + 1 => blwN A B k && decide (vl A k ≤ vl B k)
def blw (A B : Cu) : Bool := blwN A B (max A.V.length B.V.length) && decide (A.S ≤ B.S)
theorem blwN_iff {A B : Cu} : ∀ {n : Nat}, blwN A B n = true ↔ ∀ k, k < n → vl A k ≤ vl B k
  | 0 => by simp [blwN]
  | n + 1 => by
    rw [blwN, Bool.and_eq_true, decide_eq_true_eq, blwN_iff]
    refine ⟨fun h k hk => ?_, fun h => ⟨fun k hk => h k (by omega), h n (by omega)⟩⟩
    by_cases e : k = n
    · rw [e]; exact h.2
    · exact h.1 k (by omega)
theorem blw_all {A B : Cu} (ha : Ok A) (hb : Ok B) (h : blw A B = true) (k : Nat) : vl A k ≤ vl B k := by
  unfold blw at h
  rw [Bool.and_eq_true, decide_eq_true_eq, blwN_iff] at h
  have h1 := ha.l0
  have h2 := hb.l0
  by_cases g : k < max A.V.length B.V.length
  · exact h.1 k g
  · have q0 := h.1 (max A.V.length B.V.length - 1) (by omega)
    have q1 := vl_line ha.l0 (k := max A.V.length B.V.length - 1) (by omega) (k - (max A.V.length B.V.length - 1))
    have q2 := vl_line hb.l0 (k := max A.V.length B.V.length - 1) (by omega) (k - (max A.V.length B.V.length - 1))
    rw [show max A.V.length B.V.length - 1 + (k - (max A.V.length B.V.length - 1)) = k by omega] at q1 q2
    have q3 := Int.mul_le_mul_of_nonneg_left h.2 (show (0 : Int) ≤ ((k - (max A.V.length B.V.length - 1) : Nat) : Int) by omega)
    omega
set_option maxHeartbeats 1000000 in
theorem below_c (A B : Cu) (ha : Ok A) (hb : Ok B) (a1 a2 : Option Addr) (c1 c2 : Nat) (m1 : A.V.length ≤ c1) (m2 : B.V.length ≤ c2) (own : Nat → Prop) (W : World) (hl : ∀ b, own b → b < W.heap.size) (h1 : Has own W (RdF (Value.int .i64) a1 A.V)) (h2 : Has own W (RdF (Value.int .i64) a2 B.V)) :
    Calls Try.prog 27 ⟨[.agg #[.slice a1 A.V.length c1, .int .i64 A.S], .agg #[.slice a2 B.V.length c2, .int .i64 B.S]]⟩ W (Ret W fun v _ => v = .bool (blw A B)) := by
  have hM := ((Mm.start hl).known h1).known h2
  have l1 := ha.l1
  have l2 := hb.l1
  refine f_start Try.func27 rfl Try.ntmps27 rfl rfl ?_; intro a hF
  (repeat (first | (with_reducible refine w_seq ?_) | (with_reducible refine c_region ?_) | (with_reducible refine s_nil ?_) | (with_reducible refine q_then_n ?_) | ((with_reducible apply s_pure hF); exact rfl; exact rfl; exact rfl; (first | exact trivial | omega | exact ⟨Int.natCast_nonneg _, Int.ofNat_lt.2 (by assumption)⟩ | decide); clear hF a; intro a hF) | ((with_reducible apply s_load hF hM); exact rfl; exact rfl; (repeat (first | exact List.mem_cons_self | refine List.mem_cons_of_mem _ ?_)); exact rfl; exact rfl; clear hF a; intro a hF) | ((with_reducible apply s_box hF hM); exact rfl; exact rfl; exact rfl; exact rfl; clear hF hM a; intro b w a hM hF) | (with_reducible refine w_block ?_)))
  rename_i bA _
  generalize b = bB at *
  obtain ⟨N, hN⟩ : ∃ N : Nat, max A.V.length B.V.length = N := ⟨_, rfl⟩
  rw [show max (A.V.length : Int) (B.V.length : Int) = (N : Int) by omega] at hF
  have e1 := fun {own W} (k : Nat) => refAt_c A k (.agg #[.slice a1 A.V.length c1, .int .i64 A.S]) own W
  have e2 := fun {own W} (k : Nat) => refAt_c B k (.agg #[.slice a2 B.V.length c2, .int .i64 B.S]) own W
  refine c_loop (m := N) (fun m a w' => ∃ k : Nat, m + k = N ∧ blwN A B k = true ∧ Fr _ [] [(13, .int .i64 k), (12, .int .i64 N), (3, .pointer (some ⟨bB, 0, none⟩)), (2, .pointer (some ⟨bA, 0, none⟩))] a ∧
    Mm own W [⟨bB, ⟨[.slice a2 B.V.length c2, .int .i64 B.S]⟩, 24⟩, ⟨bA, ⟨[.slice a1 A.V.length c1, .int .i64 A.S]⟩, 24⟩] [] [RdF (Value.int .i64) a2 B.V, RdF (Value.int .i64) a1 A.V] w') ⟨0, by omega, rfl, hF.sub (by repeat (first | exact Sub.nil | refine Sub.cons rfl (by first | with_reducible rfl | (refine congrArg (Value.int _) ?_; omega) | exact rfl) ?_)), hM⟩ ?_
  clear hF hM a
  rintro m a w' ⟨k, hk, hbl, hF, hM⟩
  by_cases hlt : k < N
  · have f1 := at_vl ha (k := k) (by omega)
    have f2 := at_vl hb (k := k) (by omega)
    have g1 := fun {own W} => e1 (own := own) (W := W) k
    have g2 := fun {own W} => e2 (own := own) (W := W) k
    rw [f1] at g1
    rw [f2] at g2
    have hst : blwN A B (k + 1) = (blwN A B k && decide (vl A k ≤ vl B k)) := rfl
    obtain ⟨x, hx⟩ : ∃ x, vl A k = x := ⟨_, rfl⟩
    obtain ⟨y, hy⟩ : ∃ y, vl B k = y := ⟨_, rfl⟩
    have hlow : x ≤ y ∨ blw A B = false := by
      by_cases g : x ≤ y
      · exact .inl g
      · refine .inr ?_
        cases hb2 : blw A B with
        | false => rfl
        | true =>
          unfold blw at hb2
          rw [Bool.and_eq_true, blwN_iff] at hb2
          have := hb2.1 k (by omega)
          omega
    rw [hx] at g1 hst
    rw [hy] at g2 hst
    clear e1 e2 f1 f2
    (repeat' (first | (with_reducible refine w_seq ?_) | (with_reducible refine c_region ?_) | (with_reducible refine s_nil ?_) | (with_reducible refine q_then_n ?_) | ((with_reducible apply s_pure hF); exact rfl; exact rfl; exact rfl; (first | exact trivial | omega | exact ⟨Int.natCast_nonneg _, Int.ofNat_lt.2 (by assumption)⟩ | decide); clear hF a; intro a hF) | (with_reducible refine w_skip ?_) | (with_reducible refine w_block ?_) | ((with_reducible apply c_dec hF); exact rfl; all_goals intro hc; all_goals (try (exfalso; omega)))))
    refine c_draw (fun i => Nat.ble 7 i) hM ?_; clear hM; intro w hM
    (first | (apply t_load (i := 0) hF rfl rfl rfl; (repeat (first | exact List.mem_cons_self | refine List.mem_cons_of_mem _ ?_)); exact rfl; exact rfl; kernel_rfl; exact hM.sm; exact (fun _ _ _ h => h); clear hF a; intro a hF))
    (first | (refine t_pure (i := 1) hF rfl rfl rfl rfl (by kernel_rfl) hM.sm (fun _ _ _ h => h) ?_ ?_; (first | exact trivial | omega | decide); clear hF a; intro a hF))
    (first | (apply t_load (i := 3) hF rfl rfl rfl; (repeat (first | exact List.mem_cons_self | refine List.mem_cons_of_mem _ ?_)); exact rfl; exact rfl; kernel_rfl; exact hM.sm; exact (fun _ _ _ h => h); clear hF a; intro a hF))
    (first | (refine t_pure (i := 4) hF rfl rfl rfl rfl (by kernel_rfl) hM.sm (fun _ _ _ h => h) ?_ ?_; (first | exact trivial | omega | decide); clear hF a; intro a hF))
    refine t_one (i := 2) hF rfl (by kernel_rfl) rfl ?_
    intro K hK
    (apply x_call hF hM; exact rfl; exact rfl; exact rfl; exact rfl; exact (g1 hM.lt (isCu_mk (hM.facts (RdF (Value.int .i64) a1 A.V) (by (repeat (first | with_reducible exact List.mem_cons_self | refine List.mem_cons_of_mem _ ?_)))) (by omega) m1)); clear hF hM a; rintro v w a rfl - hM hF)
    refine hK _ _ (fun _ => hM.sm) ?_; clear hK
    refine t_one (i := 5) hF rfl (by kernel_rfl) rfl ?_
    intro K hK
    (apply x_call hF hM; exact rfl; exact rfl; exact rfl; exact rfl; exact (g2 hM.lt (isCu_mk (hM.facts (RdF (Value.int .i64) a2 B.V) (by (repeat (first | with_reducible exact List.mem_cons_self | refine List.mem_cons_of_mem _ ?_)))) (by omega) m2)); clear hF hM a; rintro v w a rfl - hM hF)
    refine hK _ _ (fun _ => hM.sm) ?_; clear hK
    (first | (refine t_pure (i := 6) hF rfl rfl rfl rfl (by kernel_rfl) hM.sm (fun _ _ _ h => h) ?_ ?_; (first | exact trivial | omega | decide); clear hF a; intro a hF))
    refine t_done (by kernel_rfl) ?_
    by_cases hxy : y < x
    · have hf : blw A B = false := by rcases hlow with g | g; (exfalso; omega); exact g
      rw [hf]
      (repeat' (first | (with_reducible refine w_seq ?_) | (with_reducible refine c_region ?_) | (with_reducible refine s_nil ?_) | (with_reducible refine q_then_n ?_) | ((with_reducible apply s_pure hF); exact rfl; exact rfl; exact rfl; (first | exact trivial | omega | exact ⟨Int.natCast_nonneg _, Int.ofNat_lt.2 (by assumption)⟩ | decide); clear hF a; intro a hF) | (with_reducible refine w_ret ?_) | (with_reducible refine q_then_r ?_) | (with_reducible refine q_blk_r ?_) | ((with_reducible apply c_dec hF); exact rfl; all_goals intro hc; all_goals (try (exfalso; omega)))))
      (apply f_ret Try.results27 hF hM; (repeat (first | exact RL.nil | (apply RL.tmp; exact rfl) | (apply RL.cell; exact rfl; (repeat (first | exact List.mem_cons_self | refine List.mem_cons_of_mem _ ?_)); exact rfl))); refine Ret.mk hM.since ?_; dsimp only [resV])
    · (repeat' (first | (with_reducible refine c_region ?_) | (with_reducible refine s_nil ?_) | (with_reducible refine q_then_n ?_) | ((with_reducible apply s_pure hF); exact rfl; exact rfl; exact rfl; (first | exact trivial | omega | exact ⟨Int.natCast_nonneg _, Int.ofNat_lt.2 (by assumption)⟩ | decide); clear hF a; intro a hF) | (with_reducible refine w_skip ?_) | (with_reducible refine q_blk_n ?_) | ((with_reducible apply c_dec hF); exact rfl; all_goals intro hc; all_goals (try (exfalso; omega)))))
      exact ⟨m - 1, by omega, k + 1, by omega, by rw [hst, hbl, Bool.true_and]; exact decide_eq_true (by omega), hF.sub (by repeat (first | exact Sub.nil | refine Sub.cons rfl (by first | with_reducible rfl | (refine congrArg (Value.int _) ?_; omega) | exact rfl) ?_)), hM⟩
  · obtain rfl : k = N := by omega
    have hf : blw A B = decide (A.S ≤ B.S) := by unfold blw; rw [hN, hbl, Bool.true_and]
    rw [hf]
    clear e1 e2
    (repeat' (first | (with_reducible refine w_seq ?_) | (with_reducible refine c_region ?_) | (with_reducible refine s_nil ?_) | (with_reducible refine q_then_n ?_) | ((with_reducible apply s_pure hF); exact rfl; exact rfl; exact rfl; (first | exact trivial | omega | exact ⟨Int.natCast_nonneg _, Int.ofNat_lt.2 (by assumption)⟩ | decide); clear hF a; intro a hF) | ((with_reducible apply s_load hF hM); exact rfl; exact rfl; (repeat (first | exact List.mem_cons_self | refine List.mem_cons_of_mem _ ?_)); exact rfl; exact rfl; clear hF a; intro a hF) | (with_reducible refine w_exit ?_) | (with_reducible refine w_ret ?_) | (with_reducible refine q_then_x ?_) | (with_reducible refine q_blk_x ?_) | ((with_reducible apply c_false2 hF); exact rfl; (first | with_reducible rfl | (refine congrArg Value.bool ?_; focus (simp; done))))))
    (apply f_ret Try.results27 hF hM; (repeat (first | exact RL.nil | (apply RL.tmp; exact rfl) | (apply RL.cell; exact rfl; (repeat (first | exact List.mem_cons_self | refine List.mem_cons_of_mem _ ?_)); exact rfl))); refine Ret.mk hM.since ?_; dsimp only [resV])
end Go.Proofs.Ytabfhoipclbeeaa


/- certificate's law: whether one of four curves has many values. -/
namespace Go.Proofs.Ytabfhoipclbeeaa
open Go.RowKit Go.Shelf C55 K57
theorem many1_c (V : List Int) (S : Int) (a : Option Addr) (c : Nat) (own : Nat → Prop) (W : World) (hl : ∀ b, own b → b < W.heap.size) : Calls Try.prog 25 ⟨[.agg #[.slice a V.length c, .int .i64 S]]⟩ W (Ret W fun v _ => v = .bool (decide (20 < V.length))) := by
  have hM := Mm.start hl
  refine f_start Try.func25 rfl Try.ntmps25 rfl rfl ?_; intro a hF
  (repeat' (first | (with_reducible refine w_seq ?_) | (with_reducible refine c_region ?_) | (with_reducible refine s_nil ?_) | (with_reducible refine q_then_n ?_) | ((with_reducible apply s_pure hF); exact rfl; exact rfl; exact rfl; (first | exact trivial | omega | exact ⟨Int.natCast_nonneg _, Int.ofNat_lt.2 (by assumption)⟩ | decide); clear hF a; intro a hF) | ((with_reducible apply s_load hF hM); exact rfl; exact rfl; (repeat (first | exact List.mem_cons_self | refine List.mem_cons_of_mem _ ?_)); exact rfl; exact rfl; clear hF a; intro a hF) | ((with_reducible apply s_box hF hM); exact rfl; exact rfl; exact rfl; exact rfl; clear hF hM a; intro b w a hM hF) | (with_reducible refine w_ret ?_)))
  all_goals (apply f_ret Try.results25 hF hM; (repeat (first | exact RL.nil | (apply RL.tmp; exact rfl) | (apply RL.cell; exact rfl; (repeat (first | exact List.mem_cons_self | refine List.mem_cons_of_mem _ ?_)); exact rfl))); refine Ret.mk hM.since ?_; dsimp only [resV])
  all_goals (congr 1; rw [decide_eq_decide]; omega)
abbrev fourL (A B C D : Cu) (a1 : Option Addr) (c1 : Nat) (a2 : Option Addr) (c2 : Nat) (a3 : Option Addr) (c3 : Nat) (a4 : Option Addr) (c4 : Nat) : List Value := [.slice a1 A.V.length c1, .int .i64 A.S, .slice a2 B.V.length c2, .int .i64 B.S, .slice a3 C.V.length c3, .int .i64 C.S, .slice a4 D.V.length c4, .int .i64 D.S]
set_option maxHeartbeats 1000000 in
theorem manyI_c (A B C D : Cu) (a1 a2 a3 a4 : Option Addr) (c1 c2 c3 c4 bx : Nat) (T : TypeId) (own : Nat → Prop) (W : World) (hl : ∀ b, own b → b < W.heap.size) (hv : Has own W (BxF bx (fourL A B C D a1 c1 a2 c2 a3 c3 a4 c4) T)) :
    Calls Try.prog 62 ⟨[.slice (some ⟨bx, 0, none⟩) 4 4, .func (.func 25) #[] #[]]⟩ W (Ret W fun v _ => ∃ i : Int, v = .int .i64 i ∧ (0 ≤ i ↔ (20 < A.V.length ∨ 20 < B.V.length ∨ 20 < C.V.length ∨ 20 < D.V.length))) := by
  have hM := (Mm.start hl).known hv
  refine f_start Try.func62 rfl Try.ntmps62 rfl rfl ?_; intro a hF
  (repeat (first | (with_reducible refine w_seq ?_) | (with_reducible refine c_region ?_) | (with_reducible refine s_nil ?_) | (with_reducible refine q_then_n ?_) | ((with_reducible apply s_pure hF); exact rfl; exact rfl; exact rfl; (first | exact trivial | omega | exact ⟨Int.natCast_nonneg _, Int.ofNat_lt.2 (by assumption)⟩ | decide); clear hF a; intro a hF) | (with_reducible refine w_block ?_)))
  refine c_roll 5 ?_
  (repeat (first | (with_reducible refine w_seq ?_) | (with_reducible refine c_region ?_) | (with_reducible refine s_nil ?_) | (with_reducible refine q_then_n ?_) | ((with_reducible apply s_pure hF); exact rfl; exact rfl; exact rfl; (first | exact trivial | omega | exact ⟨Int.natCast_nonneg _, Int.ofNat_lt.2 (by assumption)⟩ | decide); clear hF a; intro a hF) | (with_reducible refine w_skip ?_) | (with_reducible refine r_succ ?_) | (with_reducible refine w_block ?_) | ((with_reducible apply c_true2 hF); exact rfl; (first | with_reducible rfl | (refine congrArg Value.bool ?_; focus (simp; done))))))
  rw [show adr (⟨bx, 0, none⟩ : Addr) 0 2 = ⟨bx, 0, none⟩ from by unfold adr; rfl] at hF
  (repeat (first | ((with_reducible apply s_loadK hF hM); exact rfl; exact rfl; (repeat (first | exact List.mem_cons_self | refine List.mem_cons_of_mem _ ?_)); exact rfl; exact rfl; clear hF a; intro a hF)))
  (((with_reducible apply s_callc (f := 25) hF hM); exact rfl; exact rfl; exact rfl; exact rfl; exact rfl; exact rfl; exact rfl; exact (many1_c A.V _ _ _ _ _ hM.lt); clear hF hM a; rintro v w a rfl - hM hF))
  by_cases h0 : 20 < A.V.length
  · (repeat' (first | (with_reducible refine w_seq ?_) | (with_reducible refine c_region ?_) | (with_reducible refine s_nil ?_) | (with_reducible refine q_then_n ?_) | ((with_reducible apply s_pure hF); exact rfl; exact rfl; exact rfl; (first | exact trivial | omega | exact ⟨Int.natCast_nonneg _, Int.ofNat_lt.2 (by assumption)⟩ | decide); clear hF a; intro a hF) | (with_reducible refine w_ret ?_) | (with_reducible refine q_then_r ?_) | (with_reducible refine q_blk_r ?_) | ((with_reducible apply c_dec hF); exact rfl; all_goals intro hc; all_goals (try (exfalso; omega)))))
    (apply f_ret Try.results62 hF hM; (repeat (first | exact RL.nil | (apply RL.tmp; exact rfl) | (apply RL.cell; exact rfl; (repeat (first | exact List.mem_cons_self | refine List.mem_cons_of_mem _ ?_)); exact rfl))); refine Ret.mk hM.since ?_; dsimp only [resV])
    exact ⟨_, rfl, by omega⟩
  (repeat' (first | (with_reducible refine w_seq ?_) | (with_reducible refine c_region ?_) | (with_reducible refine s_nil ?_) | (with_reducible refine q_then_n ?_) | ((with_reducible apply s_pure hF); exact rfl; exact rfl; exact rfl; (first | exact trivial | omega | exact ⟨Int.natCast_nonneg _, Int.ofNat_lt.2 (by assumption)⟩ | decide); clear hF a; intro a hF) | (with_reducible refine w_skip ?_) | (with_reducible refine r_succ ?_) | (with_reducible refine w_block ?_) | (with_reducible refine q_blk_n ?_) | ((with_reducible apply c_true2 hF); exact rfl; (first | with_reducible rfl | (refine congrArg Value.bool ?_; focus (simp; done)))) | ((with_reducible apply c_dec hF); exact rfl; all_goals intro hc; all_goals (try (exfalso; omega)))))
  (repeat (first | fail))
  rw [show adr (⟨bx, 0, none⟩ : Addr) (0+1) 2 = ⟨bx, 2, none⟩ from by unfold adr; rfl] at hF
  (repeat (first | ((with_reducible apply s_loadK hF hM); exact rfl; exact rfl; (repeat (first | exact List.mem_cons_self | refine List.mem_cons_of_mem _ ?_)); exact rfl; exact rfl; clear hF a; intro a hF)))
  (((with_reducible apply s_callc (f := 25) hF hM); exact rfl; exact rfl; exact rfl; exact rfl; exact rfl; exact rfl; exact rfl; exact (many1_c B.V _ _ _ _ _ hM.lt); clear hF hM a; rintro v w a rfl - hM hF))
  by_cases h1 : 20 < B.V.length
  · (repeat' (first | (with_reducible refine w_seq ?_) | (with_reducible refine c_region ?_) | (with_reducible refine s_nil ?_) | (with_reducible refine q_then_n ?_) | ((with_reducible apply s_pure hF); exact rfl; exact rfl; exact rfl; (first | exact trivial | omega | exact ⟨Int.natCast_nonneg _, Int.ofNat_lt.2 (by assumption)⟩ | decide); clear hF a; intro a hF) | (with_reducible refine w_ret ?_) | (with_reducible refine q_then_r ?_) | (with_reducible refine q_blk_r ?_) | ((with_reducible apply c_dec hF); exact rfl; all_goals intro hc; all_goals (try (exfalso; omega)))))
    (apply f_ret Try.results62 hF hM; (repeat (first | exact RL.nil | (apply RL.tmp; exact rfl) | (apply RL.cell; exact rfl; (repeat (first | exact List.mem_cons_self | refine List.mem_cons_of_mem _ ?_)); exact rfl))); refine Ret.mk hM.since ?_; dsimp only [resV])
    exact ⟨_, rfl, by omega⟩
  (repeat' (first | (with_reducible refine w_seq ?_) | (with_reducible refine c_region ?_) | (with_reducible refine s_nil ?_) | (with_reducible refine q_then_n ?_) | ((with_reducible apply s_pure hF); exact rfl; exact rfl; exact rfl; (first | exact trivial | omega | exact ⟨Int.natCast_nonneg _, Int.ofNat_lt.2 (by assumption)⟩ | decide); clear hF a; intro a hF) | (with_reducible refine w_skip ?_) | (with_reducible refine r_succ ?_) | (with_reducible refine w_block ?_) | (with_reducible refine q_blk_n ?_) | ((with_reducible apply c_true2 hF); exact rfl; (first | with_reducible rfl | (refine congrArg Value.bool ?_; focus (simp; done)))) | ((with_reducible apply c_dec hF); exact rfl; all_goals intro hc; all_goals (try (exfalso; omega)))))
  (repeat (first | fail))
  rw [show adr (⟨bx, 0, none⟩ : Addr) (0+1+1) 2 = ⟨bx, 4, none⟩ from by unfold adr; rfl] at hF
  (repeat (first | ((with_reducible apply s_loadK hF hM); exact rfl; exact rfl; (repeat (first | exact List.mem_cons_self | refine List.mem_cons_of_mem _ ?_)); exact rfl; exact rfl; clear hF a; intro a hF)))
  (((with_reducible apply s_callc (f := 25) hF hM); exact rfl; exact rfl; exact rfl; exact rfl; exact rfl; exact rfl; exact rfl; exact (many1_c C.V _ _ _ _ _ hM.lt); clear hF hM a; rintro v w a rfl - hM hF))
  by_cases h2 : 20 < C.V.length
  · (repeat' (first | (with_reducible refine w_seq ?_) | (with_reducible refine c_region ?_) | (with_reducible refine s_nil ?_) | (with_reducible refine q_then_n ?_) | ((with_reducible apply s_pure hF); exact rfl; exact rfl; exact rfl; (first | exact trivial | omega | exact ⟨Int.natCast_nonneg _, Int.ofNat_lt.2 (by assumption)⟩ | decide); clear hF a; intro a hF) | (with_reducible refine w_ret ?_) | (with_reducible refine q_then_r ?_) | (with_reducible refine q_blk_r ?_) | ((with_reducible apply c_dec hF); exact rfl; all_goals intro hc; all_goals (try (exfalso; omega)))))
    (apply f_ret Try.results62 hF hM; (repeat (first | exact RL.nil | (apply RL.tmp; exact rfl) | (apply RL.cell; exact rfl; (repeat (first | exact List.mem_cons_self | refine List.mem_cons_of_mem _ ?_)); exact rfl))); refine Ret.mk hM.since ?_; dsimp only [resV])
    exact ⟨_, rfl, by omega⟩
  (repeat' (first | (with_reducible refine w_seq ?_) | (with_reducible refine c_region ?_) | (with_reducible refine s_nil ?_) | (with_reducible refine q_then_n ?_) | ((with_reducible apply s_pure hF); exact rfl; exact rfl; exact rfl; (first | exact trivial | omega | exact ⟨Int.natCast_nonneg _, Int.ofNat_lt.2 (by assumption)⟩ | decide); clear hF a; intro a hF) | (with_reducible refine w_skip ?_) | (with_reducible refine r_succ ?_) | (with_reducible refine w_block ?_) | (with_reducible refine q_blk_n ?_) | ((with_reducible apply c_true2 hF); exact rfl; (first | with_reducible rfl | (refine congrArg Value.bool ?_; focus (simp; done)))) | ((with_reducible apply c_dec hF); exact rfl; all_goals intro hc; all_goals (try (exfalso; omega)))))
  (repeat (first | fail))
  rw [show adr (⟨bx, 0, none⟩ : Addr) (0+1+1+1) 2 = ⟨bx, 6, none⟩ from by unfold adr; rfl] at hF
  (repeat (first | ((with_reducible apply s_loadK hF hM); exact rfl; exact rfl; (repeat (first | exact List.mem_cons_self | refine List.mem_cons_of_mem _ ?_)); exact rfl; exact rfl; clear hF a; intro a hF)))
  (((with_reducible apply s_callc (f := 25) hF hM); exact rfl; exact rfl; exact rfl; exact rfl; exact rfl; exact rfl; exact rfl; exact (many1_c D.V _ _ _ _ _ hM.lt); clear hF hM a; rintro v w a rfl - hM hF))
  by_cases h3 : 20 < D.V.length
  · (repeat' (first | (with_reducible refine w_seq ?_) | (with_reducible refine c_region ?_) | (with_reducible refine s_nil ?_) | (with_reducible refine q_then_n ?_) | ((with_reducible apply s_pure hF); exact rfl; exact rfl; exact rfl; (first | exact trivial | omega | exact ⟨Int.natCast_nonneg _, Int.ofNat_lt.2 (by assumption)⟩ | decide); clear hF a; intro a hF) | (with_reducible refine w_ret ?_) | (with_reducible refine q_then_r ?_) | (with_reducible refine q_blk_r ?_) | ((with_reducible apply c_dec hF); exact rfl; all_goals intro hc; all_goals (try (exfalso; omega)))))
    (apply f_ret Try.results62 hF hM; (repeat (first | exact RL.nil | (apply RL.tmp; exact rfl) | (apply RL.cell; exact rfl; (repeat (first | exact List.mem_cons_self | refine List.mem_cons_of_mem _ ?_)); exact rfl))); refine Ret.mk hM.since ?_; dsimp only [resV])
    exact ⟨_, rfl, by omega⟩
  (repeat' (first | (with_reducible refine w_seq ?_) | (with_reducible refine c_region ?_) | (with_reducible refine s_nil ?_) | (with_reducible refine q_then_n ?_) | ((with_reducible apply s_pure hF); exact rfl; exact rfl; exact rfl; (first | exact trivial | omega | exact ⟨Int.natCast_nonneg _, Int.ofNat_lt.2 (by assumption)⟩ | decide); clear hF a; intro a hF) | (with_reducible refine w_skip ?_) | (with_reducible refine r_succ ?_) | (with_reducible refine w_exit ?_) | (with_reducible refine w_ret ?_) | (with_reducible refine q_then_x ?_) | (with_reducible refine q_blk_n ?_) | (with_reducible refine q_blk_x ?_) | ((with_reducible apply c_false2 hF); exact rfl; (first | with_reducible rfl | (refine congrArg Value.bool ?_; focus (simp; done)))) | ((with_reducible apply c_dec hF); exact rfl; all_goals intro hc; all_goals (try (exfalso; omega)))))
  (repeat (first | fail))
  (apply f_ret Try.results62 hF hM; (repeat (first | exact RL.nil | (apply RL.tmp; exact rfl) | (apply RL.cell; exact rfl; (repeat (first | exact List.mem_cons_self | refine List.mem_cons_of_mem _ ?_)); exact rfl))); refine Ret.mk hM.since ?_; dsimp only [resV])
  exact ⟨_, rfl, by omega⟩
theorem manyC_c (A B C D : Cu) (a1 a2 a3 a4 : Option Addr) (c1 c2 c3 c4 bx : Nat) (T : TypeId) (own : Nat → Prop) (W : World) (hl : ∀ b, own b → b < W.heap.size) (hv : Has own W (BxF bx (fourL A B C D a1 c1 a2 c2 a3 c3 a4 c4) T)) :
    Calls Try.prog 24 ⟨[.slice (some ⟨bx, 0, none⟩) 4 4, .func (.func 25) #[] #[]]⟩ W (Ret W fun v _ => v = .bool (decide (20 < A.V.length ∨ 20 < B.V.length ∨ 20 < C.V.length ∨ 20 < D.V.length))) := by
  have hM := (Mm.start hl).known hv
  refine f_start Try.func24 rfl Try.ntmps24 rfl rfl ?_; intro a hF
  (repeat (first | (with_reducible refine w_seq ?_) | (with_reducible refine c_region ?_) | (with_reducible refine s_nil ?_) | (with_reducible refine q_then_n ?_) | ((with_reducible apply s_pure hF); exact rfl; exact rfl; exact rfl; (first | exact trivial | omega | exact ⟨Int.natCast_nonneg _, Int.ofNat_lt.2 (by assumption)⟩ | decide); clear hF a; intro a hF)))
  (((with_reducible apply s_call (f := 62) hF hM); exact rfl; exact rfl; exact rfl; exact rfl; exact rfl; exact (manyI_c A B C D a1 a2 a3 a4 c1 c2 c3 c4 bx T _ _ hM.lt (hM.facts _ List.mem_cons_self)); clear hF hM a; rintro v w a ⟨i, rfl, hi⟩ - hM hF))
  (repeat (first | (with_reducible refine s_nil ?_) | (with_reducible refine q_then_n ?_) | ((with_reducible apply s_pure hF); exact rfl; exact rfl; exact rfl; (first | exact trivial | omega | exact ⟨Int.natCast_nonneg _, Int.ofNat_lt.2 (by assumption)⟩ | decide); clear hF a; intro a hF) | (with_reducible refine w_ret ?_)))
  (apply f_ret Try.results24 hF hM; (repeat (first | exact RL.nil | (apply RL.tmp; exact rfl) | (apply RL.cell; exact rfl; (repeat (first | exact List.mem_cons_self | refine List.mem_cons_of_mem _ ?_)); exact rfl))); refine Ret.mk hM.since ?_; dsimp only [resV])
  congr 1
  rw [decide_eq_decide]
  exact hi
end Go.Proofs.Ytabfhoipclbeeaa


/- Arguments of the rows of layer 57: four curves; two bytes. -/
namespace Go.Proofs.Ytabfhoipclbeeaa
open Go.RowKit Go.Shelf Go.ChangeShapes Go.WideShapes Go.ChangeAt C55 K57
section
variable {H : Type} {enc : TypeId × Value → H} {w : World} {r : Reach} {b0 base : Nat} {spare : Nat → Bool} {held : Bool}
theorem twoU_arg {v : Value} {d : DataW H} {p : List MemPlace} (hv : Value.okWide Try.prog w r b0 50 v) (h : DataW.Trod enc Try.prog w base spare held 50 v d p) : ∃ x y : Int, v = .agg #[.int .u8 x, .int .u8 y] ∧ (0 ≤ x ∧ x ≤ 255) ∧ (0 ≤ y ∧ y ≤ 255) := by
  obtain ⟨xs, rfl, hl, hw⟩ := arr_arg Try.underlying50 Try.underlying5 (by kernel_rfl) (by kernel_rfl) hv h
  match xs, hl with
  | [x, y], _ => exact ⟨x, y, rfl, Go.bounds_u8 (hw x (by simp)), Go.bounds_u8 (hw y (by simp))⟩
theorem four_arg {v : Value} {d : DataW H} {p : List MemPlace} (hv : Value.okWide Try.prog w r b0 49 v) (h : DataW.Trod enc Try.prog w 0 (fun _ => true) held 49 v d p) :
    ∃ (A B C D : Cu) (a1 a2 a3 a4 : Option Addr) (c1 c2 c3 c4 : Nat), v = .agg ⟨fourL A B C D a1 c1 a2 c2 a3 c3 a4 c4⟩ ∧ Has (fun _ => False) w (RdF (Value.int .i64) a1 A.V) ∧ Has (fun _ => False) w (RdF (Value.int .i64) a2 B.V) ∧ Has (fun _ => False) w (RdF (Value.int .i64) a3 C.V) ∧ Has (fun _ => False) w (RdF (Value.int .i64) a4 D.V) ∧ (A.V.length ≤ 9223372036854775807 ∧ A.V.length ≤ c1) ∧ (B.V.length ≤ 9223372036854775807 ∧ B.V.length ≤ c2) ∧ (C.V.length ≤ 9223372036854775807 ∧ C.V.length ≤ c3) ∧ (D.V.length ≤ 9223372036854775807 ∧ D.V.length ≤ c4) := by
  obtain ⟨cs, rfl, hsz⟩ := okWide_array Try.underlying49 hv
  obtain ⟨fuel, hf⟩ := h
  obtain ⟨xs, n, _, _, hl, hlen, hx⟩ := DataW.trod_array Try.underlying49 hf
  obtain ⟨l⟩ := cs
  have hl2 : l.length = 8 := hsz.trans (by kernel_rfl)
  have q0 := hx 0 (by decide)
  have q1 := hx 1 (by decide)
  have q2 := hx 2 (by decide)
  have q3 := hx 3 (by decide)
  rw [show Try.prog.cellsOf _ = 2 from (by kernel_rfl)] at q0
  rw [show Try.prog.cellsOf _ = 2 from (by kernel_rfl)] at q1
  rw [show Try.prog.cellsOf _ = 2 from (by kernel_rfl)] at q2
  rw [show Try.prog.cellsOf _ = 2 from (by kernel_rfl)] at q3
  match l, hl2, xs, hlen with
  | [u0, u1, u2, u3, u4, u5, u6, u7], _, [y0, y1, y2, y3], _ =>
    obtain ⟨A, a1, c1, e1, h1, l1, m1⟩ := cu_cells (cells := [u0, u1]) q0
    obtain ⟨B, a2, c2, e2, h2, l2, m2⟩ := cu_cells (cells := [u2, u3]) q1
    obtain ⟨C, a3, c3, e3, h3, l3, m3⟩ := cu_cells (cells := [u4, u5]) q2
    obtain ⟨D, a4, c4, e4, h4, l4, m4⟩ := cu_cells (cells := [u6, u7]) q3
    simp only [List.cons.injEq, and_true] at e1 e2 e3 e4
    obtain ⟨rfl, rfl⟩ := e1
    obtain ⟨rfl, rfl⟩ := e2
    obtain ⟨rfl, rfl⟩ := e3
    obtain ⟨rfl, rfl⟩ := e4
    exact ⟨A, B, C, D, a1, a2, a3, a4, c1, c2, c3, c4, rfl, h1, h2, h3, h4, ⟨l1, m1⟩, ⟨l2, m2⟩, ⟨l3, m3⟩, l4, m4⟩
end
end Go.Proofs.Ytabfhoipclbeeaa

