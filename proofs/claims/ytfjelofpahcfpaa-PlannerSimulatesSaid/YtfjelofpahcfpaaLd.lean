/- PlannerSimulates returns true. -/
import Derived.Test.YtfjelofpahcfpaaArg
import Derived.Test.YtfjelofpahcfpaaSi
import Derived.Test.YtfjelofpahcfpaaGm
set_option linter.unusedSimpArgs false
set_option linter.unusedVariables false
namespace Go.Proofs.Ytfjelofpahcfpaa
open Go.RowKit Go.Shelf Sim
theorem never_last {t : P56.Tr} (h : ¬ (P56.endOf t (P56.cycles t)).isSome) : P56.last t.C = 0 := by
  by_cases hl : P56.last t.C = 0
  · exact hl
  · exfalso
    apply h
    have key : ∀ k, (P56.endOf t k).isSome := by
      intro k
      induction k with
      | zero => rfl
      | succ k ih =>
        obtain ⟨e, he⟩ := Option.isSome_iff_exists.1 ih
        unfold P56.endOf
        rw [he]
        simp only [Option.bind_some]
        unfold P56.finish
        simp only
        split
        · rfl
        · first | rfl | (rw [if_neg hl]; rfl)
    exact key _
/-- The times at which cycles have ended so far; -1 for others. -/
def dn (t : P56.Tr) (f N : Nat) : List Int := (List.range N).map fun k => if k < f then (P56.en t (k + 1) : Int) else -1
theorem dn_len (t : P56.Tr) (f N : Nat) : (dn t f N).length = N := by simp [dn]
theorem dn_get (t : P56.Tr) {f N k : Nat} (h : k < N) : (dn t f N)[k]? = some (if k < f then (P56.en t (k + 1) : Int) else -1) := by simp [dn, h]
theorem dn_zero (t : P56.Tr) (N : Nat) : dn t 0 N = List.replicate N (-1) := by
  apply List.ext_getElem?
  intro k
  rcases Nat.lt_or_ge k N with h | h
  · rw [dn_get t h]; simp [h]
  · rw [List.getElem?_eq_none (by rw [dn_len]; exact h), List.getElem?_eq_none (by simpa using h)]
theorem dn_set (t : P56.Tr) {f N : Nat} (h : f < N) : (dn t f N).set f (P56.en t (f + 1) : Int) = dn t (f + 1) N := by
  apply List.ext_getElem?
  intro k
  rw [List.getElem?_set]
  rcases Nat.lt_or_ge k N with g | g
  · rw [dn_get t g, dn_get t g]
    by_cases e : f = k
    · subst e
      rw [if_pos rfl, dn_len, if_pos h, if_pos (by omega)]
    · rw [if_neg e]
      by_cases e2 : k < f
      · rw [if_pos e2, if_pos (by omega)]
      · rw [if_neg e2, if_neg (by omega)]
  · have e : f ≠ k := by omega
    rw [if_neg e, List.getElem?_eq_none (by rw [dn_len]; exact g), List.getElem?_eq_none (by rw [dn_len]; exact g)]
theorem dn_all (t : P56.Tr) (N : Nat) : dn t N N = P56.ens t N := by
  unfold dn P56.ens
  apply List.map_congr_left
  intro k hk
  rw [if_pos (List.mem_range.1 hk)]
set_option maxHeartbeats 8000000 in
theorem simulates_c (t : P56.Tr) (v : Value) (W : World) (hv : Has (fun _ => False) W (IsTr · v t)) :
    Calls Try.prog 5 ⟨[v]⟩ W (Ret W fun x _ => x = .bool true) := by
  obtain ⟨a0, a1, c0, c1, rfl, hW, hC, l1, l2, l3, l4⟩ := isTr_open hv
  have hM := (((Mm.start (fun _ h => h.elim)).known hv).known hW).known hC
  refine f_start Try.func5 rfl Try.ntmps5 rfl rfl ?_; intro a hF
  by_cases hs : smallB t = true
  case neg =>
    have hs' : smallB t = false := by simpa using hs
    (repeat' (first | (with_reducible refine w_seq ?_) | (with_reducible refine c_region ?_) | (with_reducible refine s_nil ?_) | ((with_reducible apply s_call (f := 22) hF hM); exact rfl; exact rfl; exact rfl; exact rfl; exact rfl; exact ((hs' ▸ small_c t _ _ _ hM.lt (hM.facts (IsTr · _ t) (by (repeat (first | exact List.mem_cons_self | refine List.mem_cons_of_mem _ ?_)))) : Calls Try.prog _ _ _ (Ret _ fun x _ => x = .bool false))); clear hF hM a; rintro v w a rfl - hM hF) | ((with_reducible apply s_call (f := 11) hF hM); exact rfl; exact rfl; exact rfl; exact rfl; exact rfl; exact (awake_c _ _ hM.lt); clear hF hM a; rintro v w a rfl - hM hF) | (with_reducible refine q_then_n ?_) | ((with_reducible apply s_pure hF); exact rfl; exact rfl; exact rfl; (first | exact trivial | omega | decide); clear hF a; intro a hF) | ((with_reducible apply s_load hF hM); exact rfl; exact rfl; (repeat (first | exact List.mem_cons_self | refine List.mem_cons_of_mem _ ?_)); exact rfl; exact rfl; clear hF a; intro a hF) | ((with_reducible apply s_box hF hM); exact rfl; exact rfl; exact rfl; exact rfl; clear hF hM a; intro b w a hM hF) | (with_reducible refine w_ret ?_) | (with_reducible refine q_then_r ?_) | ((with_reducible apply c_true hF); exact rfl)))
    (apply f_ret Try.results5 hF hM; (repeat (first | exact RL.nil | (apply RL.tmp; exact rfl) | (apply RL.cell; exact rfl; (repeat (first | exact List.mem_cons_self | refine List.mem_cons_of_mem _ ?_)); exact rfl))); refine Ret.mk hM.since ?_; dsimp only [resV])
  have S := small_open hs
  have ok := S.ok
  have hsm := fun v own W hl hv => hs ▸ small_c t v own W hl hv
  obtain ⟨p, hp⟩ : ∃ p : Nat, t.P = p := ⟨t.P.toNat, by have := ok.p0; omega⟩
  have hpt : t.P.toNat = p := by omega
  have hp1 : 1 ≤ p := by have := ok.p0; omega
  have hp60 : p ≤ 60 := by have := S.p; omega
  have hwl := S.wl
  have hcl := S.cl
  have hcl0 := ok.clen0
  have hL := S.l
  have hA := S.a
  have hL0 := ok.l0
  have hA0 := ok.a0
  have hck := P56.check_ok.2 ok
  have hcy : ((t.W.length : Int) + (p : Int) - 1) / (p : Int) = (P56.cycles t : Int) := by
    unfold P56.cycles
    rw [hpt]
    exact P56.div_up_cast hp1
  rw [hp] at hM hF
  (repeat (first | (with_reducible refine w_seq ?_) | (with_reducible refine c_region ?_) | (with_reducible refine s_nil ?_) | (with_reducible refine q_then_n ?_) | ((with_reducible apply s_pure hF); exact rfl; exact rfl; exact rfl; (first | exact trivial | omega | decide); clear hF a; intro a hF) | ((with_reducible apply s_load hF hM); exact rfl; exact rfl; (repeat (first | exact List.mem_cons_self | refine List.mem_cons_of_mem _ ?_)); exact rfl; exact rfl; clear hF a; intro a hF) | ((with_reducible apply s_box hF hM); exact rfl; exact rfl; exact rfl; exact rfl; clear hF hM a; intro b w a hM hF)))
  obtain ⟨b1, hb1⟩ : ∃ x, x = b := ⟨b, rfl⟩
  subst hb1
  by_cases he : (P56.endOf t (P56.cycles t)).isSome
  case neg =>
    have hpl : P56.plan t = (P56.none, 21) := by
      unfold P56.plan
      rw [if_pos hck]
      unfold P56.planOk
      rw [if_neg he]
    have hlast := never_last he
    have hgl : t.C[((t.C.length : Int) - 1).toNat]? = some 0 := by
      rw [show ((t.C.length : Int) - 1).toNat = t.C.length - 1 by omega]
      unfold P56.last at hlast
      rw [List.getLastD_eq_getLast?, List.getLast?_eq_getElem?] at hlast
      obtain ⟨y, hy⟩ := get_of_lt (l := t.C) (i := t.C.length - 1) (by omega)
      rw [hy] at hlast ⊢
      simpa using hlast
    obtain ⟨ad, rfl⟩ := rd_some hM (a := a1) (by (repeat (first | exact List.mem_cons_self | refine List.mem_cons_of_mem _ ?_))) hgl
    (repeat' (first | (with_reducible refine w_seq ?_) | (with_reducible refine c_region ?_) | (with_reducible refine s_nil ?_) | ((with_reducible apply s_call (f := 22) hF hM); exact rfl; exact rfl; exact rfl; exact rfl; exact rfl; exact (hsm _ _ _ hM.lt (hM.facts (IsTr · _ t) (by (repeat (first | exact List.mem_cons_self | refine List.mem_cons_of_mem _ ?_))))); clear hF hM a; rintro v w a rfl - hM hF) | ((with_reducible apply s_call (f := 12) hF hM); exact rfl; exact rfl; exact rfl; exact rfl; exact rfl; exact (planEq_c hpl _ _ _ hM.lt (hM.facts (IsTr · _ t) (by (repeat (first | exact List.mem_cons_self | refine List.mem_cons_of_mem _ ?_))))); clear hF hM a; rintro v w a ⟨pv, rfl, hpv⟩ - hM hF; (obtain ⟨x1, x2, x3, x4, y1, y2, y3, y4, rfl, -⟩ := isPl_open hpv)) | ((with_reducible apply s_call (f := 11) hF hM); exact rfl; exact rfl; exact rfl; exact rfl; exact rfl; exact (awake_c _ _ hM.lt); clear hF hM a; rintro v w a rfl - hM hF) | (with_reducible refine q_then_n ?_) | ((with_reducible apply s_pure hF); exact rfl; exact rfl; exact rfl; (first | exact trivial | omega | decide); clear hF a; intro a hF) | ((with_reducible apply s_load hF hM); exact rfl; exact rfl; (repeat (first | exact List.mem_cons_self | refine List.mem_cons_of_mem _ ?_)); exact rfl; exact rfl; clear hF a; intro a hF) | ((with_reducible apply s_loadF hF hM); exact rfl; exact rfl; (repeat (first | exact List.mem_cons_self | refine List.mem_cons_of_mem _ ?_)); exact rfl; exact rfl; (first | with_reducible assumption | (simp only [Int.toNat_natCast]; with_reducible assumption)); clear hF a; intro a hF) | ((with_reducible apply s_store hF hM); exact rfl; exact rfl; exact rfl; exact rfl; (repeat (first | exact Upd.z | apply Upd.s)); exact rfl; exact rfl; exact rfl; clear hM; intro w hM) | ((with_reducible apply s_alloc hF hM); exact rfl; exact rfl; exact rfl; clear hF hM a; intro b w a hM hF) | (with_reducible refine w_skip ?_) | (with_reducible refine w_ret ?_) | (with_reducible refine q_then_r ?_) | ((with_reducible apply c_true hF); exact rfl) | ((with_reducible apply c_false hF); exact rfl)))
    all_goals (apply f_ret Try.results5 hF hM; (repeat (first | exact RL.nil | (apply RL.tmp; exact rfl) | (apply RL.cell; exact rfl; (repeat (first | exact List.mem_cons_self | refine List.mem_cons_of_mem _ ?_)); exact rfl))); refine Ret.mk hM.since ?_; dsimp only [resV])
  have hpl : P56.plan t = (P56.lists t (P56.cycles t) (P56.boundR t), 0) := by
    unfold P56.plan
    rw [if_pos hck]
    unfold P56.planOk
    rw [if_pos he]
  obtain ⟨N, hN⟩ : ∃ N, P56.cycles t = N := ⟨_, rfl⟩
  have hNw : N ≤ 40 := by
    rcases Nat.eq_zero_or_pos N with g | g
    · omega
    · have h1 := cyc_mul S he hpt hp1 (k := N - 1) (by omega)
      have h2 : (N - 1) * 1 ≤ (N - 1) * p := Nat.mul_le_mul_left _ hp1
      omega
  rw [hN] at hpl hcy
  (repeat (first | (with_reducible refine w_seq ?_) | (with_reducible refine c_region ?_) | (with_reducible refine s_nil ?_) | ((with_reducible apply s_call (f := 22) hF hM); exact rfl; exact rfl; exact rfl; exact rfl; exact rfl; exact (hsm _ _ _ hM.lt (hM.facts (IsTr · _ t) (by (repeat (first | exact List.mem_cons_self | refine List.mem_cons_of_mem _ ?_))))); clear hF hM a; rintro v w a rfl - hM hF) | ((with_reducible apply s_call (f := 12) hF hM); exact rfl; exact rfl; exact rfl; exact rfl; exact rfl; exact (planEq_c hpl _ _ _ hM.lt (hM.facts (IsTr · _ t) (by (repeat (first | exact List.mem_cons_self | refine List.mem_cons_of_mem _ ?_))))); clear hF hM a; rintro v w a ⟨pv, rfl, hpv⟩ - hM hF; (obtain ⟨x1, x2, x3, x4, y1, y2, y3, y4, rfl, q1, q2, q3, q4⟩ := isPl_openL hpv; replace hM := (((hM.addFact q1).addFact q2).addFact q3).addFact q4)) | (with_reducible refine q_then_n ?_) | ((with_reducible apply s_pure hF); exact rfl; exact rfl; exact rfl; (first | exact trivial | omega | decide); clear hF a; intro a hF) | ((with_reducible apply s_load hF hM); exact rfl; exact rfl; (repeat (first | exact List.mem_cons_self | refine List.mem_cons_of_mem _ ?_)); exact rfl; exact rfl; clear hF a; intro a hF) | ((with_reducible apply s_store hF hM); exact rfl; exact rfl; exact rfl; exact rfl; (repeat (first | exact Upd.z | apply Upd.s)); exact rfl; exact rfl; exact rfl; clear hM; intro w hM) | ((with_reducible apply s_alloc hF hM); exact rfl; exact rfl; exact rfl; clear hF hM a; intro b w a hM hF) | (with_reducible refine w_skip ?_) | ((with_reducible apply c_false hF); exact rfl)))
  (repeat' (first | fail))
  rw [hcy] at hF
  apply s_make N hF hM
  iterate 7 exact rfl
  omega
  clear hF hM a
  intro gl w a hM hF
  (repeat (first | (with_reducible refine w_seq ?_) | (with_reducible refine c_region ?_) | (with_reducible refine s_nil ?_) | (with_reducible refine q_then_n ?_) | ((with_reducible apply s_pure hF); exact rfl; exact rfl; exact rfl; (first | exact trivial | omega | decide); clear hF a; intro a hF)))
  apply s_make N hF hM
  iterate 7 exact rfl
  omega
  clear hF hM a
  intro gd w a hM hF
  have hrep : List.replicate N (Value.int .i64 0) = (List.replicate N (0 : Int)).map (Value.int .i64) := by simp
  rw [hrep] at hM
  (repeat (first | (with_reducible refine w_seq ?_) | (with_reducible refine c_region ?_) | (with_reducible refine s_nil ?_) | (with_reducible refine q_then_n ?_) | ((with_reducible apply s_pure hF); exact rfl; exact rfl; exact rfl; (first | exact trivial | omega | decide); clear hF a; intro a hF) | (with_reducible refine w_block ?_)))
  refine c_loop (m := N) (fun m a w' => ∃ (k : Nat) (DD : List Int), m + k = N ∧ DD.length = N ∧ (∀ j, j < k → DD[j]? = some (-1)) ∧
    Fr 205 [] [(60, .int .i64 k), (59, .int .i64 N), (1, .pointer (some ⟨b1, 0, none⟩)), (3, .pointer (some ⟨b, 0, none⟩)), (5, .int .i64 t.W.length), (6, .int .i64 N), (7, .slice (some ⟨gl, 0, none⟩) N N), (8, .slice (some ⟨gd, 0, none⟩) N N)] a ∧
    Mm (fun _ => False) W [⟨b, ⟨[.slice x1 N y1, .slice x2 N y2, .slice x3 N y3, .slice x4 N y4, .int .i64 (P56.boundR t)]⟩, 28⟩, ⟨b1, ⟨[.slice a0 t.W.length c0, .slice a1 t.C.length c1, .int .i64 p, .int .i64 t.L, .int .i64 t.A]⟩, 24⟩]
      [⟨3, 1, .slice (some ⟨gd, 0, none⟩) N N, N, DD.map (Value.int .i64)⟩, ⟨3, 1, .slice (some ⟨gl, 0, none⟩) N N, N, (List.replicate N (0 : Int)).map (Value.int .i64)⟩]
      [RdF (Value.int .i64) x3 (P56.ens t N), RdF (Value.int .i64) a0 t.W, (IsTr · (.agg #[.slice a0 t.W.length c0, .slice a1 t.C.length c1, .int .i64 p, .int .i64 t.L, .int .i64 t.A]) t)] w') ⟨0, List.replicate N 0, by omega, by simp, fun j h => by omega, hF.sub (by repeat (first | exact Sub.nil | refine Sub.cons rfl (by first | with_reducible rfl | (refine congrArg (Value.int _) ?_; omega) | exact rfl) ?_)), hM.sub (.refl _) (.refl _) (by intro f hf; simp only [List.mem_cons, List.not_mem_nil, or_false] at hf; (repeat (rcases hf with rfl | hf; · (repeat (first | exact List.mem_cons_self | refine List.mem_cons_of_mem _ ?_)))); try (subst hf; (repeat (first | exact List.mem_cons_self | refine List.mem_cons_of_mem _ ?_))))⟩ ?_
  clear hF hM a
  rintro m a w' ⟨k, DD, hk, hDl, hDD, hF, hM⟩
  by_cases hlt : k < N
  · (repeat' (first | (with_reducible refine w_seq ?_) | (with_reducible refine c_region ?_) | (with_reducible refine s_nil ?_) | ((with_reducible apply s_storeR hF hM); exact rfl; exact rfl; (repeat (first | exact Kth.z | apply Kth.s)); exact rfl; exact rfl; exact rfl; exact rfl; (first | assumption | omega | (simp only [List.length_set]; omega) | (simp only [Int.toNat_natCast, List.length_set]; omega)); clear hM; intro w hM; dsimp only [List.set] at hM) | (with_reducible refine q_then_n ?_) | ((with_reducible apply s_pure hF); exact rfl; exact rfl; exact rfl; (first | exact trivial | omega | decide); clear hF a; intro a hF) | (with_reducible refine w_skip ?_) | (with_reducible refine w_block ?_) | (with_reducible refine q_blk_n ?_) | ((with_reducible apply c_dec hF); exact rfl; all_goals intro hc; all_goals (try (exfalso; omega)))))
    refine ⟨m - 1, by omega, k + 1, DD.set k (-1), by omega, by simpa using hDl, fun j hj => ?_, hF.sub (by repeat (first | exact Sub.nil | refine Sub.cons rfl (by first | with_reducible rfl | (refine congrArg (Value.int _) ?_; omega) | exact rfl) ?_)), hM⟩
    rw [List.getElem?_set]
    by_cases e : k = j
    · rw [if_pos e, if_pos (by omega)]
    · rw [if_neg e]; exact hDD j (by omega)
  obtain rfl : N = k := by omega
  obtain rfl : DD = dn t 0 N := by
    rw [dn_zero]
    apply List.ext_getElem?
    intro j
    rcases Nat.lt_or_ge j N with h | h
    · rw [hDD j h]; simp [h]
    · rw [List.getElem?_eq_none (by omega), List.getElem?_eq_none (by simpa using h)]
  clear hDD hDl hlt hk
  (repeat' (first | (with_reducible refine w_seq ?_) | (with_reducible refine c_region ?_) | (with_reducible refine s_nil ?_) | (with_reducible refine q_then_n ?_) | ((with_reducible apply s_pure hF); exact rfl; exact rfl; exact rfl; (first | exact trivial | omega | decide); clear hF a; intro a hF) | (with_reducible refine w_block ?_) | (with_reducible refine w_exit ?_) | (with_reducible refine q_then_x ?_) | (with_reducible refine q_blk_x ?_) | ((with_reducible apply c_dec hF); exact rfl; all_goals intro hc; all_goals (try (exfalso; omega)))))
  refine c_loop (m := 3000) (fun m a w' => ∃ (now f Kn : Nat) (LL : List Int), m + now = 3000 ∧ At t now f ∧ Ap t now Kn ∧ LL.length = N ∧ (∀ g, f ≤ g → g < N → LL[g]? = some (lv t p g (now - 1))) ∧ (Kn = N → 0 < N → (now : Int) = P56.ap t (N - 1) + 1) ∧ (N = 0 → now = 0) ∧
    Fr 205 [] [(14, .int .i64 now), (13, .int .i64 ((N : Int) - Kn)), (12, .int .i64 ((Kn * p : Nat) : Int)), (11, .int .i64 (Sim.age t p now Kn)), (10, .int .i64 f), (1, .pointer (some ⟨b1, 0, none⟩)), (3, .pointer (some ⟨b, 0, none⟩)), (5, .int .i64 t.W.length), (6, .int .i64 N), (7, .slice (some ⟨gl, 0, none⟩) N N), (8, .slice (some ⟨gd, 0, none⟩) N N)] a ∧
    Mm (fun _ => False) W [⟨b, ⟨[.slice x1 N y1, .slice x2 N y2, .slice x3 N y3, .slice x4 N y4, .int .i64 (P56.boundR t)]⟩, 28⟩, ⟨b1, ⟨[.slice a0 t.W.length c0, .slice a1 t.C.length c1, .int .i64 p, .int .i64 t.L, .int .i64 t.A]⟩, 24⟩]
      [⟨3, 1, .slice (some ⟨gd, 0, none⟩) N N, N, (dn t f N).map (Value.int .i64)⟩, ⟨3, 1, .slice (some ⟨gl, 0, none⟩) N N, N, (LL).map (Value.int .i64)⟩]
      [RdF (Value.int .i64) x3 (P56.ens t N), RdF (Value.int .i64) a0 t.W, (IsTr · (.agg #[.slice a0 t.W.length c0, .slice a1 t.C.length c1, .int .i64 p, .int .i64 t.L, .int .i64 t.A]) t)] w') ⟨0, 0, 0, List.replicate N 0, by omega, at_zero t, ⟨by omega, fun k h => by omega, fun k _ hk => by have := (ap_pos S he hpt hp1 (k := k) hk).1; omega⟩, by simp, fun g _ hg => by
      rw [show (0 : Nat) - 1 = 0 from rfl, lv_zero hp1]
      simp [hg], fun h h0 => by omega, fun _ => rfl, hF.sub (by repeat (first | exact Sub.nil | refine Sub.cons rfl (by first | with_reducible rfl | (refine congrArg (Value.int _) ?_; omega) | ((refine congrArg (Value.int _) ?_; simp [Sim.age])) | exact rfl) ?_)), hM⟩ ?_
  clear hF hM a
  rintro m a w' ⟨now, f, Kn, LL, hm, hAt, hAp, hLl, hLL, hend, hN0, hF, hM⟩
  have hKN := hAp.le
  have hfN := hAt.le
  obtain ⟨z, hz⟩ : ∃ z : Int, (now : Int) = z := ⟨_, rfl⟩
  rw [hz] at hF
  by_cases hK : Kn < N
  case neg =>
    obtain rfl : N = Kn := by omega
    have hage : Sim.age t p now N = P56.boundR t := by
      rcases Nat.eq_zero_or_pos N with g | g
      · have h0 := hN0 g
        subst h0
        unfold P56.boundR
        rw [if_neg (by omega)]
        rfl
      · have h1 := hend rfl g
        have h2 := age_end S he hpt hp1 (now := now) (by rw [hN]; exact hAp) (by omega) (by rw [hN]; exact h1)
        rw [hN] at h2
        exact h2
    have hfe : f = N := by
      rcases Nat.lt_or_ge f N with g | g
      · have h1 := hAt.after (by omega)
        have h2 := hAp.before f g
        have h3 := (ap_pos S he hpt hp1 (k := f) (by omega)).2
        omega
      · omega
    subst hfe
    rw [hage] at hF
    have heq : ∀ own W hl h1 h2, Calls Try.prog 24 ⟨[.slice x3 f y3, .slice (some ⟨gd, 0, none⟩) f f]⟩ W (Ret W fun v _ => v = .bool true) := fun own W hl h1 h2 => by
      have := eq_c (P56.ens t f) (dn t f f) x3 (some ⟨gd, 0, none⟩) y3 f own W hl h1 h2 (by rw [P56.ens_length]; omega) (by rw [dn_len]; omega)
      rw [P56.ens_length, dn_len, dn_all, show eqI (P56.ens t f) (P56.ens t f) = true from by unfold eqI; simp] at this
      exact this
    (repeat' (first | (with_reducible refine w_seq ?_) | (with_reducible refine c_region ?_) | (with_reducible refine s_nil ?_) | ((with_reducible apply s_call (f := 24) hF hM); exact rfl; exact rfl; exact rfl; exact rfl; exact rfl; exact (heq (fun _ => False) _ (fun _ h => h.elim) (hM.factOut (by (repeat (first | exact List.mem_cons_self | refine List.mem_cons_of_mem _ ?_)))) (hM.rowFact (by (repeat (first | exact List.mem_cons_self | refine List.mem_cons_of_mem _ ?_))))); clear hF hM a; rintro v w a rfl - hM hF) | ((with_reducible apply s_call (f := 11) hF hM); exact rfl; exact rfl; exact rfl; exact rfl; exact rfl; exact (awake_c _ _ hM.lt); clear hF hM a; rintro v w a rfl - hM hF) | (with_reducible refine q_then_n ?_) | ((with_reducible apply s_pure hF); exact rfl; exact rfl; exact rfl; (first | exact trivial | omega | decide); clear hF a; intro a hF) | ((with_reducible apply s_load hF hM); exact rfl; exact rfl; (repeat (first | exact List.mem_cons_self | refine List.mem_cons_of_mem _ ?_)); exact rfl; exact rfl; clear hF a; intro a hF) | (with_reducible refine w_exit ?_) | (with_reducible refine w_ret ?_) | (with_reducible refine q_then_x ?_) | (with_reducible refine q_blk_x ?_) | ((with_reducible apply c_false hF); exact rfl) | ((with_reducible apply s_skip hF); exact rfl; exact rfl; clear hF a; intro a hF) | ((with_reducible apply g_dec hF); exact rfl; exact rfl; all_goals (clear hF; intro hc hF); all_goals (try (exfalso; omega)))))
    all_goals (apply f_ret Try.results5 hF hM; (repeat (first | exact RL.nil | (apply RL.tmp; exact rfl) | (apply RL.cell; exact rfl; (repeat (first | exact List.mem_cons_self | refine List.mem_cons_of_mem _ ?_)); exact rfl))); refine Ret.mk hM.since ?_; dsimp only [resV])
  have hnb : now ≤ 960 := by
    have h1 := hAp.after Kn (Nat.le_refl _) (by omega)
    have h2 := ap_near S he hpt hp1 (k := Kn) (by omega)
    omega
  have hmf := P56.mul_bd (k := f) (p := p) (by omega) (by omega)
  have hmK := P56.mul_bd (k := Kn) (p := p) (by omega) (by omega)
  with_reducible refine w_seq ?_
  refine c_cut (fun a w => Fr 205 [] [(14, .int .i64 z), (13, .int .i64 ((N : Int) - Kn)), (12, .int .i64 ((Kn * p : Nat) : Int)), (11, .int .i64 (Sim.age t p now Kn)), (10, .int .i64 f), (1, .pointer (some ⟨b1, 0, none⟩)), (3, .pointer (some ⟨b, 0, none⟩)), (5, .int .i64 t.W.length), (6, .int .i64 N), (7, .slice (some ⟨gl, 0, none⟩) N N), (8, .slice (some ⟨gd, 0, none⟩) N N)] a ∧
    Mm (fun _ => False) W [⟨b, ⟨[.slice x1 N y1, .slice x2 N y2, .slice x3 N y3, .slice x4 N y4, .int .i64 (P56.boundR t)]⟩, 28⟩, ⟨b1, ⟨[.slice a0 t.W.length c0, .slice a1 t.C.length c1, .int .i64 p, .int .i64 t.L, .int .i64 t.A]⟩, 24⟩]
      [⟨3, 1, .slice (some ⟨gd, 0, none⟩) N N, N, (dn t f N).map (Value.int .i64)⟩, ⟨3, 1, .slice (some ⟨gl, 0, none⟩) N N, N, (LL).map (Value.int .i64)⟩]
      [RdF (Value.int .i64) x3 (P56.ens t N), RdF (Value.int .i64) a0 t.W, (IsTr · (.agg #[.slice a0 t.W.length c0, .slice a1 t.C.length c1, .int .i64 p, .int .i64 t.L, .int .i64 t.A]) t)] w) ?_ ?_
  · (repeat' (first | (with_reducible refine w_seq ?_) | (with_reducible refine c_region ?_) | (with_reducible refine s_nil ?_) | (with_reducible refine q_then_n ?_) | ((with_reducible apply s_pure hF); exact rfl; exact rfl; exact rfl; (first | exact trivial | omega | decide); clear hF a; intro a hF) | (with_reducible refine w_skip ?_) | ((with_reducible apply g_dec hF); exact rfl; exact rfl; all_goals (clear hF; intro hc hF); all_goals (try (exfalso; omega))) | ((with_reducible apply c_dec hF); exact rfl; all_goals intro hc; all_goals (try (exfalso; omega)))))
    exact q_cut ⟨hF.sub (by repeat (first | exact Sub.nil | refine Sub.cons rfl (by first | with_reducible rfl | (refine congrArg (Value.int _) ?_; omega) | exact rfl) ?_)), hM⟩
  clear hF hM a
  rintro a w ⟨hF, hM⟩
  with_reducible refine w_seq ?_
  with_reducible refine w_block ?_
  with_reducible refine w_seq ?_
  refine c_cut (fun a w => ∃ LL : List Int, LL.length = N ∧ (∀ g, f ≤ g → g < N → LL[g]? = some (lv t p g now)) ∧ Fr 205 [] [(14, .int .i64 z), (13, .int .i64 ((N : Int) - Kn)), (12, .int .i64 ((Kn * p : Nat) : Int)), (11, .int .i64 (Sim.age t p now Kn)), (10, .int .i64 f), (1, .pointer (some ⟨b1, 0, none⟩)), (3, .pointer (some ⟨b, 0, none⟩)), (5, .int .i64 t.W.length), (6, .int .i64 N), (7, .slice (some ⟨gl, 0, none⟩) N N), (8, .slice (some ⟨gd, 0, none⟩) N N)] a ∧
    Mm (fun _ => False) W [⟨b, ⟨[.slice x1 N y1, .slice x2 N y2, .slice x3 N y3, .slice x4 N y4, .int .i64 (P56.boundR t)]⟩, 28⟩, ⟨b1, ⟨[.slice a0 t.W.length c0, .slice a1 t.C.length c1, .int .i64 p, .int .i64 t.L, .int .i64 t.A]⟩, 24⟩]
      [⟨3, 1, .slice (some ⟨gd, 0, none⟩) N N, N, (dn t f N).map (Value.int .i64)⟩, ⟨3, 1, .slice (some ⟨gl, 0, none⟩) N N, N, (LL).map (Value.int .i64)⟩]
      [RdF (Value.int .i64) x3 (P56.ens t N), RdF (Value.int .i64) a0 t.W, (IsTr · (.agg #[.slice a0 t.W.length c0, .slice a1 t.C.length c1, .int .i64 p, .int .i64 t.L, .int .i64 t.A]) t)] w) ?_ ?_
  · by_cases hnow : now = 0
    · subst hnow
      (repeat' (first | (with_reducible refine w_seq ?_) | (with_reducible refine c_region ?_) | (with_reducible refine s_nil ?_) | (with_reducible refine q_then_n ?_) | ((with_reducible apply s_pure hF); exact rfl; exact rfl; exact rfl; (first | exact trivial | omega | decide); clear hF a; intro a hF) | (with_reducible refine w_skip ?_) | ((with_reducible apply c_dec hF); exact rfl; all_goals intro hc; all_goals (try (exfalso; omega)))))
      exact q_cut ⟨LL, hLl, hLL, hF.sub (by repeat (first | exact Sub.nil | refine Sub.cons rfl (by first | with_reducible rfl | (refine congrArg (Value.int _) ?_; omega) | exact rfl) ?_)), hM⟩
    obtain ⟨q, rfl⟩ : ∃ q, now = q + 1 := ⟨now - 1, by omega⟩
    have hLL' : ∀ g, f ≤ g → g < N → LL[g]? = some (lv t p g q) := hLL
    (repeat (first | (with_reducible refine w_seq ?_) | (with_reducible refine c_region ?_) | (with_reducible refine s_nil ?_) | (with_reducible refine q_then_n ?_) | ((with_reducible apply s_pure hF); exact rfl; exact rfl; exact rfl; (first | exact trivial | omega | decide); clear hF a; intro a hF)))
    refine c_dec hF rfl (fun _ => ?_) (fun h => absurd h (by omega))
    with_reducible refine w_seq ?_
    refine c_cut (fun a w => ∃ LL : List Int, LL.length = N ∧ (∀ g, f ≤ g → g < N → LL[g]? = some (lv t p g q + (wr t p g (q + 1) - wr t p g q))) ∧ Fr 205 [] [(14, .int .i64 z), (13, .int .i64 ((N : Int) - Kn)), (12, .int .i64 ((Kn * p : Nat) : Int)), (11, .int .i64 (Sim.age t p (q + 1) Kn)), (10, .int .i64 f), (1, .pointer (some ⟨b1, 0, none⟩)), (3, .pointer (some ⟨b, 0, none⟩)), (5, .int .i64 t.W.length), (6, .int .i64 N), (7, .slice (some ⟨gl, 0, none⟩) N N), (8, .slice (some ⟨gd, 0, none⟩) N N)] a ∧
    Mm (fun _ => False) W [⟨b, ⟨[.slice x1 N y1, .slice x2 N y2, .slice x3 N y3, .slice x4 N y4, .int .i64 (P56.boundR t)]⟩, 28⟩, ⟨b1, ⟨[.slice a0 t.W.length c0, .slice a1 t.C.length c1, .int .i64 p, .int .i64 t.L, .int .i64 t.A]⟩, 24⟩]
      [⟨3, 1, .slice (some ⟨gd, 0, none⟩) N N, N, (dn t f N).map (Value.int .i64)⟩, ⟨3, 1, .slice (some ⟨gl, 0, none⟩) N N, N, (LL).map (Value.int .i64)⟩]
      [RdF (Value.int .i64) x3 (P56.ens t N), RdF (Value.int .i64) a0 t.W, (IsTr · (.agg #[.slice a0 t.W.length c0, .slice a1 t.C.length c1, .int .i64 p, .int .i64 t.L, .int .i64 t.A]) t)] w) ?_ ?_
    · by_cases hw : q < t.W.length
      · obtain ⟨x, hx⟩ := get_of_lt hw
        obtain ⟨ad, rfl⟩ := rd_some hM (a := a0) (by (repeat (first | exact List.mem_cons_self | refine List.mem_cons_of_mem _ ?_))) hx
        have hx' : t.W[(z - 1).toNat]? = some x := by rw [show (z - 1).toNat = q by omega]; exact hx
        have hxb := S.w x (List.mem_of_getElem? hx)
        obtain ⟨j, hj⟩ : ∃ j, q / p = j := ⟨_, rfl⟩
        have hjN : j < N := by rw [← hj, ← hN]; exact cyc_of S he hpt hp1 hw
        have hjf : f ≤ j := by rw [← hj]; exact at_open S he hpt hp1 hAt
        have hjz : (z - 1) / (p : Int) = (j : Int) := by
          rw [show z - 1 = (q : Int) by omega, ← hj]
          exact (Int.natCast_ediv q p).symm
        have hy := hLL' j hjf hjN
        have hyb := lv_bd S he hpt hp1 (now := q) (g := j) (by omega) (by omega)
        obtain ⟨y, hye⟩ : ∃ y, lv t p j q = y := ⟨_, rfl⟩
        rw [hye] at hy hyb
        (repeat' (first | (with_reducible refine w_seq ?_) | (with_reducible refine c_region ?_) | (with_reducible refine s_nil ?_) | (with_reducible refine q_then_n ?_) | ((with_reducible apply s_pure hF); exact rfl; exact rfl; exact rfl; (first | exact trivial | omega | decide); clear hF a; intro a hF) | ((with_reducible apply c_dec hF); exact rfl; all_goals intro hc; all_goals (try (exfalso; omega)))))
        refine c_draw (fun i => Nat.ble 16 i) hM ?_; clear hM; intro w hM
        (first | (refine t_pure (i := 0) hF rfl rfl rfl rfl (by kernel_rfl) hM.sm (fun _ _ _ h => h) ?_ ?_; (first | exact trivial | omega | decide); clear hF a; intro a hF))
        (first | (refine t_pure (i := 1) hF rfl rfl rfl rfl (by kernel_rfl) hM.sm (fun _ _ _ h => h) ?_ ?_; (first | exact trivial | omega | decide); clear hF a; intro a hF))
        (first | (refine t_pure (i := 2) hF rfl rfl rfl rfl (by kernel_rfl) hM.sm (fun _ _ _ h => h) ?_ ?_; (first | exact trivial | omega | decide); clear hF a; intro a hF))
        (first | (refine t_pure (i := 3) hF rfl rfl rfl rfl (by kernel_rfl) hM.sm (fun _ _ _ h => h) ?_ ?_; (first | exact trivial | omega | decide); clear hF a; intro a hF))
        (first | (apply t_load (i := 4) hF rfl rfl rfl; (repeat (first | exact List.mem_cons_self | refine List.mem_cons_of_mem _ ?_)); exact rfl; exact rfl; kernel_rfl; exact hM.sm; exact (fun _ _ _ h => h); clear hF a; intro a hF))
        (first | (refine t_pure (i := 5) hF rfl rfl rfl rfl (by kernel_rfl) hM.sm (fun _ _ _ h => h) ?_ ?_; (first | exact trivial | omega | decide); clear hF a; intro a hF))
        rw [hjz] at hF
        (first | (refine t_pure (i := 6) hF rfl rfl rfl rfl (by kernel_rfl) (hM.sm.sub (fun x hx => by repeat (first | exact hx | refine List.mem_cons_of_mem _ ?_)) (fun _ h => by repeat (first | exact h | refine List.mem_cons_of_mem _ ?_))) (fun _ _ _ h => h) ?_ ?_; (first | exact trivial | omega | decide); clear hF a; intro a hF))
        (first | (refine t_pure (i := 8) hF rfl rfl rfl rfl (by kernel_rfl) (hM.sm.sub (fun x hx => by repeat (first | exact hx | refine List.mem_cons_of_mem _ ?_)) (fun _ h => by repeat (first | exact h | refine List.mem_cons_of_mem _ ?_))) (fun _ _ _ h => h) ?_ ?_; (first | exact trivial | omega | decide); clear hF a; intro a hF))
        (first | (apply t_load (i := 9) hF rfl rfl rfl; (repeat (first | exact List.mem_cons_self | refine List.mem_cons_of_mem _ ?_)); exact rfl; exact rfl; kernel_rfl; exact (hM.sm.sub (fun x hx => by repeat (first | exact hx | refine List.mem_cons_of_mem _ ?_)) (fun _ h => by repeat (first | exact h | refine List.mem_cons_of_mem _ ?_))); exact (fun _ _ _ h => h); clear hF a; intro a hF))
        (first | (refine t_pure (i := 10) hF rfl rfl rfl rfl (by kernel_rfl) (hM.sm.sub (fun x hx => by repeat (first | exact hx | refine List.mem_cons_of_mem _ ?_)) (fun _ h => by repeat (first | exact h | refine List.mem_cons_of_mem _ ?_))) (fun _ _ _ h => h) ?_ ?_; (first | exact trivial | omega | decide); clear hF a; intro a hF))
        (first | (refine t_pure (i := 11) hF rfl rfl rfl rfl (by kernel_rfl) (hM.sm.sub (fun x hx => by repeat (first | exact hx | refine List.mem_cons_of_mem _ ?_)) (fun _ h => by repeat (first | exact h | refine List.mem_cons_of_mem _ ?_))) (fun _ _ _ h => h) ?_ ?_; (first | exact trivial | omega | decide); clear hF a; intro a hF))
        (first | (refine t_pure (i := 12) hF rfl rfl rfl rfl (by kernel_rfl) (hM.sm.sub (fun x hx => by repeat (first | exact hx | refine List.mem_cons_of_mem _ ?_)) (fun _ h => by repeat (first | exact h | refine List.mem_cons_of_mem _ ?_))) (fun _ _ _ h => h) ?_ ?_; (first | exact trivial | omega | decide); clear hF a; intro a hF))
        (first | (apply t_loadF (i := 13) hF rfl rfl rfl; (repeat (first | exact List.mem_cons_self | refine List.mem_cons_of_mem _ ?_)); (first | with_reducible assumption | (simp only [Int.toNat_natCast]; with_reducible assumption)); exact rfl; exact rfl; kernel_rfl; exact (hM.sm.sub (fun x hx => by repeat (first | exact hx | refine List.mem_cons_of_mem _ ?_)) (fun _ h => by repeat (first | exact h | refine List.mem_cons_of_mem _ ?_))); exact (fun _ _ _ h => h); clear hF a; intro a hF))
        refine t_one (i := 7) hF rfl (by kernel_rfl) rfl ?_
        intro K hK
        ((apply x_loadR hF hM); exact rfl; (repeat (first | exact List.mem_cons_self | refine List.mem_cons_of_mem _ ?_)); exact rfl; exact rfl; (first | with_reducible assumption | (simp only [Int.toNat_natCast]; with_reducible assumption)); clear hF a; intro a hF)
        refine hK _ _ (fun _ => (hM.sm.sub (fun x hx => by repeat (first | exact hx | refine List.mem_cons_of_mem _ ?_)) (fun _ h => by repeat (first | exact h | refine List.mem_cons_of_mem _ ?_)))) ?_; clear hK
        (first | (refine t_pure (i := 14) hF rfl rfl rfl rfl (by kernel_rfl) (hM.sm.sub (fun x hx => by repeat (first | exact hx | refine List.mem_cons_of_mem _ ?_)) (fun _ h => by repeat (first | exact h | refine List.mem_cons_of_mem _ ?_))) (fun _ _ _ h => h) ?_ ?_; (first | exact trivial | omega | decide); clear hF a; intro a hF))
        (first | (refine t_pure (i := 15) hF rfl rfl rfl rfl (by kernel_rfl) (hM.sm.sub (fun x hx => by repeat (first | exact hx | refine List.mem_cons_of_mem _ ?_)) (fun _ h => by repeat (first | exact h | refine List.mem_cons_of_mem _ ?_))) (fun _ _ _ h => h) ?_ ?_; (first | exact trivial | omega | decide); clear hF a; intro a hF))
        refine t_one (i := 16) hF rfl (by kernel_rfl) rfl ?_
        intro K hK
        ((apply x_storeR hF hM); exact rfl; (repeat (first | exact Kth.z | apply Kth.s)); exact rfl; exact rfl; exact rfl; exact rfl; (first | assumption | omega | (simp only [List.length_set]; omega) | (simp only [Int.toNat_natCast, List.length_set]; omega)); clear hF hM a; intro w a hM hF; dsimp only [List.set] at hM)
        refine hK _ _ (fun h => by cases h) ?_; clear hK
        refine t_done (by kernel_rfl) ?_
        refine q_cut ⟨LL.set j (y + x), by simpa using hLl, fun g hg hgN => ?_, hF.sub (by repeat (first | exact Sub.nil | refine Sub.cons rfl (by first | with_reducible rfl | (refine congrArg (Value.int _) ?_; omega) | exact rfl) ?_)), hM⟩
        rw [List.getElem?_set]
        by_cases e : j = g
        · subst e
          rw [if_pos rfl, if_pos (by omega), ← hye]
          have h1 : j * p ≤ q := by rw [← hj]; exact Nat.div_mul_le_self q p
          have h2 : q < (j + 1) * p := by rw [← hj, Nat.mul_comm]; exact Nat.lt_mul_div_succ q (by omega)
          have h3 := wr_in h1 h2 hx
          congr 1
          omega
        · rw [if_neg e, hLL' g hg hgN, wr_other hp1 (by rw [hj]; exact e)]
          congr 1
          omega
      · (repeat' (first | (with_reducible refine w_seq ?_) | (with_reducible refine c_region ?_) | (with_reducible refine s_nil ?_) | (with_reducible refine q_then_n ?_) | ((with_reducible apply s_pure hF); exact rfl; exact rfl; exact rfl; (first | exact trivial | omega | decide); clear hF a; intro a hF) | (with_reducible refine w_skip ?_) | ((with_reducible apply c_dec hF); exact rfl; all_goals intro hc; all_goals (try (exfalso; omega)))))
        refine q_cut ⟨LL, hLl, fun g hg hgN => ?_, hF.sub (by repeat (first | exact Sub.nil | refine Sub.cons rfl (by first | with_reducible rfl | (refine congrArg (Value.int _) ?_; omega) | exact rfl) ?_)), hM⟩
        rw [hLL' g hg hgN, wr_out (by omega)]
        congr 1
        omega
    clear hF hM hLl hLL hLL' a
    rintro a w ⟨LL, hLl, hLL, hF, hM⟩
    have hfp : ((f : Int) + 1) * (p : Int) = (((f + 1) * p : Nat) : Int) := by rw [Int.natCast_mul]; simp
    have hst : ∀ g, f ≤ g → g < N → lv t p g (q + 1) = lv t p g q + (wr t p g (q + 1) - wr t p g q) - (if g = f ∧ (f + 1) * p ≤ q then P56.capAt t.C q else 0) := fun g hg hgN => Sim.lv_step S he hpt hp1 hAt hg (by omega)
    by_cases hb : f < N ∧ (f + 1) * p ≤ q
    · obtain ⟨hb1, hb2⟩ := hb
      have hqf : q / p ≠ f := by
        have := (Nat.le_div_iff_mul_le (show 0 < p by omega)).2 hb2
        omega
      have hy := hLL f (Nat.le_refl _) hb1
      rw [wr_other hp1 hqf, Int.sub_self, Int.add_zero] at hy
      have hpos := busy_left S he hpt hp1 hAt (by omega) hb2
      have hyb := lv_bd S he hpt hp1 (now := q) (g := f) (by omega) (by omega)
      have hcb := P56.capAt_bd ok.c q
      have hstf := hst f (Nat.le_refl _) hb1
      rw [if_pos ⟨rfl, hb2⟩, wr_other hp1 hqf] at hstf
      obtain ⟨y, hye⟩ : ∃ y, lv t p f q = y := ⟨_, rfl⟩
      rw [hye] at hy hyb hpos hstf
      have hcap : ∀ (v : Value) (own : Nat → Prop) (W : World), (∀ b, own b → b < W.heap.size) → Has own W (IsTr · v t) → Calls Try.prog 23 ⟨[v, .int .i64 (z - 1)]⟩ W (Ret W fun u _ => u = .int .i64 (P56.capAt t.C q)) := fun v own W hl hv => by
        rw [show z - 1 = (q : Int) by omega]
        exact capacity_c t q v own W hl hv (by omega) (by omega)
      (repeat' (first | (with_reducible refine w_seq ?_) | (with_reducible refine c_region ?_) | (with_reducible refine s_nil ?_) | (with_reducible refine q_then_n ?_) | ((with_reducible apply s_pure hF); exact rfl; exact rfl; exact rfl; (first | exact trivial | omega | decide); clear hF a; intro a hF) | ((with_reducible apply s_load hF hM); exact rfl; exact rfl; (repeat (first | exact List.mem_cons_self | refine List.mem_cons_of_mem _ ?_)); exact rfl; exact rfl; clear hF a; intro a hF) | ((with_reducible apply s_loadR hF hM); exact rfl; exact rfl; (repeat (first | exact List.mem_cons_self | refine List.mem_cons_of_mem _ ?_)); exact rfl; exact rfl; (first | with_reducible assumption | (simp only [Int.toNat_natCast]; with_reducible assumption)); clear hF a; intro a hF) | ((with_reducible apply g_dec hF); exact rfl; exact rfl; all_goals (clear hF; intro hc hF); all_goals (try (exfalso; omega))) | ((with_reducible apply c_dec hF); exact rfl; all_goals intro hc; all_goals (try (exfalso; omega)))))
      refine c_draw (fun i => Nat.ble 10 i) hM ?_; clear hM; intro w hM
      (first | (refine t_pure (i := 0) hF rfl rfl rfl rfl (by kernel_rfl) hM.sm (fun _ _ _ h => h) ?_ ?_; (first | exact trivial | omega | decide); clear hF a; intro a hF))
      (first | (refine t_pure (i := 1) hF rfl rfl rfl rfl (by kernel_rfl) hM.sm (fun _ _ _ h => h) ?_ ?_; (first | exact trivial | omega | decide); clear hF a; intro a hF))
      (first | (refine t_pure (i := 2) hF rfl rfl rfl rfl (by kernel_rfl) hM.sm (fun _ _ _ h => h) ?_ ?_; (first | exact trivial | omega | decide); clear hF a; intro a hF))
      (first | (apply t_load (i := 4) hF rfl rfl rfl; (repeat (first | exact List.mem_cons_self | refine List.mem_cons_of_mem _ ?_)); exact rfl; exact rfl; kernel_rfl; exact hM.sm; exact (fun _ _ _ h => h); clear hF a; intro a hF))
      (first | (refine t_pure (i := 5) hF rfl rfl rfl rfl (by kernel_rfl) hM.sm (fun _ _ _ h => h) ?_ ?_; (first | exact trivial | omega | decide); clear hF a; intro a hF))
      (first | (refine t_pure (i := 6) hF rfl rfl rfl rfl (by kernel_rfl) hM.sm (fun _ _ _ h => h) ?_ ?_; (first | exact trivial | omega | decide); clear hF a; intro a hF))
      refine t_two (i := 3) (j := 7) hF rfl rfl (by kernel_rfl) rfl rfl ?_ ?_
      ·
        intro K hK
        ((apply x_loadR hF hM); exact rfl; (repeat (first | exact List.mem_cons_self | refine List.mem_cons_of_mem _ ?_)); exact rfl; exact rfl; (first | with_reducible assumption | (simp only [Int.toNat_natCast]; with_reducible assumption)); clear hF a; intro a hF)
        refine hK _ _ (fun _ => (hM.sm.sub (fun x hx => by repeat (first | exact hx | refine List.mem_cons_of_mem _ ?_)) (fun _ h => by repeat (first | exact h | refine List.mem_cons_of_mem _ ?_)))) ?_; clear hK
        refine t_one (i := 7) hF rfl (by kernel_rfl) rfl ?_
        intro K hK
        (apply x_call hF hM; exact rfl; exact rfl; exact rfl; exact rfl; exact (hcap _ _ _ hM.lt (hM.facts (IsTr · _ t) (by (repeat (first | exact List.mem_cons_self | refine List.mem_cons_of_mem _ ?_))))); clear hF hM a; rintro v w a rfl - hM hF)
        refine hK _ _ (fun _ => (hM.sm.sub (fun x hx => by repeat (first | exact hx | refine List.mem_cons_of_mem _ ?_)) (fun _ h => by repeat (first | exact h | refine List.mem_cons_of_mem _ ?_)))) ?_; clear hK
        (first | (refine t_pure (i := 8) hF rfl rfl rfl rfl (by kernel_rfl) (hM.sm.sub (fun x hx => by repeat (first | exact hx | refine List.mem_cons_of_mem _ ?_)) (fun _ h => by repeat (first | exact h | refine List.mem_cons_of_mem _ ?_))) (fun _ _ _ h => h) ?_ ?_; (first | exact trivial | omega | decide); clear hF a; intro a hF))
        (first | (refine t_pure (i := 9) hF rfl rfl rfl rfl (by kernel_rfl) (hM.sm.sub (fun x hx => by repeat (first | exact hx | refine List.mem_cons_of_mem _ ?_)) (fun _ h => by repeat (first | exact h | refine List.mem_cons_of_mem _ ?_))) (fun _ _ _ h => h) ?_ ?_; (first | exact trivial | omega | decide); clear hF a; intro a hF))
        refine t_one (i := 10) hF rfl (by kernel_rfl) rfl ?_
        intro K hK
        ((apply x_storeR hF hM); exact rfl; (repeat (first | exact Kth.z | apply Kth.s)); exact rfl; exact rfl; exact rfl; exact rfl; (first | assumption | omega | (simp only [List.length_set]; omega) | (simp only [Int.toNat_natCast, List.length_set]; omega)); clear hF hM a; intro w a hM hF; dsimp only [List.set] at hM)
        refine hK _ _ (fun h => by cases h) ?_; clear hK
        refine t_done (by kernel_rfl) ?_
        refine q_cut ⟨LL.set f (y - P56.capAt t.C q), by simpa using hLl, fun g hg hgN => ?_, hF.sub (by repeat (first | exact Sub.nil | refine Sub.cons rfl (by first | with_reducible rfl | (refine congrArg (Value.int _) ?_; omega) | exact rfl) ?_)), hM⟩
        rw [List.getElem?_set]
        by_cases e : f = g
        · subst e
          rw [if_pos rfl, if_pos (by omega), hstf]
          congr 1
          omega
        · rw [if_neg e, hLL g hg hgN, hst g hg hgN, if_neg (fun k => e k.1.symm)]
          congr 1
          omega
      ·
        intro K hK
        (apply x_call hF hM; exact rfl; exact rfl; exact rfl; exact rfl; exact (hcap _ _ _ hM.lt (hM.facts (IsTr · _ t) (by (repeat (first | exact List.mem_cons_self | refine List.mem_cons_of_mem _ ?_))))); clear hF hM a; rintro v w a rfl - hM hF)
        refine hK _ _ (fun _ => hM.sm) ?_; clear hK
        refine t_one (i := 3) hF rfl (by kernel_rfl) rfl ?_
        intro K hK
        ((apply x_loadR hF hM); exact rfl; (repeat (first | exact List.mem_cons_self | refine List.mem_cons_of_mem _ ?_)); exact rfl; exact rfl; (first | with_reducible assumption | (simp only [Int.toNat_natCast]; with_reducible assumption)); clear hF a; intro a hF)
        refine hK _ _ (fun _ => (hM.sm.sub (fun x hx => by repeat (first | exact hx | refine List.mem_cons_of_mem _ ?_)) (fun _ h => by repeat (first | exact h | refine List.mem_cons_of_mem _ ?_)))) ?_; clear hK
        (first | (refine t_pure (i := 8) hF rfl rfl rfl rfl (by kernel_rfl) (hM.sm.sub (fun x hx => by repeat (first | exact hx | refine List.mem_cons_of_mem _ ?_)) (fun _ h => by repeat (first | exact h | refine List.mem_cons_of_mem _ ?_))) (fun _ _ _ h => h) ?_ ?_; (first | exact trivial | omega | decide); clear hF a; intro a hF))
        (first | (refine t_pure (i := 9) hF rfl rfl rfl rfl (by kernel_rfl) (hM.sm.sub (fun x hx => by repeat (first | exact hx | refine List.mem_cons_of_mem _ ?_)) (fun _ h => by repeat (first | exact h | refine List.mem_cons_of_mem _ ?_))) (fun _ _ _ h => h) ?_ ?_; (first | exact trivial | omega | decide); clear hF a; intro a hF))
        refine t_one (i := 10) hF rfl (by kernel_rfl) rfl ?_
        intro K hK
        ((apply x_storeR hF hM); exact rfl; (repeat (first | exact Kth.z | apply Kth.s)); exact rfl; exact rfl; exact rfl; exact rfl; (first | assumption | omega | (simp only [List.length_set]; omega) | (simp only [Int.toNat_natCast, List.length_set]; omega)); clear hF hM a; intro w a hM hF; dsimp only [List.set] at hM)
        refine hK _ _ (fun h => by cases h) ?_; clear hK
        refine t_done (by kernel_rfl) ?_
        refine q_cut ⟨LL.set f (y - P56.capAt t.C q), by simpa using hLl, fun g hg hgN => ?_, hF.sub (by repeat (first | exact Sub.nil | refine Sub.cons rfl (by first | with_reducible rfl | (refine congrArg (Value.int _) ?_; omega) | exact rfl) ?_)), hM⟩
        rw [List.getElem?_set]
        by_cases e : f = g
        · subst e
          rw [if_pos rfl, if_pos (by omega), hstf]
          congr 1
          omega
        · rw [if_neg e, hLL g hg hgN, hst g hg hgN, if_neg (fun k => e k.1.symm)]
          congr 1
          omega
    · (repeat' (first | (with_reducible refine w_seq ?_) | (with_reducible refine c_region ?_) | (with_reducible refine s_nil ?_) | (with_reducible refine q_then_n ?_) | ((with_reducible apply s_pure hF); exact rfl; exact rfl; exact rfl; (first | exact trivial | omega | decide); clear hF a; intro a hF) | ((with_reducible apply s_load hF hM); exact rfl; exact rfl; (repeat (first | exact List.mem_cons_self | refine List.mem_cons_of_mem _ ?_)); exact rfl; exact rfl; clear hF a; intro a hF) | (with_reducible refine w_skip ?_) | ((with_reducible apply c_false hF); exact rfl) | ((with_reducible apply s_skip hF); exact rfl; exact rfl; clear hF a; intro a hF) | ((with_reducible apply g_dec hF); exact rfl; exact rfl; all_goals (clear hF; intro hc hF); all_goals (try (exfalso; omega)))))
      all_goals
        refine q_cut ⟨LL, hLl, fun g hg hgN => ?_, hF.sub (by repeat (first | exact Sub.nil | refine Sub.cons rfl (by first | with_reducible rfl | (refine congrArg (Value.int _) ?_; omega) | exact rfl) ?_)), hM⟩
        rw [hLL g hg hgN, hst g hg hgN, if_neg (fun k => hb ⟨by omega, k.2⟩)]
        congr 1
        omega
  clear hF hM hLl hLL a
  rintro a w ⟨LL, hLl, hLL, hF, hM⟩
  (repeat' (first | (with_reducible refine w_seq ?_) | (with_reducible refine w_block ?_)))
  refine c_loop (m := N - f) (fun m a w' => ∃ g, m + g = N ∧ f ≤ g ∧ (∀ k, k < g → P56.en t (k + 1) ≤ now) ∧
    Fr 205 [] [(14, .int .i64 z), (13, .int .i64 ((N : Int) - Kn)), (12, .int .i64 ((Kn * p : Nat) : Int)), (11, .int .i64 (Sim.age t p now Kn)), (10, .int .i64 g), (1, .pointer (some ⟨b1, 0, none⟩)), (3, .pointer (some ⟨b, 0, none⟩)), (5, .int .i64 t.W.length), (6, .int .i64 N), (7, .slice (some ⟨gl, 0, none⟩) N N), (8, .slice (some ⟨gd, 0, none⟩) N N)] a ∧
    Mm (fun _ => False) W [⟨b, ⟨[.slice x1 N y1, .slice x2 N y2, .slice x3 N y3, .slice x4 N y4, .int .i64 (P56.boundR t)]⟩, 28⟩, ⟨b1, ⟨[.slice a0 t.W.length c0, .slice a1 t.C.length c1, .int .i64 p, .int .i64 t.L, .int .i64 t.A]⟩, 24⟩]
      [⟨3, 1, .slice (some ⟨gd, 0, none⟩) N N, N, (dn t g N).map (Value.int .i64)⟩, ⟨3, 1, .slice (some ⟨gl, 0, none⟩) N N, N, (LL).map (Value.int .i64)⟩]
      [RdF (Value.int .i64) x3 (P56.ens t N), RdF (Value.int .i64) a0 t.W, (IsTr · (.agg #[.slice a0 t.W.length c0, .slice a1 t.C.length c1, .int .i64 p, .int .i64 t.L, .int .i64 t.A]) t)] w') ⟨f, by omega, Nat.le_refl _, fun k hk => by have := hAt.before k hk; omega, hF.sub (by repeat (first | exact Sub.nil | refine Sub.cons rfl (by first | with_reducible rfl | (refine congrArg (Value.int _) ?_; omega) | exact rfl) ?_)), hM⟩ ?_
  clear hF hM a
  rintro mw a w' ⟨g, hmg, hfg, hbef, hF, hM⟩
  have heg : P56.en t g ≤ now := by
    rcases Nat.eq_zero_or_pos g with h | h
    · rw [h]; exact Nat.zero_le _
    · have := hbef (g - 1) (by omega)
      rwa [show g - 1 + 1 = g by omega] at this
  have hmg2 := P56.mul_bd (k := g) (p := p) (by omega) (by omega)
  have hgp : ((g : Int) + 1) * (p : Int) = (((g + 1) * p : Nat) : Int) := by rw [Int.natCast_mul]; simp
  by_cases hE : g < N ∧ P56.en t (g + 1) ≤ now
  · obtain ⟨hgN, hE⟩ := hE
    obtain ⟨hE1, hE2⟩ := (ended S he hpt hp1 (now := now) (g := g) (by omega) heg).2 hE
    have hy := hLL g hfg hgN
    obtain ⟨y, hye⟩ : ∃ y, lv t p g now = y := ⟨_, rfl⟩
    rw [hye] at hy hE2
    have hzg : z = (P56.en t (g + 1) : Int) := by
      have h1 := hAt.after (by omega)
      have h2 := en_le' S he (k := f + 1) (j := g + 1) (by omega) (by omega)
      omega
    have hdl := dn_len t g N
    (repeat' (first | (with_reducible refine w_seq ?_) | (with_reducible refine c_region ?_) | (with_reducible refine s_nil ?_) | ((with_reducible apply s_storeR hF hM); exact rfl; exact rfl; (repeat (first | exact Kth.z | apply Kth.s)); exact rfl; exact rfl; exact rfl; exact rfl; (first | assumption | omega | (simp only [List.length_set]; omega) | (simp only [Int.toNat_natCast, List.length_set]; omega)); clear hM; intro w hM; dsimp only [List.set] at hM) | (with_reducible refine q_then_n ?_) | ((with_reducible apply s_pure hF); exact rfl; exact rfl; exact rfl; (first | exact trivial | omega | decide); clear hF a; intro a hF) | ((with_reducible apply s_load hF hM); exact rfl; exact rfl; (repeat (first | exact List.mem_cons_self | refine List.mem_cons_of_mem _ ?_)); exact rfl; exact rfl; clear hF a; intro a hF) | ((with_reducible apply s_loadR hF hM); exact rfl; exact rfl; (repeat (first | exact List.mem_cons_self | refine List.mem_cons_of_mem _ ?_)); exact rfl; exact rfl; (first | with_reducible assumption | (simp only [Int.toNat_natCast]; with_reducible assumption)); clear hF a; intro a hF) | (with_reducible refine w_skip ?_) | (with_reducible refine w_block ?_) | (with_reducible refine q_blk_n ?_) | ((with_reducible apply g_dec hF); exact rfl; exact rfl; all_goals (clear hF; intro hc hF); all_goals (try (exfalso; omega))) | ((with_reducible apply c_dec hF); exact rfl; all_goals intro hc; all_goals (try (exfalso; omega)))))
    rw [hzg, Int.toNat_natCast, dn_set t hgN] at hM
    exact ⟨mw - 1, by omega, g + 1, by omega, by omega, fun k hk => by
      by_cases e : k = g
      · subst e; exact hE
      · exact hbef k (by omega), hF.sub (by repeat (first | exact Sub.nil | refine Sub.cons rfl (by first | with_reducible rfl | (refine congrArg (Value.int _) ?_; omega) | exact rfl) ?_)), hM⟩
  have hnot : g < N → (g + 1) * p ≤ now → 0 < lv t p g now := fun h1 h2 => by
    rcases Int.lt_or_le 0 (lv t p g now) with h | h
    · exact h
    · exact absurd ⟨h1, (ended S he hpt hp1 (now := now) (g := g) (by omega) heg).1 ⟨h2, h⟩⟩ hE
  have hAt' : At t (now + 1) g := ⟨by omega, fun k hk => by have := hbef k hk; omega, fun h => by
    rcases Nat.lt_or_ge now (P56.en t (g + 1)) with h1 | h1
    · exact h1
    · exact absurd ⟨by omega, h1⟩ hE⟩
  have hgr : ∀ k, g ≤ k → k < N → now < P56.en t (k + 1) := fun k h1 h2 => by
    have h3 := hAt'.after (by omega)
    have h4 := en_le' S he (k := g + 1) (j := k + 1) (by omega) (by omega)
    omega
  have hgo : g < N → (g + 1) * p ≤ now → ∃ y, LL[g]? = some y ∧ 0 < y := fun h1 h2 => ⟨_, hLL g hfg h1, hnot h1 h2⟩
  by_cases hgb : g < N ∧ (g + 1) * p ≤ now
  case pos =>
    obtain ⟨y, hy, hyp⟩ := hgo hgb.1 hgb.2
    (repeat' (first | (with_reducible refine w_seq ?_) | (with_reducible refine c_region ?_) | (with_reducible refine s_nil ?_) | (with_reducible refine q_then_n ?_) | ((with_reducible apply s_pure hF); exact rfl; exact rfl; exact rfl; (first | exact trivial | omega | decide); clear hF a; intro a hF) | ((with_reducible apply s_load hF hM); exact rfl; exact rfl; (repeat (first | exact List.mem_cons_self | refine List.mem_cons_of_mem _ ?_)); exact rfl; exact rfl; clear hF a; intro a hF) | ((with_reducible apply s_loadR hF hM); exact rfl; exact rfl; (repeat (first | exact List.mem_cons_self | refine List.mem_cons_of_mem _ ?_)); exact rfl; exact rfl; (first | with_reducible assumption | (simp only [Int.toNat_natCast]; with_reducible assumption)); clear hF a; intro a hF) | (with_reducible refine w_block ?_) | (with_reducible refine w_exit ?_) | (with_reducible refine q_then_x ?_) | (with_reducible refine q_blk_x ?_) | ((with_reducible apply g_dec hF); exact rfl; exact rfl; all_goals (clear hF; intro hc hF); all_goals (try (exfalso; omega))) | ((with_reducible apply c_dec hF); exact rfl; all_goals intro hc; all_goals (try (exfalso; omega)))))
    refine c_loop (m := N) (fun m a w' => ∃ k K1, m + k = N ∧ Kn ≤ K1 ∧ K1 ≤ max Kn k ∧ K1 ≤ N ∧ (∀ j, j < K1 → P56.ap t j ≤ now) ∧ (∀ j, K1 ≤ j → j < k → (now : Int) < P56.ap t j) ∧
      Fr 205 [] [(153, .int .i64 k), (152, .int .i64 N), (14, .int .i64 z), (13, .int .i64 ((N : Int) - K1)), (12, .int .i64 ((K1 * p : Nat) : Int)), (11, .int .i64 (Sim.age t p now Kn)), (10, .int .i64 g), (1, .pointer (some ⟨b1, 0, none⟩)), (3, .pointer (some ⟨b, 0, none⟩)), (5, .int .i64 t.W.length), (6, .int .i64 N), (7, .slice (some ⟨gl, 0, none⟩) N N), (8, .slice (some ⟨gd, 0, none⟩) N N)] a ∧
      Mm (fun _ => False) W [⟨b, ⟨[.slice x1 N y1, .slice x2 N y2, .slice x3 N y3, .slice x4 N y4, .int .i64 (P56.boundR t)]⟩, 28⟩, ⟨b1, ⟨[.slice a0 t.W.length c0, .slice a1 t.C.length c1, .int .i64 p, .int .i64 t.L, .int .i64 t.A]⟩, 24⟩]
          [⟨3, 1, .slice (some ⟨gd, 0, none⟩) N N, N, (dn t g N).map (Value.int .i64)⟩, ⟨3, 1, .slice (some ⟨gl, 0, none⟩) N N, N, (LL).map (Value.int .i64)⟩]
          [RdF (Value.int .i64) x3 (P56.ens t N), RdF (Value.int .i64) a0 t.W, (IsTr · (.agg #[.slice a0 t.W.length c0, .slice a1 t.C.length c1, .int .i64 p, .int .i64 t.L, .int .i64 t.A]) t)] w') ⟨0, Kn, by omega, Nat.le_refl _, by omega, by omega, fun j hj => by have := hAp.before j hj; omega, fun j _ hj => by omega, hF.sub (by repeat (first | exact Sub.nil | refine Sub.cons rfl (by first | with_reducible rfl | (refine congrArg (Value.int _) ?_; omega) | exact rfl) ?_)), hM⟩ ?_
    clear hF hM a
    rintro mk a w' ⟨k, K1, hmk, hKK, hKk, hK1N, hbK, haK, hF, hM⟩
    by_cases hkN : k < N
    · have hapd : P56.ap t k = (P56.en t (k + 1) : Int) + t.L + t.A := rfl
      have hap0 := ap_near S he hpt hp1 (k := k) (by omega)
      have hmk2 := P56.mul_bd (k := k) (p := p) (by omega) (by omega)
      have hkp : ((k : Int) + 1) * (p : Int) = (((k + 1) * p : Nat) : Int) := by rw [Int.natCast_mul]; simp
      have hdk := dn_get t (f := g) hkN
      have hafK := fun h => hAp.after k h (by omega)
      by_cases hkg : k < g
      · rw [if_pos hkg] at hdk
        (repeat' (first | (with_reducible refine w_seq ?_) | (with_reducible refine c_region ?_) | (with_reducible refine s_nil ?_) | (with_reducible refine q_then_n ?_) | ((with_reducible apply s_pure hF); exact rfl; exact rfl; exact rfl; (first | exact trivial | omega | decide); clear hF a; intro a hF) | (with_reducible refine w_skip ?_) | (with_reducible refine w_block ?_) | ((with_reducible apply c_dec hF); exact rfl; all_goals intro hc; all_goals (try (exfalso; omega)))))
        refine c_draw (fun i => Nat.ble 19 i) hM ?_; clear hM; intro w hM
        (first | (refine t_pure (i := 0) hF rfl rfl rfl rfl (by kernel_rfl) hM.sm (fun _ _ _ h => h) ?_ ?_; (first | exact trivial | omega | decide); clear hF a; intro a hF))
        (first | (refine t_pure (i := 1) hF rfl rfl rfl rfl (by kernel_rfl) hM.sm (fun _ _ _ h => h) ?_ ?_; (first | exact trivial | omega | decide); clear hF a; intro a hF))
        (first | (refine t_pure (i := 2) hF rfl rfl rfl rfl (by kernel_rfl) hM.sm (fun _ _ _ h => h) ?_ ?_; (first | exact trivial | omega | decide); clear hF a; intro a hF))
        refine t_one (i := 3) hF rfl (by kernel_rfl) rfl ?_
        intro K hK
        ((apply x_loadR hF hM); exact rfl; (repeat (first | exact List.mem_cons_self | refine List.mem_cons_of_mem _ ?_)); exact rfl; exact rfl; (first | with_reducible assumption | (simp only [Int.toNat_natCast]; with_reducible assumption)); clear hF a; intro a hF)
        refine hK _ _ (fun _ => (hM.sm.sub (fun x hx => by repeat (first | exact hx | refine List.mem_cons_of_mem _ ?_)) (fun _ h => by repeat (first | exact h | refine List.mem_cons_of_mem _ ?_)))) ?_; clear hK
        (first | (refine t_pure (i := 4) hF rfl rfl rfl rfl (by kernel_rfl) (hM.sm.sub (fun x hx => by repeat (first | exact hx | refine List.mem_cons_of_mem _ ?_)) (fun _ h => by repeat (first | exact h | refine List.mem_cons_of_mem _ ?_))) (fun _ _ _ h => h) ?_ ?_; (first | exact trivial | omega | decide); clear hF a; intro a hF))
        rw [show decide ((0 : Int) ≤ (P56.en t (k + 1) : Int)) = true from decide_eq_true (by omega)] at hF
        (first | (refine t_pure (i := 5) hF rfl rfl rfl rfl (by kernel_rfl) (hM.sm.sub (fun x hx => by repeat (first | exact hx | refine List.mem_cons_of_mem _ ?_)) (fun _ h => by repeat (first | exact h | refine List.mem_cons_of_mem _ ?_))) (fun _ _ _ h => h) ?_ ?_; (first | exact trivial | omega | decide); clear hF a; intro a hF))
        (first | (refine t_pure (i := 6) hF rfl rfl rfl rfl (by kernel_rfl) (hM.sm.sub (fun x hx => by repeat (first | exact hx | refine List.mem_cons_of_mem _ ?_)) (fun _ h => by repeat (first | exact h | refine List.mem_cons_of_mem _ ?_))) (fun _ _ _ h => h) ?_ ?_; (first | exact trivial | omega | decide); clear hF a; intro a hF))
        (first | (refine t_pure (i := 7) hF rfl rfl rfl rfl (by kernel_rfl) (hM.sm.sub (fun x hx => by repeat (first | exact hx | refine List.mem_cons_of_mem _ ?_)) (fun _ h => by repeat (first | exact h | refine List.mem_cons_of_mem _ ?_))) (fun _ _ _ h => h) ?_ ?_; (first | exact trivial | omega | decide); clear hF a; intro a hF))
        (first | (refine t_pure (i := 8) hF rfl rfl rfl rfl (by kernel_rfl) (hM.sm.sub (fun x hx => by repeat (first | exact hx | refine List.mem_cons_of_mem _ ?_)) (fun _ h => by repeat (first | exact h | refine List.mem_cons_of_mem _ ?_))) (fun _ _ _ h => h) ?_ ?_; (first | exact trivial | omega | decide); clear hF a; intro a hF))
        (first | (refine t_pure (i := 10) hF rfl rfl rfl rfl (by kernel_rfl) (hM.sm.sub (fun x hx => by repeat (first | exact hx | refine List.mem_cons_of_mem _ ?_)) (fun _ h => by repeat (first | exact h | refine List.mem_cons_of_mem _ ?_))) (fun _ _ _ h => h) ?_ ?_; (first | exact trivial | omega | decide); clear hF a; intro a hF))
        (first | (apply t_load (i := 11) hF rfl rfl rfl; (repeat (first | exact List.mem_cons_self | refine List.mem_cons_of_mem _ ?_)); exact rfl; exact rfl; kernel_rfl; exact (hM.sm.sub (fun x hx => by repeat (first | exact hx | refine List.mem_cons_of_mem _ ?_)) (fun _ h => by repeat (first | exact h | refine List.mem_cons_of_mem _ ?_))); exact (fun _ _ _ h => h); clear hF a; intro a hF))
        (first | (refine t_pure (i := 13) hF rfl rfl rfl rfl (by kernel_rfl) (hM.sm.sub (fun x hx => by repeat (first | exact hx | refine List.mem_cons_of_mem _ ?_)) (fun _ h => by repeat (first | exact h | refine List.mem_cons_of_mem _ ?_))) (fun _ _ _ h => h) ?_ ?_; (first | exact trivial | omega | decide); clear hF a; intro a hF))
        (first | (apply t_load (i := 14) hF rfl rfl rfl; (repeat (first | exact List.mem_cons_self | refine List.mem_cons_of_mem _ ?_)); exact rfl; exact rfl; kernel_rfl; exact (hM.sm.sub (fun x hx => by repeat (first | exact hx | refine List.mem_cons_of_mem _ ?_)) (fun _ h => by repeat (first | exact h | refine List.mem_cons_of_mem _ ?_))); exact (fun _ _ _ h => h); clear hF a; intro a hF))
        (first | (refine t_pure (i := 16) hF rfl rfl rfl rfl (by kernel_rfl) (hM.sm.sub (fun x hx => by repeat (first | exact hx | refine List.mem_cons_of_mem _ ?_)) (fun _ h => by repeat (first | exact h | refine List.mem_cons_of_mem _ ?_))) (fun _ _ _ h => h) ?_ ?_; (first | exact trivial | omega | decide); clear hF a; intro a hF))
        refine t_one (i := 9) hF rfl (by kernel_rfl) rfl ?_
        intro K hK
        ((apply x_loadR hF hM); exact rfl; (repeat (first | exact List.mem_cons_self | refine List.mem_cons_of_mem _ ?_)); exact rfl; exact rfl; (first | with_reducible assumption | (simp only [Int.toNat_natCast]; with_reducible assumption)); clear hF a; intro a hF)
        refine hK _ _ (fun _ => (hM.sm.sub (fun x hx => by repeat (first | exact hx | refine List.mem_cons_of_mem _ ?_)) (fun _ h => by repeat (first | exact h | refine List.mem_cons_of_mem _ ?_)))) ?_; clear hK
        (first | (refine t_pure (i := 12) hF rfl rfl rfl rfl (by kernel_rfl) (hM.sm.sub (fun x hx => by repeat (first | exact hx | refine List.mem_cons_of_mem _ ?_)) (fun _ h => by repeat (first | exact h | refine List.mem_cons_of_mem _ ?_))) (fun _ _ _ h => h) ?_ ?_; (first | exact trivial | omega | decide); clear hF a; intro a hF))
        (first | (refine t_pure (i := 15) hF rfl rfl rfl rfl (by kernel_rfl) (hM.sm.sub (fun x hx => by repeat (first | exact hx | refine List.mem_cons_of_mem _ ?_)) (fun _ h => by repeat (first | exact h | refine List.mem_cons_of_mem _ ?_))) (fun _ _ _ h => h) ?_ ?_; (first | exact trivial | omega | decide); clear hF a; intro a hF))
        (first | (refine t_pure (i := 17) hF rfl rfl rfl rfl (by kernel_rfl) (hM.sm.sub (fun x hx => by repeat (first | exact hx | refine List.mem_cons_of_mem _ ?_)) (fun _ h => by repeat (first | exact h | refine List.mem_cons_of_mem _ ?_))) (fun _ _ _ h => h) ?_ ?_; (first | exact trivial | omega | decide); clear hF a; intro a hF))
        (first | (refine t_pure (i := 18) hF rfl rfl rfl rfl (by kernel_rfl) (hM.sm.sub (fun x hx => by repeat (first | exact hx | refine List.mem_cons_of_mem _ ?_)) (fun _ h => by repeat (first | exact h | refine List.mem_cons_of_mem _ ?_))) (fun _ _ _ h => h) ?_ ?_; (first | exact trivial | omega | decide); clear hF a; intro a hF))
        refine t_done (by kernel_rfl) ?_
        by_cases hap : P56.ap t k = (now : Int)
        · have hKe : K1 = k := by
            have h1 : Kn ≤ k := by
              rcases Nat.lt_or_ge k Kn with h | h
              · have := hAp.before k h; omega
              · exact h
            have h2 : k ≤ K1 := by
              rcases Nat.lt_or_ge K1 k with h | h
              · have := haK K1 (Nat.le_refl _) h
                have := ap_le' S he (k := K1) (j := k) (by omega) (by omega)
                omega
              · exact h
            omega
          (repeat' (first | (with_reducible refine w_seq ?_) | (with_reducible refine c_region ?_) | (with_reducible refine s_nil ?_) | (with_reducible refine q_then_n ?_) | ((with_reducible apply s_pure hF); exact rfl; exact rfl; exact rfl; (first | exact trivial | omega | decide); clear hF a; intro a hF) | ((with_reducible apply s_load hF hM); exact rfl; exact rfl; (repeat (first | exact List.mem_cons_self | refine List.mem_cons_of_mem _ ?_)); exact rfl; exact rfl; clear hF a; intro a hF) | (with_reducible refine q_blk_n ?_) | ((with_reducible apply c_dec hF); exact rfl; all_goals intro hc; all_goals (try (exfalso; omega)))))
          exact ⟨mk - 1, by omega, k + 1, k + 1, by omega, by omega, by omega, by omega, fun j hj => by
            have := ap_le' S he (k := j) (j := k) (by omega) (by omega)
            omega, fun j h1 h2 => by omega, hF.sub (by repeat (first | exact Sub.nil | refine Sub.cons rfl (by first | with_reducible rfl | (refine congrArg (Value.int _) ?_; omega) | exact rfl) ?_)), hM⟩
        · (repeat' (first | (with_reducible refine c_region ?_) | (with_reducible refine s_nil ?_) | (with_reducible refine q_then_n ?_) | ((with_reducible apply s_pure hF); exact rfl; exact rfl; exact rfl; (first | exact trivial | omega | decide); clear hF a; intro a hF) | (with_reducible refine w_skip ?_) | (with_reducible refine q_blk_n ?_) | ((with_reducible apply c_dec hF); exact rfl; all_goals intro hc; all_goals (try (exfalso; omega)))))
          exact ⟨mk - 1, by omega, k + 1, K1, by omega, hKK, by omega, hK1N, hbK, fun j h1 h2 => by
            by_cases e : j = k
            · subst e
              have : Kn ≤ j := by omega
              have := hafK this
              omega
            · exact haK j h1 (by omega), hF.sub (by repeat (first | exact Sub.nil | refine Sub.cons rfl (by first | with_reducible rfl | (refine congrArg (Value.int _) ?_; omega) | exact rfl) ?_)), hM⟩
      · first
        | exfalso
          omega
        | rw [if_neg hkg] at hdk
          have hgk := hgr k (by omega) hkN
          (repeat' (first | (with_reducible refine w_seq ?_) | (with_reducible refine c_region ?_) | (with_reducible refine s_nil ?_) | (with_reducible refine q_then_n ?_) | ((with_reducible apply s_pure hF); exact rfl; exact rfl; exact rfl; (first | exact trivial | omega | decide); clear hF a; intro a hF) | (with_reducible refine w_skip ?_) | (with_reducible refine w_block ?_) | ((with_reducible apply c_dec hF); exact rfl; all_goals intro hc; all_goals (try (exfalso; omega)))))
          refine c_draw (fun i => Nat.ble 19 i) hM ?_; clear hM; intro w hM
          (first | (refine t_pure (i := 0) hF rfl rfl rfl rfl (by kernel_rfl) hM.sm (fun _ _ _ h => h) ?_ ?_; (first | exact trivial | omega | decide); clear hF a; intro a hF))
          (first | (refine t_pure (i := 1) hF rfl rfl rfl rfl (by kernel_rfl) hM.sm (fun _ _ _ h => h) ?_ ?_; (first | exact trivial | omega | decide); clear hF a; intro a hF))
          (first | (refine t_pure (i := 2) hF rfl rfl rfl rfl (by kernel_rfl) hM.sm (fun _ _ _ h => h) ?_ ?_; (first | exact trivial | omega | decide); clear hF a; intro a hF))
          refine t_one (i := 3) hF rfl (by kernel_rfl) rfl ?_
          intro K hK
          ((apply x_loadR hF hM); exact rfl; (repeat (first | exact List.mem_cons_self | refine List.mem_cons_of_mem _ ?_)); exact rfl; exact rfl; (first | with_reducible assumption | (simp only [Int.toNat_natCast]; with_reducible assumption)); clear hF a; intro a hF)
          refine hK _ _ (fun _ => (hM.sm.sub (fun x hx => by repeat (first | exact hx | refine List.mem_cons_of_mem _ ?_)) (fun _ h => by repeat (first | exact h | refine List.mem_cons_of_mem _ ?_)))) ?_; clear hK
          (first | (refine t_pure (i := 4) hF rfl rfl rfl rfl (by kernel_rfl) (hM.sm.sub (fun x hx => by repeat (first | exact hx | refine List.mem_cons_of_mem _ ?_)) (fun _ h => by repeat (first | exact h | refine List.mem_cons_of_mem _ ?_))) (fun _ _ _ h => h) ?_ ?_; (first | exact trivial | omega | decide); clear hF a; intro a hF))
          rw [show decide ((0 : Int) ≤ -1) = false from rfl] at hF
          (first | (refine t_pure (i := 5) hF rfl rfl rfl rfl (by kernel_rfl) (hM.sm.sub (fun x hx => by repeat (first | exact hx | refine List.mem_cons_of_mem _ ?_)) (fun _ h => by repeat (first | exact h | refine List.mem_cons_of_mem _ ?_))) (fun _ _ _ h => h) ?_ ?_; (first | exact trivial | omega | decide); clear hF a; intro a hF))
          (first | (refine t_skip (i := 6) hF rfl rfl rfl (by kernel_rfl) (hM.sm.sub (fun x hx => by repeat (first | exact hx | refine List.mem_cons_of_mem _ ?_)) (fun _ h => by repeat (first | exact h | refine List.mem_cons_of_mem _ ?_))) (fun _ _ _ h => h) ?_; clear hF a; intro a hF))
          (first | (refine t_skip (i := 7) hF rfl rfl rfl (by kernel_rfl) (hM.sm.sub (fun x hx => by repeat (first | exact hx | refine List.mem_cons_of_mem _ ?_)) (fun _ h => by repeat (first | exact h | refine List.mem_cons_of_mem _ ?_))) (fun _ _ _ h => h) ?_; clear hF a; intro a hF))
          (first | (refine t_skip (i := 8) hF rfl rfl rfl (by kernel_rfl) (hM.sm.sub (fun x hx => by repeat (first | exact hx | refine List.mem_cons_of_mem _ ?_)) (fun _ h => by repeat (first | exact h | refine List.mem_cons_of_mem _ ?_))) (fun _ _ _ h => h) ?_; clear hF a; intro a hF))
          (first | (refine t_skip (i := 9) hF rfl rfl rfl (by kernel_rfl) (hM.sm.sub (fun x hx => by repeat (first | exact hx | refine List.mem_cons_of_mem _ ?_)) (fun _ h => by repeat (first | exact h | refine List.mem_cons_of_mem _ ?_))) (fun _ _ _ h => h) ?_; clear hF a; intro a hF))
          (first | (refine t_skip (i := 10) hF rfl rfl rfl (by kernel_rfl) (hM.sm.sub (fun x hx => by repeat (first | exact hx | refine List.mem_cons_of_mem _ ?_)) (fun _ h => by repeat (first | exact h | refine List.mem_cons_of_mem _ ?_))) (fun _ _ _ h => h) ?_; clear hF a; intro a hF))
          (first | (refine t_skip (i := 11) hF rfl rfl rfl (by kernel_rfl) (hM.sm.sub (fun x hx => by repeat (first | exact hx | refine List.mem_cons_of_mem _ ?_)) (fun _ h => by repeat (first | exact h | refine List.mem_cons_of_mem _ ?_))) (fun _ _ _ h => h) ?_; clear hF a; intro a hF))
          (first | (refine t_skip (i := 12) hF rfl rfl rfl (by kernel_rfl) (hM.sm.sub (fun x hx => by repeat (first | exact hx | refine List.mem_cons_of_mem _ ?_)) (fun _ h => by repeat (first | exact h | refine List.mem_cons_of_mem _ ?_))) (fun _ _ _ h => h) ?_; clear hF a; intro a hF))
          (first | (refine t_skip (i := 13) hF rfl rfl rfl (by kernel_rfl) (hM.sm.sub (fun x hx => by repeat (first | exact hx | refine List.mem_cons_of_mem _ ?_)) (fun _ h => by repeat (first | exact h | refine List.mem_cons_of_mem _ ?_))) (fun _ _ _ h => h) ?_; clear hF a; intro a hF))
          (first | (refine t_skip (i := 14) hF rfl rfl rfl (by kernel_rfl) (hM.sm.sub (fun x hx => by repeat (first | exact hx | refine List.mem_cons_of_mem _ ?_)) (fun _ h => by repeat (first | exact h | refine List.mem_cons_of_mem _ ?_))) (fun _ _ _ h => h) ?_; clear hF a; intro a hF))
          (first | (refine t_skip (i := 15) hF rfl rfl rfl (by kernel_rfl) (hM.sm.sub (fun x hx => by repeat (first | exact hx | refine List.mem_cons_of_mem _ ?_)) (fun _ h => by repeat (first | exact h | refine List.mem_cons_of_mem _ ?_))) (fun _ _ _ h => h) ?_; clear hF a; intro a hF))
          (first | (refine t_skip (i := 16) hF rfl rfl rfl (by kernel_rfl) (hM.sm.sub (fun x hx => by repeat (first | exact hx | refine List.mem_cons_of_mem _ ?_)) (fun _ h => by repeat (first | exact h | refine List.mem_cons_of_mem _ ?_))) (fun _ _ _ h => h) ?_; clear hF a; intro a hF))
          (first | (refine t_skip (i := 17) hF rfl rfl rfl (by kernel_rfl) (hM.sm.sub (fun x hx => by repeat (first | exact hx | refine List.mem_cons_of_mem _ ?_)) (fun _ h => by repeat (first | exact h | refine List.mem_cons_of_mem _ ?_))) (fun _ _ _ h => h) ?_; clear hF a; intro a hF))
          (first | (refine t_pure (i := 18) hF rfl rfl rfl rfl (by kernel_rfl) (hM.sm.sub (fun x hx => by repeat (first | exact hx | refine List.mem_cons_of_mem _ ?_)) (fun _ h => by repeat (first | exact h | refine List.mem_cons_of_mem _ ?_))) (fun _ _ _ h => h) ?_ ?_; (first | exact trivial | omega | decide); clear hF a; intro a hF))
          refine t_done (by kernel_rfl) ?_
          (repeat' (first | (with_reducible refine c_region ?_) | (with_reducible refine s_nil ?_) | (with_reducible refine q_then_n ?_) | ((with_reducible apply s_pure hF); exact rfl; exact rfl; exact rfl; (first | exact trivial | omega | decide); clear hF a; intro a hF) | (with_reducible refine w_skip ?_) | (with_reducible refine q_blk_n ?_) | ((with_reducible apply c_false hF); exact rfl)))
          exact ⟨mk - 1, by omega, k + 1, K1, by omega, hKK, by omega, hK1N, hbK, fun j h1 h2 => by
            by_cases e : j = k
            · subst e
              have h3 := (ap_pos S he hpt hp1 (k := j) (by omega)).2
              omega
            · exact haK j h1 (by omega), hF.sub (by repeat (first | exact Sub.nil | refine Sub.cons rfl (by first | with_reducible rfl | (refine congrArg (Value.int _) ?_; omega) | exact rfl) ?_)), hM⟩
    obtain rfl : N = k := by omega
    have hAp' : Ap t (now + 1) K1 := ⟨by omega, fun j hj => by have := hbK j hj; omega, fun j h1 h2 => by have := haK j h1 (by omega); omega⟩
    have hag := age_step S he hpt hp1 hAp hAp'
    have hmK1 := P56.mul_bd (k := K1) (p := p) (by omega) (by omega)
    rw [hz] at hag
    (repeat' (first | (with_reducible refine w_seq ?_) | (with_reducible refine c_region ?_) | (with_reducible refine s_nil ?_) | (with_reducible refine q_then_n ?_) | ((with_reducible apply s_pure hF); exact rfl; exact rfl; exact rfl; (first | exact trivial | omega | decide); clear hF a; intro a hF) | (with_reducible refine w_exit ?_) | (with_reducible refine q_then_x ?_) | (with_reducible refine q_blk_n ?_) | (with_reducible refine q_blk_x ?_) | ((with_reducible apply c_dec hF); exact rfl; all_goals intro hc; all_goals (try (exfalso; omega)))))
    exact ⟨m - 1, by omega, now + 1, g, K1, LL, by omega, hAt', hAp', hLl, fun i h1 h2 => hLL i (by omega) h2, fun h1 h2 => by
      have h3 := hAp.after (N - 1) (by omega) (by omega)
      have h4 := hbK (N - 1) (by omega)
      omega, fun h => by omega, hF.sub (by repeat (first | exact Sub.nil | refine Sub.cons rfl (by first | with_reducible rfl | (refine congrArg (Value.int _) ?_; omega) | ((refine congrArg (Value.int _) ?_; exact hag)) | exact rfl) ?_)), hM⟩
  case neg =>
    (repeat' (first | (with_reducible refine w_seq ?_) | (with_reducible refine c_region ?_) | (with_reducible refine s_nil ?_) | (with_reducible refine q_then_n ?_) | ((with_reducible apply s_pure hF); exact rfl; exact rfl; exact rfl; (first | exact trivial | omega | decide); clear hF a; intro a hF) | ((with_reducible apply s_load hF hM); exact rfl; exact rfl; (repeat (first | exact List.mem_cons_self | refine List.mem_cons_of_mem _ ?_)); exact rfl; exact rfl; clear hF a; intro a hF) | (with_reducible refine w_block ?_) | (with_reducible refine w_exit ?_) | (with_reducible refine q_then_x ?_) | (with_reducible refine q_blk_x ?_) | ((with_reducible apply c_false hF); exact rfl) | ((with_reducible apply s_skip hF); exact rfl; exact rfl; clear hF a; intro a hF) | ((with_reducible apply g_dec hF); exact rfl; exact rfl; all_goals (clear hF; intro hc hF); all_goals (try (exfalso; omega)))))
    all_goals
      refine c_loop (m := N) (fun m a w' => ∃ k K1, m + k = N ∧ Kn ≤ K1 ∧ K1 ≤ max Kn k ∧ K1 ≤ N ∧ (∀ j, j < K1 → P56.ap t j ≤ now) ∧ (∀ j, K1 ≤ j → j < k → (now : Int) < P56.ap t j) ∧
        Fr 205 [] [(153, .int .i64 k), (152, .int .i64 N), (14, .int .i64 z), (13, .int .i64 ((N : Int) - K1)), (12, .int .i64 ((K1 * p : Nat) : Int)), (11, .int .i64 (Sim.age t p now Kn)), (10, .int .i64 g), (1, .pointer (some ⟨b1, 0, none⟩)), (3, .pointer (some ⟨b, 0, none⟩)), (5, .int .i64 t.W.length), (6, .int .i64 N), (7, .slice (some ⟨gl, 0, none⟩) N N), (8, .slice (some ⟨gd, 0, none⟩) N N)] a ∧
        Mm (fun _ => False) W [⟨b, ⟨[.slice x1 N y1, .slice x2 N y2, .slice x3 N y3, .slice x4 N y4, .int .i64 (P56.boundR t)]⟩, 28⟩, ⟨b1, ⟨[.slice a0 t.W.length c0, .slice a1 t.C.length c1, .int .i64 p, .int .i64 t.L, .int .i64 t.A]⟩, 24⟩]
            [⟨3, 1, .slice (some ⟨gd, 0, none⟩) N N, N, (dn t g N).map (Value.int .i64)⟩, ⟨3, 1, .slice (some ⟨gl, 0, none⟩) N N, N, (LL).map (Value.int .i64)⟩]
            [RdF (Value.int .i64) x3 (P56.ens t N), RdF (Value.int .i64) a0 t.W, (IsTr · (.agg #[.slice a0 t.W.length c0, .slice a1 t.C.length c1, .int .i64 p, .int .i64 t.L, .int .i64 t.A]) t)] w') ⟨0, Kn, by omega, Nat.le_refl _, by omega, by omega, fun j hj => by have := hAp.before j hj; omega, fun j _ hj => by omega, hF.sub (by repeat (first | exact Sub.nil | refine Sub.cons rfl (by first | with_reducible rfl | (refine congrArg (Value.int _) ?_; omega) | exact rfl) ?_)), hM⟩ ?_
      clear hF hM a
      rintro mk a w' ⟨k, K1, hmk, hKK, hKk, hK1N, hbK, haK, hF, hM⟩
      by_cases hkN : k < N
      · have hapd : P56.ap t k = (P56.en t (k + 1) : Int) + t.L + t.A := rfl
        have hap0 := ap_near S he hpt hp1 (k := k) (by omega)
        have hmk2 := P56.mul_bd (k := k) (p := p) (by omega) (by omega)
        have hkp : ((k : Int) + 1) * (p : Int) = (((k + 1) * p : Nat) : Int) := by rw [Int.natCast_mul]; simp
        have hdk := dn_get t (f := g) hkN
        have hafK := fun h => hAp.after k h (by omega)
        by_cases hkg : k < g
        · rw [if_pos hkg] at hdk
          (repeat' (first | (with_reducible refine w_seq ?_) | (with_reducible refine c_region ?_) | (with_reducible refine s_nil ?_) | (with_reducible refine q_then_n ?_) | ((with_reducible apply s_pure hF); exact rfl; exact rfl; exact rfl; (first | exact trivial | omega | decide); clear hF a; intro a hF) | (with_reducible refine w_skip ?_) | (with_reducible refine w_block ?_) | ((with_reducible apply c_dec hF); exact rfl; all_goals intro hc; all_goals (try (exfalso; omega)))))
          refine c_draw (fun i => Nat.ble 19 i) hM ?_; clear hM; intro w hM
          (first | (refine t_pure (i := 0) hF rfl rfl rfl rfl (by kernel_rfl) hM.sm (fun _ _ _ h => h) ?_ ?_; (first | exact trivial | omega | decide); clear hF a; intro a hF))
          (first | (refine t_pure (i := 1) hF rfl rfl rfl rfl (by kernel_rfl) hM.sm (fun _ _ _ h => h) ?_ ?_; (first | exact trivial | omega | decide); clear hF a; intro a hF))
          (first | (refine t_pure (i := 2) hF rfl rfl rfl rfl (by kernel_rfl) hM.sm (fun _ _ _ h => h) ?_ ?_; (first | exact trivial | omega | decide); clear hF a; intro a hF))
          refine t_one (i := 3) hF rfl (by kernel_rfl) rfl ?_
          intro K hK
          ((apply x_loadR hF hM); exact rfl; (repeat (first | exact List.mem_cons_self | refine List.mem_cons_of_mem _ ?_)); exact rfl; exact rfl; (first | with_reducible assumption | (simp only [Int.toNat_natCast]; with_reducible assumption)); clear hF a; intro a hF)
          refine hK _ _ (fun _ => (hM.sm.sub (fun x hx => by repeat (first | exact hx | refine List.mem_cons_of_mem _ ?_)) (fun _ h => by repeat (first | exact h | refine List.mem_cons_of_mem _ ?_)))) ?_; clear hK
          (first | (refine t_pure (i := 4) hF rfl rfl rfl rfl (by kernel_rfl) (hM.sm.sub (fun x hx => by repeat (first | exact hx | refine List.mem_cons_of_mem _ ?_)) (fun _ h => by repeat (first | exact h | refine List.mem_cons_of_mem _ ?_))) (fun _ _ _ h => h) ?_ ?_; (first | exact trivial | omega | decide); clear hF a; intro a hF))
          rw [show decide ((0 : Int) ≤ (P56.en t (k + 1) : Int)) = true from decide_eq_true (by omega)] at hF
          (first | (refine t_pure (i := 5) hF rfl rfl rfl rfl (by kernel_rfl) (hM.sm.sub (fun x hx => by repeat (first | exact hx | refine List.mem_cons_of_mem _ ?_)) (fun _ h => by repeat (first | exact h | refine List.mem_cons_of_mem _ ?_))) (fun _ _ _ h => h) ?_ ?_; (first | exact trivial | omega | decide); clear hF a; intro a hF))
          (first | (refine t_pure (i := 6) hF rfl rfl rfl rfl (by kernel_rfl) (hM.sm.sub (fun x hx => by repeat (first | exact hx | refine List.mem_cons_of_mem _ ?_)) (fun _ h => by repeat (first | exact h | refine List.mem_cons_of_mem _ ?_))) (fun _ _ _ h => h) ?_ ?_; (first | exact trivial | omega | decide); clear hF a; intro a hF))
          (first | (refine t_pure (i := 7) hF rfl rfl rfl rfl (by kernel_rfl) (hM.sm.sub (fun x hx => by repeat (first | exact hx | refine List.mem_cons_of_mem _ ?_)) (fun _ h => by repeat (first | exact h | refine List.mem_cons_of_mem _ ?_))) (fun _ _ _ h => h) ?_ ?_; (first | exact trivial | omega | decide); clear hF a; intro a hF))
          (first | (refine t_pure (i := 8) hF rfl rfl rfl rfl (by kernel_rfl) (hM.sm.sub (fun x hx => by repeat (first | exact hx | refine List.mem_cons_of_mem _ ?_)) (fun _ h => by repeat (first | exact h | refine List.mem_cons_of_mem _ ?_))) (fun _ _ _ h => h) ?_ ?_; (first | exact trivial | omega | decide); clear hF a; intro a hF))
          (first | (refine t_pure (i := 10) hF rfl rfl rfl rfl (by kernel_rfl) (hM.sm.sub (fun x hx => by repeat (first | exact hx | refine List.mem_cons_of_mem _ ?_)) (fun _ h => by repeat (first | exact h | refine List.mem_cons_of_mem _ ?_))) (fun _ _ _ h => h) ?_ ?_; (first | exact trivial | omega | decide); clear hF a; intro a hF))
          (first | (apply t_load (i := 11) hF rfl rfl rfl; (repeat (first | exact List.mem_cons_self | refine List.mem_cons_of_mem _ ?_)); exact rfl; exact rfl; kernel_rfl; exact (hM.sm.sub (fun x hx => by repeat (first | exact hx | refine List.mem_cons_of_mem _ ?_)) (fun _ h => by repeat (first | exact h | refine List.mem_cons_of_mem _ ?_))); exact (fun _ _ _ h => h); clear hF a; intro a hF))
          (first | (refine t_pure (i := 13) hF rfl rfl rfl rfl (by kernel_rfl) (hM.sm.sub (fun x hx => by repeat (first | exact hx | refine List.mem_cons_of_mem _ ?_)) (fun _ h => by repeat (first | exact h | refine List.mem_cons_of_mem _ ?_))) (fun _ _ _ h => h) ?_ ?_; (first | exact trivial | omega | decide); clear hF a; intro a hF))
          (first | (apply t_load (i := 14) hF rfl rfl rfl; (repeat (first | exact List.mem_cons_self | refine List.mem_cons_of_mem _ ?_)); exact rfl; exact rfl; kernel_rfl; exact (hM.sm.sub (fun x hx => by repeat (first | exact hx | refine List.mem_cons_of_mem _ ?_)) (fun _ h => by repeat (first | exact h | refine List.mem_cons_of_mem _ ?_))); exact (fun _ _ _ h => h); clear hF a; intro a hF))
          (first | (refine t_pure (i := 16) hF rfl rfl rfl rfl (by kernel_rfl) (hM.sm.sub (fun x hx => by repeat (first | exact hx | refine List.mem_cons_of_mem _ ?_)) (fun _ h => by repeat (first | exact h | refine List.mem_cons_of_mem _ ?_))) (fun _ _ _ h => h) ?_ ?_; (first | exact trivial | omega | decide); clear hF a; intro a hF))
          refine t_one (i := 9) hF rfl (by kernel_rfl) rfl ?_
          intro K hK
          ((apply x_loadR hF hM); exact rfl; (repeat (first | exact List.mem_cons_self | refine List.mem_cons_of_mem _ ?_)); exact rfl; exact rfl; (first | with_reducible assumption | (simp only [Int.toNat_natCast]; with_reducible assumption)); clear hF a; intro a hF)
          refine hK _ _ (fun _ => (hM.sm.sub (fun x hx => by repeat (first | exact hx | refine List.mem_cons_of_mem _ ?_)) (fun _ h => by repeat (first | exact h | refine List.mem_cons_of_mem _ ?_)))) ?_; clear hK
          (first | (refine t_pure (i := 12) hF rfl rfl rfl rfl (by kernel_rfl) (hM.sm.sub (fun x hx => by repeat (first | exact hx | refine List.mem_cons_of_mem _ ?_)) (fun _ h => by repeat (first | exact h | refine List.mem_cons_of_mem _ ?_))) (fun _ _ _ h => h) ?_ ?_; (first | exact trivial | omega | decide); clear hF a; intro a hF))
          (first | (refine t_pure (i := 15) hF rfl rfl rfl rfl (by kernel_rfl) (hM.sm.sub (fun x hx => by repeat (first | exact hx | refine List.mem_cons_of_mem _ ?_)) (fun _ h => by repeat (first | exact h | refine List.mem_cons_of_mem _ ?_))) (fun _ _ _ h => h) ?_ ?_; (first | exact trivial | omega | decide); clear hF a; intro a hF))
          (first | (refine t_pure (i := 17) hF rfl rfl rfl rfl (by kernel_rfl) (hM.sm.sub (fun x hx => by repeat (first | exact hx | refine List.mem_cons_of_mem _ ?_)) (fun _ h => by repeat (first | exact h | refine List.mem_cons_of_mem _ ?_))) (fun _ _ _ h => h) ?_ ?_; (first | exact trivial | omega | decide); clear hF a; intro a hF))
          (first | (refine t_pure (i := 18) hF rfl rfl rfl rfl (by kernel_rfl) (hM.sm.sub (fun x hx => by repeat (first | exact hx | refine List.mem_cons_of_mem _ ?_)) (fun _ h => by repeat (first | exact h | refine List.mem_cons_of_mem _ ?_))) (fun _ _ _ h => h) ?_ ?_; (first | exact trivial | omega | decide); clear hF a; intro a hF))
          refine t_done (by kernel_rfl) ?_
          by_cases hap : P56.ap t k = (now : Int)
          · have hKe : K1 = k := by
              have h1 : Kn ≤ k := by
                rcases Nat.lt_or_ge k Kn with h | h
                · have := hAp.before k h; omega
                · exact h
              have h2 : k ≤ K1 := by
                rcases Nat.lt_or_ge K1 k with h | h
                · have := haK K1 (Nat.le_refl _) h
                  have := ap_le' S he (k := K1) (j := k) (by omega) (by omega)
                  omega
                · exact h
              omega
            (repeat' (first | (with_reducible refine w_seq ?_) | (with_reducible refine c_region ?_) | (with_reducible refine s_nil ?_) | (with_reducible refine q_then_n ?_) | ((with_reducible apply s_pure hF); exact rfl; exact rfl; exact rfl; (first | exact trivial | omega | decide); clear hF a; intro a hF) | ((with_reducible apply s_load hF hM); exact rfl; exact rfl; (repeat (first | exact List.mem_cons_self | refine List.mem_cons_of_mem _ ?_)); exact rfl; exact rfl; clear hF a; intro a hF) | (with_reducible refine q_blk_n ?_) | ((with_reducible apply c_dec hF); exact rfl; all_goals intro hc; all_goals (try (exfalso; omega)))))
            exact ⟨mk - 1, by omega, k + 1, k + 1, by omega, by omega, by omega, by omega, fun j hj => by
              have := ap_le' S he (k := j) (j := k) (by omega) (by omega)
              omega, fun j h1 h2 => by omega, hF.sub (by repeat (first | exact Sub.nil | refine Sub.cons rfl (by first | with_reducible rfl | (refine congrArg (Value.int _) ?_; omega) | exact rfl) ?_)), hM⟩
          · (repeat' (first | (with_reducible refine c_region ?_) | (with_reducible refine s_nil ?_) | (with_reducible refine q_then_n ?_) | ((with_reducible apply s_pure hF); exact rfl; exact rfl; exact rfl; (first | exact trivial | omega | decide); clear hF a; intro a hF) | (with_reducible refine w_skip ?_) | (with_reducible refine q_blk_n ?_) | ((with_reducible apply c_dec hF); exact rfl; all_goals intro hc; all_goals (try (exfalso; omega)))))
            exact ⟨mk - 1, by omega, k + 1, K1, by omega, hKK, by omega, hK1N, hbK, fun j h1 h2 => by
              by_cases e : j = k
              · subst e
                have : Kn ≤ j := by omega
                have := hafK this
                omega
              · exact haK j h1 (by omega), hF.sub (by repeat (first | exact Sub.nil | refine Sub.cons rfl (by first | with_reducible rfl | (refine congrArg (Value.int _) ?_; omega) | exact rfl) ?_)), hM⟩
        · first
          | exfalso
            omega
          | rw [if_neg hkg] at hdk
            have hgk := hgr k (by omega) hkN
            (repeat' (first | (with_reducible refine w_seq ?_) | (with_reducible refine c_region ?_) | (with_reducible refine s_nil ?_) | (with_reducible refine q_then_n ?_) | ((with_reducible apply s_pure hF); exact rfl; exact rfl; exact rfl; (first | exact trivial | omega | decide); clear hF a; intro a hF) | (with_reducible refine w_skip ?_) | (with_reducible refine w_block ?_) | ((with_reducible apply c_dec hF); exact rfl; all_goals intro hc; all_goals (try (exfalso; omega)))))
            refine c_draw (fun i => Nat.ble 19 i) hM ?_; clear hM; intro w hM
            (first | (refine t_pure (i := 0) hF rfl rfl rfl rfl (by kernel_rfl) hM.sm (fun _ _ _ h => h) ?_ ?_; (first | exact trivial | omega | decide); clear hF a; intro a hF))
            (first | (refine t_pure (i := 1) hF rfl rfl rfl rfl (by kernel_rfl) hM.sm (fun _ _ _ h => h) ?_ ?_; (first | exact trivial | omega | decide); clear hF a; intro a hF))
            (first | (refine t_pure (i := 2) hF rfl rfl rfl rfl (by kernel_rfl) hM.sm (fun _ _ _ h => h) ?_ ?_; (first | exact trivial | omega | decide); clear hF a; intro a hF))
            refine t_one (i := 3) hF rfl (by kernel_rfl) rfl ?_
            intro K hK
            ((apply x_loadR hF hM); exact rfl; (repeat (first | exact List.mem_cons_self | refine List.mem_cons_of_mem _ ?_)); exact rfl; exact rfl; (first | with_reducible assumption | (simp only [Int.toNat_natCast]; with_reducible assumption)); clear hF a; intro a hF)
            refine hK _ _ (fun _ => (hM.sm.sub (fun x hx => by repeat (first | exact hx | refine List.mem_cons_of_mem _ ?_)) (fun _ h => by repeat (first | exact h | refine List.mem_cons_of_mem _ ?_)))) ?_; clear hK
            (first | (refine t_pure (i := 4) hF rfl rfl rfl rfl (by kernel_rfl) (hM.sm.sub (fun x hx => by repeat (first | exact hx | refine List.mem_cons_of_mem _ ?_)) (fun _ h => by repeat (first | exact h | refine List.mem_cons_of_mem _ ?_))) (fun _ _ _ h => h) ?_ ?_; (first | exact trivial | omega | decide); clear hF a; intro a hF))
            rw [show decide ((0 : Int) ≤ -1) = false from rfl] at hF
            (first | (refine t_pure (i := 5) hF rfl rfl rfl rfl (by kernel_rfl) (hM.sm.sub (fun x hx => by repeat (first | exact hx | refine List.mem_cons_of_mem _ ?_)) (fun _ h => by repeat (first | exact h | refine List.mem_cons_of_mem _ ?_))) (fun _ _ _ h => h) ?_ ?_; (first | exact trivial | omega | decide); clear hF a; intro a hF))
            (first | (refine t_skip (i := 6) hF rfl rfl rfl (by kernel_rfl) (hM.sm.sub (fun x hx => by repeat (first | exact hx | refine List.mem_cons_of_mem _ ?_)) (fun _ h => by repeat (first | exact h | refine List.mem_cons_of_mem _ ?_))) (fun _ _ _ h => h) ?_; clear hF a; intro a hF))
            (first | (refine t_skip (i := 7) hF rfl rfl rfl (by kernel_rfl) (hM.sm.sub (fun x hx => by repeat (first | exact hx | refine List.mem_cons_of_mem _ ?_)) (fun _ h => by repeat (first | exact h | refine List.mem_cons_of_mem _ ?_))) (fun _ _ _ h => h) ?_; clear hF a; intro a hF))
            (first | (refine t_skip (i := 8) hF rfl rfl rfl (by kernel_rfl) (hM.sm.sub (fun x hx => by repeat (first | exact hx | refine List.mem_cons_of_mem _ ?_)) (fun _ h => by repeat (first | exact h | refine List.mem_cons_of_mem _ ?_))) (fun _ _ _ h => h) ?_; clear hF a; intro a hF))
            (first | (refine t_skip (i := 9) hF rfl rfl rfl (by kernel_rfl) (hM.sm.sub (fun x hx => by repeat (first | exact hx | refine List.mem_cons_of_mem _ ?_)) (fun _ h => by repeat (first | exact h | refine List.mem_cons_of_mem _ ?_))) (fun _ _ _ h => h) ?_; clear hF a; intro a hF))
            (first | (refine t_skip (i := 10) hF rfl rfl rfl (by kernel_rfl) (hM.sm.sub (fun x hx => by repeat (first | exact hx | refine List.mem_cons_of_mem _ ?_)) (fun _ h => by repeat (first | exact h | refine List.mem_cons_of_mem _ ?_))) (fun _ _ _ h => h) ?_; clear hF a; intro a hF))
            (first | (refine t_skip (i := 11) hF rfl rfl rfl (by kernel_rfl) (hM.sm.sub (fun x hx => by repeat (first | exact hx | refine List.mem_cons_of_mem _ ?_)) (fun _ h => by repeat (first | exact h | refine List.mem_cons_of_mem _ ?_))) (fun _ _ _ h => h) ?_; clear hF a; intro a hF))
            (first | (refine t_skip (i := 12) hF rfl rfl rfl (by kernel_rfl) (hM.sm.sub (fun x hx => by repeat (first | exact hx | refine List.mem_cons_of_mem _ ?_)) (fun _ h => by repeat (first | exact h | refine List.mem_cons_of_mem _ ?_))) (fun _ _ _ h => h) ?_; clear hF a; intro a hF))
            (first | (refine t_skip (i := 13) hF rfl rfl rfl (by kernel_rfl) (hM.sm.sub (fun x hx => by repeat (first | exact hx | refine List.mem_cons_of_mem _ ?_)) (fun _ h => by repeat (first | exact h | refine List.mem_cons_of_mem _ ?_))) (fun _ _ _ h => h) ?_; clear hF a; intro a hF))
            (first | (refine t_skip (i := 14) hF rfl rfl rfl (by kernel_rfl) (hM.sm.sub (fun x hx => by repeat (first | exact hx | refine List.mem_cons_of_mem _ ?_)) (fun _ h => by repeat (first | exact h | refine List.mem_cons_of_mem _ ?_))) (fun _ _ _ h => h) ?_; clear hF a; intro a hF))
            (first | (refine t_skip (i := 15) hF rfl rfl rfl (by kernel_rfl) (hM.sm.sub (fun x hx => by repeat (first | exact hx | refine List.mem_cons_of_mem _ ?_)) (fun _ h => by repeat (first | exact h | refine List.mem_cons_of_mem _ ?_))) (fun _ _ _ h => h) ?_; clear hF a; intro a hF))
            (first | (refine t_skip (i := 16) hF rfl rfl rfl (by kernel_rfl) (hM.sm.sub (fun x hx => by repeat (first | exact hx | refine List.mem_cons_of_mem _ ?_)) (fun _ h => by repeat (first | exact h | refine List.mem_cons_of_mem _ ?_))) (fun _ _ _ h => h) ?_; clear hF a; intro a hF))
            (first | (refine t_skip (i := 17) hF rfl rfl rfl (by kernel_rfl) (hM.sm.sub (fun x hx => by repeat (first | exact hx | refine List.mem_cons_of_mem _ ?_)) (fun _ h => by repeat (first | exact h | refine List.mem_cons_of_mem _ ?_))) (fun _ _ _ h => h) ?_; clear hF a; intro a hF))
            (first | (refine t_pure (i := 18) hF rfl rfl rfl rfl (by kernel_rfl) (hM.sm.sub (fun x hx => by repeat (first | exact hx | refine List.mem_cons_of_mem _ ?_)) (fun _ h => by repeat (first | exact h | refine List.mem_cons_of_mem _ ?_))) (fun _ _ _ h => h) ?_ ?_; (first | exact trivial | omega | decide); clear hF a; intro a hF))
            refine t_done (by kernel_rfl) ?_
            (repeat' (first | (with_reducible refine c_region ?_) | (with_reducible refine s_nil ?_) | (with_reducible refine q_then_n ?_) | ((with_reducible apply s_pure hF); exact rfl; exact rfl; exact rfl; (first | exact trivial | omega | decide); clear hF a; intro a hF) | (with_reducible refine w_skip ?_) | (with_reducible refine q_blk_n ?_) | ((with_reducible apply c_false hF); exact rfl)))
            exact ⟨mk - 1, by omega, k + 1, K1, by omega, hKK, by omega, hK1N, hbK, fun j h1 h2 => by
              by_cases e : j = k
              · subst e
                have h3 := (ap_pos S he hpt hp1 (k := j) (by omega)).2
                omega
              · exact haK j h1 (by omega), hF.sub (by repeat (first | exact Sub.nil | refine Sub.cons rfl (by first | with_reducible rfl | (refine congrArg (Value.int _) ?_; omega) | exact rfl) ?_)), hM⟩
      obtain rfl : N = k := by omega
      have hAp' : Ap t (now + 1) K1 := ⟨by omega, fun j hj => by have := hbK j hj; omega, fun j h1 h2 => by have := haK j h1 (by omega); omega⟩
      have hag := age_step S he hpt hp1 hAp hAp'
      have hmK1 := P56.mul_bd (k := K1) (p := p) (by omega) (by omega)
      rw [hz] at hag
      (repeat' (first | (with_reducible refine w_seq ?_) | (with_reducible refine c_region ?_) | (with_reducible refine s_nil ?_) | (with_reducible refine q_then_n ?_) | ((with_reducible apply s_pure hF); exact rfl; exact rfl; exact rfl; (first | exact trivial | omega | decide); clear hF a; intro a hF) | (with_reducible refine w_exit ?_) | (with_reducible refine q_then_x ?_) | (with_reducible refine q_blk_n ?_) | (with_reducible refine q_blk_x ?_) | ((with_reducible apply c_dec hF); exact rfl; all_goals intro hc; all_goals (try (exfalso; omega)))))
      exact ⟨m - 1, by omega, now + 1, g, K1, LL, by omega, hAt', hAp', hLl, fun i h1 h2 => hLL i (by omega) h2, fun h1 h2 => by
        have h3 := hAp.after (N - 1) (by omega) (by omega)
        have h4 := hbK (N - 1) (by omega)
        omega, fun h => by omega, hF.sub (by repeat (first | exact Sub.nil | refine Sub.cons rfl (by first | with_reducible rfl | (refine congrArg (Value.int _) ?_; omega) | ((refine congrArg (Value.int _) ?_; exact hag)) | exact rfl) ?_)), hM⟩
end Go.Proofs.Ytfjelofpahcfpaa
