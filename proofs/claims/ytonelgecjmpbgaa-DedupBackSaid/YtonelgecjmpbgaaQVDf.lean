/- Texts of this seat, one behind the other: Tb S1 S2 S3 Tc Td. -/
import Derived.Test.YtonelgecjmpbgaaQVDe
set_option linter.unusedSimpArgs false
set_option linter.unusedVariables false
set_option linter.unusedSectionVars false
set_option maxRecDepth 3000
/- The reference of layer 29: tokens are read. -/
namespace Go.Proofs.Ytonelgecjmpbgaa
open Go.RowKit Go.Shelf D29
section
variable (xs : List Int) (hxb : ∀ x ∈ xs, 0 ≤ x ∧ x < 256) (hlen : xs.length ≤ 1000000) (a0 : Option Addr) (c0 : Nat) (hc0 : xs.length ≤ c0) (own : Nat → Prop) (W : World) (hl : ∀ b, own b → b < W.heap.size) (hv : Has own W (RdF (Value.int .u8) a0 xs))
include hxb hlen hc0 hl hv
set_option maxRecDepth 20000 in
set_option maxHeartbeats 4000000 in
theorem TokensR_c : Calls Try.prog 49 ⟨[.slice a0 xs.length c0]⟩ W (Ret W (toksP own (rdTokens xs))) := by
  have hM := (Mm.start hl).known hv
  have hrs : rdTokens xs = match rdI xs with
    | .error e => .error e
    | .ok (n, ys) => if 65536 < n then .error 5 else rdToks n.toNat ys := by
    unfold rdTokens rdI
    split <;> rfl
  rw [hrs]
  refine f_start Try.func49 rfl Try.ntmps49 rfl rfl ?_; intro a hF
  cases hi : rdI xs with
  | error e =>
    have he := rdI_err hi
    (repeat' (first | (with_reducible refine w_seq ?_) | (with_reducible refine c_region ?_) | (with_reducible refine s_nil ?_) | ((with_reducible apply s_call (f := 81) hF hM); exact rfl; exact rfl; exact rfl; exact rfl; exact rfl; exact (IntRF_err xs hxb hlen a0 c0 hc0 _ _ hM.lt (hM.facts _ (by (repeat (first | exact List.mem_cons_self | refine List.mem_cons_of_mem _ ?_)))) hi); clear hF hM a; rintro v w a rfl - hM hF) | (with_reducible refine q_then_n ?_) | ((with_reducible apply s_pure hF); exact rfl; exact rfl; exact rfl; (first | exact trivial | omega | exact ⟨Int.natCast_nonneg _, Int.ofNat_lt.2 (by assumption)⟩ | decide); clear hF a; intro a hF) | (with_reducible refine w_ret ?_) | (with_reducible refine q_then_r ?_) | ((with_reducible apply c_dec hF); exact rfl; all_goals intro hc; all_goals (try (exfalso; omega)))))
    (apply f_ret Try.results49 hF hM; (repeat (first | exact RL.nil | (apply RL.tmp; exact rfl) | (apply RL.cell; exact rfl; (repeat (first | exact List.mem_cons_self | refine List.mem_cons_of_mem _ ?_)); exact rfl))); refine Ret.mk hM.since ?_; dsimp only [resV])
    exact ⟨rfl, he⟩
  | ok pr =>
  obtain ⟨n, zs⟩ := pr
  obtain ⟨hzb, hzl, hn0, hn1⟩ := rdI_ok hxb hi
  dsimp only
  by_cases hn : 65536 < n
  · rw [if_pos hn]
    (repeat' (first | (with_reducible refine w_seq ?_) | (with_reducible refine c_region ?_) | (with_reducible refine s_nil ?_) | ((with_reducible apply s_call (f := 81) hF hM); exact rfl; exact rfl; exact rfl; exact rfl; exact rfl; exact (IntRF_ok xs hxb hlen a0 c0 hc0 _ _ hM.lt (hM.facts _ (by (repeat (first | exact List.mem_cons_self | refine List.mem_cons_of_mem _ ?_)))) hi); clear hF hM a; rintro v w a ⟨a1, c1, rfl, h1, h2⟩ - hM hF) | (with_reducible refine q_then_n ?_) | ((with_reducible apply s_pure hF); exact rfl; exact rfl; exact rfl; (first | exact trivial | omega | exact ⟨Int.natCast_nonneg _, Int.ofNat_lt.2 (by assumption)⟩ | decide); clear hF a; intro a hF) | (with_reducible refine w_skip ?_) | (with_reducible refine w_ret ?_) | (with_reducible refine q_then_r ?_) | ((with_reducible apply c_false2 hF); exact rfl; (first | with_reducible rfl | (refine congrArg Value.bool ?_; focus (simp; done)))) | ((with_reducible apply c_dec hF); exact rfl; all_goals intro hc; all_goals (try (exfalso; omega)))))
    (apply f_ret Try.results49 hF hM; (repeat (first | exact RL.nil | (apply RL.tmp; exact rfl) | (apply RL.cell; exact rfl; (repeat (first | exact List.mem_cons_self | refine List.mem_cons_of_mem _ ?_)); exact rfl))); refine Ret.mk hM.since ?_; dsimp only [resV])
    exact ⟨rfl, by decide⟩
  rw [if_neg hn]
  obtain ⟨k, hk⟩ : ∃ k : Nat, n = k := ⟨n.toNat, by omega⟩
  subst hk
  rw [Int.toNat_natCast]
  replace hzl : zs.length ≤ 1000000 := by omega
  (repeat' (first | (with_reducible refine w_seq ?_) | (with_reducible refine c_region ?_) | (with_reducible refine s_nil ?_) | ((with_reducible apply s_call (f := 81) hF hM); exact rfl; exact rfl; exact rfl; exact rfl; exact rfl; exact (IntRF_ok xs hxb hlen a0 c0 hc0 _ _ hM.lt (hM.facts _ (by (repeat (first | exact List.mem_cons_self | refine List.mem_cons_of_mem _ ?_)))) hi); clear hF hM a; rintro v w a ⟨a1, c1, rfl, h1, h2⟩ - hM hF; replace hM := hM.addFact h1) | (with_reducible refine q_then_n ?_) | ((with_reducible apply s_pure hF); exact rfl; exact rfl; exact rfl; (first | exact trivial | omega | exact ⟨Int.natCast_nonneg _, Int.ofNat_lt.2 (by assumption)⟩ | decide); clear hF a; intro a hF) | (with_reducible refine w_skip ?_) | (with_reducible refine w_block ?_) | ((with_reducible apply c_false2 hF); exact rfl; (first | with_reducible rfl | (refine congrArg Value.bool ?_; focus (simp; done)))) | ((with_reducible apply c_dec hF); exact rfl; all_goals intro hc; all_goals (try (exfalso; omega)))))
  have hrow := (hM.nilRow 68 3).addFact (f := DatF (tP [])) (Has.pure fun _ p hp => by simp [tP] at hp)
  refine c_loop (m := k) (fun m a w' => ∃ (i : Nat) (ys : List Int) (outs : List TP) (a2 : Option Addr) (c2 : Nat) (ov : Value), m + i = k ∧ rdToks k zs = tokPre (tms outs) (rdToks m ys) ∧ outs.length = i ∧ DatW (tP outs) ∧ ys.length ≤ c2 ∧ ys.length ≤ 1000000 ∧ (∀ y ∈ ys, 0 ≤ y ∧ y < 256) ∧
    Fr 87 [] [(8, .int .i64 i), (5, .int .i64 k), (7, ov), (0, .slice a2 ys.length c2)] a ∧
    Mm own W [] [⟨68, 3, ov, i, cellsT outs⟩] [DatF (tP outs), RdF (Value.int .u8) a2 ys] w')
    ⟨0, zs, [], a1, c1, _, by omega, (tokPre_nil _).symm, rfl, fun p hp => by simp [tP] at hp, h2, hzl, hzb, hF.sub (by repeat (first | exact Sub.nil | refine Sub.cons rfl (by first | with_reducible rfl | (refine congrArg (Value.int _) ?_; omega) | exact rfl) ?_)), hrow.sub (.refl _) (.refl _) (by intro f hf; simp only [List.mem_cons, List.not_mem_nil, or_false] at hf; (repeat (rcases hf with rfl | hf; · (repeat (first | exact List.mem_cons_self | refine List.mem_cons_of_mem _ ?_)))); first | (subst hf; (repeat (first | exact List.mem_cons_self | refine List.mem_cons_of_mem _ ?_)); done) | (repeat (first | exact hf | refine List.mem_cons_of_mem _ ?_)))⟩ ?_
  clear hF hM hrow a h1 hv hc0 hlen hxb hi
  rintro m a w' ⟨i, ys, outs, a2, c2, ov, hm, hrd, hol, how, hyc, hyl, hyb, hF, hM⟩
  by_cases hi : i < k
  · obtain ⟨m, rfl⟩ : ∃ q, m = q + 1 := ⟨m - 1, by omega⟩
    match hys : ys with
    | [] =>
      rw [tokPre_err (xs := []) rfl] at hrd
      rw [hrd]
      (repeat' (first | (with_reducible refine w_seq ?_) | (with_reducible refine c_region ?_) | (with_reducible refine s_nil ?_) | (with_reducible refine q_then_n ?_) | ((with_reducible apply s_pure hF); exact rfl; exact rfl; exact rfl; (first | exact trivial | omega | exact ⟨Int.natCast_nonneg _, Int.ofNat_lt.2 (by assumption)⟩ | decide); clear hF a; intro a hF) | (with_reducible refine w_skip ?_) | (with_reducible refine w_block ?_) | (with_reducible refine w_ret ?_) | (with_reducible refine q_then_r ?_) | (with_reducible refine q_blk_r ?_) | ((with_reducible apply c_true2 hF); exact rfl; (first | with_reducible rfl | (refine congrArg Value.bool ?_; focus (simp; done)))) | ((with_reducible apply c_dec hF); exact rfl; all_goals intro hc; all_goals (try (exfalso; omega)))))
      (apply f_ret Try.results49 hF hM; (repeat (first | exact RL.nil | (apply RL.tmp; exact rfl) | (apply RL.cell; exact rfl; (repeat (first | exact List.mem_cons_self | refine List.mem_cons_of_mem _ ?_)); exact rfl))); refine Ret.mk hM.since ?_; dsimp only [resV])
      exact ⟨rfl, by decide⟩
    | mk :: r =>
    have hmk := hyb mk List.mem_cons_self
    have hbr : ∀ y ∈ r, 0 ≤ y ∧ y < 256 := fun z hz => hyb z (List.mem_cons_of_mem _ hz)
    have hlx : (mk :: r).length = r.length + 1 := List.length_cons
    have hx0 : (mk :: r)[((0 : Int)).toNat]? = some mk := rfl
    obtain ⟨ad, rfl⟩ : ∃ ad, a2 = some ad := rd_some hM (enc := Value.int .u8) (xs := mk :: r) (by (repeat (first | exact List.mem_cons_self | refine List.mem_cons_of_mem _ ?_))) (k := 0) (x := mk) rfl
    have hbf := RdF.drop (hM.facts (RdF (Value.int .u8) (some ad) (mk :: r)) (by (repeat (first | exact List.mem_cons_self | refine List.mem_cons_of_mem _ ?_)))) 1 c2 hyc
    rw [show (mk :: r).drop 1 = r from rfl] at hbf
    have hcr : r.length ≤ c2 - 1 := by omega
    have hrl : r.length ≤ 1000000 := by omega
    obtain ⟨a1, ha1⟩ : ∃ a1, sadr (some ad) 1 c2 1 = a1 := ⟨_, rfl⟩
    have hsl1 : Value.slice (sadr (some ad) (1 : Int).toNat c2 1) ((((mk :: r).length : Nat) : Int).toNat - (1 : Int).toNat) (c2 - (1 : Int).toNat) = .slice a1 r.length (c2 - 1) := by
      rw [show (1 : Int).toNat = 1 from rfl, Int.toNat_natCast, hlx, Nat.add_sub_cancel, ha1]
    rw [ha1] at hbf
    replace hM := hM.addFact hbf
    by_cases h0 : mk = 0
    · subst h0
      have hT : rdTok (0 :: r) = match rdSecs r with
        | .error e => .error e
        | .ok (x, ys) => if isCh x = true then .ok (⟨false, 0, x⟩, ys) else .error 3 := by
        rw [rdTok, if_pos rfl]
        rfl
      (repeat' (first | (with_reducible refine w_seq ?_) | (with_reducible refine c_region ?_) | (with_reducible refine s_nil ?_) | (with_reducible refine q_then_n ?_) | ((with_reducible apply s_pure hF); exact rfl; exact rfl; exact rfl; (first | exact trivial | omega | exact ⟨Int.natCast_nonneg _, Int.ofNat_lt.2 (by assumption)⟩ | decide); clear hF a; intro a hF) | ((with_reducible apply s_loadF hF hM); exact rfl; exact rfl; (repeat (first | exact List.mem_cons_self | refine List.mem_cons_of_mem _ ?_)); exact rfl; exact rfl; (first | with_reducible assumption | (simp only [Int.toNat_natCast]; with_reducible assumption)); clear hF a; intro a hF) | (with_reducible refine w_skip ?_) | (with_reducible refine w_block ?_) | ((with_reducible apply c_false2 hF); exact rfl; (first | with_reducible rfl | (refine congrArg Value.bool ?_; focus (simp; done)))) | ((with_reducible apply c_dec hF); exact rfl; all_goals intro hc; all_goals (try (exfalso; omega)))))
      rw [hsl1] at hF
      have hS := fun {own W} hl hv => SectorsR_c r hbr hrl a1 (c2 - 1) hcr own W hl hv
      cases hs : rdSecs r with
      | error e =>
        rw [hs] at hS hT
        rw [tokPre_err hT] at hrd
        rw [hrd]
        (repeat' (first | (with_reducible refine w_seq ?_) | (with_reducible refine c_region ?_) | (with_reducible refine s_nil ?_) | ((with_reducible apply s_call (f := 82) hF hM); exact rfl; exact rfl; exact rfl; exact rfl; exact rfl; exact (hS hM.lt (hM.facts (RdF (Value.int .u8) a1 r) (by (repeat (first | with_reducible exact List.mem_cons_self | refine List.mem_cons_of_mem _ ?_))))); clear hF hM a; rintro v w a ⟨rfl, he⟩ - hM hF) | (with_reducible refine q_then_n ?_) | ((with_reducible apply s_pure hF); exact rfl; exact rfl; exact rfl; (first | exact trivial | omega | exact ⟨Int.natCast_nonneg _, Int.ofNat_lt.2 (by assumption)⟩ | decide); clear hF a; intro a hF) | (with_reducible refine w_ret ?_) | (with_reducible refine q_then_r ?_) | (with_reducible refine q_blk_r ?_) | ((with_reducible apply c_dec hF); exact rfl; all_goals intro hc; all_goals (try (exfalso; omega)))))
        (apply f_ret Try.results49 hF hM; (repeat (first | exact RL.nil | (apply RL.tmp; exact rfl) | (apply RL.cell; exact rfl; (repeat (first | exact List.mem_cons_self | refine List.mem_cons_of_mem _ ?_)); exact rfl))); refine Ret.mk hM.since ?_; dsimp only [resV])
        exact ⟨rfl, he⟩
      | ok pr =>
        obtain ⟨x, ys2⟩ := pr
        rw [hs] at hS hT
        dsimp only at hT
        (repeat (first | (with_reducible refine w_seq ?_) | (with_reducible refine c_region ?_) | (with_reducible refine s_nil ?_) | ((with_reducible apply s_call (f := 82) hF hM); exact rfl; exact rfl; exact rfl; exact rfl; exact rfl; exact (hS hM.lt (hM.facts (RdF (Value.int .u8) a1 r) (by (repeat (first | with_reducible exact List.mem_cons_self | refine List.mem_cons_of_mem _ ?_))))); clear hF hM a; rintro v w a ⟨aa, cc, a3, c3, rfl, k1, k2, k3, k4, k5, k6, k7, k8⟩ - hM hF; replace hM := (hM.addFact k1).addFact k2) | (with_reducible refine q_then_n ?_) | ((with_reducible apply s_pure hF); exact rfl; exact rfl; exact rfl; (first | exact trivial | omega | exact ⟨Int.natCast_nonneg _, Int.ofNat_lt.2 (by assumption)⟩ | decide); clear hF a; intro a hF) | (with_reducible refine w_skip ?_) | ((with_reducible apply c_false2 hF); exact rfl; (first | with_reducible rfl | (refine congrArg Value.bool ?_; focus (simp; done))))))
        obtain ⟨q, hq⟩ : ∃ q, x.length = q := ⟨_, rfl⟩
        rw [hq] at hF
        cases hch : isCh x with
        | false =>
          rw [hch, if_neg (by decide)] at hT
          rw [tokPre_err hT] at hrd
          rw [hrd]
          (repeat' (first | (with_reducible refine w_seq ?_) | (with_reducible refine c_region ?_) | (with_reducible refine s_nil ?_) | ((with_reducible apply s_call (f := 71) hF hM); exact rfl; exact rfl; exact rfl; exact rfl; exact rfl; exact (IsChunkR_c x aa cc q hq _ _ hM.lt); clear hF hM a; rintro v w a rfl - hM hF; rw [hch] at hF) | (with_reducible refine q_then_n ?_) | ((with_reducible apply s_pure hF); exact rfl; exact rfl; exact rfl; (first | exact trivial | omega | exact ⟨Int.natCast_nonneg _, Int.ofNat_lt.2 (by assumption)⟩ | decide); clear hF a; intro a hF) | (with_reducible refine w_ret ?_) | (with_reducible refine q_then_r ?_) | (with_reducible refine q_blk_r ?_) | ((with_reducible apply c_true2 hF); exact rfl; (first | with_reducible rfl | (refine congrArg Value.bool ?_; focus (simp; done))))))
          (apply f_ret Try.results49 hF hM; (repeat (first | exact RL.nil | (apply RL.tmp; exact rfl) | (apply RL.cell; exact rfl; (repeat (first | exact List.mem_cons_self | refine List.mem_cons_of_mem _ ?_)); exact rfl))); refine Ret.mk hM.since ?_; dsimp only [resV])
          exact ⟨rfl, by decide⟩
        | true =>
          rw [hch, if_pos rfl] at hT
          rw [tokPre_step hT] at hrd
          (repeat' (first | (with_reducible refine c_region ?_) | (with_reducible refine s_nil ?_) | ((with_reducible apply s_call (f := 71) hF hM); exact rfl; exact rfl; exact rfl; exact rfl; exact rfl; exact (IsChunkR_c x aa cc q hq _ _ hM.lt); clear hF hM a; rintro v w a rfl - hM hF; rw [hch] at hF) | (with_reducible refine q_then_n ?_) | ((with_reducible apply s_pure hF); exact rfl; exact rfl; exact rfl; (first | exact trivial | omega | exact ⟨Int.natCast_nonneg _, Int.ofNat_lt.2 (by assumption)⟩ | decide); clear hF a; intro a hF) | ((with_reducible apply s_lit hF hM); exact rfl; exact rfl; exact rfl; exact rfl; clear hF hM a; intro bl w a hM hF) | ((with_reducible apply s_app hF hM); exact rfl; exact rfl; exact rfl; exact rfl; (repeat (first | exact Kth.z | apply Kth.s)); exact rfl; exact rfl; exact rfl; exact rfl; omega; clear hF hM a; intro g cap w a hM hF; dsimp only [List.set] at hM) | (with_reducible refine w_skip ?_) | (with_reducible refine q_blk_n ?_) | ((with_reducible apply c_false2 hF); exact rfl; (first | with_reducible rfl | (refine congrArg Value.bool ?_; focus (simp; done))))))
          have hx0 := hM.facts (RdF (Value.int .u8) aa x.flatten) (by (repeat (first | with_reducible exact List.mem_cons_self | refine List.mem_cons_of_mem _ ?_)))
          have hD := DatF.snoc (p := ((⟨0, x⟩ : Itm), aa, cc)) (hM.facts (DatF (tP outs)) (by (repeat (first | with_reducible exact List.mem_cons_self | refine List.mem_cons_of_mem _ ?_)))) hx0
          refine ⟨m, by omega, i + 1, ys2, outs ++ [((⟨false, 0, x⟩ : Tok), aa, cc)], a3, c3, .slice (some ⟨g, 0, none⟩) (i + 1) cap, by omega, ?_, by simp; omega, ?_, k4, by omega, k7, hF.sub (by repeat (first | exact Sub.nil | refine Sub.cons rfl (by first | with_reducible rfl | (refine congrArg (Value.int _) ?_; omega) | exact rfl) ?_)), ?_⟩
          · rw [hrd, tms_app]
            rfl
          · rw [tP_app]
            exact how.snoc ⟨k5, k3, k6⟩
          · have hce : cellsT (outs ++ [((⟨false, 0, x⟩ : Tok), aa, cc)]) = cellsT outs ++ [.bool false, .int .u64 0, .slice aa q cc] := by
              rw [cellsT_app]
              first | rfl | (rw [← hq]; rfl)
            rw [hce, tP_app]
            exact (hM.addFact hD).sub (List.nil_sublist _) (.refl _) (fun f hf => by simp only [List.mem_cons, List.not_mem_nil, or_false] at hf ⊢; rcases hf with h | h <;> simp [h, tP])
    by_cases h1 : mk = 1
    case neg =>
      have hT : rdTok (mk :: r) = .error 3 := by rw [rdTok, if_neg h0, if_neg h1]
      rw [tokPre_err hT] at hrd
      rw [hrd]
      (repeat' (first | (with_reducible refine w_seq ?_) | (with_reducible refine c_region ?_) | (with_reducible refine s_nil ?_) | (with_reducible refine q_then_n ?_) | ((with_reducible apply s_pure hF); exact rfl; exact rfl; exact rfl; (first | exact trivial | omega | exact ⟨Int.natCast_nonneg _, Int.ofNat_lt.2 (by assumption)⟩ | decide); clear hF a; intro a hF) | ((with_reducible apply s_loadF hF hM); exact rfl; exact rfl; (repeat (first | exact List.mem_cons_self | refine List.mem_cons_of_mem _ ?_)); exact rfl; exact rfl; (first | with_reducible assumption | (simp only [Int.toNat_natCast]; with_reducible assumption)); clear hF a; intro a hF) | (with_reducible refine w_skip ?_) | (with_reducible refine w_block ?_) | (with_reducible refine w_ret ?_) | (with_reducible refine q_then_r ?_) | (with_reducible refine q_blk_r ?_) | ((with_reducible apply c_dec hF); exact rfl; all_goals intro hc; all_goals (try (exfalso; omega)))))
      (apply f_ret Try.results49 hF hM; (repeat (first | exact RL.nil | (apply RL.tmp; exact rfl) | (apply RL.cell; exact rfl; (repeat (first | exact List.mem_cons_self | refine List.mem_cons_of_mem _ ?_)); exact rfl))); refine Ret.mk hM.since ?_; dsimp only [resV])
      exact ⟨rfl, by decide⟩
    subst h1
    by_cases h8 : r.length < 8
    · have hT : rdTok (1 :: r) = .error 10 := by rw [rdTok, if_neg h0, if_pos rfl, if_pos h8]
      rw [tokPre_err hT] at hrd
      rw [hrd]
      (repeat' (first | (with_reducible refine w_seq ?_) | (with_reducible refine c_region ?_) | (with_reducible refine s_nil ?_) | (with_reducible refine q_then_n ?_) | ((with_reducible apply s_pure hF); exact rfl; exact rfl; exact rfl; (first | exact trivial | omega | exact ⟨Int.natCast_nonneg _, Int.ofNat_lt.2 (by assumption)⟩ | decide); clear hF a; intro a hF) | ((with_reducible apply s_loadF hF hM); exact rfl; exact rfl; (repeat (first | exact List.mem_cons_self | refine List.mem_cons_of_mem _ ?_)); exact rfl; exact rfl; (first | with_reducible assumption | (simp only [Int.toNat_natCast]; with_reducible assumption)); clear hF a; intro a hF) | (with_reducible refine w_skip ?_) | (with_reducible refine w_block ?_) | (with_reducible refine w_ret ?_) | (with_reducible refine q_then_r ?_) | (with_reducible refine q_blk_r ?_) | ((with_reducible apply c_true2 hF); exact rfl; (first | with_reducible rfl | (refine congrArg Value.bool ?_; focus (simp; done)))) | ((with_reducible apply c_false2 hF); exact rfl; (first | with_reducible rfl | (refine congrArg Value.bool ?_; focus (simp; done)))) | ((with_reducible apply c_dec hF); exact rfl; all_goals intro hc; all_goals (try (exfalso; omega)))))
      rw [hsl1] at hF
      (repeat' (first | fail))
      (apply f_ret Try.results49 hF hM; (repeat (first | exact RL.nil | (apply RL.tmp; exact rfl) | (apply RL.cell; exact rfl; (repeat (first | exact List.mem_cons_self | refine List.mem_cons_of_mem _ ?_)); exact rfl))); refine Ret.mk hM.since ?_; dsimp only [resV])
      exact ⟨rfl, by decide⟩
    have hT : rdTok (1 :: r) = .ok (⟨true, un (r.take 8), []⟩, r.drop 8) := by rw [rdTok, if_neg h0, if_pos rfl, if_neg h8]
    rw [tokPre_step hT] at hrd
    obtain ⟨ad2, rfl⟩ : ∃ ad2, a1 = some ad2 := by rw [← ha1]; unfold sadr; split <;> exact ⟨_, rfl⟩
    (repeat' (first | (with_reducible refine w_seq ?_) | (with_reducible refine c_region ?_) | (with_reducible refine s_nil ?_) | (with_reducible refine q_then_n ?_) | ((with_reducible apply s_pure hF); exact rfl; exact rfl; exact rfl; (first | exact trivial | omega | exact ⟨Int.natCast_nonneg _, Int.ofNat_lt.2 (by assumption)⟩ | decide); clear hF a; intro a hF) | ((with_reducible apply s_loadF hF hM); exact rfl; exact rfl; (repeat (first | exact List.mem_cons_self | refine List.mem_cons_of_mem _ ?_)); exact rfl; exact rfl; (first | with_reducible assumption | (simp only [Int.toNat_natCast]; with_reducible assumption)); clear hF a; intro a hF) | (with_reducible refine w_skip ?_) | (with_reducible refine w_block ?_) | ((with_reducible apply c_true2 hF); exact rfl; (first | with_reducible rfl | (refine congrArg Value.bool ?_; focus (simp; done)))) | ((with_reducible apply c_false2 hF); exact rfl; (first | with_reducible rfl | (refine congrArg Value.bool ?_; focus (simp; done)))) | ((with_reducible apply c_dec hF); exact rfl; all_goals intro hc; all_goals (try (exfalso; omega)))))
    rw [hsl1] at hF
    (repeat' (first | fail))
    refine c_loop (m := 8) (fun mj a w' => ∃ j : Nat, mj + j = 8 ∧
      Fr 87 [] [(11, .int .i64 j), (10, .int .u64 (un (r.take j))), (8, .int .i64 i), (5, .int .i64 k), (7, ov), (0, .slice (some ad2) r.length (c2 - 1))] a ∧
      Mm own W [] [⟨68, 3, ov, i, cellsT outs⟩] [DatF (tP outs), RdF (Value.int .u8) (some ad2) r] w') ⟨0, by omega, hF.sub (by repeat (first | exact Sub.nil | refine Sub.cons rfl (by first | with_reducible rfl | (refine congrArg (Value.int _) ?_; omega) | exact rfl) ?_)), hM.sub (.refl _) (.refl _) (by intro f hf; simp only [List.mem_cons, List.not_mem_nil, or_false] at hf; (repeat (rcases hf with rfl | hf; · (repeat (first | exact List.mem_cons_self | refine List.mem_cons_of_mem _ ?_)))); first | (subst hf; (repeat (first | exact List.mem_cons_self | refine List.mem_cons_of_mem _ ?_)); done) | (repeat (first | exact hf | refine List.mem_cons_of_mem _ ?_)))⟩ ?_
    clear hF hM a
    rintro mj a w' ⟨j, hmj, hF, hM⟩
    by_cases hj : j < 8
    · obtain ⟨x, hx⟩ := get_of_lt (l := r) (i := j) (by omega)
      have hxb := hbr x (List.mem_of_getElem? hx)
      obtain ⟨z, z1, z2, z3, z4, z5, z6⟩ := un_step hbr hj hx
      have hu0 := (un_bd (r.take j) fun y hy => hbr y (List.mem_of_mem_take hy)).1
      have hsh : 0 ≤ 8 * (j : Int) ∧ 8 * (j : Int) ≤ 62 ∧ (x % 18446744073709551616) * 2 ^ (8 * (j : Int)).toNat = z ∧ 0 ≤ z ∧ z < 18446744073709551616 := ⟨by omega, by omega, by rw [show x % 18446744073709551616 = x by omega]; exact z1, z2, z3⟩
      have hadd : (un (r.take j) + z) % 18446744073709551616 = un (r.take (j + 1)) := by rw [z4]; omega
      (repeat' (first | (with_reducible refine w_seq ?_) | (with_reducible refine c_region ?_) | (with_reducible refine s_nil ?_) | ((with_reducible apply s_shlW hF); exact rfl; exact rfl; exact rfl; exact rfl; (with_reducible assumption); clear hF a; intro a hF) | (with_reducible refine q_then_n ?_) | ((with_reducible apply s_pure hF); exact rfl; exact rfl; exact rfl; (first | exact trivial | omega | exact ⟨Int.natCast_nonneg _, Int.ofNat_lt.2 (by assumption)⟩ | decide); clear hF a; intro a hF) | ((with_reducible apply s_loadF hF hM); exact rfl; exact rfl; (repeat (first | exact List.mem_cons_self | refine List.mem_cons_of_mem _ ?_)); exact rfl; exact rfl; (first | with_reducible assumption | (simp only [Int.toNat_natCast]; with_reducible assumption)); clear hF a; intro a hF) | (with_reducible refine w_skip ?_) | (with_reducible refine w_block ?_) | (with_reducible refine q_blk_n ?_) | ((with_reducible apply c_dec hF); exact rfl; all_goals intro hc; all_goals (try (exfalso; omega)))))
      rw [hadd] at hF
      exact ⟨mj - 1, by omega, j + 1, by omega, hF.sub (by repeat (first | exact Sub.nil | refine Sub.cons rfl (by first | with_reducible rfl | (refine congrArg (Value.int _) ?_; omega) | exact rfl) ?_)), hM⟩
    · obtain rfl : j = 8 := by omega
      have hd8 := RdF.drop (hM.facts (RdF (Value.int .u8) (some ad2) r) (by (repeat (first | exact List.mem_cons_self | refine List.mem_cons_of_mem _ ?_)))) 8 (c2 - 1) hcr
      have hdl : (r.drop 8).length = r.length - 8 := List.length_drop
      have hs2 : Value.slice (sadr (some ad2) (8 : Int).toNat (c2 - 1) 1) (((r.length : Nat) : Int).toNat - (8 : Int).toNat) (c2 - 1 - (8 : Int).toNat) = .slice (sadr (some ad2) 8 (c2 - 1) 1) (r.drop 8).length (c2 - 1 - 8) := by
        rw [Int.toNat_natCast, hdl]
        rfl
      have k7 : ∀ y ∈ r.drop 8, 0 ≤ y ∧ y < 256 := fun y hy => hbr y (List.mem_of_mem_drop hy)
      replace hM := hM.addFact hd8
      (repeat' (first | (with_reducible refine w_seq ?_) | (with_reducible refine c_region ?_) | (with_reducible refine s_nil ?_) | (with_reducible refine q_then_n ?_) | ((with_reducible apply s_pure hF); exact rfl; exact rfl; exact rfl; (first | exact trivial | omega | exact ⟨Int.natCast_nonneg _, Int.ofNat_lt.2 (by assumption)⟩ | decide); clear hF a; intro a hF) | (with_reducible refine w_exit ?_) | (with_reducible refine q_then_x ?_) | (with_reducible refine q_blk_x ?_) | ((with_reducible apply c_false2 hF); exact rfl; (first | with_reducible rfl | (refine congrArg Value.bool ?_; focus (simp; done))))))
      refine c_draw (fun i => Nat.ble 9 i) hM ?_; clear hM; intro w hM
      (first | (refine t_pure (i := 0) hF rfl rfl rfl rfl (by kernel_rfl) hM.sm (fun _ _ _ h => h) ?_ ?_; (first | exact trivial | omega | decide); clear hF a; intro a hF))
      (first | (refine t_pure (i := 1) hF rfl rfl rfl rfl (by kernel_rfl) hM.sm (fun _ _ _ h => h) ?_ ?_; (first | exact trivial | omega | decide); clear hF a; intro a hF))
      (first | (refine t_pure (i := 2) hF rfl rfl rfl rfl (by kernel_rfl) hM.sm (fun _ _ _ h => h) ?_ ?_; (first | exact trivial | omega | decide); clear hF a; intro a hF))
      (first | (refine t_pure (i := 5) hF rfl rfl rfl rfl (by kernel_rfl) hM.sm (fun _ _ _ h => h) ?_ ?_; (first | exact trivial | omega | decide); clear hF a; intro a hF))
      (first | (refine t_pure (i := 6) hF rfl rfl rfl rfl (by kernel_rfl) hM.sm (fun _ _ _ h => h) ?_ ?_; (first | exact trivial | omega | decide); clear hF a; intro a hF))
      rw [hs2] at hF
      refine t_one (i := 3) hF rfl (by kernel_rfl) rfl ?_
      intro K hK
      (refine x_lit hF hM rfl rfl rfl ?_; clear hF hM a; intro bl w a hM hF)
      refine hK _ _ (fun _ => (hM.sm.sub (fun x hx => by repeat (first | exact hx | refine List.mem_cons_of_mem _ ?_)) (fun _ h => by repeat (first | exact h | refine List.mem_cons_of_mem _ ?_)))) ?_; clear hK
      refine t_one (i := 4) hF rfl (by kernel_rfl) rfl ?_
      intro K hK
      (apply x_app hF hM rfl rfl rfl; (repeat (first | exact List.mem_cons_self | refine List.mem_cons_of_mem _ ?_)); (repeat (first | exact Kth.z | apply Kth.s)); exact rfl; exact rfl; exact rfl; exact rfl; omega; clear hF hM a; intro g cap w a hM hF; dsimp only [List.set] at hM)
      refine hK _ _ (fun _ => (hM.sm.sub (fun x hx => by repeat (first | exact hx | refine List.mem_cons_of_mem _ ?_)) (fun _ h => by repeat (first | exact h | refine List.mem_cons_of_mem _ ?_)))) ?_; clear hK
      (first | (refine t_pure (i := 7) hF rfl rfl rfl rfl (by kernel_rfl) (hM.sm.sub (fun x hx => by repeat (first | exact hx | refine List.mem_cons_of_mem _ ?_)) (fun _ h => by repeat (first | exact h | refine List.mem_cons_of_mem _ ?_))) (fun _ _ _ h => h) ?_ ?_; (first | exact trivial | omega | decide); clear hF a; intro a hF))
      (first | (refine t_pure (i := 8) hF rfl rfl rfl rfl (by kernel_rfl) (hM.sm.sub (fun x hx => by repeat (first | exact hx | refine List.mem_cons_of_mem _ ?_)) (fun _ h => by repeat (first | exact h | refine List.mem_cons_of_mem _ ?_))) (fun _ _ _ h => h) ?_ ?_; (first | exact trivial | omega | decide); clear hF a; intro a hF))
      refine t_done (by kernel_rfl) ?_
      (repeat' (first | (with_reducible refine c_region ?_) | (with_reducible refine s_nil ?_) | (with_reducible refine q_then_n ?_) | ((with_reducible apply s_pure hF); exact rfl; exact rfl; exact rfl; (first | exact trivial | omega | exact ⟨Int.natCast_nonneg _, Int.ofNat_lt.2 (by assumption)⟩ | decide); clear hF a; intro a hF) | (with_reducible refine w_exit ?_) | (with_reducible refine q_then_x ?_) | (with_reducible refine q_blk_x ?_)))
      have k4 : (r.drop 8).length ≤ c2 - 1 - 8 := by omega
      have k5 : W8 ([] : Dat) := fun s hs => (List.not_mem_nil hs).elim
      have k6 : By8 ([] : Dat) := fun s hs => (List.not_mem_nil hs).elim
      have k3 : ([] : Dat).length ≤ 0 := Nat.le_refl _
      have hrl2 : (r.drop 8).length ≤ 1000000 := by omega
      have hx0 : ∀ {own : Nat → Prop} {w : World}, Has own w (RdF (Value.int .u8) none ([] : Dat).flatten) := RdF.nil
      generalize un (r.take 8) = dd at *
      generalize r.drop 8 = ys2 at *
      generalize sadr (some ad2) 8 (c2 - 1) 1 = a3 at *
      generalize c2 - 1 - 8 = c3 at *
      have hD := DatF.snoc (p := ((⟨dd, []⟩ : Itm), none, 0)) (hM.facts (DatF (tP outs)) (by (repeat (first | with_reducible exact List.mem_cons_self | refine List.mem_cons_of_mem _ ?_)))) hx0
      refine ⟨m, by omega, i + 1, ys2, outs ++ [((⟨true, dd, []⟩ : Tok), none, 0)], a3, c3, .slice (some ⟨g, 0, none⟩) (i + 1) cap, by omega, ?_, by simp; omega, ?_, k4, by omega, k7, hF.sub (by repeat (first | exact Sub.nil | refine Sub.cons rfl (by first | with_reducible rfl | (refine congrArg (Value.int _) ?_; omega) | exact rfl) ?_)), ?_⟩
      · rw [hrd, tms_app]
        rfl
      · rw [tP_app]
        exact how.snoc ⟨k5, k3, k6⟩
      · have hce : cellsT (outs ++ [((⟨true, dd, []⟩ : Tok), none, 0)]) = cellsT outs ++ [.bool true, .int .u64 dd, .slice none 0 0] := by
          rw [cellsT_app]
          first | rfl | (rw [← hq]; rfl)
        rw [hce, tP_app]
        exact (hM.addFact hD).sub (List.nil_sublist _) (.refl _) (fun f hf => by simp only [List.mem_cons, List.not_mem_nil, or_false] at hf ⊢; rcases hf with h | h <;> simp [h, tP])
  · obtain rfl : i = k := by omega
    obtain rfl : m = 0 := by omega
    rw [hrd]
    obtain ⟨av, cv, rfl, hcv, -⟩ := OffR.shape hM (k := 0) rfl (OffR.plain hM List.mem_cons_self)
    replace hM := Mm.freezeN (enc := id) (xs := cellsT outs) (by rw [List.map_id]; exact hM)
    (repeat' (first | (with_reducible refine w_seq ?_) | (with_reducible refine c_region ?_) | (with_reducible refine s_nil ?_) | (with_reducible refine q_then_n ?_) | ((with_reducible apply s_pure hF); exact rfl; exact rfl; exact rfl; (first | exact trivial | omega | exact ⟨Int.natCast_nonneg _, Int.ofNat_lt.2 (by assumption)⟩ | decide); clear hF a; intro a hF) | (with_reducible refine w_exit ?_) | (with_reducible refine w_ret ?_) | (with_reducible refine q_then_x ?_) | (with_reducible refine q_blk_x ?_) | ((with_reducible apply c_false2 hF); exact rfl; (first | with_reducible rfl | (refine congrArg Value.bool ?_; focus (simp; done))))))
    (apply f_ret Try.results49 hF hM; (repeat (first | exact RL.nil | (apply RL.tmp; exact rfl) | (apply RL.cell; exact rfl; (repeat (first | exact List.mem_cons_self | refine List.mem_cons_of_mem _ ?_)); exact rfl))); refine Ret.mk hM.since ?_; dsimp only [resV])
    subst hol
    show toksP own (.ok (tms outs ++ [], ys)) _ _
    rw [List.append_nil]
    exact ⟨av, cv, a2, c2, by rw [tms_len], ⟨outs, rfl, how, hM.factOut (by (repeat (first | with_reducible exact List.mem_cons_self | refine List.mem_cons_of_mem _ ?_))), hM.factOut (by (repeat (first | with_reducible exact List.mem_cons_self | refine List.mem_cons_of_mem _ ?_))), by rw [tms_len]; exact hcv⟩, hM.factOut (f := RdF (Value.int .u8) a2 ys) (by (repeat (first | with_reducible exact List.mem_cons_self | refine List.mem_cons_of_mem _ ?_))), hyc⟩
end
end Go.Proofs.Ytonelgecjmpbgaa


/- The example of layer 29, in plain terms. -/
namespace Go.Proofs.Ytonelgecjmpbgaa
open Go.RowKit Go.Shelf D29
namespace D29
def sx : List Int := [1, 0, 0, 0, 0, 0, 0, 0]
def sy : List Int := [2, 0, 0, 0, 0, 0, 0, 0]
def sz : List Int := [3, 0, 0, 0, 0, 0, 0, 0]
theorem check0 : check ⟨2, []⟩ = 0 := rfl
theorem sxy : ([sx] : Dat) ≠ [sy] := by decide
theorem sxz : ([sx] : Dat) ≠ [sz] := by decide
theorem syz : ([sy] : Dat) ≠ [sz] := by decide
theorem aw_parts5 (a b c d e : List Int) : parts 1 [a, b, c, d, e] = [[a], [b], [c], [d], [e]] := by simp [parts, part, List.range, List.range.loop]
theorem aw_parts2 (a b : List Int) : parts 1 [a, b] = [[a], [b]] := by simp [parts, part, List.range, List.range.loop]
theorem aw_ch (x : List Int) : isCh [x] = true := rfl
def awI : List Itm := [⟨dg [sz], [sz]⟩, ⟨dg [sx], [sx]⟩]
def awT : List Tok := [⟨false, 0, [sx]⟩, ⟨false, 0, [sy]⟩, ⟨true, dg [sx], []⟩, ⟨false, 0, [sz]⟩, ⟨false, 0, [sx]⟩]
def awA : List Itm := [⟨dg [sx], [sx]⟩]
def awU : List Tok := [⟨true, dg [sx], []⟩, ⟨true, dg [sx], []⟩]
theorem aw_enc : encR ⟨2, []⟩ [sx, sy, sx, sz, sx] 1 = .ok (awI, awT) := by
  unfold encR
  rw [check0, if_neg (by decide), if_neg (by decide)]
  rw [show (1 : Int).toNat = 1 from rfl, aw_parts5]
  have h := ex_enc sxy sxz syz
  rw [show encI (⟨2, []⟩ : St).cap [[sx], [sy], [sx], [sz], [sx]] (⟨2, []⟩ : St).items = (awI, awT) from Prod.ext h.2 h.1]
theorem aw_add : addR 2 [] [sx] = awA := by
  unfold addR
  rw [if_pos ⟨check0, aw_ch sx⟩]
  simp [addI, hasD, awA]
theorem aw_check : check ⟨2, awA⟩ = 0 := by
  rw [check_ok]
  refine ⟨by decide, by decide, ⟨?_, ?_, List.pairwise_singleton _ _⟩⟩
  · intro i hi
    rw [show i = ⟨dg [sx], [sx]⟩ from List.mem_singleton.1 hi]
    exact aw_ch sx
  · intro i hi
    rw [show i = ⟨dg [sx], [sx]⟩ from List.mem_singleton.1 hi]
theorem aw_enc2 : encR ⟨2, awA⟩ [sx, sx] 1 = .ok (awA, awU) := by
  unfold encR
  rw [aw_check, if_neg (by decide), if_neg (by decide), show (1 : Int).toNat = 1 from rfl, aw_parts2]
  have ha : addI 2 awA [sx] = awA := by simp [addI, hasD, awA]
  have ht : tokI awA [sx] = ⟨true, dg [sx], []⟩ := by simp [tokI, findI, awA]
  show Except.ok (encI 2 [[sx], [sx]] awA) = _
  simp [encI, ha, ht, awU]
theorem aw_dec : decR ⟨2, []⟩ awT = .ok (awI, [sx, sy, sx, sz, sx]) := by
  unfold decR
  rw [check0, if_neg (by decide)]
  have h := mirror 2 (xs := [[sx], [sy], [sx], [sz], [sx]]) (l := []) (o := []) (by intro x hx; simp only [List.mem_cons, List.not_mem_nil, or_false] at hx; rcases hx with rfl | rfl | rfl | rfl | rfl <;> exact aw_ch _)
  have h2 := ex_enc sxy sxz syz
  rw [show encI 2 [[sx], [sy], [sx], [sz], [sx]] [] = (awI, awT) from Prod.ext h2.2 h2.1] at h
  exact h
theorem aw_dec2 : decR ⟨2, []⟩ awU = .error 25 := by
  unfold decR
  rw [check0, if_neg (by decide)]
  rfl
theorem aw_mis : misR ⟨2, []⟩ awT = [] := by
  rw [misR_ok check0 (by rfl)]
  show misI 2 awT [] [] = []
  have e0 : tokD ⟨false, 0, [sx]⟩ = dg [sx] := rfl
  have e1 : tokD ⟨false, 0, [sy]⟩ = dg [sy] := rfl
  have e2 : tokD ⟨true, dg [sx], []⟩ = dg [sx] := rfl
  have e3 : tokD ⟨false, 0, [sz]⟩ = dg [sz] := rfl
  unfold awT
  generalize dg [sx] = X at *
  generalize dg [sy] = Y at *
  generalize dg [sz] = Z at *
  simp only [misI, e0, e1, e2, e3]
  by_cases h1 : Y = X
  · subst h1
    simp [knw]
    repeat' split
    all_goals simp_all
  · by_cases h3 : Z = X <;> by_cases h2 : Z = Y <;> simp [knw, h1, h2, h3]
    all_goals (repeat' split) <;> simp_all
theorem aw_mis2 : misR ⟨2, []⟩ awU = [dg [sx]] := by
  rw [misR_ok check0 (by rfl)]
  show misI 2 awU [] [] = [dg [sx]]
  have e2 : tokD ⟨true, dg [sx], []⟩ = dg [sx] := rfl
  unfold awU
  generalize dg [sx] = X at *
  simp only [misI, e2]
  simp [knw]
theorem tok_r {ts : List TP} {l : List Tok} (h : tms ts = l) {k : Nat} {u : Tok} (hk : l[k]? = some u) : (ts.map tkC).flatten[k * 3 + 0]? = some (.bool u.r) := by
  rw [← h] at hk
  unfold tms at hk
  rw [List.getElem?_map] at hk
  cases ht : ts[k]? with
  | none => rw [ht] at hk; cases hk
  | some t =>
    rw [ht] at hk
    injection hk with hk
    rw [← hk]
    exact (cellsT_get ht).1
theorem tok_len {ts : List TP} {l : List Tok} (h : tms ts = l) (hl : ∀ u ∈ l, u.x.length ≤ 1) : ∀ t ∈ ts, t.1.x.length ≤ 100000 := fun t ht => Nat.le_trans (hl t.1 (by rw [← h]; exact List.mem_map.2 ⟨t, ht, rfl⟩)) (by omega)
theorem awT_len : ∀ u ∈ awT, u.x.length ≤ 1 := by
  unfold awT
  intro u hu
  simp only [List.mem_cons, List.not_mem_nil, or_false] at hu
  rcases hu with rfl | rfl | rfl | rfl | rfl <;> simp
theorem awU_len : ∀ u ∈ awU, u.x.length ≤ 1 := by
  unfold awU
  intro u hu
  simp only [List.mem_cons, List.not_mem_nil, or_false] at hu
  rcases hu with rfl | rfl <;> simp
theorem aw8 : W8 [sx, sy, sx, sz, sx] := by
  intro s hs
  simp only [List.mem_cons, List.not_mem_nil, or_false] at hs
  rcases hs with rfl | rfl | rfl | rfl | rfl <;> rfl
theorem awb : By8 [sx, sy, sx, sz, sx] := by
  intro s hs b hb
  simp only [List.mem_cons, List.not_mem_nil, or_false] at hs
  rcases hs with rfl | rfl | rfl | rfl | rfl <;> (simp only [sx, sy, sz, List.mem_cons, List.not_mem_nil, or_false] at hb; omega)
theorem awx8 : W8 [sx] := fun s hs => by rw [List.mem_singleton.1 hs]; rfl
theorem awxb : By8 [sx] := fun s hs b hb => awb s (by rw [List.mem_singleton.1 hs]; simp) b hb
theorem awxx8 : W8 [sx, sx] := by
  intro s hs
  simp only [List.mem_cons, List.not_mem_nil, or_false] at hs
  rcases hs with rfl | rfl <;> rfl
theorem awxxb : By8 [sx, sx] := fun s hs b hb => awb s (by simp only [List.mem_cons, List.not_mem_nil, or_false] at hs ⊢; rcases hs with rfl | rfl <;> simp) b hb
end D29
end Go.Proofs.Ytonelgecjmpbgaa


/- The example of layer 29: it is walked. -/
namespace Go.Proofs.Ytonelgecjmpbgaa
open Go.RowKit Go.Shelf D29
set_option maxRecDepth 20000 in
set_option maxHeartbeats 8000000 in
theorem awake_c (own : Nat → Prop) (W : World) (hl : ∀ b, own b → b < W.heap.size) : Calls Try.prog 13 ⟨[]⟩ W (Ret W fun v _ => v = .bool true) := by
  have hM := Mm.start hl
  have hW0 : DatW [] := fun p hp => by simp at hp
  have hx0 : ∀ p ∈ ([] : List P), p.1.x.length ≤ 100000 := fun p hp => by simp at hp
  have e0 := fun {own W} hl => New29_c 2 own W hl
  rw [if_pos (by decide), if_pos (by decide)] at e0
  refine f_start Try.func13 rfl Try.ntmps13 rfl rfl ?_; intro a hF
  (repeat (first | (with_reducible refine w_seq ?_) | (with_reducible refine c_region ?_) | (with_reducible refine s_nil ?_) | ((with_reducible apply s_call (f := 23) hF hM); exact rfl; exact rfl; exact rfl; exact rfl; exact rfl; exact (e0 hM.lt); clear hF hM a; rintro v w a rfl - hM hF) | (with_reducible refine q_then_n ?_) | ((with_reducible apply s_pure hF); exact rfl; exact rfl; exact rfl; (first | exact trivial | omega | exact ⟨Int.natCast_nonneg _, Int.ofNat_lt.2 (by assumption)⟩ | decide); clear hF a; intro a hF) | ((with_reducible apply s_load hF hM); exact rfl; exact rfl; (repeat (first | exact List.mem_cons_self | refine List.mem_cons_of_mem _ ?_)); exact rfl; exact rfl; clear hF a; intro a hF) | ((with_reducible apply s_store hF hM); exact rfl; exact rfl; exact rfl; exact rfl; (repeat (first | exact Upd.z | apply Upd.s)); exact rfl; exact rfl; exact rfl; clear hM; intro w hM) | ((with_reducible apply s_alloc hF hM); exact rfl; exact rfl; exact rfl; clear hF hM a; intro b w a hM hF) | ((with_reducible apply s_lit hF hM); exact rfl; exact rfl; exact rfl; exact rfl; clear hF hM a; intro bl w a hM hF)))
  rename_i bx _ by1 _ bz _ _ _ _ _ _ _
  generalize b = bc at *
  replace hM := hM.freeze
  replace hM := hM.addFact (Has.lit (enc := Value.int .u8) (hM.facts _ List.mem_cons_self) ([sx, sy, sx, sz, sx] : Dat).flatten rfl)
  have e1 := fun {own W} hl hx => Encode29_c 2 [] none 0 0 rfl (by omega) hW0 hx0 own W hl RdF.nil (Has.pure fun _ p hp => by simp at hp) [sx, sy, sx, sz, sx] aw8 awb (some ⟨bl, 0, none⟩) 5 5 rfl (by omega) (by omega) hx 1
  rw [show encR ⟨2, ims []⟩ [sx, sy, sx, sz, sx] 1 = .ok (awI, awT) from aw_enc] at e1
  (((with_reducible apply s_call (f := 14) hF hM); exact rfl; exact rfl; exact rfl; exact rfl; exact rfl; exact (e1 hM.lt (hM.facts (RdF (Value.int .u8) (some ⟨bl, 0, none⟩) ([sx, sy, sx, sz, sx] : Dat).flatten) (by (repeat (first | with_reducible exact List.mem_cons_self | refine List.mem_cons_of_mem _ ?_))))); clear hF hM a; rintro v w a ⟨ai, ci, at1, ct1, rfl, -, ts, t1, t2, t3, t4, t5⟩ - hM hF))
  replace hM := (hM.addFact t3).addFact t4
  clear e0 e1 t3 t4
  rw [show awI.length = 2 from rfl, show awT.length = 5 from rfl] at hF
  have g0 : (ts.map tkC).flatten[(0 : Int).toNat * 3 + 0]? = some (.bool false) := tok_r t1 (k := 0) rfl
  have g1 : (ts.map tkC).flatten[(1 : Int).toNat * 3 + 0]? = some (.bool false) := tok_r t1 (k := 1) rfl
  have g2 : (ts.map tkC).flatten[(2 : Int).toNat * 3 + 0]? = some (.bool true) := tok_r t1 (k := 2) rfl
  have g3 : (ts.map tkC).flatten[(3 : Int).toNat * 3 + 0]? = some (.bool false) := tok_r t1 (k := 3) rfl
  have g4 : (ts.map tkC).flatten[(4 : Int).toNat * 3 + 0]? = some (.bool false) := tok_r t1 (k := 4) rfl
  obtain ⟨adt, rfl⟩ : ∃ ad, at1 = some ad := rd_some hM (enc := id) (a := at1) (xs := cellsT ts) (by (repeat (first | with_reducible exact List.mem_cons_self | refine List.mem_cons_of_mem _ ?_))) g0
  have htl : ts.length = 5 := by rw [← tms_len, t1]; rfl
  rw [show cellsT ts = (ts.map tkC).flatten from rfl] at hM
  (repeat' (first | (with_reducible refine w_seq ?_) | (with_reducible refine c_region ?_) | (with_reducible refine s_nil ?_) | ((with_reducible apply s_fieldA hF); exact rfl; exact rfl; exact rfl; exact rfl; clear hF a; intro a hF) | ((with_reducible apply s_loadP hF hM); exact rfl; exact rfl; (repeat (first | exact List.mem_cons_self | refine List.mem_cons_of_mem _ ?_)); exact rfl; exact rfl; (first | with_reducible assumption | (simp only [Int.toNat_natCast]; with_reducible assumption)); clear hF a; intro a hF) | (with_reducible refine q_then_n ?_) | ((with_reducible apply s_pure hF); exact rfl; exact rfl; exact rfl; (first | exact trivial | omega | exact ⟨Int.natCast_nonneg _, Int.ofNat_lt.2 (by assumption)⟩ | decide); clear hF a; intro a hF) | ((with_reducible apply s_load hF hM); exact rfl; exact rfl; (repeat (first | exact List.mem_cons_self | refine List.mem_cons_of_mem _ ?_)); exact rfl; exact rfl; clear hF a; intro a hF) | ((with_reducible apply s_store hF hM); exact rfl; exact rfl; exact rfl; exact rfl; (repeat (first | exact Upd.z | apply Upd.s)); exact rfl; exact rfl; exact rfl; clear hM; intro w hM) | ((with_reducible apply s_alloc hF hM); exact rfl; exact rfl; exact rfl; clear hF hM a; intro b w a hM hF) | (with_reducible refine w_skip ?_) | ((with_reducible apply c_false2 hF); exact rfl; (first | with_reducible rfl | (refine congrArg Value.bool ?_; focus (simp; done))))))
  all_goals first | (exfalso; omega) | skip
  generalize b = b6 at *
  obtain ⟨D, hD⟩ : ∃ D, dg [sx] = D := ⟨_, rfl⟩
  have e2 : ∀ (bl : Nat) (own : Nat → Prop) (W : World), (∀ b, own b → b < W.heap.size) → Has own W (RdF (Value.int .u8) (some ⟨bl, 0, none⟩) ([sx] : Dat).flatten) → Calls Try.prog 30 ⟨[.agg #[.int .i64 2, .slice none 0 0], .slice (some ⟨bl, 0, none⟩) 1 1]⟩ W (Ret W fun v w' => ∃ (a : Option Addr) (c : Nat), v = .agg #[.int .i64 2, .slice a awA.length c] ∧ ItR own awA a c w') := by
    intro bl own W hl hx
    have h := Add29_c 2 [] none 0 0 rfl (by omega) hW0 hx0 own W hl RdF.nil (Has.pure fun _ p hp => by simp at hp) (Nat.le_refl _) [sx] awx8 awxb (some ⟨bl, 0, none⟩) 1 1 rfl hx
    rw [show addR 2 (ims []) [sx] = awA from aw_add] at h
    exact h
  have e3 : ∀ (bl : Nat) (qs : List P) (aq : Option Addr) (cq : Nat) (own : Nat → Prop) (W : World), (∀ b, own b → b < W.heap.size) → ims qs = awA → DatW qs → Has own W (RdF id aq (cellsP qs)) → Has own W (DatF qs) → Has own W (RdF (Value.int .u8) (some ⟨bl, 0, none⟩) ([sx, sx] : Dat).flatten) → Calls Try.prog 14 ⟨[.agg #[.int .i64 2, .slice aq awA.length cq], .slice (some ⟨bl, 0, none⟩) 2 2, .int .i64 1]⟩ W (Ret W (encP own 2 (.ok (awA, awU)))) := by
    intro bl qs aq cq own W hl q1 q2 h1 h2 hx
    have hql : qs.length = awA.length := by rw [← ims_len, q1]
    have h := Encode29_c 2 qs aq cq awA.length hql (by decide) q2 (fun p hp => by
      have : p.1 ∈ awA := by rw [← q1]; exact List.mem_map.2 ⟨p, hp, rfl⟩
      rw [show p.1 = ⟨dg [sx], [sx]⟩ from List.mem_singleton.1 this]
      decide) own W hl h1 h2 [sx, sx] awxx8 awxxb (some ⟨bl, 0, none⟩) 2 2 rfl (by omega) (by omega) hx 1
    rw [show encR ⟨2, ims qs⟩ [sx, sx] 1 = .ok (awA, awU) by rw [q1]; exact aw_enc2] at h
    exact h
  refine c_cut (fun a w => ∃ (at2 : Option Addr) (ct2 : Nat) (us : List TP), tms us = awU ∧ DatW (tP us) ∧ Fr 148 [] [(11, .int .i64 0), (10, .slice at2 2 ct2), (8, .int .i64 0), (7, .slice (some adt) 5 ct1), (6, .pointer (some ⟨b6, 0, none⟩)), (5, .int .i64 0), (4, .pointer (some ⟨bc, 0, none⟩)), (3, .pointer (some ⟨bz, 0, none⟩)), (2, .pointer (some ⟨by1, 0, none⟩)), (1, .pointer (some ⟨bx, 0, none⟩))] a ∧
    Mm own W [⟨bc, ⟨[.int .i64 2, .slice none 0 0]⟩, 24⟩, ⟨bz, ⟨sz.map (Value.int .u8)⟩, 44⟩, ⟨by1, ⟨sy.map (Value.int .u8)⟩, 44⟩, ⟨bx, ⟨sx.map (Value.int .u8)⟩, 44⟩] [] [RdF id at2 (cellsT us), DatF (tP us), RdF id (some adt) (cellsT ts), DatF (tP ts)] w) ?_ ?_
  · refine c_draw (fun i => Nat.ble 16 i) hM ?_; clear hM; intro w hM
    (first | (apply t_load (i := 0) hF rfl rfl rfl; (repeat (first | exact List.mem_cons_self | refine List.mem_cons_of_mem _ ?_)); exact rfl; exact rfl; kernel_rfl; exact hM.sm; exact (fun _ _ _ h => h); clear hF a; intro a hF))
    (first | (apply t_load (i := 1) hF rfl rfl rfl; (repeat (first | exact List.mem_cons_self | refine List.mem_cons_of_mem _ ?_)); exact rfl; exact rfl; kernel_rfl; exact hM.sm; exact (fun _ _ _ h => h); clear hF a; intro a hF))
    (first | (apply t_load (i := 4) hF rfl rfl rfl; (repeat (first | exact List.mem_cons_self | refine List.mem_cons_of_mem _ ?_)); exact rfl; exact rfl; kernel_rfl; exact hM.sm; exact (fun _ _ _ h => h); clear hF a; intro a hF))
    (first | (apply t_load (i := 5) hF rfl rfl rfl; (repeat (first | exact List.mem_cons_self | refine List.mem_cons_of_mem _ ?_)); exact rfl; exact rfl; kernel_rfl; exact hM.sm; exact (fun _ _ _ h => h); clear hF a; intro a hF))
    refine t_three (i := 2) (j := 6) (k := 12) hF rfl rfl rfl (by kernel_rfl) rfl rfl rfl ?_ ?_ ?_
    ·
      intro K hK
      (refine x_lit hF hM rfl rfl rfl ?_; clear hF hM a; intro bl w a hM hF; replace hM := Mm.freeze hM)
      obtain ⟨bl2, rfl⟩ : ∃ x, x = bl := ⟨_, rfl⟩; replace hM := hM.addFact (Has.lit (enc := Value.int .u8) (hM.facts _ List.mem_cons_self) ([sx] : Dat).flatten rfl)
      refine hK _ _ (fun _ => (hM.sm.sub (fun x hx => by repeat (first | exact hx | refine List.mem_cons_of_mem _ ?_)) (fun _ h => by repeat (first | exact h | refine List.mem_cons_of_mem _ ?_)))) ?_; clear hK
      refine t_three (i := 3) (j := 6) (k := 12) hF rfl rfl rfl (by kernel_rfl) rfl rfl rfl ?_ ?_ ?_
      ·
        intro K hK
        (apply x_call hF hM; exact rfl; exact rfl; exact rfl; exact rfl; exact (e2 bl2 _ _ hM.lt (hM.facts (RdF (Value.int .u8) (some ⟨bl2, 0, none⟩) ([sx] : Dat).flatten) (by (repeat (first | with_reducible exact List.mem_cons_self | refine List.mem_cons_of_mem _ ?_))))); clear hF hM a; rintro v w a ⟨a3, c3, rfl, qs, q1, q2, q3, q4, q5⟩ - hM hF)
        replace hM := (hM.addFact q4).addFact q3
        refine hK _ _ (fun _ => (hM.sm.sub (fun x hx => by repeat (first | exact hx | refine List.mem_cons_of_mem _ ?_)) (fun _ h => by repeat (first | exact h | refine List.mem_cons_of_mem _ ?_)))) ?_; clear hK
        refine t_two (i := 6) (j := 12) hF rfl rfl (by kernel_rfl) rfl rfl ?_ ?_
        ·
          intro K hK
          (refine x_lit hF hM rfl rfl rfl ?_; clear hF hM a; intro bl w a hM hF; replace hM := Mm.freeze hM)
          obtain ⟨bl6, rfl⟩ : ∃ x, x = bl := ⟨_, rfl⟩; replace hM := hM.addFact (Has.lit (enc := Value.int .u8) (hM.facts _ List.mem_cons_self) ([sx, sx] : Dat).flatten rfl)
          refine hK _ _ (fun _ => (hM.sm.sub (fun x hx => by repeat (first | exact hx | refine List.mem_cons_of_mem _ ?_)) (fun _ h => by repeat (first | exact h | refine List.mem_cons_of_mem _ ?_)))) ?_; clear hK
          refine t_two (i := 7) (j := 12) hF rfl rfl (by kernel_rfl) rfl rfl ?_ ?_
          ·
            intro K hK
            (apply x_call hF hM; exact rfl; exact rfl; exact rfl; exact rfl; exact (e3 bl6 qs a3 c3 _ _ hM.lt q1 q2 (hM.facts (RdF id a3 (cellsP qs)) (by (repeat (first | with_reducible exact List.mem_cons_self | refine List.mem_cons_of_mem _ ?_)))) (hM.facts (DatF qs) (by (repeat (first | with_reducible exact List.mem_cons_self | refine List.mem_cons_of_mem _ ?_)))) (hM.facts (RdF (Value.int .u8) (some ⟨bl6, 0, none⟩) ([sx, sx] : Dat).flatten) (by (repeat (first | with_reducible exact List.mem_cons_self | refine List.mem_cons_of_mem _ ?_))))); clear hF hM a; rintro v w a ⟨a4, c4, at2, ct2, rfl, -, us, u1, u2, u3, u4, u5⟩ - hM hF)
            replace hM := (hM.addFact u4).addFact u3
            refine hK _ _ (fun _ => (hM.sm.sub (fun x hx => by repeat (first | exact hx | refine List.mem_cons_of_mem _ ?_)) (fun _ h => by repeat (first | exact h | refine List.mem_cons_of_mem _ ?_)))) ?_; clear hK
            (first | (refine t_pure (i := 8) hF rfl rfl rfl rfl (by kernel_rfl) (hM.sm.sub (fun x hx => by repeat (first | exact hx | refine List.mem_cons_of_mem _ ?_)) (fun _ h => by repeat (first | exact h | refine List.mem_cons_of_mem _ ?_))) (fun _ _ _ h => h) ?_ ?_; (first | exact trivial | omega | decide); clear hF a; intro a hF))
            (first | (refine t_pure (i := 9) hF rfl rfl rfl rfl (by kernel_rfl) (hM.sm.sub (fun x hx => by repeat (first | exact hx | refine List.mem_cons_of_mem _ ?_)) (fun _ h => by repeat (first | exact h | refine List.mem_cons_of_mem _ ?_))) (fun _ _ _ h => h) ?_ ?_; (first | exact trivial | omega | decide); clear hF a; intro a hF))
            (first | (refine t_pure (i := 10) hF rfl rfl rfl rfl (by kernel_rfl) (hM.sm.sub (fun x hx => by repeat (first | exact hx | refine List.mem_cons_of_mem _ ?_)) (fun _ h => by repeat (first | exact h | refine List.mem_cons_of_mem _ ?_))) (fun _ _ _ h => h) ?_ ?_; (first | exact trivial | omega | decide); clear hF a; intro a hF))
            (first | (refine t_pure (i := 11) hF rfl rfl rfl rfl (by kernel_rfl) (hM.sm.sub (fun x hx => by repeat (first | exact hx | refine List.mem_cons_of_mem _ ?_)) (fun _ h => by repeat (first | exact h | refine List.mem_cons_of_mem _ ?_))) (fun _ _ _ h => h) ?_ ?_; (first | exact trivial | omega | decide); clear hF a; intro a hF))
            refine t_one (i := 12) hF rfl (by kernel_rfl) rfl ?_
            intro K hK
            (refine x_alloc hF hM rfl rfl ?_; clear hF hM a; intro b w a hM hF)
            refine hK _ _ (fun _ => (hM.sm.sub (fun x hx => by repeat (first | exact hx | refine List.mem_cons_of_mem _ ?_)) (fun _ h => by repeat (first | exact h | refine List.mem_cons_of_mem _ ?_)))) ?_; clear hK
            refine t_one (i := 13) hF rfl (by kernel_rfl) rfl ?_
            intro K hK
            (apply x_store hF hM rfl rfl rfl; (repeat (first | exact Upd.z | apply Upd.s)); exact rfl; exact rfl; exact rfl; clear hF hM a; intro w a hM hF)
            refine hK _ _ (fun _ => (hM.sm.sub (fun x hx => by repeat (first | exact hx | refine List.mem_cons_of_mem _ ?_)) (fun _ h => by repeat (first | exact h | refine List.mem_cons_of_mem _ ?_)))) ?_; clear hK
            (first | (refine t_pure (i := 14) hF rfl rfl rfl rfl (by kernel_rfl) (hM.sm.sub (fun x hx => by repeat (first | exact hx | refine List.mem_cons_of_mem _ ?_)) (fun _ h => by repeat (first | exact h | refine List.mem_cons_of_mem _ ?_))) (fun _ _ _ h => h) ?_ ?_; (first | exact trivial | omega | decide); clear hF a; intro a hF))
            (first | (refine t_pure (i := 15) hF rfl rfl rfl rfl (by kernel_rfl) (hM.sm.sub (fun x hx => by repeat (first | exact hx | refine List.mem_cons_of_mem _ ?_)) (fun _ h => by repeat (first | exact h | refine List.mem_cons_of_mem _ ?_))) (fun _ _ _ h => h) ?_ ?_; (first | exact trivial | omega | decide); clear hF a; intro a hF))
            refine t_done (by kernel_rfl) ?_
            (repeat (first | fail))
            refine q_cut ⟨at2, ct2, us, u1, u2, hF.sub (by repeat (first | exact Sub.nil | refine Sub.cons rfl (by first | with_reducible rfl | (refine congrArg (Value.int _) ?_; omega) | exact rfl) ?_)), hM.sub (.cons _ (.cons _ (.refl _))) (.refl _) (fun f hf => ?_)⟩
            simp only [List.mem_cons, List.not_mem_nil, or_false] at hf ⊢
            rcases hf with h | h | h | h <;> simp [h, cellsT]
          ·
            intro K hK
            (refine x_alloc hF hM rfl rfl ?_; clear hF hM a; intro b w a hM hF)
            refine hK _ _ (fun _ => (hM.sm.sub (fun x hx => by repeat (first | exact hx | refine List.mem_cons_of_mem _ ?_)) (fun _ h => by repeat (first | exact h | refine List.mem_cons_of_mem _ ?_)))) ?_; clear hK
            refine t_one (i := 7) hF rfl (by kernel_rfl) rfl ?_
            intro K hK
            (apply x_call hF hM; exact rfl; exact rfl; exact rfl; exact rfl; exact (e3 bl6 qs a3 c3 _ _ hM.lt q1 q2 (hM.facts (RdF id a3 (cellsP qs)) (by (repeat (first | with_reducible exact List.mem_cons_self | refine List.mem_cons_of_mem _ ?_)))) (hM.facts (DatF qs) (by (repeat (first | with_reducible exact List.mem_cons_self | refine List.mem_cons_of_mem _ ?_)))) (hM.facts (RdF (Value.int .u8) (some ⟨bl6, 0, none⟩) ([sx, sx] : Dat).flatten) (by (repeat (first | with_reducible exact List.mem_cons_self | refine List.mem_cons_of_mem _ ?_))))); clear hF hM a; rintro v w a ⟨a4, c4, at2, ct2, rfl, -, us, u1, u2, u3, u4, u5⟩ - hM hF)
            replace hM := (hM.addFact u4).addFact u3
            refine hK _ _ (fun _ => (hM.sm.sub (fun x hx => by repeat (first | exact hx | refine List.mem_cons_of_mem _ ?_)) (fun _ h => by repeat (first | exact h | refine List.mem_cons_of_mem _ ?_)))) ?_; clear hK
            (first | (refine t_pure (i := 8) hF rfl rfl rfl rfl (by kernel_rfl) (hM.sm.sub (fun x hx => by repeat (first | exact hx | refine List.mem_cons_of_mem _ ?_)) (fun _ h => by repeat (first | exact h | refine List.mem_cons_of_mem _ ?_))) (fun _ _ _ h => h) ?_ ?_; (first | exact trivial | omega | decide); clear hF a; intro a hF))
            (first | (refine t_pure (i := 9) hF rfl rfl rfl rfl (by kernel_rfl) (hM.sm.sub (fun x hx => by repeat (first | exact hx | refine List.mem_cons_of_mem _ ?_)) (fun _ h => by repeat (first | exact h | refine List.mem_cons_of_mem _ ?_))) (fun _ _ _ h => h) ?_ ?_; (first | exact trivial | omega | decide); clear hF a; intro a hF))
            (first | (refine t_pure (i := 10) hF rfl rfl rfl rfl (by kernel_rfl) (hM.sm.sub (fun x hx => by repeat (first | exact hx | refine List.mem_cons_of_mem _ ?_)) (fun _ h => by repeat (first | exact h | refine List.mem_cons_of_mem _ ?_))) (fun _ _ _ h => h) ?_ ?_; (first | exact trivial | omega | decide); clear hF a; intro a hF))
            (first | (refine t_pure (i := 11) hF rfl rfl rfl rfl (by kernel_rfl) (hM.sm.sub (fun x hx => by repeat (first | exact hx | refine List.mem_cons_of_mem _ ?_)) (fun _ h => by repeat (first | exact h | refine List.mem_cons_of_mem _ ?_))) (fun _ _ _ h => h) ?_ ?_; (first | exact trivial | omega | decide); clear hF a; intro a hF))
            refine t_one (i := 13) hF rfl (by kernel_rfl) rfl ?_
            intro K hK
            (apply x_store hF hM rfl rfl rfl; (repeat (first | exact Upd.z | apply Upd.s)); exact rfl; exact rfl; exact rfl; clear hF hM a; intro w a hM hF)
            refine hK _ _ (fun _ => (hM.sm.sub (fun x hx => by repeat (first | exact hx | refine List.mem_cons_of_mem _ ?_)) (fun _ h => by repeat (first | exact h | refine List.mem_cons_of_mem _ ?_)))) ?_; clear hK
            (first | (refine t_pure (i := 14) hF rfl rfl rfl rfl (by kernel_rfl) (hM.sm.sub (fun x hx => by repeat (first | exact hx | refine List.mem_cons_of_mem _ ?_)) (fun _ h => by repeat (first | exact h | refine List.mem_cons_of_mem _ ?_))) (fun _ _ _ h => h) ?_ ?_; (first | exact trivial | omega | decide); clear hF a; intro a hF))
            (first | (refine t_pure (i := 15) hF rfl rfl rfl rfl (by kernel_rfl) (hM.sm.sub (fun x hx => by repeat (first | exact hx | refine List.mem_cons_of_mem _ ?_)) (fun _ h => by repeat (first | exact h | refine List.mem_cons_of_mem _ ?_))) (fun _ _ _ h => h) ?_ ?_; (first | exact trivial | omega | decide); clear hF a; intro a hF))
            refine t_done (by kernel_rfl) ?_
            (repeat (first | fail))
            refine q_cut ⟨at2, ct2, us, u1, u2, hF.sub (by repeat (first | exact Sub.nil | refine Sub.cons rfl (by first | with_reducible rfl | (refine congrArg (Value.int _) ?_; omega) | exact rfl) ?_)), hM.sub (.cons _ (.cons _ (.refl _))) (.refl _) (fun f hf => ?_)⟩
            simp only [List.mem_cons, List.not_mem_nil, or_false] at hf ⊢
            rcases hf with h | h | h | h <;> simp [h, cellsT]
        ·
          intro K hK
          (refine x_alloc hF hM rfl rfl ?_; clear hF hM a; intro b w a hM hF)
          refine hK _ _ (fun _ => (hM.sm.sub (fun x hx => by repeat (first | exact hx | refine List.mem_cons_of_mem _ ?_)) (fun _ h => by repeat (first | exact h | refine List.mem_cons_of_mem _ ?_)))) ?_; clear hK
          refine t_one (i := 6) hF rfl (by kernel_rfl) rfl ?_
          intro K hK
          (refine x_lit hF hM rfl rfl rfl ?_; clear hF hM a; intro bl w a hM hF; replace hM := Mm.freeze hM)
          obtain ⟨bl6, rfl⟩ : ∃ x, x = bl := ⟨_, rfl⟩; replace hM := hM.addFact (Has.lit (enc := Value.int .u8) (hM.facts _ List.mem_cons_self) ([sx, sx] : Dat).flatten rfl)
          refine hK _ _ (fun _ => (hM.sm.sub (fun x hx => by repeat (first | exact hx | refine List.mem_cons_of_mem _ ?_)) (fun _ h => by repeat (first | exact h | refine List.mem_cons_of_mem _ ?_)))) ?_; clear hK
          refine t_one (i := 7) hF rfl (by kernel_rfl) rfl ?_
          intro K hK
          (apply x_call hF hM; exact rfl; exact rfl; exact rfl; exact rfl; exact (e3 bl6 qs a3 c3 _ _ hM.lt q1 q2 (hM.facts (RdF id a3 (cellsP qs)) (by (repeat (first | with_reducible exact List.mem_cons_self | refine List.mem_cons_of_mem _ ?_)))) (hM.facts (DatF qs) (by (repeat (first | with_reducible exact List.mem_cons_self | refine List.mem_cons_of_mem _ ?_)))) (hM.facts (RdF (Value.int .u8) (some ⟨bl6, 0, none⟩) ([sx, sx] : Dat).flatten) (by (repeat (first | with_reducible exact List.mem_cons_self | refine List.mem_cons_of_mem _ ?_))))); clear hF hM a; rintro v w a ⟨a4, c4, at2, ct2, rfl, -, us, u1, u2, u3, u4, u5⟩ - hM hF)
          replace hM := (hM.addFact u4).addFact u3
          refine hK _ _ (fun _ => (hM.sm.sub (fun x hx => by repeat (first | exact hx | refine List.mem_cons_of_mem _ ?_)) (fun _ h => by repeat (first | exact h | refine List.mem_cons_of_mem _ ?_)))) ?_; clear hK
          (first | (refine t_pure (i := 8) hF rfl rfl rfl rfl (by kernel_rfl) (hM.sm.sub (fun x hx => by repeat (first | exact hx | refine List.mem_cons_of_mem _ ?_)) (fun _ h => by repeat (first | exact h | refine List.mem_cons_of_mem _ ?_))) (fun _ _ _ h => h) ?_ ?_; (first | exact trivial | omega | decide); clear hF a; intro a hF))
          (first | (refine t_pure (i := 9) hF rfl rfl rfl rfl (by kernel_rfl) (hM.sm.sub (fun x hx => by repeat (first | exact hx | refine List.mem_cons_of_mem _ ?_)) (fun _ h => by repeat (first | exact h | refine List.mem_cons_of_mem _ ?_))) (fun _ _ _ h => h) ?_ ?_; (first | exact trivial | omega | decide); clear hF a; intro a hF))
          (first | (refine t_pure (i := 10) hF rfl rfl rfl rfl (by kernel_rfl) (hM.sm.sub (fun x hx => by repeat (first | exact hx | refine List.mem_cons_of_mem _ ?_)) (fun _ h => by repeat (first | exact h | refine List.mem_cons_of_mem _ ?_))) (fun _ _ _ h => h) ?_ ?_; (first | exact trivial | omega | decide); clear hF a; intro a hF))
          (first | (refine t_pure (i := 11) hF rfl rfl rfl rfl (by kernel_rfl) (hM.sm.sub (fun x hx => by repeat (first | exact hx | refine List.mem_cons_of_mem _ ?_)) (fun _ h => by repeat (first | exact h | refine List.mem_cons_of_mem _ ?_))) (fun _ _ _ h => h) ?_ ?_; (first | exact trivial | omega | decide); clear hF a; intro a hF))
          refine t_one (i := 13) hF rfl (by kernel_rfl) rfl ?_
          intro K hK
          (apply x_store hF hM rfl rfl rfl; (repeat (first | exact Upd.z | apply Upd.s)); exact rfl; exact rfl; exact rfl; clear hF hM a; intro w a hM hF)
          refine hK _ _ (fun _ => (hM.sm.sub (fun x hx => by repeat (first | exact hx | refine List.mem_cons_of_mem _ ?_)) (fun _ h => by repeat (first | exact h | refine List.mem_cons_of_mem _ ?_)))) ?_; clear hK
          (first | (refine t_pure (i := 14) hF rfl rfl rfl rfl (by kernel_rfl) (hM.sm.sub (fun x hx => by repeat (first | exact hx | refine List.mem_cons_of_mem _ ?_)) (fun _ h => by repeat (first | exact h | refine List.mem_cons_of_mem _ ?_))) (fun _ _ _ h => h) ?_ ?_; (first | exact trivial | omega | decide); clear hF a; intro a hF))
          (first | (refine t_pure (i := 15) hF rfl rfl rfl rfl (by kernel_rfl) (hM.sm.sub (fun x hx => by repeat (first | exact hx | refine List.mem_cons_of_mem _ ?_)) (fun _ h => by repeat (first | exact h | refine List.mem_cons_of_mem _ ?_))) (fun _ _ _ h => h) ?_ ?_; (first | exact trivial | omega | decide); clear hF a; intro a hF))
          refine t_done (by kernel_rfl) ?_
          (repeat (first | fail))
          refine q_cut ⟨at2, ct2, us, u1, u2, hF.sub (by repeat (first | exact Sub.nil | refine Sub.cons rfl (by first | with_reducible rfl | (refine congrArg (Value.int _) ?_; omega) | exact rfl) ?_)), hM.sub (.cons _ (.cons _ (.refl _))) (.refl _) (fun f hf => ?_)⟩
          simp only [List.mem_cons, List.not_mem_nil, or_false] at hf ⊢
          rcases hf with h | h | h | h <;> simp [h, cellsT]
      ·
        intro K hK
        (refine x_lit hF hM rfl rfl rfl ?_; clear hF hM a; intro bl w a hM hF; replace hM := Mm.freeze hM)
        obtain ⟨bl6, rfl⟩ : ∃ x, x = bl := ⟨_, rfl⟩; replace hM := hM.addFact (Has.lit (enc := Value.int .u8) (hM.facts _ List.mem_cons_self) ([sx, sx] : Dat).flatten rfl)
        refine hK _ _ (fun _ => (hM.sm.sub (fun x hx => by repeat (first | exact hx | refine List.mem_cons_of_mem _ ?_)) (fun _ h => by repeat (first | exact h | refine List.mem_cons_of_mem _ ?_)))) ?_; clear hK
        refine t_two (i := 3) (j := 12) hF rfl rfl (by kernel_rfl) rfl rfl ?_ ?_
        ·
          intro K hK
          (apply x_call hF hM; exact rfl; exact rfl; exact rfl; exact rfl; exact (e2 bl2 _ _ hM.lt (hM.facts (RdF (Value.int .u8) (some ⟨bl2, 0, none⟩) ([sx] : Dat).flatten) (by (repeat (first | with_reducible exact List.mem_cons_self | refine List.mem_cons_of_mem _ ?_))))); clear hF hM a; rintro v w a ⟨a3, c3, rfl, qs, q1, q2, q3, q4, q5⟩ - hM hF)
          replace hM := (hM.addFact q4).addFact q3
          refine hK _ _ (fun _ => (hM.sm.sub (fun x hx => by repeat (first | exact hx | refine List.mem_cons_of_mem _ ?_)) (fun _ h => by repeat (first | exact h | refine List.mem_cons_of_mem _ ?_)))) ?_; clear hK
          refine t_two (i := 7) (j := 12) hF rfl rfl (by kernel_rfl) rfl rfl ?_ ?_
          ·
            intro K hK
            (apply x_call hF hM; exact rfl; exact rfl; exact rfl; exact rfl; exact (e3 bl6 qs a3 c3 _ _ hM.lt q1 q2 (hM.facts (RdF id a3 (cellsP qs)) (by (repeat (first | with_reducible exact List.mem_cons_self | refine List.mem_cons_of_mem _ ?_)))) (hM.facts (DatF qs) (by (repeat (first | with_reducible exact List.mem_cons_self | refine List.mem_cons_of_mem _ ?_)))) (hM.facts (RdF (Value.int .u8) (some ⟨bl6, 0, none⟩) ([sx, sx] : Dat).flatten) (by (repeat (first | with_reducible exact List.mem_cons_self | refine List.mem_cons_of_mem _ ?_))))); clear hF hM a; rintro v w a ⟨a4, c4, at2, ct2, rfl, -, us, u1, u2, u3, u4, u5⟩ - hM hF)
            replace hM := (hM.addFact u4).addFact u3
            refine hK _ _ (fun _ => (hM.sm.sub (fun x hx => by repeat (first | exact hx | refine List.mem_cons_of_mem _ ?_)) (fun _ h => by repeat (first | exact h | refine List.mem_cons_of_mem _ ?_)))) ?_; clear hK
            (first | (refine t_pure (i := 8) hF rfl rfl rfl rfl (by kernel_rfl) (hM.sm.sub (fun x hx => by repeat (first | exact hx | refine List.mem_cons_of_mem _ ?_)) (fun _ h => by repeat (first | exact h | refine List.mem_cons_of_mem _ ?_))) (fun _ _ _ h => h) ?_ ?_; (first | exact trivial | omega | decide); clear hF a; intro a hF))
            (first | (refine t_pure (i := 9) hF rfl rfl rfl rfl (by kernel_rfl) (hM.sm.sub (fun x hx => by repeat (first | exact hx | refine List.mem_cons_of_mem _ ?_)) (fun _ h => by repeat (first | exact h | refine List.mem_cons_of_mem _ ?_))) (fun _ _ _ h => h) ?_ ?_; (first | exact trivial | omega | decide); clear hF a; intro a hF))
            (first | (refine t_pure (i := 10) hF rfl rfl rfl rfl (by kernel_rfl) (hM.sm.sub (fun x hx => by repeat (first | exact hx | refine List.mem_cons_of_mem _ ?_)) (fun _ h => by repeat (first | exact h | refine List.mem_cons_of_mem _ ?_))) (fun _ _ _ h => h) ?_ ?_; (first | exact trivial | omega | decide); clear hF a; intro a hF))
            (first | (refine t_pure (i := 11) hF rfl rfl rfl rfl (by kernel_rfl) (hM.sm.sub (fun x hx => by repeat (first | exact hx | refine List.mem_cons_of_mem _ ?_)) (fun _ h => by repeat (first | exact h | refine List.mem_cons_of_mem _ ?_))) (fun _ _ _ h => h) ?_ ?_; (first | exact trivial | omega | decide); clear hF a; intro a hF))
            refine t_one (i := 12) hF rfl (by kernel_rfl) rfl ?_
            intro K hK
            (refine x_alloc hF hM rfl rfl ?_; clear hF hM a; intro b w a hM hF)
            refine hK _ _ (fun _ => (hM.sm.sub (fun x hx => by repeat (first | exact hx | refine List.mem_cons_of_mem _ ?_)) (fun _ h => by repeat (first | exact h | refine List.mem_cons_of_mem _ ?_)))) ?_; clear hK
            refine t_one (i := 13) hF rfl (by kernel_rfl) rfl ?_
            intro K hK
            (apply x_store hF hM rfl rfl rfl; (repeat (first | exact Upd.z | apply Upd.s)); exact rfl; exact rfl; exact rfl; clear hF hM a; intro w a hM hF)
            refine hK _ _ (fun _ => (hM.sm.sub (fun x hx => by repeat (first | exact hx | refine List.mem_cons_of_mem _ ?_)) (fun _ h => by repeat (first | exact h | refine List.mem_cons_of_mem _ ?_)))) ?_; clear hK
            (first | (refine t_pure (i := 14) hF rfl rfl rfl rfl (by kernel_rfl) (hM.sm.sub (fun x hx => by repeat (first | exact hx | refine List.mem_cons_of_mem _ ?_)) (fun _ h => by repeat (first | exact h | refine List.mem_cons_of_mem _ ?_))) (fun _ _ _ h => h) ?_ ?_; (first | exact trivial | omega | decide); clear hF a; intro a hF))
            (first | (refine t_pure (i := 15) hF rfl rfl rfl rfl (by kernel_rfl) (hM.sm.sub (fun x hx => by repeat (first | exact hx | refine List.mem_cons_of_mem _ ?_)) (fun _ h => by repeat (first | exact h | refine List.mem_cons_of_mem _ ?_))) (fun _ _ _ h => h) ?_ ?_; (first | exact trivial | omega | decide); clear hF a; intro a hF))
            refine t_done (by kernel_rfl) ?_
            (repeat (first | fail))
            refine q_cut ⟨at2, ct2, us, u1, u2, hF.sub (by repeat (first | exact Sub.nil | refine Sub.cons rfl (by first | with_reducible rfl | (refine congrArg (Value.int _) ?_; omega) | exact rfl) ?_)), hM.sub (.cons _ (.cons _ (.refl _))) (.refl _) (fun f hf => ?_)⟩
            simp only [List.mem_cons, List.not_mem_nil, or_false] at hf ⊢
            rcases hf with h | h | h | h <;> simp [h, cellsT]
          ·
            intro K hK
            (refine x_alloc hF hM rfl rfl ?_; clear hF hM a; intro b w a hM hF)
            refine hK _ _ (fun _ => (hM.sm.sub (fun x hx => by repeat (first | exact hx | refine List.mem_cons_of_mem _ ?_)) (fun _ h => by repeat (first | exact h | refine List.mem_cons_of_mem _ ?_)))) ?_; clear hK
            refine t_one (i := 7) hF rfl (by kernel_rfl) rfl ?_
            intro K hK
            (apply x_call hF hM; exact rfl; exact rfl; exact rfl; exact rfl; exact (e3 bl6 qs a3 c3 _ _ hM.lt q1 q2 (hM.facts (RdF id a3 (cellsP qs)) (by (repeat (first | with_reducible exact List.mem_cons_self | refine List.mem_cons_of_mem _ ?_)))) (hM.facts (DatF qs) (by (repeat (first | with_reducible exact List.mem_cons_self | refine List.mem_cons_of_mem _ ?_)))) (hM.facts (RdF (Value.int .u8) (some ⟨bl6, 0, none⟩) ([sx, sx] : Dat).flatten) (by (repeat (first | with_reducible exact List.mem_cons_self | refine List.mem_cons_of_mem _ ?_))))); clear hF hM a; rintro v w a ⟨a4, c4, at2, ct2, rfl, -, us, u1, u2, u3, u4, u5⟩ - hM hF)
            replace hM := (hM.addFact u4).addFact u3
            refine hK _ _ (fun _ => (hM.sm.sub (fun x hx => by repeat (first | exact hx | refine List.mem_cons_of_mem _ ?_)) (fun _ h => by repeat (first | exact h | refine List.mem_cons_of_mem _ ?_)))) ?_; clear hK
            (first | (refine t_pure (i := 8) hF rfl rfl rfl rfl (by kernel_rfl) (hM.sm.sub (fun x hx => by repeat (first | exact hx | refine List.mem_cons_of_mem _ ?_)) (fun _ h => by repeat (first | exact h | refine List.mem_cons_of_mem _ ?_))) (fun _ _ _ h => h) ?_ ?_; (first | exact trivial | omega | decide); clear hF a; intro a hF))
            (first | (refine t_pure (i := 9) hF rfl rfl rfl rfl (by kernel_rfl) (hM.sm.sub (fun x hx => by repeat (first | exact hx | refine List.mem_cons_of_mem _ ?_)) (fun _ h => by repeat (first | exact h | refine List.mem_cons_of_mem _ ?_))) (fun _ _ _ h => h) ?_ ?_; (first | exact trivial | omega | decide); clear hF a; intro a hF))
            (first | (refine t_pure (i := 10) hF rfl rfl rfl rfl (by kernel_rfl) (hM.sm.sub (fun x hx => by repeat (first | exact hx | refine List.mem_cons_of_mem _ ?_)) (fun _ h => by repeat (first | exact h | refine List.mem_cons_of_mem _ ?_))) (fun _ _ _ h => h) ?_ ?_; (first | exact trivial | omega | decide); clear hF a; intro a hF))
            (first | (refine t_pure (i := 11) hF rfl rfl rfl rfl (by kernel_rfl) (hM.sm.sub (fun x hx => by repeat (first | exact hx | refine List.mem_cons_of_mem _ ?_)) (fun _ h => by repeat (first | exact h | refine List.mem_cons_of_mem _ ?_))) (fun _ _ _ h => h) ?_ ?_; (first | exact trivial | omega | decide); clear hF a; intro a hF))
            refine t_one (i := 13) hF rfl (by kernel_rfl) rfl ?_
            intro K hK
            (apply x_store hF hM rfl rfl rfl; (repeat (first | exact Upd.z | apply Upd.s)); exact rfl; exact rfl; exact rfl; clear hF hM a; intro w a hM hF)
            refine hK _ _ (fun _ => (hM.sm.sub (fun x hx => by repeat (first | exact hx | refine List.mem_cons_of_mem _ ?_)) (fun _ h => by repeat (first | exact h | refine List.mem_cons_of_mem _ ?_)))) ?_; clear hK
            (first | (refine t_pure (i := 14) hF rfl rfl rfl rfl (by kernel_rfl) (hM.sm.sub (fun x hx => by repeat (first | exact hx | refine List.mem_cons_of_mem _ ?_)) (fun _ h => by repeat (first | exact h | refine List.mem_cons_of_mem _ ?_))) (fun _ _ _ h => h) ?_ ?_; (first | exact trivial | omega | decide); clear hF a; intro a hF))
            (first | (refine t_pure (i := 15) hF rfl rfl rfl rfl (by kernel_rfl) (hM.sm.sub (fun x hx => by repeat (first | exact hx | refine List.mem_cons_of_mem _ ?_)) (fun _ h => by repeat (first | exact h | refine List.mem_cons_of_mem _ ?_))) (fun _ _ _ h => h) ?_ ?_; (first | exact trivial | omega | decide); clear hF a; intro a hF))
            refine t_done (by kernel_rfl) ?_
            (repeat (first | fail))
            refine q_cut ⟨at2, ct2, us, u1, u2, hF.sub (by repeat (first | exact Sub.nil | refine Sub.cons rfl (by first | with_reducible rfl | (refine congrArg (Value.int _) ?_; omega) | exact rfl) ?_)), hM.sub (.cons _ (.cons _ (.refl _))) (.refl _) (fun f hf => ?_)⟩
            simp only [List.mem_cons, List.not_mem_nil, or_false] at hf ⊢
            rcases hf with h | h | h | h <;> simp [h, cellsT]
        ·
          intro K hK
          (refine x_alloc hF hM rfl rfl ?_; clear hF hM a; intro b w a hM hF)
          refine hK _ _ (fun _ => (hM.sm.sub (fun x hx => by repeat (first | exact hx | refine List.mem_cons_of_mem _ ?_)) (fun _ h => by repeat (first | exact h | refine List.mem_cons_of_mem _ ?_)))) ?_; clear hK
          refine t_one (i := 3) hF rfl (by kernel_rfl) rfl ?_
          intro K hK
          (apply x_call hF hM; exact rfl; exact rfl; exact rfl; exact rfl; exact (e2 bl2 _ _ hM.lt (hM.facts (RdF (Value.int .u8) (some ⟨bl2, 0, none⟩) ([sx] : Dat).flatten) (by (repeat (first | with_reducible exact List.mem_cons_self | refine List.mem_cons_of_mem _ ?_))))); clear hF hM a; rintro v w a ⟨a3, c3, rfl, qs, q1, q2, q3, q4, q5⟩ - hM hF)
          replace hM := (hM.addFact q4).addFact q3
          refine hK _ _ (fun _ => (hM.sm.sub (fun x hx => by repeat (first | exact hx | refine List.mem_cons_of_mem _ ?_)) (fun _ h => by repeat (first | exact h | refine List.mem_cons_of_mem _ ?_)))) ?_; clear hK
          refine t_one (i := 7) hF rfl (by kernel_rfl) rfl ?_
          intro K hK
          (apply x_call hF hM; exact rfl; exact rfl; exact rfl; exact rfl; exact (e3 bl6 qs a3 c3 _ _ hM.lt q1 q2 (hM.facts (RdF id a3 (cellsP qs)) (by (repeat (first | with_reducible exact List.mem_cons_self | refine List.mem_cons_of_mem _ ?_)))) (hM.facts (DatF qs) (by (repeat (first | with_reducible exact List.mem_cons_self | refine List.mem_cons_of_mem _ ?_)))) (hM.facts (RdF (Value.int .u8) (some ⟨bl6, 0, none⟩) ([sx, sx] : Dat).flatten) (by (repeat (first | with_reducible exact List.mem_cons_self | refine List.mem_cons_of_mem _ ?_))))); clear hF hM a; rintro v w a ⟨a4, c4, at2, ct2, rfl, -, us, u1, u2, u3, u4, u5⟩ - hM hF)
          replace hM := (hM.addFact u4).addFact u3
          refine hK _ _ (fun _ => (hM.sm.sub (fun x hx => by repeat (first | exact hx | refine List.mem_cons_of_mem _ ?_)) (fun _ h => by repeat (first | exact h | refine List.mem_cons_of_mem _ ?_)))) ?_; clear hK
          (first | (refine t_pure (i := 8) hF rfl rfl rfl rfl (by kernel_rfl) (hM.sm.sub (fun x hx => by repeat (first | exact hx | refine List.mem_cons_of_mem _ ?_)) (fun _ h => by repeat (first | exact h | refine List.mem_cons_of_mem _ ?_))) (fun _ _ _ h => h) ?_ ?_; (first | exact trivial | omega | decide); clear hF a; intro a hF))
          (first | (refine t_pure (i := 9) hF rfl rfl rfl rfl (by kernel_rfl) (hM.sm.sub (fun x hx => by repeat (first | exact hx | refine List.mem_cons_of_mem _ ?_)) (fun _ h => by repeat (first | exact h | refine List.mem_cons_of_mem _ ?_))) (fun _ _ _ h => h) ?_ ?_; (first | exact trivial | omega | decide); clear hF a; intro a hF))
          (first | (refine t_pure (i := 10) hF rfl rfl rfl rfl (by kernel_rfl) (hM.sm.sub (fun x hx => by repeat (first | exact hx | refine List.mem_cons_of_mem _ ?_)) (fun _ h => by repeat (first | exact h | refine List.mem_cons_of_mem _ ?_))) (fun _ _ _ h => h) ?_ ?_; (first | exact trivial | omega | decide); clear hF a; intro a hF))
          (first | (refine t_pure (i := 11) hF rfl rfl rfl rfl (by kernel_rfl) (hM.sm.sub (fun x hx => by repeat (first | exact hx | refine List.mem_cons_of_mem _ ?_)) (fun _ h => by repeat (first | exact h | refine List.mem_cons_of_mem _ ?_))) (fun _ _ _ h => h) ?_ ?_; (first | exact trivial | omega | decide); clear hF a; intro a hF))
          refine t_one (i := 13) hF rfl (by kernel_rfl) rfl ?_
          intro K hK
          (apply x_store hF hM rfl rfl rfl; (repeat (first | exact Upd.z | apply Upd.s)); exact rfl; exact rfl; exact rfl; clear hF hM a; intro w a hM hF)
          refine hK _ _ (fun _ => (hM.sm.sub (fun x hx => by repeat (first | exact hx | refine List.mem_cons_of_mem _ ?_)) (fun _ h => by repeat (first | exact h | refine List.mem_cons_of_mem _ ?_)))) ?_; clear hK
          (first | (refine t_pure (i := 14) hF rfl rfl rfl rfl (by kernel_rfl) (hM.sm.sub (fun x hx => by repeat (first | exact hx | refine List.mem_cons_of_mem _ ?_)) (fun _ h => by repeat (first | exact h | refine List.mem_cons_of_mem _ ?_))) (fun _ _ _ h => h) ?_ ?_; (first | exact trivial | omega | decide); clear hF a; intro a hF))
          (first | (refine t_pure (i := 15) hF rfl rfl rfl rfl (by kernel_rfl) (hM.sm.sub (fun x hx => by repeat (first | exact hx | refine List.mem_cons_of_mem _ ?_)) (fun _ h => by repeat (first | exact h | refine List.mem_cons_of_mem _ ?_))) (fun _ _ _ h => h) ?_ ?_; (first | exact trivial | omega | decide); clear hF a; intro a hF))
          refine t_done (by kernel_rfl) ?_
          (repeat (first | fail))
          refine q_cut ⟨at2, ct2, us, u1, u2, hF.sub (by repeat (first | exact Sub.nil | refine Sub.cons rfl (by first | with_reducible rfl | (refine congrArg (Value.int _) ?_; omega) | exact rfl) ?_)), hM.sub (.cons _ (.cons _ (.refl _))) (.refl _) (fun f hf => ?_)⟩
          simp only [List.mem_cons, List.not_mem_nil, or_false] at hf ⊢
          rcases hf with h | h | h | h <;> simp [h, cellsT]
      ·
        intro K hK
        (refine x_alloc hF hM rfl rfl ?_; clear hF hM a; intro b w a hM hF)
        refine hK _ _ (fun _ => (hM.sm.sub (fun x hx => by repeat (first | exact hx | refine List.mem_cons_of_mem _ ?_)) (fun _ h => by repeat (first | exact h | refine List.mem_cons_of_mem _ ?_)))) ?_; clear hK
        refine t_two (i := 3) (j := 6) hF rfl rfl (by kernel_rfl) rfl rfl ?_ ?_
        ·
          intro K hK
          (apply x_call hF hM; exact rfl; exact rfl; exact rfl; exact rfl; exact (e2 bl2 _ _ hM.lt (hM.facts (RdF (Value.int .u8) (some ⟨bl2, 0, none⟩) ([sx] : Dat).flatten) (by (repeat (first | with_reducible exact List.mem_cons_self | refine List.mem_cons_of_mem _ ?_))))); clear hF hM a; rintro v w a ⟨a3, c3, rfl, qs, q1, q2, q3, q4, q5⟩ - hM hF)
          replace hM := (hM.addFact q4).addFact q3
          refine hK _ _ (fun _ => (hM.sm.sub (fun x hx => by repeat (first | exact hx | refine List.mem_cons_of_mem _ ?_)) (fun _ h => by repeat (first | exact h | refine List.mem_cons_of_mem _ ?_)))) ?_; clear hK
          refine t_one (i := 6) hF rfl (by kernel_rfl) rfl ?_
          intro K hK
          (refine x_lit hF hM rfl rfl rfl ?_; clear hF hM a; intro bl w a hM hF; replace hM := Mm.freeze hM)
          obtain ⟨bl6, rfl⟩ : ∃ x, x = bl := ⟨_, rfl⟩; replace hM := hM.addFact (Has.lit (enc := Value.int .u8) (hM.facts _ List.mem_cons_self) ([sx, sx] : Dat).flatten rfl)
          refine hK _ _ (fun _ => (hM.sm.sub (fun x hx => by repeat (first | exact hx | refine List.mem_cons_of_mem _ ?_)) (fun _ h => by repeat (first | exact h | refine List.mem_cons_of_mem _ ?_)))) ?_; clear hK
          refine t_one (i := 7) hF rfl (by kernel_rfl) rfl ?_
          intro K hK
          (apply x_call hF hM; exact rfl; exact rfl; exact rfl; exact rfl; exact (e3 bl6 qs a3 c3 _ _ hM.lt q1 q2 (hM.facts (RdF id a3 (cellsP qs)) (by (repeat (first | with_reducible exact List.mem_cons_self | refine List.mem_cons_of_mem _ ?_)))) (hM.facts (DatF qs) (by (repeat (first | with_reducible exact List.mem_cons_self | refine List.mem_cons_of_mem _ ?_)))) (hM.facts (RdF (Value.int .u8) (some ⟨bl6, 0, none⟩) ([sx, sx] : Dat).flatten) (by (repeat (first | with_reducible exact List.mem_cons_self | refine List.mem_cons_of_mem _ ?_))))); clear hF hM a; rintro v w a ⟨a4, c4, at2, ct2, rfl, -, us, u1, u2, u3, u4, u5⟩ - hM hF)
          replace hM := (hM.addFact u4).addFact u3
          refine hK _ _ (fun _ => (hM.sm.sub (fun x hx => by repeat (first | exact hx | refine List.mem_cons_of_mem _ ?_)) (fun _ h => by repeat (first | exact h | refine List.mem_cons_of_mem _ ?_)))) ?_; clear hK
          (first | (refine t_pure (i := 8) hF rfl rfl rfl rfl (by kernel_rfl) (hM.sm.sub (fun x hx => by repeat (first | exact hx | refine List.mem_cons_of_mem _ ?_)) (fun _ h => by repeat (first | exact h | refine List.mem_cons_of_mem _ ?_))) (fun _ _ _ h => h) ?_ ?_; (first | exact trivial | omega | decide); clear hF a; intro a hF))
          (first | (refine t_pure (i := 9) hF rfl rfl rfl rfl (by kernel_rfl) (hM.sm.sub (fun x hx => by repeat (first | exact hx | refine List.mem_cons_of_mem _ ?_)) (fun _ h => by repeat (first | exact h | refine List.mem_cons_of_mem _ ?_))) (fun _ _ _ h => h) ?_ ?_; (first | exact trivial | omega | decide); clear hF a; intro a hF))
          (first | (refine t_pure (i := 10) hF rfl rfl rfl rfl (by kernel_rfl) (hM.sm.sub (fun x hx => by repeat (first | exact hx | refine List.mem_cons_of_mem _ ?_)) (fun _ h => by repeat (first | exact h | refine List.mem_cons_of_mem _ ?_))) (fun _ _ _ h => h) ?_ ?_; (first | exact trivial | omega | decide); clear hF a; intro a hF))
          (first | (refine t_pure (i := 11) hF rfl rfl rfl rfl (by kernel_rfl) (hM.sm.sub (fun x hx => by repeat (first | exact hx | refine List.mem_cons_of_mem _ ?_)) (fun _ h => by repeat (first | exact h | refine List.mem_cons_of_mem _ ?_))) (fun _ _ _ h => h) ?_ ?_; (first | exact trivial | omega | decide); clear hF a; intro a hF))
          refine t_one (i := 13) hF rfl (by kernel_rfl) rfl ?_
          intro K hK
          (apply x_store hF hM rfl rfl rfl; (repeat (first | exact Upd.z | apply Upd.s)); exact rfl; exact rfl; exact rfl; clear hF hM a; intro w a hM hF)
          refine hK _ _ (fun _ => (hM.sm.sub (fun x hx => by repeat (first | exact hx | refine List.mem_cons_of_mem _ ?_)) (fun _ h => by repeat (first | exact h | refine List.mem_cons_of_mem _ ?_)))) ?_; clear hK
          (first | (refine t_pure (i := 14) hF rfl rfl rfl rfl (by kernel_rfl) (hM.sm.sub (fun x hx => by repeat (first | exact hx | refine List.mem_cons_of_mem _ ?_)) (fun _ h => by repeat (first | exact h | refine List.mem_cons_of_mem _ ?_))) (fun _ _ _ h => h) ?_ ?_; (first | exact trivial | omega | decide); clear hF a; intro a hF))
          (first | (refine t_pure (i := 15) hF rfl rfl rfl rfl (by kernel_rfl) (hM.sm.sub (fun x hx => by repeat (first | exact hx | refine List.mem_cons_of_mem _ ?_)) (fun _ h => by repeat (first | exact h | refine List.mem_cons_of_mem _ ?_))) (fun _ _ _ h => h) ?_ ?_; (first | exact trivial | omega | decide); clear hF a; intro a hF))
          refine t_done (by kernel_rfl) ?_
          (repeat (first | fail))
          refine q_cut ⟨at2, ct2, us, u1, u2, hF.sub (by repeat (first | exact Sub.nil | refine Sub.cons rfl (by first | with_reducible rfl | (refine congrArg (Value.int _) ?_; omega) | exact rfl) ?_)), hM.sub (.cons _ (.cons _ (.refl _))) (.refl _) (fun f hf => ?_)⟩
          simp only [List.mem_cons, List.not_mem_nil, or_false] at hf ⊢
          rcases hf with h | h | h | h <;> simp [h, cellsT]
        ·
          intro K hK
          (refine x_lit hF hM rfl rfl rfl ?_; clear hF hM a; intro bl w a hM hF; replace hM := Mm.freeze hM)
          obtain ⟨bl6, rfl⟩ : ∃ x, x = bl := ⟨_, rfl⟩; replace hM := hM.addFact (Has.lit (enc := Value.int .u8) (hM.facts _ List.mem_cons_self) ([sx, sx] : Dat).flatten rfl)
          refine hK _ _ (fun _ => (hM.sm.sub (fun x hx => by repeat (first | exact hx | refine List.mem_cons_of_mem _ ?_)) (fun _ h => by repeat (first | exact h | refine List.mem_cons_of_mem _ ?_)))) ?_; clear hK
          refine t_one (i := 3) hF rfl (by kernel_rfl) rfl ?_
          intro K hK
          (apply x_call hF hM; exact rfl; exact rfl; exact rfl; exact rfl; exact (e2 bl2 _ _ hM.lt (hM.facts (RdF (Value.int .u8) (some ⟨bl2, 0, none⟩) ([sx] : Dat).flatten) (by (repeat (first | with_reducible exact List.mem_cons_self | refine List.mem_cons_of_mem _ ?_))))); clear hF hM a; rintro v w a ⟨a3, c3, rfl, qs, q1, q2, q3, q4, q5⟩ - hM hF)
          replace hM := (hM.addFact q4).addFact q3
          refine hK _ _ (fun _ => (hM.sm.sub (fun x hx => by repeat (first | exact hx | refine List.mem_cons_of_mem _ ?_)) (fun _ h => by repeat (first | exact h | refine List.mem_cons_of_mem _ ?_)))) ?_; clear hK
          refine t_one (i := 7) hF rfl (by kernel_rfl) rfl ?_
          intro K hK
          (apply x_call hF hM; exact rfl; exact rfl; exact rfl; exact rfl; exact (e3 bl6 qs a3 c3 _ _ hM.lt q1 q2 (hM.facts (RdF id a3 (cellsP qs)) (by (repeat (first | with_reducible exact List.mem_cons_self | refine List.mem_cons_of_mem _ ?_)))) (hM.facts (DatF qs) (by (repeat (first | with_reducible exact List.mem_cons_self | refine List.mem_cons_of_mem _ ?_)))) (hM.facts (RdF (Value.int .u8) (some ⟨bl6, 0, none⟩) ([sx, sx] : Dat).flatten) (by (repeat (first | with_reducible exact List.mem_cons_self | refine List.mem_cons_of_mem _ ?_))))); clear hF hM a; rintro v w a ⟨a4, c4, at2, ct2, rfl, -, us, u1, u2, u3, u4, u5⟩ - hM hF)
          replace hM := (hM.addFact u4).addFact u3
          refine hK _ _ (fun _ => (hM.sm.sub (fun x hx => by repeat (first | exact hx | refine List.mem_cons_of_mem _ ?_)) (fun _ h => by repeat (first | exact h | refine List.mem_cons_of_mem _ ?_)))) ?_; clear hK
          (first | (refine t_pure (i := 8) hF rfl rfl rfl rfl (by kernel_rfl) (hM.sm.sub (fun x hx => by repeat (first | exact hx | refine List.mem_cons_of_mem _ ?_)) (fun _ h => by repeat (first | exact h | refine List.mem_cons_of_mem _ ?_))) (fun _ _ _ h => h) ?_ ?_; (first | exact trivial | omega | decide); clear hF a; intro a hF))
          (first | (refine t_pure (i := 9) hF rfl rfl rfl rfl (by kernel_rfl) (hM.sm.sub (fun x hx => by repeat (first | exact hx | refine List.mem_cons_of_mem _ ?_)) (fun _ h => by repeat (first | exact h | refine List.mem_cons_of_mem _ ?_))) (fun _ _ _ h => h) ?_ ?_; (first | exact trivial | omega | decide); clear hF a; intro a hF))
          (first | (refine t_pure (i := 10) hF rfl rfl rfl rfl (by kernel_rfl) (hM.sm.sub (fun x hx => by repeat (first | exact hx | refine List.mem_cons_of_mem _ ?_)) (fun _ h => by repeat (first | exact h | refine List.mem_cons_of_mem _ ?_))) (fun _ _ _ h => h) ?_ ?_; (first | exact trivial | omega | decide); clear hF a; intro a hF))
          (first | (refine t_pure (i := 11) hF rfl rfl rfl rfl (by kernel_rfl) (hM.sm.sub (fun x hx => by repeat (first | exact hx | refine List.mem_cons_of_mem _ ?_)) (fun _ h => by repeat (first | exact h | refine List.mem_cons_of_mem _ ?_))) (fun _ _ _ h => h) ?_ ?_; (first | exact trivial | omega | decide); clear hF a; intro a hF))
          refine t_one (i := 13) hF rfl (by kernel_rfl) rfl ?_
          intro K hK
          (apply x_store hF hM rfl rfl rfl; (repeat (first | exact Upd.z | apply Upd.s)); exact rfl; exact rfl; exact rfl; clear hF hM a; intro w a hM hF)
          refine hK _ _ (fun _ => (hM.sm.sub (fun x hx => by repeat (first | exact hx | refine List.mem_cons_of_mem _ ?_)) (fun _ h => by repeat (first | exact h | refine List.mem_cons_of_mem _ ?_)))) ?_; clear hK
          (first | (refine t_pure (i := 14) hF rfl rfl rfl rfl (by kernel_rfl) (hM.sm.sub (fun x hx => by repeat (first | exact hx | refine List.mem_cons_of_mem _ ?_)) (fun _ h => by repeat (first | exact h | refine List.mem_cons_of_mem _ ?_))) (fun _ _ _ h => h) ?_ ?_; (first | exact trivial | omega | decide); clear hF a; intro a hF))
          (first | (refine t_pure (i := 15) hF rfl rfl rfl rfl (by kernel_rfl) (hM.sm.sub (fun x hx => by repeat (first | exact hx | refine List.mem_cons_of_mem _ ?_)) (fun _ h => by repeat (first | exact h | refine List.mem_cons_of_mem _ ?_))) (fun _ _ _ h => h) ?_ ?_; (first | exact trivial | omega | decide); clear hF a; intro a hF))
          refine t_done (by kernel_rfl) ?_
          (repeat (first | fail))
          refine q_cut ⟨at2, ct2, us, u1, u2, hF.sub (by repeat (first | exact Sub.nil | refine Sub.cons rfl (by first | with_reducible rfl | (refine congrArg (Value.int _) ?_; omega) | exact rfl) ?_)), hM.sub (.cons _ (.cons _ (.refl _))) (.refl _) (fun f hf => ?_)⟩
          simp only [List.mem_cons, List.not_mem_nil, or_false] at hf ⊢
          rcases hf with h | h | h | h <;> simp [h, cellsT]
    ·
      intro K hK
      (refine x_lit hF hM rfl rfl rfl ?_; clear hF hM a; intro bl w a hM hF; replace hM := Mm.freeze hM)
      obtain ⟨bl6, rfl⟩ : ∃ x, x = bl := ⟨_, rfl⟩; replace hM := hM.addFact (Has.lit (enc := Value.int .u8) (hM.facts _ List.mem_cons_self) ([sx, sx] : Dat).flatten rfl)
      refine hK _ _ (fun _ => (hM.sm.sub (fun x hx => by repeat (first | exact hx | refine List.mem_cons_of_mem _ ?_)) (fun _ h => by repeat (first | exact h | refine List.mem_cons_of_mem _ ?_)))) ?_; clear hK
      refine t_two (i := 2) (j := 12) hF rfl rfl (by kernel_rfl) rfl rfl ?_ ?_
      ·
        intro K hK
        (refine x_lit hF hM rfl rfl rfl ?_; clear hF hM a; intro bl w a hM hF; replace hM := Mm.freeze hM)
        obtain ⟨bl2, rfl⟩ : ∃ x, x = bl := ⟨_, rfl⟩; replace hM := hM.addFact (Has.lit (enc := Value.int .u8) (hM.facts _ List.mem_cons_self) ([sx] : Dat).flatten rfl)
        refine hK _ _ (fun _ => (hM.sm.sub (fun x hx => by repeat (first | exact hx | refine List.mem_cons_of_mem _ ?_)) (fun _ h => by repeat (first | exact h | refine List.mem_cons_of_mem _ ?_)))) ?_; clear hK
        refine t_two (i := 3) (j := 12) hF rfl rfl (by kernel_rfl) rfl rfl ?_ ?_
        ·
          intro K hK
          (apply x_call hF hM; exact rfl; exact rfl; exact rfl; exact rfl; exact (e2 bl2 _ _ hM.lt (hM.facts (RdF (Value.int .u8) (some ⟨bl2, 0, none⟩) ([sx] : Dat).flatten) (by (repeat (first | with_reducible exact List.mem_cons_self | refine List.mem_cons_of_mem _ ?_))))); clear hF hM a; rintro v w a ⟨a3, c3, rfl, qs, q1, q2, q3, q4, q5⟩ - hM hF)
          replace hM := (hM.addFact q4).addFact q3
          refine hK _ _ (fun _ => (hM.sm.sub (fun x hx => by repeat (first | exact hx | refine List.mem_cons_of_mem _ ?_)) (fun _ h => by repeat (first | exact h | refine List.mem_cons_of_mem _ ?_)))) ?_; clear hK
          refine t_two (i := 7) (j := 12) hF rfl rfl (by kernel_rfl) rfl rfl ?_ ?_
          ·
            intro K hK
            (apply x_call hF hM; exact rfl; exact rfl; exact rfl; exact rfl; exact (e3 bl6 qs a3 c3 _ _ hM.lt q1 q2 (hM.facts (RdF id a3 (cellsP qs)) (by (repeat (first | with_reducible exact List.mem_cons_self | refine List.mem_cons_of_mem _ ?_)))) (hM.facts (DatF qs) (by (repeat (first | with_reducible exact List.mem_cons_self | refine List.mem_cons_of_mem _ ?_)))) (hM.facts (RdF (Value.int .u8) (some ⟨bl6, 0, none⟩) ([sx, sx] : Dat).flatten) (by (repeat (first | with_reducible exact List.mem_cons_self | refine List.mem_cons_of_mem _ ?_))))); clear hF hM a; rintro v w a ⟨a4, c4, at2, ct2, rfl, -, us, u1, u2, u3, u4, u5⟩ - hM hF)
            replace hM := (hM.addFact u4).addFact u3
            refine hK _ _ (fun _ => (hM.sm.sub (fun x hx => by repeat (first | exact hx | refine List.mem_cons_of_mem _ ?_)) (fun _ h => by repeat (first | exact h | refine List.mem_cons_of_mem _ ?_)))) ?_; clear hK
            (first | (refine t_pure (i := 8) hF rfl rfl rfl rfl (by kernel_rfl) (hM.sm.sub (fun x hx => by repeat (first | exact hx | refine List.mem_cons_of_mem _ ?_)) (fun _ h => by repeat (first | exact h | refine List.mem_cons_of_mem _ ?_))) (fun _ _ _ h => h) ?_ ?_; (first | exact trivial | omega | decide); clear hF a; intro a hF))
            (first | (refine t_pure (i := 9) hF rfl rfl rfl rfl (by kernel_rfl) (hM.sm.sub (fun x hx => by repeat (first | exact hx | refine List.mem_cons_of_mem _ ?_)) (fun _ h => by repeat (first | exact h | refine List.mem_cons_of_mem _ ?_))) (fun _ _ _ h => h) ?_ ?_; (first | exact trivial | omega | decide); clear hF a; intro a hF))
            (first | (refine t_pure (i := 10) hF rfl rfl rfl rfl (by kernel_rfl) (hM.sm.sub (fun x hx => by repeat (first | exact hx | refine List.mem_cons_of_mem _ ?_)) (fun _ h => by repeat (first | exact h | refine List.mem_cons_of_mem _ ?_))) (fun _ _ _ h => h) ?_ ?_; (first | exact trivial | omega | decide); clear hF a; intro a hF))
            (first | (refine t_pure (i := 11) hF rfl rfl rfl rfl (by kernel_rfl) (hM.sm.sub (fun x hx => by repeat (first | exact hx | refine List.mem_cons_of_mem _ ?_)) (fun _ h => by repeat (first | exact h | refine List.mem_cons_of_mem _ ?_))) (fun _ _ _ h => h) ?_ ?_; (first | exact trivial | omega | decide); clear hF a; intro a hF))
            refine t_one (i := 12) hF rfl (by kernel_rfl) rfl ?_
            intro K hK
            (refine x_alloc hF hM rfl rfl ?_; clear hF hM a; intro b w a hM hF)
            refine hK _ _ (fun _ => (hM.sm.sub (fun x hx => by repeat (first | exact hx | refine List.mem_cons_of_mem _ ?_)) (fun _ h => by repeat (first | exact h | refine List.mem_cons_of_mem _ ?_)))) ?_; clear hK
            refine t_one (i := 13) hF rfl (by kernel_rfl) rfl ?_
            intro K hK
            (apply x_store hF hM rfl rfl rfl; (repeat (first | exact Upd.z | apply Upd.s)); exact rfl; exact rfl; exact rfl; clear hF hM a; intro w a hM hF)
            refine hK _ _ (fun _ => (hM.sm.sub (fun x hx => by repeat (first | exact hx | refine List.mem_cons_of_mem _ ?_)) (fun _ h => by repeat (first | exact h | refine List.mem_cons_of_mem _ ?_)))) ?_; clear hK
            (first | (refine t_pure (i := 14) hF rfl rfl rfl rfl (by kernel_rfl) (hM.sm.sub (fun x hx => by repeat (first | exact hx | refine List.mem_cons_of_mem _ ?_)) (fun _ h => by repeat (first | exact h | refine List.mem_cons_of_mem _ ?_))) (fun _ _ _ h => h) ?_ ?_; (first | exact trivial | omega | decide); clear hF a; intro a hF))
            (first | (refine t_pure (i := 15) hF rfl rfl rfl rfl (by kernel_rfl) (hM.sm.sub (fun x hx => by repeat (first | exact hx | refine List.mem_cons_of_mem _ ?_)) (fun _ h => by repeat (first | exact h | refine List.mem_cons_of_mem _ ?_))) (fun _ _ _ h => h) ?_ ?_; (first | exact trivial | omega | decide); clear hF a; intro a hF))
            refine t_done (by kernel_rfl) ?_
            (repeat (first | fail))
            refine q_cut ⟨at2, ct2, us, u1, u2, hF.sub (by repeat (first | exact Sub.nil | refine Sub.cons rfl (by first | with_reducible rfl | (refine congrArg (Value.int _) ?_; omega) | exact rfl) ?_)), hM.sub (.cons _ (.cons _ (.refl _))) (.refl _) (fun f hf => ?_)⟩
            simp only [List.mem_cons, List.not_mem_nil, or_false] at hf ⊢
            rcases hf with h | h | h | h <;> simp [h, cellsT]
          ·
            intro K hK
            (refine x_alloc hF hM rfl rfl ?_; clear hF hM a; intro b w a hM hF)
            refine hK _ _ (fun _ => (hM.sm.sub (fun x hx => by repeat (first | exact hx | refine List.mem_cons_of_mem _ ?_)) (fun _ h => by repeat (first | exact h | refine List.mem_cons_of_mem _ ?_)))) ?_; clear hK
            refine t_one (i := 7) hF rfl (by kernel_rfl) rfl ?_
            intro K hK
            (apply x_call hF hM; exact rfl; exact rfl; exact rfl; exact rfl; exact (e3 bl6 qs a3 c3 _ _ hM.lt q1 q2 (hM.facts (RdF id a3 (cellsP qs)) (by (repeat (first | with_reducible exact List.mem_cons_self | refine List.mem_cons_of_mem _ ?_)))) (hM.facts (DatF qs) (by (repeat (first | with_reducible exact List.mem_cons_self | refine List.mem_cons_of_mem _ ?_)))) (hM.facts (RdF (Value.int .u8) (some ⟨bl6, 0, none⟩) ([sx, sx] : Dat).flatten) (by (repeat (first | with_reducible exact List.mem_cons_self | refine List.mem_cons_of_mem _ ?_))))); clear hF hM a; rintro v w a ⟨a4, c4, at2, ct2, rfl, -, us, u1, u2, u3, u4, u5⟩ - hM hF)
            replace hM := (hM.addFact u4).addFact u3
            refine hK _ _ (fun _ => (hM.sm.sub (fun x hx => by repeat (first | exact hx | refine List.mem_cons_of_mem _ ?_)) (fun _ h => by repeat (first | exact h | refine List.mem_cons_of_mem _ ?_)))) ?_; clear hK
            (first | (refine t_pure (i := 8) hF rfl rfl rfl rfl (by kernel_rfl) (hM.sm.sub (fun x hx => by repeat (first | exact hx | refine List.mem_cons_of_mem _ ?_)) (fun _ h => by repeat (first | exact h | refine List.mem_cons_of_mem _ ?_))) (fun _ _ _ h => h) ?_ ?_; (first | exact trivial | omega | decide); clear hF a; intro a hF))
            (first | (refine t_pure (i := 9) hF rfl rfl rfl rfl (by kernel_rfl) (hM.sm.sub (fun x hx => by repeat (first | exact hx | refine List.mem_cons_of_mem _ ?_)) (fun _ h => by repeat (first | exact h | refine List.mem_cons_of_mem _ ?_))) (fun _ _ _ h => h) ?_ ?_; (first | exact trivial | omega | decide); clear hF a; intro a hF))
            (first | (refine t_pure (i := 10) hF rfl rfl rfl rfl (by kernel_rfl) (hM.sm.sub (fun x hx => by repeat (first | exact hx | refine List.mem_cons_of_mem _ ?_)) (fun _ h => by repeat (first | exact h | refine List.mem_cons_of_mem _ ?_))) (fun _ _ _ h => h) ?_ ?_; (first | exact trivial | omega | decide); clear hF a; intro a hF))
            (first | (refine t_pure (i := 11) hF rfl rfl rfl rfl (by kernel_rfl) (hM.sm.sub (fun x hx => by repeat (first | exact hx | refine List.mem_cons_of_mem _ ?_)) (fun _ h => by repeat (first | exact h | refine List.mem_cons_of_mem _ ?_))) (fun _ _ _ h => h) ?_ ?_; (first | exact trivial | omega | decide); clear hF a; intro a hF))
            refine t_one (i := 13) hF rfl (by kernel_rfl) rfl ?_
            intro K hK
            (apply x_store hF hM rfl rfl rfl; (repeat (first | exact Upd.z | apply Upd.s)); exact rfl; exact rfl; exact rfl; clear hF hM a; intro w a hM hF)
            refine hK _ _ (fun _ => (hM.sm.sub (fun x hx => by repeat (first | exact hx | refine List.mem_cons_of_mem _ ?_)) (fun _ h => by repeat (first | exact h | refine List.mem_cons_of_mem _ ?_)))) ?_; clear hK
            (first | (refine t_pure (i := 14) hF rfl rfl rfl rfl (by kernel_rfl) (hM.sm.sub (fun x hx => by repeat (first | exact hx | refine List.mem_cons_of_mem _ ?_)) (fun _ h => by repeat (first | exact h | refine List.mem_cons_of_mem _ ?_))) (fun _ _ _ h => h) ?_ ?_; (first | exact trivial | omega | decide); clear hF a; intro a hF))
            (first | (refine t_pure (i := 15) hF rfl rfl rfl rfl (by kernel_rfl) (hM.sm.sub (fun x hx => by repeat (first | exact hx | refine List.mem_cons_of_mem _ ?_)) (fun _ h => by repeat (first | exact h | refine List.mem_cons_of_mem _ ?_))) (fun _ _ _ h => h) ?_ ?_; (first | exact trivial | omega | decide); clear hF a; intro a hF))
            refine t_done (by kernel_rfl) ?_
            (repeat (first | fail))
            refine q_cut ⟨at2, ct2, us, u1, u2, hF.sub (by repeat (first | exact Sub.nil | refine Sub.cons rfl (by first | with_reducible rfl | (refine congrArg (Value.int _) ?_; omega) | exact rfl) ?_)), hM.sub (.cons _ (.cons _ (.refl _))) (.refl _) (fun f hf => ?_)⟩
            simp only [List.mem_cons, List.not_mem_nil, or_false] at hf ⊢
            rcases hf with h | h | h | h <;> simp [h, cellsT]
        ·
          intro K hK
          (refine x_alloc hF hM rfl rfl ?_; clear hF hM a; intro b w a hM hF)
          refine hK _ _ (fun _ => (hM.sm.sub (fun x hx => by repeat (first | exact hx | refine List.mem_cons_of_mem _ ?_)) (fun _ h => by repeat (first | exact h | refine List.mem_cons_of_mem _ ?_)))) ?_; clear hK
          refine t_one (i := 3) hF rfl (by kernel_rfl) rfl ?_
          intro K hK
          (apply x_call hF hM; exact rfl; exact rfl; exact rfl; exact rfl; exact (e2 bl2 _ _ hM.lt (hM.facts (RdF (Value.int .u8) (some ⟨bl2, 0, none⟩) ([sx] : Dat).flatten) (by (repeat (first | with_reducible exact List.mem_cons_self | refine List.mem_cons_of_mem _ ?_))))); clear hF hM a; rintro v w a ⟨a3, c3, rfl, qs, q1, q2, q3, q4, q5⟩ - hM hF)
          replace hM := (hM.addFact q4).addFact q3
          refine hK _ _ (fun _ => (hM.sm.sub (fun x hx => by repeat (first | exact hx | refine List.mem_cons_of_mem _ ?_)) (fun _ h => by repeat (first | exact h | refine List.mem_cons_of_mem _ ?_)))) ?_; clear hK
          refine t_one (i := 7) hF rfl (by kernel_rfl) rfl ?_
          intro K hK
          (apply x_call hF hM; exact rfl; exact rfl; exact rfl; exact rfl; exact (e3 bl6 qs a3 c3 _ _ hM.lt q1 q2 (hM.facts (RdF id a3 (cellsP qs)) (by (repeat (first | with_reducible exact List.mem_cons_self | refine List.mem_cons_of_mem _ ?_)))) (hM.facts (DatF qs) (by (repeat (first | with_reducible exact List.mem_cons_self | refine List.mem_cons_of_mem _ ?_)))) (hM.facts (RdF (Value.int .u8) (some ⟨bl6, 0, none⟩) ([sx, sx] : Dat).flatten) (by (repeat (first | with_reducible exact List.mem_cons_self | refine List.mem_cons_of_mem _ ?_))))); clear hF hM a; rintro v w a ⟨a4, c4, at2, ct2, rfl, -, us, u1, u2, u3, u4, u5⟩ - hM hF)
          replace hM := (hM.addFact u4).addFact u3
          refine hK _ _ (fun _ => (hM.sm.sub (fun x hx => by repeat (first | exact hx | refine List.mem_cons_of_mem _ ?_)) (fun _ h => by repeat (first | exact h | refine List.mem_cons_of_mem _ ?_)))) ?_; clear hK
          (first | (refine t_pure (i := 8) hF rfl rfl rfl rfl (by kernel_rfl) (hM.sm.sub (fun x hx => by repeat (first | exact hx | refine List.mem_cons_of_mem _ ?_)) (fun _ h => by repeat (first | exact h | refine List.mem_cons_of_mem _ ?_))) (fun _ _ _ h => h) ?_ ?_; (first | exact trivial | omega | decide); clear hF a; intro a hF))
          (first | (refine t_pure (i := 9) hF rfl rfl rfl rfl (by kernel_rfl) (hM.sm.sub (fun x hx => by repeat (first | exact hx | refine List.mem_cons_of_mem _ ?_)) (fun _ h => by repeat (first | exact h | refine List.mem_cons_of_mem _ ?_))) (fun _ _ _ h => h) ?_ ?_; (first | exact trivial | omega | decide); clear hF a; intro a hF))
          (first | (refine t_pure (i := 10) hF rfl rfl rfl rfl (by kernel_rfl) (hM.sm.sub (fun x hx => by repeat (first | exact hx | refine List.mem_cons_of_mem _ ?_)) (fun _ h => by repeat (first | exact h | refine List.mem_cons_of_mem _ ?_))) (fun _ _ _ h => h) ?_ ?_; (first | exact trivial | omega | decide); clear hF a; intro a hF))
          (first | (refine t_pure (i := 11) hF rfl rfl rfl rfl (by kernel_rfl) (hM.sm.sub (fun x hx => by repeat (first | exact hx | refine List.mem_cons_of_mem _ ?_)) (fun _ h => by repeat (first | exact h | refine List.mem_cons_of_mem _ ?_))) (fun _ _ _ h => h) ?_ ?_; (first | exact trivial | omega | decide); clear hF a; intro a hF))
          refine t_one (i := 13) hF rfl (by kernel_rfl) rfl ?_
          intro K hK
          (apply x_store hF hM rfl rfl rfl; (repeat (first | exact Upd.z | apply Upd.s)); exact rfl; exact rfl; exact rfl; clear hF hM a; intro w a hM hF)
          refine hK _ _ (fun _ => (hM.sm.sub (fun x hx => by repeat (first | exact hx | refine List.mem_cons_of_mem _ ?_)) (fun _ h => by repeat (first | exact h | refine List.mem_cons_of_mem _ ?_)))) ?_; clear hK
          (first | (refine t_pure (i := 14) hF rfl rfl rfl rfl (by kernel_rfl) (hM.sm.sub (fun x hx => by repeat (first | exact hx | refine List.mem_cons_of_mem _ ?_)) (fun _ h => by repeat (first | exact h | refine List.mem_cons_of_mem _ ?_))) (fun _ _ _ h => h) ?_ ?_; (first | exact trivial | omega | decide); clear hF a; intro a hF))
          (first | (refine t_pure (i := 15) hF rfl rfl rfl rfl (by kernel_rfl) (hM.sm.sub (fun x hx => by repeat (first | exact hx | refine List.mem_cons_of_mem _ ?_)) (fun _ h => by repeat (first | exact h | refine List.mem_cons_of_mem _ ?_))) (fun _ _ _ h => h) ?_ ?_; (first | exact trivial | omega | decide); clear hF a; intro a hF))
          refine t_done (by kernel_rfl) ?_
          (repeat (first | fail))
          refine q_cut ⟨at2, ct2, us, u1, u2, hF.sub (by repeat (first | exact Sub.nil | refine Sub.cons rfl (by first | with_reducible rfl | (refine congrArg (Value.int _) ?_; omega) | exact rfl) ?_)), hM.sub (.cons _ (.cons _ (.refl _))) (.refl _) (fun f hf => ?_)⟩
          simp only [List.mem_cons, List.not_mem_nil, or_false] at hf ⊢
          rcases hf with h | h | h | h <;> simp [h, cellsT]
      ·
        intro K hK
        (refine x_alloc hF hM rfl rfl ?_; clear hF hM a; intro b w a hM hF)
        refine hK _ _ (fun _ => (hM.sm.sub (fun x hx => by repeat (first | exact hx | refine List.mem_cons_of_mem _ ?_)) (fun _ h => by repeat (first | exact h | refine List.mem_cons_of_mem _ ?_)))) ?_; clear hK
        refine t_one (i := 2) hF rfl (by kernel_rfl) rfl ?_
        intro K hK
        (refine x_lit hF hM rfl rfl rfl ?_; clear hF hM a; intro bl w a hM hF; replace hM := Mm.freeze hM)
        obtain ⟨bl2, rfl⟩ : ∃ x, x = bl := ⟨_, rfl⟩; replace hM := hM.addFact (Has.lit (enc := Value.int .u8) (hM.facts _ List.mem_cons_self) ([sx] : Dat).flatten rfl)
        refine hK _ _ (fun _ => (hM.sm.sub (fun x hx => by repeat (first | exact hx | refine List.mem_cons_of_mem _ ?_)) (fun _ h => by repeat (first | exact h | refine List.mem_cons_of_mem _ ?_)))) ?_; clear hK
        refine t_one (i := 3) hF rfl (by kernel_rfl) rfl ?_
        intro K hK
        (apply x_call hF hM; exact rfl; exact rfl; exact rfl; exact rfl; exact (e2 bl2 _ _ hM.lt (hM.facts (RdF (Value.int .u8) (some ⟨bl2, 0, none⟩) ([sx] : Dat).flatten) (by (repeat (first | with_reducible exact List.mem_cons_self | refine List.mem_cons_of_mem _ ?_))))); clear hF hM a; rintro v w a ⟨a3, c3, rfl, qs, q1, q2, q3, q4, q5⟩ - hM hF)
        replace hM := (hM.addFact q4).addFact q3
        refine hK _ _ (fun _ => (hM.sm.sub (fun x hx => by repeat (first | exact hx | refine List.mem_cons_of_mem _ ?_)) (fun _ h => by repeat (first | exact h | refine List.mem_cons_of_mem _ ?_)))) ?_; clear hK
        refine t_one (i := 7) hF rfl (by kernel_rfl) rfl ?_
        intro K hK
        (apply x_call hF hM; exact rfl; exact rfl; exact rfl; exact rfl; exact (e3 bl6 qs a3 c3 _ _ hM.lt q1 q2 (hM.facts (RdF id a3 (cellsP qs)) (by (repeat (first | with_reducible exact List.mem_cons_self | refine List.mem_cons_of_mem _ ?_)))) (hM.facts (DatF qs) (by (repeat (first | with_reducible exact List.mem_cons_self | refine List.mem_cons_of_mem _ ?_)))) (hM.facts (RdF (Value.int .u8) (some ⟨bl6, 0, none⟩) ([sx, sx] : Dat).flatten) (by (repeat (first | with_reducible exact List.mem_cons_self | refine List.mem_cons_of_mem _ ?_))))); clear hF hM a; rintro v w a ⟨a4, c4, at2, ct2, rfl, -, us, u1, u2, u3, u4, u5⟩ - hM hF)
        replace hM := (hM.addFact u4).addFact u3
        refine hK _ _ (fun _ => (hM.sm.sub (fun x hx => by repeat (first | exact hx | refine List.mem_cons_of_mem _ ?_)) (fun _ h => by repeat (first | exact h | refine List.mem_cons_of_mem _ ?_)))) ?_; clear hK
        (first | (refine t_pure (i := 8) hF rfl rfl rfl rfl (by kernel_rfl) (hM.sm.sub (fun x hx => by repeat (first | exact hx | refine List.mem_cons_of_mem _ ?_)) (fun _ h => by repeat (first | exact h | refine List.mem_cons_of_mem _ ?_))) (fun _ _ _ h => h) ?_ ?_; (first | exact trivial | omega | decide); clear hF a; intro a hF))
        (first | (refine t_pure (i := 9) hF rfl rfl rfl rfl (by kernel_rfl) (hM.sm.sub (fun x hx => by repeat (first | exact hx | refine List.mem_cons_of_mem _ ?_)) (fun _ h => by repeat (first | exact h | refine List.mem_cons_of_mem _ ?_))) (fun _ _ _ h => h) ?_ ?_; (first | exact trivial | omega | decide); clear hF a; intro a hF))
        (first | (refine t_pure (i := 10) hF rfl rfl rfl rfl (by kernel_rfl) (hM.sm.sub (fun x hx => by repeat (first | exact hx | refine List.mem_cons_of_mem _ ?_)) (fun _ h => by repeat (first | exact h | refine List.mem_cons_of_mem _ ?_))) (fun _ _ _ h => h) ?_ ?_; (first | exact trivial | omega | decide); clear hF a; intro a hF))
        (first | (refine t_pure (i := 11) hF rfl rfl rfl rfl (by kernel_rfl) (hM.sm.sub (fun x hx => by repeat (first | exact hx | refine List.mem_cons_of_mem _ ?_)) (fun _ h => by repeat (first | exact h | refine List.mem_cons_of_mem _ ?_))) (fun _ _ _ h => h) ?_ ?_; (first | exact trivial | omega | decide); clear hF a; intro a hF))
        refine t_one (i := 13) hF rfl (by kernel_rfl) rfl ?_
        intro K hK
        (apply x_store hF hM rfl rfl rfl; (repeat (first | exact Upd.z | apply Upd.s)); exact rfl; exact rfl; exact rfl; clear hF hM a; intro w a hM hF)
        refine hK _ _ (fun _ => (hM.sm.sub (fun x hx => by repeat (first | exact hx | refine List.mem_cons_of_mem _ ?_)) (fun _ h => by repeat (first | exact h | refine List.mem_cons_of_mem _ ?_)))) ?_; clear hK
        (first | (refine t_pure (i := 14) hF rfl rfl rfl rfl (by kernel_rfl) (hM.sm.sub (fun x hx => by repeat (first | exact hx | refine List.mem_cons_of_mem _ ?_)) (fun _ h => by repeat (first | exact h | refine List.mem_cons_of_mem _ ?_))) (fun _ _ _ h => h) ?_ ?_; (first | exact trivial | omega | decide); clear hF a; intro a hF))
        (first | (refine t_pure (i := 15) hF rfl rfl rfl rfl (by kernel_rfl) (hM.sm.sub (fun x hx => by repeat (first | exact hx | refine List.mem_cons_of_mem _ ?_)) (fun _ h => by repeat (first | exact h | refine List.mem_cons_of_mem _ ?_))) (fun _ _ _ h => h) ?_ ?_; (first | exact trivial | omega | decide); clear hF a; intro a hF))
        refine t_done (by kernel_rfl) ?_
        (repeat (first | fail))
        refine q_cut ⟨at2, ct2, us, u1, u2, hF.sub (by repeat (first | exact Sub.nil | refine Sub.cons rfl (by first | with_reducible rfl | (refine congrArg (Value.int _) ?_; omega) | exact rfl) ?_)), hM.sub (.cons _ (.cons _ (.refl _))) (.refl _) (fun f hf => ?_)⟩
        simp only [List.mem_cons, List.not_mem_nil, or_false] at hf ⊢
        rcases hf with h | h | h | h <;> simp [h, cellsT]
    ·
      intro K hK
      (refine x_alloc hF hM rfl rfl ?_; clear hF hM a; intro b w a hM hF)
      refine hK _ _ (fun _ => (hM.sm.sub (fun x hx => by repeat (first | exact hx | refine List.mem_cons_of_mem _ ?_)) (fun _ h => by repeat (first | exact h | refine List.mem_cons_of_mem _ ?_)))) ?_; clear hK
      refine t_two (i := 2) (j := 6) hF rfl rfl (by kernel_rfl) rfl rfl ?_ ?_
      ·
        intro K hK
        (refine x_lit hF hM rfl rfl rfl ?_; clear hF hM a; intro bl w a hM hF; replace hM := Mm.freeze hM)
        obtain ⟨bl2, rfl⟩ : ∃ x, x = bl := ⟨_, rfl⟩; replace hM := hM.addFact (Has.lit (enc := Value.int .u8) (hM.facts _ List.mem_cons_self) ([sx] : Dat).flatten rfl)
        refine hK _ _ (fun _ => (hM.sm.sub (fun x hx => by repeat (first | exact hx | refine List.mem_cons_of_mem _ ?_)) (fun _ h => by repeat (first | exact h | refine List.mem_cons_of_mem _ ?_)))) ?_; clear hK
        refine t_two (i := 3) (j := 6) hF rfl rfl (by kernel_rfl) rfl rfl ?_ ?_
        ·
          intro K hK
          (apply x_call hF hM; exact rfl; exact rfl; exact rfl; exact rfl; exact (e2 bl2 _ _ hM.lt (hM.facts (RdF (Value.int .u8) (some ⟨bl2, 0, none⟩) ([sx] : Dat).flatten) (by (repeat (first | with_reducible exact List.mem_cons_self | refine List.mem_cons_of_mem _ ?_))))); clear hF hM a; rintro v w a ⟨a3, c3, rfl, qs, q1, q2, q3, q4, q5⟩ - hM hF)
          replace hM := (hM.addFact q4).addFact q3
          refine hK _ _ (fun _ => (hM.sm.sub (fun x hx => by repeat (first | exact hx | refine List.mem_cons_of_mem _ ?_)) (fun _ h => by repeat (first | exact h | refine List.mem_cons_of_mem _ ?_)))) ?_; clear hK
          refine t_one (i := 6) hF rfl (by kernel_rfl) rfl ?_
          intro K hK
          (refine x_lit hF hM rfl rfl rfl ?_; clear hF hM a; intro bl w a hM hF; replace hM := Mm.freeze hM)
          obtain ⟨bl6, rfl⟩ : ∃ x, x = bl := ⟨_, rfl⟩; replace hM := hM.addFact (Has.lit (enc := Value.int .u8) (hM.facts _ List.mem_cons_self) ([sx, sx] : Dat).flatten rfl)
          refine hK _ _ (fun _ => (hM.sm.sub (fun x hx => by repeat (first | exact hx | refine List.mem_cons_of_mem _ ?_)) (fun _ h => by repeat (first | exact h | refine List.mem_cons_of_mem _ ?_)))) ?_; clear hK
          refine t_one (i := 7) hF rfl (by kernel_rfl) rfl ?_
          intro K hK
          (apply x_call hF hM; exact rfl; exact rfl; exact rfl; exact rfl; exact (e3 bl6 qs a3 c3 _ _ hM.lt q1 q2 (hM.facts (RdF id a3 (cellsP qs)) (by (repeat (first | with_reducible exact List.mem_cons_self | refine List.mem_cons_of_mem _ ?_)))) (hM.facts (DatF qs) (by (repeat (first | with_reducible exact List.mem_cons_self | refine List.mem_cons_of_mem _ ?_)))) (hM.facts (RdF (Value.int .u8) (some ⟨bl6, 0, none⟩) ([sx, sx] : Dat).flatten) (by (repeat (first | with_reducible exact List.mem_cons_self | refine List.mem_cons_of_mem _ ?_))))); clear hF hM a; rintro v w a ⟨a4, c4, at2, ct2, rfl, -, us, u1, u2, u3, u4, u5⟩ - hM hF)
          replace hM := (hM.addFact u4).addFact u3
          refine hK _ _ (fun _ => (hM.sm.sub (fun x hx => by repeat (first | exact hx | refine List.mem_cons_of_mem _ ?_)) (fun _ h => by repeat (first | exact h | refine List.mem_cons_of_mem _ ?_)))) ?_; clear hK
          (first | (refine t_pure (i := 8) hF rfl rfl rfl rfl (by kernel_rfl) (hM.sm.sub (fun x hx => by repeat (first | exact hx | refine List.mem_cons_of_mem _ ?_)) (fun _ h => by repeat (first | exact h | refine List.mem_cons_of_mem _ ?_))) (fun _ _ _ h => h) ?_ ?_; (first | exact trivial | omega | decide); clear hF a; intro a hF))
          (first | (refine t_pure (i := 9) hF rfl rfl rfl rfl (by kernel_rfl) (hM.sm.sub (fun x hx => by repeat (first | exact hx | refine List.mem_cons_of_mem _ ?_)) (fun _ h => by repeat (first | exact h | refine List.mem_cons_of_mem _ ?_))) (fun _ _ _ h => h) ?_ ?_; (first | exact trivial | omega | decide); clear hF a; intro a hF))
          (first | (refine t_pure (i := 10) hF rfl rfl rfl rfl (by kernel_rfl) (hM.sm.sub (fun x hx => by repeat (first | exact hx | refine List.mem_cons_of_mem _ ?_)) (fun _ h => by repeat (first | exact h | refine List.mem_cons_of_mem _ ?_))) (fun _ _ _ h => h) ?_ ?_; (first | exact trivial | omega | decide); clear hF a; intro a hF))
          (first | (refine t_pure (i := 11) hF rfl rfl rfl rfl (by kernel_rfl) (hM.sm.sub (fun x hx => by repeat (first | exact hx | refine List.mem_cons_of_mem _ ?_)) (fun _ h => by repeat (first | exact h | refine List.mem_cons_of_mem _ ?_))) (fun _ _ _ h => h) ?_ ?_; (first | exact trivial | omega | decide); clear hF a; intro a hF))
          refine t_one (i := 13) hF rfl (by kernel_rfl) rfl ?_
          intro K hK
          (apply x_store hF hM rfl rfl rfl; (repeat (first | exact Upd.z | apply Upd.s)); exact rfl; exact rfl; exact rfl; clear hF hM a; intro w a hM hF)
          refine hK _ _ (fun _ => (hM.sm.sub (fun x hx => by repeat (first | exact hx | refine List.mem_cons_of_mem _ ?_)) (fun _ h => by repeat (first | exact h | refine List.mem_cons_of_mem _ ?_)))) ?_; clear hK
          (first | (refine t_pure (i := 14) hF rfl rfl rfl rfl (by kernel_rfl) (hM.sm.sub (fun x hx => by repeat (first | exact hx | refine List.mem_cons_of_mem _ ?_)) (fun _ h => by repeat (first | exact h | refine List.mem_cons_of_mem _ ?_))) (fun _ _ _ h => h) ?_ ?_; (first | exact trivial | omega | decide); clear hF a; intro a hF))
          (first | (refine t_pure (i := 15) hF rfl rfl rfl rfl (by kernel_rfl) (hM.sm.sub (fun x hx => by repeat (first | exact hx | refine List.mem_cons_of_mem _ ?_)) (fun _ h => by repeat (first | exact h | refine List.mem_cons_of_mem _ ?_))) (fun _ _ _ h => h) ?_ ?_; (first | exact trivial | omega | decide); clear hF a; intro a hF))
          refine t_done (by kernel_rfl) ?_
          (repeat (first | fail))
          refine q_cut ⟨at2, ct2, us, u1, u2, hF.sub (by repeat (first | exact Sub.nil | refine Sub.cons rfl (by first | with_reducible rfl | (refine congrArg (Value.int _) ?_; omega) | exact rfl) ?_)), hM.sub (.cons _ (.cons _ (.refl _))) (.refl _) (fun f hf => ?_)⟩
          simp only [List.mem_cons, List.not_mem_nil, or_false] at hf ⊢
          rcases hf with h | h | h | h <;> simp [h, cellsT]
        ·
          intro K hK
          (refine x_lit hF hM rfl rfl rfl ?_; clear hF hM a; intro bl w a hM hF; replace hM := Mm.freeze hM)
          obtain ⟨bl6, rfl⟩ : ∃ x, x = bl := ⟨_, rfl⟩; replace hM := hM.addFact (Has.lit (enc := Value.int .u8) (hM.facts _ List.mem_cons_self) ([sx, sx] : Dat).flatten rfl)
          refine hK _ _ (fun _ => (hM.sm.sub (fun x hx => by repeat (first | exact hx | refine List.mem_cons_of_mem _ ?_)) (fun _ h => by repeat (first | exact h | refine List.mem_cons_of_mem _ ?_)))) ?_; clear hK
          refine t_one (i := 3) hF rfl (by kernel_rfl) rfl ?_
          intro K hK
          (apply x_call hF hM; exact rfl; exact rfl; exact rfl; exact rfl; exact (e2 bl2 _ _ hM.lt (hM.facts (RdF (Value.int .u8) (some ⟨bl2, 0, none⟩) ([sx] : Dat).flatten) (by (repeat (first | with_reducible exact List.mem_cons_self | refine List.mem_cons_of_mem _ ?_))))); clear hF hM a; rintro v w a ⟨a3, c3, rfl, qs, q1, q2, q3, q4, q5⟩ - hM hF)
          replace hM := (hM.addFact q4).addFact q3
          refine hK _ _ (fun _ => (hM.sm.sub (fun x hx => by repeat (first | exact hx | refine List.mem_cons_of_mem _ ?_)) (fun _ h => by repeat (first | exact h | refine List.mem_cons_of_mem _ ?_)))) ?_; clear hK
          refine t_one (i := 7) hF rfl (by kernel_rfl) rfl ?_
          intro K hK
          (apply x_call hF hM; exact rfl; exact rfl; exact rfl; exact rfl; exact (e3 bl6 qs a3 c3 _ _ hM.lt q1 q2 (hM.facts (RdF id a3 (cellsP qs)) (by (repeat (first | with_reducible exact List.mem_cons_self | refine List.mem_cons_of_mem _ ?_)))) (hM.facts (DatF qs) (by (repeat (first | with_reducible exact List.mem_cons_self | refine List.mem_cons_of_mem _ ?_)))) (hM.facts (RdF (Value.int .u8) (some ⟨bl6, 0, none⟩) ([sx, sx] : Dat).flatten) (by (repeat (first | with_reducible exact List.mem_cons_self | refine List.mem_cons_of_mem _ ?_))))); clear hF hM a; rintro v w a ⟨a4, c4, at2, ct2, rfl, -, us, u1, u2, u3, u4, u5⟩ - hM hF)
          replace hM := (hM.addFact u4).addFact u3
          refine hK _ _ (fun _ => (hM.sm.sub (fun x hx => by repeat (first | exact hx | refine List.mem_cons_of_mem _ ?_)) (fun _ h => by repeat (first | exact h | refine List.mem_cons_of_mem _ ?_)))) ?_; clear hK
          (first | (refine t_pure (i := 8) hF rfl rfl rfl rfl (by kernel_rfl) (hM.sm.sub (fun x hx => by repeat (first | exact hx | refine List.mem_cons_of_mem _ ?_)) (fun _ h => by repeat (first | exact h | refine List.mem_cons_of_mem _ ?_))) (fun _ _ _ h => h) ?_ ?_; (first | exact trivial | omega | decide); clear hF a; intro a hF))
          (first | (refine t_pure (i := 9) hF rfl rfl rfl rfl (by kernel_rfl) (hM.sm.sub (fun x hx => by repeat (first | exact hx | refine List.mem_cons_of_mem _ ?_)) (fun _ h => by repeat (first | exact h | refine List.mem_cons_of_mem _ ?_))) (fun _ _ _ h => h) ?_ ?_; (first | exact trivial | omega | decide); clear hF a; intro a hF))
          (first | (refine t_pure (i := 10) hF rfl rfl rfl rfl (by kernel_rfl) (hM.sm.sub (fun x hx => by repeat (first | exact hx | refine List.mem_cons_of_mem _ ?_)) (fun _ h => by repeat (first | exact h | refine List.mem_cons_of_mem _ ?_))) (fun _ _ _ h => h) ?_ ?_; (first | exact trivial | omega | decide); clear hF a; intro a hF))
          (first | (refine t_pure (i := 11) hF rfl rfl rfl rfl (by kernel_rfl) (hM.sm.sub (fun x hx => by repeat (first | exact hx | refine List.mem_cons_of_mem _ ?_)) (fun _ h => by repeat (first | exact h | refine List.mem_cons_of_mem _ ?_))) (fun _ _ _ h => h) ?_ ?_; (first | exact trivial | omega | decide); clear hF a; intro a hF))
          refine t_one (i := 13) hF rfl (by kernel_rfl) rfl ?_
          intro K hK
          (apply x_store hF hM rfl rfl rfl; (repeat (first | exact Upd.z | apply Upd.s)); exact rfl; exact rfl; exact rfl; clear hF hM a; intro w a hM hF)
          refine hK _ _ (fun _ => (hM.sm.sub (fun x hx => by repeat (first | exact hx | refine List.mem_cons_of_mem _ ?_)) (fun _ h => by repeat (first | exact h | refine List.mem_cons_of_mem _ ?_)))) ?_; clear hK
          (first | (refine t_pure (i := 14) hF rfl rfl rfl rfl (by kernel_rfl) (hM.sm.sub (fun x hx => by repeat (first | exact hx | refine List.mem_cons_of_mem _ ?_)) (fun _ h => by repeat (first | exact h | refine List.mem_cons_of_mem _ ?_))) (fun _ _ _ h => h) ?_ ?_; (first | exact trivial | omega | decide); clear hF a; intro a hF))
          (first | (refine t_pure (i := 15) hF rfl rfl rfl rfl (by kernel_rfl) (hM.sm.sub (fun x hx => by repeat (first | exact hx | refine List.mem_cons_of_mem _ ?_)) (fun _ h => by repeat (first | exact h | refine List.mem_cons_of_mem _ ?_))) (fun _ _ _ h => h) ?_ ?_; (first | exact trivial | omega | decide); clear hF a; intro a hF))
          refine t_done (by kernel_rfl) ?_
          (repeat (first | fail))
          refine q_cut ⟨at2, ct2, us, u1, u2, hF.sub (by repeat (first | exact Sub.nil | refine Sub.cons rfl (by first | with_reducible rfl | (refine congrArg (Value.int _) ?_; omega) | exact rfl) ?_)), hM.sub (.cons _ (.cons _ (.refl _))) (.refl _) (fun f hf => ?_)⟩
          simp only [List.mem_cons, List.not_mem_nil, or_false] at hf ⊢
          rcases hf with h | h | h | h <;> simp [h, cellsT]
      ·
        intro K hK
        (refine x_lit hF hM rfl rfl rfl ?_; clear hF hM a; intro bl w a hM hF; replace hM := Mm.freeze hM)
        obtain ⟨bl6, rfl⟩ : ∃ x, x = bl := ⟨_, rfl⟩; replace hM := hM.addFact (Has.lit (enc := Value.int .u8) (hM.facts _ List.mem_cons_self) ([sx, sx] : Dat).flatten rfl)
        refine hK _ _ (fun _ => (hM.sm.sub (fun x hx => by repeat (first | exact hx | refine List.mem_cons_of_mem _ ?_)) (fun _ h => by repeat (first | exact h | refine List.mem_cons_of_mem _ ?_)))) ?_; clear hK
        refine t_one (i := 2) hF rfl (by kernel_rfl) rfl ?_
        intro K hK
        (refine x_lit hF hM rfl rfl rfl ?_; clear hF hM a; intro bl w a hM hF; replace hM := Mm.freeze hM)
        obtain ⟨bl2, rfl⟩ : ∃ x, x = bl := ⟨_, rfl⟩; replace hM := hM.addFact (Has.lit (enc := Value.int .u8) (hM.facts _ List.mem_cons_self) ([sx] : Dat).flatten rfl)
        refine hK _ _ (fun _ => (hM.sm.sub (fun x hx => by repeat (first | exact hx | refine List.mem_cons_of_mem _ ?_)) (fun _ h => by repeat (first | exact h | refine List.mem_cons_of_mem _ ?_)))) ?_; clear hK
        refine t_one (i := 3) hF rfl (by kernel_rfl) rfl ?_
        intro K hK
        (apply x_call hF hM; exact rfl; exact rfl; exact rfl; exact rfl; exact (e2 bl2 _ _ hM.lt (hM.facts (RdF (Value.int .u8) (some ⟨bl2, 0, none⟩) ([sx] : Dat).flatten) (by (repeat (first | with_reducible exact List.mem_cons_self | refine List.mem_cons_of_mem _ ?_))))); clear hF hM a; rintro v w a ⟨a3, c3, rfl, qs, q1, q2, q3, q4, q5⟩ - hM hF)
        replace hM := (hM.addFact q4).addFact q3
        refine hK _ _ (fun _ => (hM.sm.sub (fun x hx => by repeat (first | exact hx | refine List.mem_cons_of_mem _ ?_)) (fun _ h => by repeat (first | exact h | refine List.mem_cons_of_mem _ ?_)))) ?_; clear hK
        refine t_one (i := 7) hF rfl (by kernel_rfl) rfl ?_
        intro K hK
        (apply x_call hF hM; exact rfl; exact rfl; exact rfl; exact rfl; exact (e3 bl6 qs a3 c3 _ _ hM.lt q1 q2 (hM.facts (RdF id a3 (cellsP qs)) (by (repeat (first | with_reducible exact List.mem_cons_self | refine List.mem_cons_of_mem _ ?_)))) (hM.facts (DatF qs) (by (repeat (first | with_reducible exact List.mem_cons_self | refine List.mem_cons_of_mem _ ?_)))) (hM.facts (RdF (Value.int .u8) (some ⟨bl6, 0, none⟩) ([sx, sx] : Dat).flatten) (by (repeat (first | with_reducible exact List.mem_cons_self | refine List.mem_cons_of_mem _ ?_))))); clear hF hM a; rintro v w a ⟨a4, c4, at2, ct2, rfl, -, us, u1, u2, u3, u4, u5⟩ - hM hF)
        replace hM := (hM.addFact u4).addFact u3
        refine hK _ _ (fun _ => (hM.sm.sub (fun x hx => by repeat (first | exact hx | refine List.mem_cons_of_mem _ ?_)) (fun _ h => by repeat (first | exact h | refine List.mem_cons_of_mem _ ?_)))) ?_; clear hK
        (first | (refine t_pure (i := 8) hF rfl rfl rfl rfl (by kernel_rfl) (hM.sm.sub (fun x hx => by repeat (first | exact hx | refine List.mem_cons_of_mem _ ?_)) (fun _ h => by repeat (first | exact h | refine List.mem_cons_of_mem _ ?_))) (fun _ _ _ h => h) ?_ ?_; (first | exact trivial | omega | decide); clear hF a; intro a hF))
        (first | (refine t_pure (i := 9) hF rfl rfl rfl rfl (by kernel_rfl) (hM.sm.sub (fun x hx => by repeat (first | exact hx | refine List.mem_cons_of_mem _ ?_)) (fun _ h => by repeat (first | exact h | refine List.mem_cons_of_mem _ ?_))) (fun _ _ _ h => h) ?_ ?_; (first | exact trivial | omega | decide); clear hF a; intro a hF))
        (first | (refine t_pure (i := 10) hF rfl rfl rfl rfl (by kernel_rfl) (hM.sm.sub (fun x hx => by repeat (first | exact hx | refine List.mem_cons_of_mem _ ?_)) (fun _ h => by repeat (first | exact h | refine List.mem_cons_of_mem _ ?_))) (fun _ _ _ h => h) ?_ ?_; (first | exact trivial | omega | decide); clear hF a; intro a hF))
        (first | (refine t_pure (i := 11) hF rfl rfl rfl rfl (by kernel_rfl) (hM.sm.sub (fun x hx => by repeat (first | exact hx | refine List.mem_cons_of_mem _ ?_)) (fun _ h => by repeat (first | exact h | refine List.mem_cons_of_mem _ ?_))) (fun _ _ _ h => h) ?_ ?_; (first | exact trivial | omega | decide); clear hF a; intro a hF))
        refine t_one (i := 13) hF rfl (by kernel_rfl) rfl ?_
        intro K hK
        (apply x_store hF hM rfl rfl rfl; (repeat (first | exact Upd.z | apply Upd.s)); exact rfl; exact rfl; exact rfl; clear hF hM a; intro w a hM hF)
        refine hK _ _ (fun _ => (hM.sm.sub (fun x hx => by repeat (first | exact hx | refine List.mem_cons_of_mem _ ?_)) (fun _ h => by repeat (first | exact h | refine List.mem_cons_of_mem _ ?_)))) ?_; clear hK
        (first | (refine t_pure (i := 14) hF rfl rfl rfl rfl (by kernel_rfl) (hM.sm.sub (fun x hx => by repeat (first | exact hx | refine List.mem_cons_of_mem _ ?_)) (fun _ h => by repeat (first | exact h | refine List.mem_cons_of_mem _ ?_))) (fun _ _ _ h => h) ?_ ?_; (first | exact trivial | omega | decide); clear hF a; intro a hF))
        (first | (refine t_pure (i := 15) hF rfl rfl rfl rfl (by kernel_rfl) (hM.sm.sub (fun x hx => by repeat (first | exact hx | refine List.mem_cons_of_mem _ ?_)) (fun _ h => by repeat (first | exact h | refine List.mem_cons_of_mem _ ?_))) (fun _ _ _ h => h) ?_ ?_; (first | exact trivial | omega | decide); clear hF a; intro a hF))
        refine t_done (by kernel_rfl) ?_
        (repeat (first | fail))
        refine q_cut ⟨at2, ct2, us, u1, u2, hF.sub (by repeat (first | exact Sub.nil | refine Sub.cons rfl (by first | with_reducible rfl | (refine congrArg (Value.int _) ?_; omega) | exact rfl) ?_)), hM.sub (.cons _ (.cons _ (.refl _))) (.refl _) (fun f hf => ?_)⟩
        simp only [List.mem_cons, List.not_mem_nil, or_false] at hf ⊢
        rcases hf with h | h | h | h <;> simp [h, cellsT]
  clear hF hM a
  rintro a w ⟨at2, ct2, us, u1, u2, hF, hM⟩
  have hul : us.length = 2 := by rw [← tms_len, u1]; rfl
  have t1' : tms ts = awT := t1
  have hT5 := tok_len t1' awT_len
  have hU2 := tok_len u1 awU_len
  clear e2 e3 g0 g1 g2 g3 g4
  have e4 := fun {own W} hl hx1 hx2 => Decode29_c 2 [] none 0 0 rfl (by omega) hW0 hx0 own W hl RdF.nil (Has.pure fun _ p hp => by simp at hp) ts t2 (some adt) ct1 5 htl (by omega) hx1 hx2
  rw [show decR ⟨2, ims []⟩ (tms ts) = .ok (awI, [sx, sy, sx, sz, sx]) by rw [t1']; exact aw_dec] at e4
  have e5 := fun {own W} hl hx1 hx2 => Decode29_c 2 [] none 0 0 rfl (by omega) hW0 hx0 own W hl RdF.nil (Has.pure fun _ p hp => by simp at hp) us u2 at2 ct2 2 hul (by omega) hx1 hx2
  rw [show decR ⟨2, ims []⟩ (tms us) = .error 25 by rw [u1]; exact aw_dec2] at e5
  have e6 := fun {own W} hl hx1 hx2 => Missing29_c 2 [] none 0 0 rfl (by omega) hW0 hx0 own W hl RdF.nil (Has.pure fun _ p hp => by simp at hp) ts t2 hT5 (some adt) ct1 5 htl (by omega) hx1 hx2
  rw [show misR ⟨2, ims []⟩ (tms ts) = [] by rw [t1']; exact aw_mis] at e6
  have e7 := fun {own W} hl hx1 hx2 => Missing29_c 2 [] none 0 0 rfl (by omega) hW0 hx0 own W hl RdF.nil (Has.pure fun _ p hp => by simp at hp) us u2 hU2 at2 ct2 2 hul (by omega) hx1 hx2
  rw [show misR ⟨2, ims []⟩ (tms us) = [D] by rw [u1, ← hD]; exact aw_mis2] at e7
  simp only [List.length_nil, List.length_singleton] at e6 e7
  (repeat (first | (with_reducible refine w_seq ?_) | (with_reducible refine c_region ?_) | ((with_reducible apply s_pure hF); exact rfl; exact rfl; exact rfl; (first | exact trivial | omega | exact ⟨Int.natCast_nonneg _, Int.ofNat_lt.2 (by assumption)⟩ | decide); clear hF a; intro a hF) | ((with_reducible apply s_load hF hM); exact rfl; exact rfl; (repeat (first | exact List.mem_cons_self | refine List.mem_cons_of_mem _ ?_)); exact rfl; exact rfl; clear hF a; intro a hF)))
  (((with_reducible apply s_call (f := 19) hF hM); exact rfl; exact rfl; exact rfl; exact rfl; exact rfl; exact (e4 hM.lt (hM.facts (RdF id (some adt) (cellsT ts)) (by (repeat (first | with_reducible exact List.mem_cons_self | refine List.mem_cons_of_mem _ ?_)))) (hM.facts (DatF (tP ts)) (by (repeat (first | with_reducible exact List.mem_cons_self | refine List.mem_cons_of_mem _ ?_))))); clear hF hM a; rintro v w a ⟨a5, c5, at5, ct5, rfl, -, f5, -, -, -⟩ - hM hF))
  replace hM := hM.addFact f5
  rw [show (awI, [sx, sy, sx, sz, sx]).1.length = 2 from rfl, show (awI, [sx, sy, sx, sz, sx]).2.length = 5 from rfl] at hF
  (repeat (first | (with_reducible refine w_seq ?_) | (with_reducible refine c_region ?_) | (with_reducible refine s_nil ?_) | (with_reducible refine q_then_n ?_) | ((with_reducible apply s_pure hF); exact rfl; exact rfl; exact rfl; (first | exact trivial | omega | exact ⟨Int.natCast_nonneg _, Int.ofNat_lt.2 (by assumption)⟩ | decide); clear hF a; intro a hF) | ((with_reducible apply s_load hF hM); exact rfl; exact rfl; (repeat (first | exact List.mem_cons_self | refine List.mem_cons_of_mem _ ?_)); exact rfl; exact rfl; clear hF a; intro a hF) | ((with_reducible apply s_store hF hM); exact rfl; exact rfl; exact rfl; exact rfl; (repeat (first | exact Upd.z | apply Upd.s)); exact rfl; exact rfl; exact rfl; clear hM; intro w hM) | ((with_reducible apply s_alloc hF hM); exact rfl; exact rfl; exact rfl; clear hF hM a; intro b w a hM hF)))
  generalize b = b12 at *
  (((with_reducible apply s_call (f := 19) hF hM); exact rfl; exact rfl; exact rfl; exact rfl; exact rfl; exact (e5 hM.lt (hM.facts (RdF id at2 (cellsT us)) (by (repeat (first | with_reducible exact List.mem_cons_self | refine List.mem_cons_of_mem _ ?_)))) (hM.facts (DatF (tP us)) (by (repeat (first | with_reducible exact List.mem_cons_self | refine List.mem_cons_of_mem _ ?_))))); clear hF hM a; rintro v w a rfl - hM hF))
  clear e4 e5 f5
  (repeat (first | (with_reducible refine w_seq ?_) | (with_reducible refine s_nil ?_) | (with_reducible refine q_then_n ?_) | ((with_reducible apply s_pure hF); exact rfl; exact rfl; exact rfl; (first | exact trivial | omega | exact ⟨Int.natCast_nonneg _, Int.ofNat_lt.2 (by assumption)⟩ | decide); clear hF a; intro a hF) | ((with_reducible apply s_store hF hM); exact rfl; exact rfl; exact rfl; exact rfl; (repeat (first | exact Upd.z | apply Upd.s)); exact rfl; exact rfl; exact rfl; clear hM; intro w hM) | ((with_reducible apply s_alloc hF hM); exact rfl; exact rfl; exact rfl; clear hF hM a; intro b w a hM hF)))
  generalize b = b15 at *
  refine c_draw (fun i => Nat.ble 38 i) hM ?_; clear hM; intro w hM
  (first | (refine t_pure (i := 0) hF rfl rfl rfl rfl (by kernel_rfl) hM.sm (fun _ _ _ h => h) ?_ ?_; (first | exact trivial | omega | decide); clear hF a; intro a hF))
  (first | (refine t_pure (i := 1) hF rfl rfl rfl rfl (by kernel_rfl) hM.sm (fun _ _ _ h => h) ?_ ?_; (first | exact trivial | omega | decide); clear hF a; intro a hF))
  (first | (refine t_pure (i := 2) hF rfl rfl rfl rfl (by kernel_rfl) hM.sm (fun _ _ _ h => h) ?_ ?_; (first | exact trivial | omega | decide); clear hF a; intro a hF))
  (first | (refine t_pure (i := 3) hF rfl rfl rfl rfl (by kernel_rfl) hM.sm (fun _ _ _ h => h) ?_ ?_; (first | exact trivial | omega | decide); clear hF a; intro a hF))
  (first | (refine t_pure (i := 4) hF rfl rfl rfl rfl (by kernel_rfl) hM.sm (fun _ _ _ h => h) ?_ ?_; (first | exact trivial | omega | decide); clear hF a; intro a hF))
  (first | (refine t_pure (i := 5) hF rfl rfl rfl rfl (by kernel_rfl) hM.sm (fun _ _ _ h => h) ?_ ?_; (first | exact trivial | omega | decide); clear hF a; intro a hF))
  (first | (refine t_pure (i := 6) hF rfl rfl rfl rfl (by kernel_rfl) hM.sm (fun _ _ _ h => h) ?_ ?_; (first | exact trivial | omega | decide); clear hF a; intro a hF))
  (first | (refine t_pure (i := 7) hF rfl rfl rfl rfl (by kernel_rfl) hM.sm (fun _ _ _ h => h) ?_ ?_; (first | exact trivial | omega | decide); clear hF a; intro a hF))
  (first | (apply t_load (i := 8) hF rfl rfl rfl; (repeat (first | exact List.mem_cons_self | refine List.mem_cons_of_mem _ ?_)); exact rfl; exact rfl; kernel_rfl; exact hM.sm; exact (fun _ _ _ h => h); clear hF a; intro a hF))
  (first | (apply t_load (i := 9) hF rfl rfl rfl; (repeat (first | exact List.mem_cons_self | refine List.mem_cons_of_mem _ ?_)); exact rfl; exact rfl; kernel_rfl; exact hM.sm; exact (fun _ _ _ h => h); clear hF a; intro a hF))
  (first | (apply t_load (i := 10) hF rfl rfl rfl; (repeat (first | exact List.mem_cons_self | refine List.mem_cons_of_mem _ ?_)); exact rfl; exact rfl; kernel_rfl; exact hM.sm; exact (fun _ _ _ h => h); clear hF a; intro a hF))
  (first | (apply t_load (i := 11) hF rfl rfl rfl; (repeat (first | exact List.mem_cons_self | refine List.mem_cons_of_mem _ ?_)); exact rfl; exact rfl; kernel_rfl; exact hM.sm; exact (fun _ _ _ h => h); clear hF a; intro a hF))
  (first | (apply t_load (i := 12) hF rfl rfl rfl; (repeat (first | exact List.mem_cons_self | refine List.mem_cons_of_mem _ ?_)); exact rfl; exact rfl; kernel_rfl; exact hM.sm; exact (fun _ _ _ h => h); clear hF a; intro a hF))
  refine t_one (i := 13) hF rfl (by kernel_rfl) rfl ?_
  intro K hK
  (refine x_lit hF hM rfl rfl rfl ?_; clear hF hM a; intro bl w a hM hF; replace hM := Mm.freeze hM)
  obtain ⟨bl13, rfl⟩ : ∃ x, x = bl := ⟨_, rfl⟩; replace hM := hM.addFact (Has.lit (enc := Value.int .u8) (hM.facts _ List.mem_cons_self) ([sx, sy, sx, sz, sx] : Dat).flatten rfl)
  refine hK _ _ (fun _ => (hM.sm.sub (fun x hx => by repeat (first | exact hx | refine List.mem_cons_of_mem _ ?_)) (fun _ h => by repeat (first | exact h | refine List.mem_cons_of_mem _ ?_)))) ?_; clear hK
  refine t_one (i := 14) hF rfl (by kernel_rfl) rfl ?_
  intro K hK
  (apply x_call hF hM; exact rfl; exact rfl; exact rfl; exact rfl; exact (eqS_c [sx, sy, sx, sz, sx] [sx, sy, sx, sz, sx] aw8 aw8 at5 (some ⟨bl13, 0, none⟩) 5 5 ct5 5 rfl rfl (by omega) _ _ hM.lt (hM.facts (RdF (Value.int .u8) at5 ([sx, sy, sx, sz, sx] : Dat).flatten) (by (repeat (first | exact List.mem_cons_self | refine List.mem_cons_of_mem _ ?_)))) (hM.facts (RdF (Value.int .u8) (some ⟨bl13, 0, none⟩) ([sx, sy, sx, sz, sx] : Dat).flatten) (by (repeat (first | exact List.mem_cons_self | refine List.mem_cons_of_mem _ ?_))))); clear hF hM a; rintro v w a rfl - hM hF)
  rw [decide_eq_true rfl] at hF
  refine hK _ _ (fun _ => (hM.sm.sub (fun x hx => by repeat (first | exact hx | refine List.mem_cons_of_mem _ ?_)) (fun _ h => by repeat (first | exact h | refine List.mem_cons_of_mem _ ?_)))) ?_; clear hK
  (first | (refine t_pure (i := 15) hF rfl rfl rfl rfl (by kernel_rfl) (hM.sm.sub (fun x hx => by repeat (first | exact hx | refine List.mem_cons_of_mem _ ?_)) (fun _ h => by repeat (first | exact h | refine List.mem_cons_of_mem _ ?_))) (fun _ _ _ h => h) ?_ ?_; (first | exact trivial | omega | decide); clear hF a; intro a hF))
  (first | (refine t_pure (i := 16) hF rfl rfl rfl rfl (by kernel_rfl) (hM.sm.sub (fun x hx => by repeat (first | exact hx | refine List.mem_cons_of_mem _ ?_)) (fun _ h => by repeat (first | exact h | refine List.mem_cons_of_mem _ ?_))) (fun _ _ _ h => h) ?_ ?_; (first | exact trivial | omega | decide); clear hF a; intro a hF))
  (first | (apply t_load (i := 17) hF rfl rfl rfl; (repeat (first | exact List.mem_cons_self | refine List.mem_cons_of_mem _ ?_)); exact rfl; exact rfl; kernel_rfl; exact (hM.sm.sub (fun x hx => by repeat (first | exact hx | refine List.mem_cons_of_mem _ ?_)) (fun _ h => by repeat (first | exact h | refine List.mem_cons_of_mem _ ?_))); exact (fun _ _ _ h => h); clear hF a; intro a hF))
  (first | (refine t_pure (i := 18) hF rfl rfl rfl rfl (by kernel_rfl) (hM.sm.sub (fun x hx => by repeat (first | exact hx | refine List.mem_cons_of_mem _ ?_)) (fun _ h => by repeat (first | exact h | refine List.mem_cons_of_mem _ ?_))) (fun _ _ _ h => h) ?_ ?_; (first | exact trivial | omega | decide); clear hF a; intro a hF))
  refine t_one (i := 19) hF rfl (by kernel_rfl) rfl ?_
  intro K hK
  (apply x_call hF hM; exact rfl; exact rfl; exact rfl; exact rfl; exact (e6 hM.lt (hM.facts (RdF id (some adt) (cellsT ts)) (by (repeat (first | exact List.mem_cons_self | refine List.mem_cons_of_mem _ ?_)))) (hM.facts (DatF (tP ts)) (by (repeat (first | exact List.mem_cons_self | refine List.mem_cons_of_mem _ ?_))))); clear hF hM a; rintro v w a ⟨a19, c19, rfl, -⟩ - hM hF)
  refine hK _ _ (fun _ => (hM.sm.sub (fun x hx => by repeat (first | exact hx | refine List.mem_cons_of_mem _ ?_)) (fun _ h => by repeat (first | exact h | refine List.mem_cons_of_mem _ ?_)))) ?_; clear hK
  (first | (refine t_pure (i := 20) hF rfl rfl rfl rfl (by kernel_rfl) (hM.sm.sub (fun x hx => by repeat (first | exact hx | refine List.mem_cons_of_mem _ ?_)) (fun _ h => by repeat (first | exact h | refine List.mem_cons_of_mem _ ?_))) (fun _ _ _ h => h) ?_ ?_; (first | exact trivial | omega | decide); clear hF a; intro a hF))
  (first | (refine t_pure (i := 21) hF rfl rfl rfl rfl (by kernel_rfl) (hM.sm.sub (fun x hx => by repeat (first | exact hx | refine List.mem_cons_of_mem _ ?_)) (fun _ h => by repeat (first | exact h | refine List.mem_cons_of_mem _ ?_))) (fun _ _ _ h => h) ?_ ?_; (first | exact trivial | omega | decide); clear hF a; intro a hF))
  (first | (refine t_pure (i := 22) hF rfl rfl rfl rfl (by kernel_rfl) (hM.sm.sub (fun x hx => by repeat (first | exact hx | refine List.mem_cons_of_mem _ ?_)) (fun _ h => by repeat (first | exact h | refine List.mem_cons_of_mem _ ?_))) (fun _ _ _ h => h) ?_ ?_; (first | exact trivial | omega | decide); clear hF a; intro a hF))
  (first | (refine t_pure (i := 23) hF rfl rfl rfl rfl (by kernel_rfl) (hM.sm.sub (fun x hx => by repeat (first | exact hx | refine List.mem_cons_of_mem _ ?_)) (fun _ h => by repeat (first | exact h | refine List.mem_cons_of_mem _ ?_))) (fun _ _ _ h => h) ?_ ?_; (first | exact trivial | omega | decide); clear hF a; intro a hF))
  (first | (apply t_load (i := 24) hF rfl rfl rfl; (repeat (first | exact List.mem_cons_self | refine List.mem_cons_of_mem _ ?_)); exact rfl; exact rfl; kernel_rfl; exact (hM.sm.sub (fun x hx => by repeat (first | exact hx | refine List.mem_cons_of_mem _ ?_)) (fun _ h => by repeat (first | exact h | refine List.mem_cons_of_mem _ ?_))); exact (fun _ _ _ h => h); clear hF a; intro a hF))
  (first | (refine t_pure (i := 25) hF rfl rfl rfl rfl (by kernel_rfl) (hM.sm.sub (fun x hx => by repeat (first | exact hx | refine List.mem_cons_of_mem _ ?_)) (fun _ h => by repeat (first | exact h | refine List.mem_cons_of_mem _ ?_))) (fun _ _ _ h => h) ?_ ?_; (first | exact trivial | omega | decide); clear hF a; intro a hF))
  (first | (apply t_load (i := 27) hF rfl rfl rfl; (repeat (first | exact List.mem_cons_self | refine List.mem_cons_of_mem _ ?_)); exact rfl; exact rfl; kernel_rfl; exact (hM.sm.sub (fun x hx => by repeat (first | exact hx | refine List.mem_cons_of_mem _ ?_)) (fun _ h => by repeat (first | exact h | refine List.mem_cons_of_mem _ ?_))); exact (fun _ _ _ h => h); clear hF a; intro a hF))
  refine t_two (i := 26) (j := 28) hF rfl rfl (by kernel_rfl) rfl rfl ?_ ?_
  ·
    intro K hK
    (apply x_call hF hM; exact rfl; exact rfl; exact rfl; exact rfl; exact (e7 hM.lt (hM.facts (RdF id at2 (cellsT us)) (by (repeat (first | exact List.mem_cons_self | refine List.mem_cons_of_mem _ ?_)))) (hM.facts (DatF (tP us)) (by (repeat (first | exact List.mem_cons_self | refine List.mem_cons_of_mem _ ?_))))); clear hF hM a; rintro v w a ⟨a26, c26, rfl, f26⟩ - hM hF)
    replace hM := hM.addFact f26
    refine hK _ _ (fun _ => (hM.sm.sub (fun x hx => by repeat (first | exact hx | refine List.mem_cons_of_mem _ ?_)) (fun _ h => by repeat (first | exact h | refine List.mem_cons_of_mem _ ?_)))) ?_; clear hK
    refine t_one (i := 28) hF rfl (by kernel_rfl) rfl ?_
    intro K hK
    (refine x_lit hF hM rfl rfl rfl ?_; clear hF hM a; intro bl w a hM hF; replace hM := Mm.freeze hM)
    obtain ⟨bl28, rfl⟩ : ∃ x, x = bl := ⟨_, rfl⟩; replace hM := hM.addFact (Has.lit (enc := Value.int .u8) (hM.facts _ List.mem_cons_self) ([sx] : Dat).flatten rfl)
    refine hK _ _ (fun _ => (hM.sm.sub (fun x hx => by repeat (first | exact hx | refine List.mem_cons_of_mem _ ?_)) (fun _ h => by repeat (first | exact h | refine List.mem_cons_of_mem _ ?_)))) ?_; clear hK
    refine t_one (i := 29) hF rfl (by kernel_rfl) rfl ?_
    intro K hK
    (apply x_call hF hM; exact rfl; exact rfl; exact rfl; exact rfl; exact (Sectors4_c [sx] awx8 (some ⟨bl28, 0, none⟩) 1 1 rfl (by omega) _ _ hM.lt (hM.facts (RdF (Value.int .u8) (some ⟨bl28, 0, none⟩) ([sx] : Dat).flatten) (by (repeat (first | exact List.mem_cons_self | refine List.mem_cons_of_mem _ ?_))))); clear hF hM a; rintro v w a rfl - hM hF)
    rw [hD] at hF
    refine hK _ _ (fun _ => (hM.sm.sub (fun x hx => by repeat (first | exact hx | refine List.mem_cons_of_mem _ ?_)) (fun _ h => by repeat (first | exact h | refine List.mem_cons_of_mem _ ?_)))) ?_; clear hK
    refine t_one (i := 30) hF rfl (by kernel_rfl) rfl ?_
    intro K hK
    (refine x_lit hF hM rfl rfl rfl ?_; clear hF hM a; intro bl w a hM hF; replace hM := Mm.freeze hM)
    obtain ⟨bl30, rfl⟩ : ∃ x, x = bl := ⟨_, rfl⟩; replace hM := hM.addFact (Has.lit (enc := Value.int .u64) (hM.facts _ List.mem_cons_self) [D] rfl)
    refine hK _ _ (fun _ => (hM.sm.sub (fun x hx => by repeat (first | exact hx | refine List.mem_cons_of_mem _ ?_)) (fun _ h => by repeat (first | exact h | refine List.mem_cons_of_mem _ ?_)))) ?_; clear hK
    refine t_one (i := 31) hF rfl (by kernel_rfl) rfl ?_
    intro K hK
    (apply x_call hF hM; exact rfl; exact rfl; exact rfl; exact rfl; exact (equU_c [D] [D] a26 (some ⟨bl30, 0, none⟩) c26 1 1 1 rfl rfl (by omega) _ _ hM.lt (hM.facts (RdF (Value.int .u64) a26 [D]) (by (repeat (first | exact List.mem_cons_self | refine List.mem_cons_of_mem _ ?_)))) (hM.facts (RdF (Value.int .u64) (some ⟨bl30, 0, none⟩) [D]) (by (repeat (first | exact List.mem_cons_self | refine List.mem_cons_of_mem _ ?_))))); clear hF hM a; rintro v w a rfl - hM hF)
    rw [decide_eq_true rfl] at hF
    refine hK _ _ (fun _ => (hM.sm.sub (fun x hx => by repeat (first | exact hx | refine List.mem_cons_of_mem _ ?_)) (fun _ h => by repeat (first | exact h | refine List.mem_cons_of_mem _ ?_)))) ?_; clear hK
    (first | (refine t_pure (i := 32) hF rfl rfl rfl rfl (by kernel_rfl) (hM.sm.sub (fun x hx => by repeat (first | exact hx | refine List.mem_cons_of_mem _ ?_)) (fun _ h => by repeat (first | exact h | refine List.mem_cons_of_mem _ ?_))) (fun _ _ _ h => h) ?_ ?_; (first | exact trivial | omega | decide); clear hF a; intro a hF))
    (first | (refine t_pure (i := 33) hF rfl rfl rfl rfl (by kernel_rfl) (hM.sm.sub (fun x hx => by repeat (first | exact hx | refine List.mem_cons_of_mem _ ?_)) (fun _ h => by repeat (first | exact h | refine List.mem_cons_of_mem _ ?_))) (fun _ _ _ h => h) ?_ ?_; (first | exact trivial | omega | decide); clear hF a; intro a hF))
    (first | (refine t_pure (i := 34) hF rfl rfl rfl rfl (by kernel_rfl) (hM.sm.sub (fun x hx => by repeat (first | exact hx | refine List.mem_cons_of_mem _ ?_)) (fun _ h => by repeat (first | exact h | refine List.mem_cons_of_mem _ ?_))) (fun _ _ _ h => h) ?_ ?_; (first | exact trivial | omega | decide); clear hF a; intro a hF))
    (first | (refine t_pure (i := 35) hF rfl rfl rfl rfl (by kernel_rfl) (hM.sm.sub (fun x hx => by repeat (first | exact hx | refine List.mem_cons_of_mem _ ?_)) (fun _ h => by repeat (first | exact h | refine List.mem_cons_of_mem _ ?_))) (fun _ _ _ h => h) ?_ ?_; (first | exact trivial | omega | decide); clear hF a; intro a hF))
    (first | (refine t_pure (i := 36) hF rfl rfl rfl rfl (by kernel_rfl) (hM.sm.sub (fun x hx => by repeat (first | exact hx | refine List.mem_cons_of_mem _ ?_)) (fun _ h => by repeat (first | exact h | refine List.mem_cons_of_mem _ ?_))) (fun _ _ _ h => h) ?_ ?_; (first | exact trivial | omega | decide); clear hF a; intro a hF))
    (first | (refine t_pure (i := 37) hF rfl rfl rfl rfl (by kernel_rfl) (hM.sm.sub (fun x hx => by repeat (first | exact hx | refine List.mem_cons_of_mem _ ?_)) (fun _ h => by repeat (first | exact h | refine List.mem_cons_of_mem _ ?_))) (fun _ _ _ h => h) ?_ ?_; (first | exact trivial | omega | decide); clear hF a; intro a hF))
    refine t_done (by kernel_rfl) ?_
    (repeat (first | (with_reducible refine q_then_n ?_) | (with_reducible refine w_ret ?_)))
    (apply f_ret Try.results13 hF hM; (repeat (first | exact RL.nil | (apply RL.tmp; exact rfl) | (apply RL.cell; exact rfl; (repeat (first | exact List.mem_cons_self | refine List.mem_cons_of_mem _ ?_)); exact rfl))); refine Ret.mk hM.since ?_; dsimp only [resV])
    rfl
  ·
    intro K hK
    (refine x_lit hF hM rfl rfl rfl ?_; clear hF hM a; intro bl w a hM hF; replace hM := Mm.freeze hM)
    obtain ⟨bl28, rfl⟩ : ∃ x, x = bl := ⟨_, rfl⟩; replace hM := hM.addFact (Has.lit (enc := Value.int .u8) (hM.facts _ List.mem_cons_self) ([sx] : Dat).flatten rfl)
    refine hK _ _ (fun _ => (hM.sm.sub (fun x hx => by repeat (first | exact hx | refine List.mem_cons_of_mem _ ?_)) (fun _ h => by repeat (first | exact h | refine List.mem_cons_of_mem _ ?_)))) ?_; clear hK
    refine t_one (i := 26) hF rfl (by kernel_rfl) rfl ?_
    intro K hK
    (apply x_call hF hM; exact rfl; exact rfl; exact rfl; exact rfl; exact (e7 hM.lt (hM.facts (RdF id at2 (cellsT us)) (by (repeat (first | exact List.mem_cons_self | refine List.mem_cons_of_mem _ ?_)))) (hM.facts (DatF (tP us)) (by (repeat (first | exact List.mem_cons_self | refine List.mem_cons_of_mem _ ?_))))); clear hF hM a; rintro v w a ⟨a26, c26, rfl, f26⟩ - hM hF)
    replace hM := hM.addFact f26
    refine hK _ _ (fun _ => (hM.sm.sub (fun x hx => by repeat (first | exact hx | refine List.mem_cons_of_mem _ ?_)) (fun _ h => by repeat (first | exact h | refine List.mem_cons_of_mem _ ?_)))) ?_; clear hK
    refine t_one (i := 29) hF rfl (by kernel_rfl) rfl ?_
    intro K hK
    (apply x_call hF hM; exact rfl; exact rfl; exact rfl; exact rfl; exact (Sectors4_c [sx] awx8 (some ⟨bl28, 0, none⟩) 1 1 rfl (by omega) _ _ hM.lt (hM.facts (RdF (Value.int .u8) (some ⟨bl28, 0, none⟩) ([sx] : Dat).flatten) (by (repeat (first | exact List.mem_cons_self | refine List.mem_cons_of_mem _ ?_))))); clear hF hM a; rintro v w a rfl - hM hF)
    rw [hD] at hF
    refine hK _ _ (fun _ => (hM.sm.sub (fun x hx => by repeat (first | exact hx | refine List.mem_cons_of_mem _ ?_)) (fun _ h => by repeat (first | exact h | refine List.mem_cons_of_mem _ ?_)))) ?_; clear hK
    refine t_one (i := 30) hF rfl (by kernel_rfl) rfl ?_
    intro K hK
    (refine x_lit hF hM rfl rfl rfl ?_; clear hF hM a; intro bl w a hM hF; replace hM := Mm.freeze hM)
    obtain ⟨bl30, rfl⟩ : ∃ x, x = bl := ⟨_, rfl⟩; replace hM := hM.addFact (Has.lit (enc := Value.int .u64) (hM.facts _ List.mem_cons_self) [D] rfl)
    refine hK _ _ (fun _ => (hM.sm.sub (fun x hx => by repeat (first | exact hx | refine List.mem_cons_of_mem _ ?_)) (fun _ h => by repeat (first | exact h | refine List.mem_cons_of_mem _ ?_)))) ?_; clear hK
    refine t_one (i := 31) hF rfl (by kernel_rfl) rfl ?_
    intro K hK
    (apply x_call hF hM; exact rfl; exact rfl; exact rfl; exact rfl; exact (equU_c [D] [D] a26 (some ⟨bl30, 0, none⟩) c26 1 1 1 rfl rfl (by omega) _ _ hM.lt (hM.facts (RdF (Value.int .u64) a26 [D]) (by (repeat (first | exact List.mem_cons_self | refine List.mem_cons_of_mem _ ?_)))) (hM.facts (RdF (Value.int .u64) (some ⟨bl30, 0, none⟩) [D]) (by (repeat (first | exact List.mem_cons_self | refine List.mem_cons_of_mem _ ?_))))); clear hF hM a; rintro v w a rfl - hM hF)
    rw [decide_eq_true rfl] at hF
    refine hK _ _ (fun _ => (hM.sm.sub (fun x hx => by repeat (first | exact hx | refine List.mem_cons_of_mem _ ?_)) (fun _ h => by repeat (first | exact h | refine List.mem_cons_of_mem _ ?_)))) ?_; clear hK
    (first | (refine t_pure (i := 32) hF rfl rfl rfl rfl (by kernel_rfl) (hM.sm.sub (fun x hx => by repeat (first | exact hx | refine List.mem_cons_of_mem _ ?_)) (fun _ h => by repeat (first | exact h | refine List.mem_cons_of_mem _ ?_))) (fun _ _ _ h => h) ?_ ?_; (first | exact trivial | omega | decide); clear hF a; intro a hF))
    (first | (refine t_pure (i := 33) hF rfl rfl rfl rfl (by kernel_rfl) (hM.sm.sub (fun x hx => by repeat (first | exact hx | refine List.mem_cons_of_mem _ ?_)) (fun _ h => by repeat (first | exact h | refine List.mem_cons_of_mem _ ?_))) (fun _ _ _ h => h) ?_ ?_; (first | exact trivial | omega | decide); clear hF a; intro a hF))
    (first | (refine t_pure (i := 34) hF rfl rfl rfl rfl (by kernel_rfl) (hM.sm.sub (fun x hx => by repeat (first | exact hx | refine List.mem_cons_of_mem _ ?_)) (fun _ h => by repeat (first | exact h | refine List.mem_cons_of_mem _ ?_))) (fun _ _ _ h => h) ?_ ?_; (first | exact trivial | omega | decide); clear hF a; intro a hF))
    (first | (refine t_pure (i := 35) hF rfl rfl rfl rfl (by kernel_rfl) (hM.sm.sub (fun x hx => by repeat (first | exact hx | refine List.mem_cons_of_mem _ ?_)) (fun _ h => by repeat (first | exact h | refine List.mem_cons_of_mem _ ?_))) (fun _ _ _ h => h) ?_ ?_; (first | exact trivial | omega | decide); clear hF a; intro a hF))
    (first | (refine t_pure (i := 36) hF rfl rfl rfl rfl (by kernel_rfl) (hM.sm.sub (fun x hx => by repeat (first | exact hx | refine List.mem_cons_of_mem _ ?_)) (fun _ h => by repeat (first | exact h | refine List.mem_cons_of_mem _ ?_))) (fun _ _ _ h => h) ?_ ?_; (first | exact trivial | omega | decide); clear hF a; intro a hF))
    (first | (refine t_pure (i := 37) hF rfl rfl rfl rfl (by kernel_rfl) (hM.sm.sub (fun x hx => by repeat (first | exact hx | refine List.mem_cons_of_mem _ ?_)) (fun _ h => by repeat (first | exact h | refine List.mem_cons_of_mem _ ?_))) (fun _ _ _ h => h) ?_ ?_; (first | exact trivial | omega | decide); clear hF a; intro a hF))
    refine t_done (by kernel_rfl) ?_
    (repeat (first | (with_reducible refine q_then_n ?_) | (with_reducible refine w_ret ?_)))
    (apply f_ret Try.results13 hF hM; (repeat (first | exact RL.nil | (apply RL.tmp; exact rfl) | (apply RL.cell; exact rfl; (repeat (first | exact List.mem_cons_self | refine List.mem_cons_of_mem _ ?_)); exact rfl))); refine Ret.mk hM.since ?_; dsimp only [resV])
    rfl
end Go.Proofs.Ytonelgecjmpbgaa


/- Layer 29: bounds of what is answered; the laws of Encode and Decode. -/
namespace Go.Proofs.Ytonelgecjmpbgaa
open Go.RowKit Go.Shelf D29
namespace D29
theorem toks_ps {l : List Tok} {us : List TP} (h : ∀ t ∈ l, t.x.length ≤ 4096) (hq : tms us = l) : ∀ p ∈ us, p.1.x.length ≤ 100000 := fun p hp => Nat.le_trans (h p.1 (by rw [← hq]; exact List.mem_map.2 ⟨p, hp, rfl⟩)) (by omega)
end D29
end Go.Proofs.Ytonelgecjmpbgaa


/- Layer 29: the law of the bytes of tokens (Wires). -/
namespace Go.Proofs.Ytonelgecjmpbgaa
open Go.RowKit Go.Shelf D29
namespace D29
theorem puts_byT (n : Nat) : ∀ x ∈ puts n, (0 : Int) ≤ x ∧ x < 256 := by
  induction n using Nat.strongRecOn with
  | _ n ih =>
    by_cases h : n < 128
    · rw [puts_lt h]
      intro x hx
      simp at hx
      omega
    · rw [puts_ge h]
      intro x hx
      rcases List.mem_cons.1 hx with rfl | hx
      · omega
      · exact ih (n / 128) (by omega) x hx
theorem le_by : ∀ (k : Nat) (d : Int), ∀ x ∈ le k d, (0 : Int) ≤ x ∧ x < 256
  | 0, _, x, h => (List.not_mem_nil h).elim
  | k + 1, d, x, h => by
    rw [le] at h
    rcases List.mem_cons.1 h with rfl | h
    · omega
    · exact le_by k _ x h
theorem putTok_by {t : Tok} (h : By8 t.x) : ∀ x ∈ putTok t, (0 : Int) ≤ x ∧ x < 256 := by
  intro x hx
  unfold putTok at hx
  split at hx
  · rcases List.mem_cons.1 hx with rfl | hx
    · omega
    · exact le_by _ _ x hx
  · rcases List.mem_cons.1 hx with rfl | hx
    · omega
    · rcases List.mem_append.1 hx with hx | hx
      · exact puts_byT _ x hx
      · obtain ⟨s, hs, hx⟩ := List.mem_flatten.1 hx
        exact h s hs x hx
theorem putToks_by {l : List Tok} (h : ∀ t ∈ l, By8 t.x) : ∀ x ∈ putToks l, (0 : Int) ≤ x ∧ x < 256 := by
  intro x hx
  unfold putToks at hx
  rcases List.mem_append.1 hx with hx | hx
  · exact puts_byT _ x hx
  · obtain ⟨s, hs, hx⟩ := List.mem_flatten.1 hx
    obtain ⟨t, ht, rfl⟩ := List.mem_map.1 hs
    exact putTok_by (h t ht) x hx
theorem datw_by {ts : List TP} (h : DatW (tP ts)) : ∀ t ∈ tms ts, By8 t.x := by
  intro t ht
  obtain ⟨q, hq, rfl⟩ := List.mem_map.1 ht
  exact (h ((⟨q.1.d, q.1.x⟩ : Itm), q.2) (List.mem_map.2 ⟨q, hq, rfl⟩)).2.2
theorem putToks_len {l : List Tok} (h : ∀ t ∈ l, W8 t.x ∧ t.x.length ≤ 4096) (hl : l.length ≤ 10000) : (putToks l).length ≤ 8 + l.length * 32777 := by
  have key : ∀ l : List Tok, (∀ t ∈ l, W8 t.x ∧ t.x.length ≤ 4096) → ((l.map putTok).flatten).length ≤ l.length * 32777 := by
    intro l
    induction l with
    | nil => intro _; simp
    | cons t r ih =>
      intro h
      have h1 := putTok_len (h t List.mem_cons_self).1 (h t List.mem_cons_self).2
      have h2 := ih fun s hs => h s (List.mem_cons_of_mem _ hs)
      rw [List.map_cons, List.flatten_cons, List.length_append, List.length_cons]
      omega
  have hp0 : (puts l.length).length ≤ 8 := puts_len 7 l.length (by omega)
  unfold putToks
  rw [List.length_append]
  have := key l h
  omega
theorem tms_w {ts : List TP} (h : DatW (tP ts)) (hx : ∀ t ∈ ts, t.1.x.length ≤ 4096) : ∀ t ∈ tms ts, W8 t.x ∧ t.x.length ≤ 4096 := by
  intro t ht
  obtain ⟨q, hq, rfl⟩ := List.mem_map.1 ht
  exact ⟨(h ((⟨q.1.d, q.1.x⟩ : Itm), q.2) (List.mem_map.2 ⟨q, hq, rfl⟩)).1, hx q hq⟩
theorem rdTok_x {xs : List Int} {t : Tok} {ys : List Int} (h : rdTok xs = .ok (t, ys)) : t.x.length ≤ 4096 := by
  cases xs with
  | nil => cases h
  | cons m r =>
    rw [rdTok] at h
    split at h
    · cases hs : rdSecs r with
      | error e => rw [hs] at h; cases h
      | ok p =>
        obtain ⟨x, zs⟩ := p
        rw [hs] at h
        simp only at h
        split at h
        · rename_i hc
          injection h with h
          injection h with h1 h2
          subst h1
          unfold isCh at hc
          rw [decide_eq_true_eq] at hc
          exact hc.2
        · cases h
    · split at h
      · split at h
        · cases h
        · injection h with h
          injection h with h1 h2
          subst h1
          simp
      · cases h
theorem rdToks_x : ∀ {k : Nat} {xs : List Int} {l : List Tok} {ys : List Int}, rdToks k xs = .ok (l, ys) → ∀ t ∈ l, t.x.length ≤ 4096
  | 0, xs, l, ys, h => by
    injection h with h
    injection h with h1 h2
    subst h1
    intro t ht
    exact (List.not_mem_nil ht).elim
  | k + 1, xs, l, ys, h => by
    rw [rdToks] at h
    cases ht : rdTok xs with
    | error e => rw [ht] at h; cases h
    | ok p =>
      obtain ⟨t, us⟩ := p
      rw [ht] at h
      simp only at h
      cases hr : rdToks k us with
      | error e => rw [hr] at h; cases h
      | ok q =>
        obtain ⟨m, zs⟩ := q
        rw [hr] at h
        injection h with h
        injection h with h1 h2
        subst h1
        intro s hs
        rcases List.mem_cons.1 hs with rfl | hs
        · exact rdTok_x ht
        · exact rdToks_x hr s hs
theorem tokens_x {xs : List Int} {l : List Tok} {ys : List Int} (h : rdTokens xs = .ok (l, ys)) : ∀ t ∈ l, t.x.length ≤ 4096 := by
  unfold rdTokens at h
  split at h
  · cases h
  · split at h
    · cases h
    · exact rdToks_x h
theorem putTok_pos (t : Tok) : 1 ≤ (putTok t).length := by
  unfold putTok
  split <;> simp
theorem toks_num : ∀ l : List Tok, l.length ≤ ((l.map putTok).flatten).length
  | [] => by simp
  | t :: r => by
    have h1 := putTok_pos t
    have h2 := toks_num r
    rw [List.map_cons, List.flatten_cons, List.length_append, List.length_cons]
    omega
theorem tokens_num {xs : List Int} (hb : ∀ x ∈ xs, 0 ≤ x ∧ x < 256) {l : List Tok} {ys : List Int} (h : rdTokens xs = .ok (l, ys)) : l.length ≤ xs.length ∧ ys.length ≤ xs.length := by
  have e := congrArg List.length (tokens_can hb h)
  have h2 := toks_num l
  unfold putToks at e
  rw [List.length_append, List.length_append] at e
  omega
end D29
set_option maxRecDepth 20000 in
theorem eqBy_c (xs ys : List Int) (hx : ∀ x ∈ xs, 0 ≤ x ∧ x < 256) (hy : ∀ y ∈ ys, 0 ≤ y ∧ y < 256) (a1 a2 : Option Addr) (m1 m2 c1 c2 : Nat) (h1 : xs.length = m1) (h2 : ys.length = m2) (own : Nat → Prop) (W : World) (hl : ∀ b, own b → b < W.heap.size) (hv1 : Has own W (RdF (Value.int .u8) a1 xs)) (hv2 : Has own W (RdF (Value.int .u8) a2 ys)) :
    Calls Try.prog 50 ⟨[.slice a1 m1 c1, .slice a2 m2 c2]⟩ W (Ret W fun v _ => v = .bool (decide (xs = ys))) := by
  have hM := ((Mm.start hl).known hv1).known hv2
  refine f_start Try.func50 rfl Try.ntmps50 rfl rfl ?_; intro a hF
  (repeat (first | (with_reducible refine w_seq ?_) | (with_reducible refine c_region ?_) | (with_reducible refine s_nil ?_) | ((with_reducible apply s_b2s hF hM); exact rfl; exact rfl; (repeat (first | exact List.mem_cons_self | refine List.mem_cons_of_mem _ ?_)); exact rfl; exact rfl; exact rfl; exact rfl; (first | with_reducible assumption | rfl); clear hF a; intro a hF) | ((with_reducible apply s_eqS hF); exact rfl; exact rfl; exact rfl; kernel_rfl; exact rfl; (with_reducible assumption); (with_reducible assumption); clear hF a; intro a hF) | (with_reducible refine q_then_n ?_) | ((with_reducible apply s_pure hF); exact rfl; exact rfl; exact rfl; (first | exact trivial | omega | exact ⟨Int.natCast_nonneg _, Int.ofNat_lt.2 (by assumption)⟩ | decide); clear hF a; intro a hF) | (with_reducible refine w_ret ?_)))
  (apply f_ret Try.results50 hF hM; (repeat (first | exact RL.nil | (apply RL.tmp; exact rfl) | (apply RL.cell; exact rfl; (repeat (first | exact List.mem_cons_self | refine List.mem_cons_of_mem _ ?_)); exact rfl))); refine Ret.mk hM.since ?_; dsimp only [resV])
section
variable (W : World) (ts : List TP) (hts : DatW (tP ts)) (al : Option Addr) (cl : Nat) (h1 : Has (fun _ => False) W (RdF id al (cellsT ts))) (h2 : Has (fun _ => False) W (DatF (tP ts)))
include hts h1 h2
set_option maxRecDepth 20000 in
set_option maxHeartbeats 4000000 in
theorem wires29_c (ds src : List Int) (hdb : ∀ x ∈ ds, 0 ≤ x ∧ x < 256) (hsb : ∀ x ∈ src, 0 ≤ x ∧ x < 256) (ad as_ : Option Addr) (cd cs : Nat) (hcs : src.length ≤ cs) (hv0 : Has (fun _ => False) W (RdF (Value.int .u8) ad ds)) (hv2 : Has (fun _ => False) W (RdF (Value.int .u8) as_ src)) :
    Calls Try.prog 10 ⟨[.slice ad ds.length cd, .slice al ts.length cl, .slice as_ src.length cs]⟩ W (Ret W fun v _ => v = .bool true) := by
  have hM := ((((Mm.start (own := fun _ => False) (w := W) (fun _ h => h.elim)).known h2).known h1).known hv0).known hv2
  have e0 := fun {own W} hl => FewTokens_c ts al ts.length cl rfl own W hl
  refine f_start Try.func10 rfl Try.ntmps10 rfl rfl ?_; intro a hF
  (repeat (first | (with_reducible refine w_seq ?_) | (with_reducible refine c_region ?_) | (with_reducible refine s_nil ?_) | (with_reducible refine q_then_n ?_) | ((with_reducible apply s_pure hF); exact rfl; exact rfl; exact rfl; (first | exact trivial | omega | exact ⟨Int.natCast_nonneg _, Int.ofNat_lt.2 (by assumption)⟩ | decide); clear hF a; intro a hF)))
  by_cases hd : 100 < ds.length
  · (repeat' (first | (with_reducible refine w_seq ?_) | (with_reducible refine c_region ?_) | (with_reducible refine s_nil ?_) | ((with_reducible apply s_call (f := 13) hF hM); exact rfl; exact rfl; exact rfl; exact rfl; exact rfl; exact (awake_c _ _ hM.lt); clear hF hM a; rintro v w a rfl - hM hF) | (with_reducible refine q_then_n ?_) | ((with_reducible apply s_pure hF); exact rfl; exact rfl; exact rfl; (first | exact trivial | omega | exact ⟨Int.natCast_nonneg _, Int.ofNat_lt.2 (by assumption)⟩ | decide); clear hF a; intro a hF) | (with_reducible refine w_ret ?_) | (with_reducible refine q_then_r ?_) | ((with_reducible apply c_true2 hF); exact rfl; (first | with_reducible rfl | (refine congrArg Value.bool ?_; focus (simp; done)))) | ((with_reducible apply s_skip hF); exact rfl; exact rfl; clear hF a; intro a hF) | ((fail_if_success ((with_reducible refine g_known true hF ?_ ?_); focus exact rfl)); (fail_if_success ((with_reducible refine g_known false hF ?_ ?_); focus exact rfl)); (with_reducible apply g_dec hF); exact rfl; exact rfl; all_goals (clear hF; intro hc hF); all_goals (try (exfalso; omega)))))
    (apply f_ret Try.results10 hF hM; (repeat (first | exact RL.nil | (apply RL.tmp; exact rfl) | (apply RL.cell; exact rfl; (repeat (first | exact List.mem_cons_self | refine List.mem_cons_of_mem _ ?_)); exact rfl))); refine Ret.mk hM.since ?_; dsimp only [resV])
  rw [decide_eq_false (show ¬ (100 : Int) < ds.length by omega)] at hF
  (repeat (first | ((with_reducible apply s_pure hF); exact rfl; exact rfl; exact rfl; (first | exact trivial | omega | exact ⟨Int.natCast_nonneg _, Int.ofNat_lt.2 (by assumption)⟩ | decide); clear hF a; intro a hF)))
  (((with_reducible apply s_call (f := 18) hF hM); exact rfl; exact rfl; exact rfl; exact rfl; exact rfl; exact (e0 hM.lt (hM.facts (RdF id al (cellsT ts)) (by (repeat (first | with_reducible exact List.mem_cons_self | refine List.mem_cons_of_mem _ ?_))))); clear hF hM a; rintro v w a ⟨f, rfl, hf⟩ - hM hF))
  cases f with
  | false =>
    (repeat' (first | (with_reducible refine w_seq ?_) | (with_reducible refine c_region ?_) | (with_reducible refine s_nil ?_) | ((with_reducible apply s_call (f := 13) hF hM); exact rfl; exact rfl; exact rfl; exact rfl; exact rfl; exact (awake_c _ _ hM.lt); clear hF hM a; rintro v w a rfl - hM hF) | (with_reducible refine q_then_n ?_) | ((with_reducible apply s_pure hF); exact rfl; exact rfl; exact rfl; (first | exact trivial | omega | exact ⟨Int.natCast_nonneg _, Int.ofNat_lt.2 (by assumption)⟩ | decide); clear hF a; intro a hF) | (with_reducible refine w_ret ?_) | (with_reducible refine q_then_r ?_) | ((with_reducible apply c_true2 hF); exact rfl; (first | with_reducible rfl | (refine congrArg Value.bool ?_; focus (simp; done)))) | ((with_reducible apply s_skip hF); exact rfl; exact rfl; clear hF a; intro a hF)))
    (apply f_ret Try.results10 hF hM; (repeat (first | exact RL.nil | (apply RL.tmp; exact rfl) | (apply RL.cell; exact rfl; (repeat (first | exact List.mem_cons_self | refine List.mem_cons_of_mem _ ?_)); exact rfl))); refine Ret.mk hM.since ?_; dsimp only [resV])
  | true =>
  obtain ⟨hl60, hy40⟩ := hf rfl
  by_cases hs : 1000 < src.length
  · (repeat' (first | (with_reducible refine w_seq ?_) | (with_reducible refine c_region ?_) | (with_reducible refine s_nil ?_) | ((with_reducible apply s_call (f := 13) hF hM); exact rfl; exact rfl; exact rfl; exact rfl; exact rfl; exact (awake_c _ _ hM.lt); clear hF hM a; rintro v w a rfl - hM hF) | (with_reducible refine q_then_n ?_) | ((with_reducible apply s_pure hF); exact rfl; exact rfl; exact rfl; (first | exact trivial | omega | exact ⟨Int.natCast_nonneg _, Int.ofNat_lt.2 (by assumption)⟩ | decide); clear hF a; intro a hF) | (with_reducible refine w_ret ?_) | (with_reducible refine q_then_r ?_) | ((with_reducible apply c_dec hF); exact rfl; all_goals intro hc; all_goals (try (exfalso; omega)))))
    (apply f_ret Try.results10 hF hM; (repeat (first | exact RL.nil | (apply RL.tmp; exact rfl) | (apply RL.cell; exact rfl; (repeat (first | exact List.mem_cons_self | refine List.mem_cons_of_mem _ ?_)); exact rfl))); refine Ret.mk hM.since ?_; dsimp only [resV])
  have hx4 : ∀ t ∈ ts, t.1.x.length ≤ 4096 := fun t ht => Nat.le_trans (hy40 t ht) (by omega)
  have hpb : ∀ x ∈ ds ++ putToks (tms ts), 0 ≤ x ∧ x < 256 := fun x hx => by
    rcases List.mem_append.1 hx with hx | hx
    · exact hdb x hx
    · exact putToks_by (datw_by hts) x hx
  have hpl := putToks_len (tms_w hts hx4) (by rw [tms_len]; omega)
  rw [tms_len] at hpl
  have e1 := fun {own W} hl hv => Tokens_c src hsb (by omega) as_ cs hcs own W hl hv
  have e2 := fun {own W} hl hv => TokensR_c src hsb (by omega) as_ cs hcs own W hl hv
  have e3 := fun {own W} hl hv h1 h2 => PutTokens_c ts hts hx4 (by omega) ds (by omega) ad al ds.length cd ts.length cl rfl rfl own W hl hv h1 h2
  have e4 := fun {own W} hl hv h1 h2 => PutTokensR_c ts hts hx4 (by omega) ds (by omega) ad al ds.length cd ts.length cl rfl rfl own W hl hv h1 h2
  obtain ⟨P, hP⟩ : ∃ P, ds ++ putToks (tms ts) = P := ⟨_, rfl⟩
  obtain ⟨pl, hpl2⟩ : ∃ q, ds.length + (putToks (tms ts)).length = q := ⟨_, rfl⟩
  have hPl : P.length = pl := by rw [← hP, List.length_append, hpl2]
  rw [hP, hpl2] at e3 e4
  rw [hP] at hpb
  have e5 := fun {own W} a1 a2 c1 c2 hl hv1 hv2 => eqBy_c P P hpb hpb a1 a2 pl pl c1 c2 hPl hPl own W hl hv1 hv2
  rw [decide_eq_true rfl] at e5
  cases hr : rdTokens src with
  | error e =>
    rw [hr] at e1 e2
    have e6 := fun {own W} hl => SameTokens_c [] [] (fun p hp => by simp [tP] at hp) (fun p hp => by simp [tP] at hp) (fun p hp => by simp at hp) none none 0 0 0 0 rfl rfl (by omega) own W hl RdF.nil (Has.pure fun _ p hp => by simp [tP] at hp) RdF.nil (Has.pure fun _ p hp => by simp [tP] at hp)
    rw [decide_eq_true rfl] at e6
    have e7 := fun {own W} hl => eqBy_c [] [] (fun p hp => by simp at hp) (fun p hp => by simp at hp) none none 0 0 0 0 rfl rfl own W hl RdF.nil RdF.nil
    rw [decide_eq_true rfl] at e7
    (repeat' (first | (with_reducible refine w_seq ?_) | (with_reducible refine c_region ?_) | (with_reducible refine s_nil ?_) | (with_reducible refine q_then_n ?_) | ((with_reducible apply s_pure hF); exact rfl; exact rfl; exact rfl; (first | exact trivial | omega | exact ⟨Int.natCast_nonneg _, Int.ofNat_lt.2 (by assumption)⟩ | decide); clear hF a; intro a hF) | (with_reducible refine w_skip ?_) | ((with_reducible apply c_dec hF); exact rfl; all_goals intro hc; all_goals (try (exfalso; omega)))))
    (((with_reducible apply s_call (f := 48) hF hM); exact rfl; exact rfl; exact rfl; exact rfl; exact rfl; exact (e1 hM.lt (hM.facts (RdF (Value.int .u8) as_ src) (by (repeat (first | with_reducible exact List.mem_cons_self | refine List.mem_cons_of_mem _ ?_))))); clear hF hM a; rintro v w a ⟨rfl, he⟩ - hM hF))
    (repeat (first | (with_reducible refine w_seq ?_) | (with_reducible refine c_region ?_) | (with_reducible refine s_nil ?_) | (with_reducible refine q_then_n ?_) | ((with_reducible apply s_pure hF); exact rfl; exact rfl; exact rfl; (first | exact trivial | omega | exact ⟨Int.natCast_nonneg _, Int.ofNat_lt.2 (by assumption)⟩ | decide); clear hF a; intro a hF)))
    (((with_reducible apply s_call (f := 49) hF hM); exact rfl; exact rfl; exact rfl; exact rfl; exact rfl; exact (e2 hM.lt (hM.facts (RdF (Value.int .u8) as_ src) (by (repeat (first | with_reducible exact List.mem_cons_self | refine List.mem_cons_of_mem _ ?_))))); clear hF hM a; rintro v w a ⟨rfl, -⟩ - hM hF))
    (repeat (first | (with_reducible refine w_seq ?_) | (with_reducible refine c_region ?_) | (with_reducible refine s_nil ?_) | (with_reducible refine q_then_n ?_) | ((with_reducible apply s_pure hF); exact rfl; exact rfl; exact rfl; (first | exact trivial | omega | exact ⟨Int.natCast_nonneg _, Int.ofNat_lt.2 (by assumption)⟩ | decide); clear hF a; intro a hF)))
    (((with_reducible apply s_callO (f := 51) hF); exact rfl; exact rfl; exact rfl; exact rfl; exact rfl; exact (e3 hM.lt (hM.facts (RdF (Value.int .u8) ad ds) (by (repeat (first | with_reducible exact List.mem_cons_self | refine List.mem_cons_of_mem _ ?_)))) (hM.facts (RdF id al (cellsT ts)) (by (repeat (first | with_reducible exact List.mem_cons_self | refine List.mem_cons_of_mem _ ?_)))) (hM.facts (DatF (tP ts)) (by (repeat (first | with_reducible exact List.mem_cons_self | refine List.mem_cons_of_mem _ ?_))))); clear hF a; rintro v wn a ⟨a3, c3, rfl, hO⟩ hS hF; replace hM := hM.addRows hS hO; clear hS hO; dsimp only [List.cons_append, List.nil_append] at hM; replace hM := hM.freezeN))
    (repeat (first | ((with_reducible apply s_pure hF); exact rfl; exact rfl; exact rfl; (first | exact trivial | omega | exact ⟨Int.natCast_nonneg _, Int.ofNat_lt.2 (by assumption)⟩ | decide); clear hF a; intro a hF)))
    (((with_reducible apply s_callO (f := 52) hF); exact rfl; exact rfl; exact rfl; exact rfl; exact rfl; exact (e4 hM.lt (hM.facts (RdF (Value.int .u8) ad ds) (by (repeat (first | with_reducible exact List.mem_cons_self | refine List.mem_cons_of_mem _ ?_)))) (hM.facts (RdF id al (cellsT ts)) (by (repeat (first | with_reducible exact List.mem_cons_self | refine List.mem_cons_of_mem _ ?_)))) (hM.facts (DatF (tP ts)) (by (repeat (first | with_reducible exact List.mem_cons_self | refine List.mem_cons_of_mem _ ?_))))); clear hF a; rintro v wn a ⟨a4, c4, rfl, hO⟩ hS hF; replace hM := hM.addRows hS hO; clear hS hO; dsimp only [List.cons_append, List.nil_append] at hM; replace hM := hM.freezeN))
    (repeat (first | fail))
    (((with_reducible apply s_call (f := 50) hF hM); exact rfl; exact rfl; exact rfl; exact rfl; exact rfl; exact (e5 a3 a4 c3 c4 hM.lt (hM.facts (RdF (Value.int .u8) a3 P) (by (repeat (first | with_reducible exact List.mem_cons_self | refine List.mem_cons_of_mem _ ?_)))) (hM.facts (RdF (Value.int .u8) a4 P) (by (repeat (first | with_reducible exact List.mem_cons_self | refine List.mem_cons_of_mem _ ?_))))); clear hF hM a; rintro v w a rfl - hM hF))
    (repeat (first | ((with_reducible apply s_call (f := 17) hF hM); exact rfl; exact rfl; exact rfl; exact rfl; exact rfl; exact (e6 hM.lt); clear hF hM a; rintro v w a rfl - hM hF) | ((with_reducible apply s_pure hF); exact rfl; exact rfl; exact rfl; (first | exact trivial | omega | exact ⟨Int.natCast_nonneg _, Int.ofNat_lt.2 (by assumption)⟩ | decide); clear hF a; intro a hF)))
    (((with_reducible apply s_call (f := 50) hF hM); exact rfl; exact rfl; exact rfl; exact rfl; exact rfl; exact (e7 hM.lt); clear hF hM a; rintro v w a rfl - hM hF))
    (repeat' (first | (with_reducible refine s_nil ?_) | ((with_reducible apply s_call (f := 13) hF hM); exact rfl; exact rfl; exact rfl; exact rfl; exact rfl; exact (awake_c _ _ hM.lt); clear hF hM a; rintro v w a rfl - hM hF) | (with_reducible refine q_then_n ?_) | ((with_reducible apply s_pure hF); exact rfl; exact rfl; exact rfl; (first | exact trivial | omega | exact ⟨Int.natCast_nonneg _, Int.ofNat_lt.2 (by assumption)⟩ | decide); clear hF a; intro a hF) | (with_reducible refine w_ret ?_) | ((fail_if_success ((with_reducible refine g_known true hF ?_ ?_); focus exact rfl)); (fail_if_success ((with_reducible refine g_known false hF ?_ ?_); focus exact rfl)); (with_reducible apply g_dec hF); exact rfl; exact rfl; all_goals (clear hF; intro hc hF); all_goals (try (exfalso; omega)))))
    (apply f_ret Try.results10 hF hM; (repeat (first | exact RL.nil | (apply RL.tmp; exact rfl) | (apply RL.cell; exact rfl; (repeat (first | exact List.mem_cons_self | refine List.mem_cons_of_mem _ ?_)); exact rfl))); refine Ret.mk hM.since ?_; dsimp only [resV])
  | ok pr =>
    obtain ⟨l, ys⟩ := pr
    rw [hr] at e1 e2
    have hlx := tokens_x hr
    obtain ⟨hln, hyn⟩ := tokens_num hsb hr
    have hyb : ∀ y ∈ ys, 0 ≤ y ∧ y < 256 := fun y hy => hsb y (by rw [tokens_can hsb hr]; exact List.mem_append_right _ hy)
    have e7 := fun {own W} a1 a2 c1 c2 hl hv1 hv2 => eqBy_c ys ys hyb hyb a1 a2 ys.length ys.length c1 c2 rfl rfl own W hl hv1 hv2
    rw [decide_eq_true rfl] at e7
    (repeat' (first | (with_reducible refine w_seq ?_) | (with_reducible refine c_region ?_) | (with_reducible refine s_nil ?_) | (with_reducible refine q_then_n ?_) | ((with_reducible apply s_pure hF); exact rfl; exact rfl; exact rfl; (first | exact trivial | omega | exact ⟨Int.natCast_nonneg _, Int.ofNat_lt.2 (by assumption)⟩ | decide); clear hF a; intro a hF) | (with_reducible refine w_skip ?_) | ((with_reducible apply c_dec hF); exact rfl; all_goals intro hc; all_goals (try (exfalso; omega)))))
    (((with_reducible apply s_call (f := 48) hF hM); exact rfl; exact rfl; exact rfl; exact rfl; exact rfl; exact (e1 hM.lt (hM.facts (RdF (Value.int .u8) as_ src) (by (repeat (first | with_reducible exact List.mem_cons_self | refine List.mem_cons_of_mem _ ?_))))); clear hF hM a; rintro v w a ⟨x1, y1, x2, y2, rfl, ⟨us, u1, u2, u3, u4, u5⟩, u6, u7⟩ - hM hF; replace hM := ((hM.addFact u3).addFact u4).addFact u6; clear u3 u4 u6))
    (repeat (first | (with_reducible refine w_seq ?_) | (with_reducible refine c_region ?_) | (with_reducible refine s_nil ?_) | (with_reducible refine q_then_n ?_) | ((with_reducible apply s_pure hF); exact rfl; exact rfl; exact rfl; (first | exact trivial | omega | exact ⟨Int.natCast_nonneg _, Int.ofNat_lt.2 (by assumption)⟩ | decide); clear hF a; intro a hF)))
    (((with_reducible apply s_call (f := 49) hF hM); exact rfl; exact rfl; exact rfl; exact rfl; exact rfl; exact (e2 hM.lt (hM.facts (RdF (Value.int .u8) as_ src) (by (repeat (first | with_reducible exact List.mem_cons_self | refine List.mem_cons_of_mem _ ?_))))); clear hF hM a; rintro v w a ⟨x3, y3, x4, y4, rfl, ⟨vs, v1, v2, v3, v4, v5⟩, v6, v7⟩ - hM hF; replace hM := ((hM.addFact v3).addFact v4).addFact v6; clear v3 v4 v6))
    (repeat (first | (with_reducible refine w_seq ?_) | (with_reducible refine c_region ?_) | (with_reducible refine s_nil ?_) | (with_reducible refine q_then_n ?_) | ((with_reducible apply s_pure hF); exact rfl; exact rfl; exact rfl; (first | exact trivial | omega | exact ⟨Int.natCast_nonneg _, Int.ofNat_lt.2 (by assumption)⟩ | decide); clear hF a; intro a hF)))
    (((with_reducible apply s_callO (f := 51) hF); exact rfl; exact rfl; exact rfl; exact rfl; exact rfl; exact (e3 hM.lt (hM.facts (RdF (Value.int .u8) ad ds) (by (repeat (first | with_reducible exact List.mem_cons_self | refine List.mem_cons_of_mem _ ?_)))) (hM.facts (RdF id al (cellsT ts)) (by (repeat (first | with_reducible exact List.mem_cons_self | refine List.mem_cons_of_mem _ ?_)))) (hM.facts (DatF (tP ts)) (by (repeat (first | with_reducible exact List.mem_cons_self | refine List.mem_cons_of_mem _ ?_))))); clear hF a; rintro v wn a ⟨a3, c3, rfl, hO⟩ hS hF; replace hM := hM.addRows hS hO; clear hS hO; dsimp only [List.cons_append, List.nil_append] at hM; replace hM := hM.freezeN))
    (repeat (first | ((with_reducible apply s_pure hF); exact rfl; exact rfl; exact rfl; (first | exact trivial | omega | exact ⟨Int.natCast_nonneg _, Int.ofNat_lt.2 (by assumption)⟩ | decide); clear hF a; intro a hF)))
    (((with_reducible apply s_callO (f := 52) hF); exact rfl; exact rfl; exact rfl; exact rfl; exact rfl; exact (e4 hM.lt (hM.facts (RdF (Value.int .u8) ad ds) (by (repeat (first | with_reducible exact List.mem_cons_self | refine List.mem_cons_of_mem _ ?_)))) (hM.facts (RdF id al (cellsT ts)) (by (repeat (first | with_reducible exact List.mem_cons_self | refine List.mem_cons_of_mem _ ?_)))) (hM.facts (DatF (tP ts)) (by (repeat (first | with_reducible exact List.mem_cons_self | refine List.mem_cons_of_mem _ ?_))))); clear hF a; rintro v wn a ⟨a4, c4, rfl, hO⟩ hS hF; replace hM := hM.addRows hS hO; clear hS hO; dsimp only [List.cons_append, List.nil_append] at hM; replace hM := hM.freezeN))
    (repeat (first | fail))
    (((with_reducible apply s_call (f := 50) hF hM); exact rfl; exact rfl; exact rfl; exact rfl; exact rfl; exact (e5 a3 a4 c3 c4 hM.lt (hM.facts (RdF (Value.int .u8) a3 P) (by (repeat (first | with_reducible exact List.mem_cons_self | refine List.mem_cons_of_mem _ ?_)))) (hM.facts (RdF (Value.int .u8) a4 P) (by (repeat (first | with_reducible exact List.mem_cons_self | refine List.mem_cons_of_mem _ ?_))))); clear hF hM a; rintro v w a rfl - hM hF))
    have e6 := fun {own W} hl h1 h2 h3 h4 => SameTokens_c us vs u2 v2 (toks_ps hlx u1) x1 x3 l.length l.length y1 y3 (by rw [← tms_len, u1]) (by rw [← tms_len, v1]) (by omega) own W hl h1 h2 h3 h4
    rw [decide_eq_true (by rw [u1, v1])] at e6
    (repeat (first | ((with_reducible apply s_call (f := 17) hF hM); exact rfl; exact rfl; exact rfl; exact rfl; exact rfl; exact (e6 hM.lt (hM.facts (RdF id x1 (cellsT us)) (by (repeat (first | with_reducible exact List.mem_cons_self | refine List.mem_cons_of_mem _ ?_)))) (hM.facts (DatF (tP us)) (by (repeat (first | with_reducible exact List.mem_cons_self | refine List.mem_cons_of_mem _ ?_)))) (hM.facts (RdF id x3 (cellsT vs)) (by (repeat (first | with_reducible exact List.mem_cons_self | refine List.mem_cons_of_mem _ ?_)))) (hM.facts (DatF (tP vs)) (by (repeat (first | with_reducible exact List.mem_cons_self | refine List.mem_cons_of_mem _ ?_))))); clear hF hM a; rintro v w a rfl - hM hF) | ((with_reducible apply s_pure hF); exact rfl; exact rfl; exact rfl; (first | exact trivial | omega | exact ⟨Int.natCast_nonneg _, Int.ofNat_lt.2 (by assumption)⟩ | decide); clear hF a; intro a hF)))
    (((with_reducible apply s_call (f := 50) hF hM); exact rfl; exact rfl; exact rfl; exact rfl; exact rfl; exact (e7 x2 x4 y2 y4 hM.lt (hM.facts (RdF (Value.int .u8) x2 ys) (by (repeat (first | with_reducible exact List.mem_cons_self | refine List.mem_cons_of_mem _ ?_)))) (hM.facts (RdF (Value.int .u8) x4 ys) (by (repeat (first | with_reducible exact List.mem_cons_self | refine List.mem_cons_of_mem _ ?_))))); clear hF hM a; rintro v w a rfl - hM hF))
    (repeat' (first | (with_reducible refine s_nil ?_) | ((with_reducible apply s_call (f := 13) hF hM); exact rfl; exact rfl; exact rfl; exact rfl; exact rfl; exact (awake_c _ _ hM.lt); clear hF hM a; rintro v w a rfl - hM hF) | (with_reducible refine q_then_n ?_) | ((with_reducible apply s_pure hF); exact rfl; exact rfl; exact rfl; (first | exact trivial | omega | exact ⟨Int.natCast_nonneg _, Int.ofNat_lt.2 (by assumption)⟩ | decide); clear hF a; intro a hF) | (with_reducible refine w_ret ?_)))
    (apply f_ret Try.results10 hF hM; (repeat (first | exact RL.nil | (apply RL.tmp; exact rfl) | (apply RL.cell; exact rfl; (repeat (first | exact List.mem_cons_self | refine List.mem_cons_of_mem _ ?_)); exact rfl))); refine Ret.mk hM.since ?_; dsimp only [resV])
end
end Go.Proofs.Ytonelgecjmpbgaa


/- Layer 29: correct tokens are read as they were put (Back). -/
namespace Go.Proofs.Ytonelgecjmpbgaa
open Go.RowKit Go.Shelf D29
namespace D29
theorem putToks_len40 {l : List Tok} (h : ∀ t ∈ l, W8 t.x ∧ t.x.length ≤ 40) (hl : l.length ≤ 10000) : (putToks l).length ≤ 8 + l.length * 329 := by
  have key : ∀ l : List Tok, (∀ t ∈ l, W8 t.x ∧ t.x.length ≤ 40) → ((l.map putTok).flatten).length ≤ l.length * 329 := by
    intro l
    induction l with
    | nil => intro _; simp
    | cons t r ih =>
      intro h
      obtain ⟨h8, hx⟩ := h t List.mem_cons_self
      have h1 : (putTok t).length ≤ 329 := by
        have hp0 : (puts t.x.length).length ≤ 8 := puts_len 7 t.x.length (by omega)
        have hfl := flat_len h8
        unfold putTok
        split
        · rw [List.length_cons, le_len]; omega
        · rw [List.length_cons, List.length_append]; omega
      have h2 := ih fun s hs => h s (List.mem_cons_of_mem _ hs)
      rw [List.map_cons, List.flatten_cons, List.length_append, List.length_cons]
      omega
  have hp0 : (puts l.length).length ≤ 8 := puts_len 7 l.length (by omega)
  unfold putToks
  rw [List.length_append]
  have := key l h
  omega
end D29
theorem back1_c (t : TP) (own : Nat → Prop) (W : World) (hl : ∀ b, own b → b < W.heap.size) : Calls Try.prog 53 ⟨.agg ⟨tkC t⟩ :: []⟩ W (Ret W fun v _ => v = .bool (!corT t.1)) := by
  have hM := Mm.start hl
  obtain ⟨⟨r, d, x⟩, ax, cx⟩ := t
  refine f_start Try.func53 rfl Try.ntmps53 rfl rfl ?_; intro a hF
  unfold tkC at *
  (repeat (first | (with_reducible refine w_seq ?_) | (with_reducible refine c_region ?_) | (with_reducible refine s_nil ?_) | ((with_reducible apply s_call (f := 54) hF hM); exact rfl; exact rfl; exact rfl; exact rfl; exact rfl; exact (CorrectR1_c r d x ax cx _ rfl _ _ hM.lt); clear hF hM a; rintro v w a rfl - hM hF) | (with_reducible refine q_then_n ?_) | ((with_reducible apply s_pure hF); exact rfl; exact rfl; exact rfl; (first | exact trivial | omega | exact ⟨Int.natCast_nonneg _, Int.ofNat_lt.2 (by assumption)⟩ | decide); clear hF a; intro a hF) | ((with_reducible apply s_load hF hM); exact rfl; exact rfl; (repeat (first | exact List.mem_cons_self | refine List.mem_cons_of_mem _ ?_)); exact rfl; exact rfl; clear hF a; intro a hF) | ((with_reducible apply s_box hF hM); exact rfl; exact rfl; exact rfl; exact rfl; clear hF hM a; intro b w a hM hF) | (with_reducible refine w_ret ?_)))
  (apply f_ret Try.results53 hF hM; (repeat (first | exact RL.nil | (apply RL.tmp; exact rfl) | (apply RL.cell; exact rfl; (repeat (first | exact List.mem_cons_self | refine List.mem_cons_of_mem _ ?_)); exact rfl))); refine Ret.mk hM.since ?_; dsimp only [resV])
section
variable (W : World) (ts : List TP) (hts : DatW (tP ts)) (hdg : DgW (tP ts)) (al : Option Addr) (cl : Nat) (h1 : Has (fun _ => False) W (RdF id al (cellsT ts))) (h2 : Has (fun _ => False) W (DatF (tP ts)))
include hts h1 h2
set_option maxRecDepth 20000 in
set_option maxHeartbeats 4000000 in
include hdg in
theorem back29_c (rest : List Int) (hrb : ∀ x ∈ rest, 0 ≤ x ∧ x < 256) (ar : Option Addr) (cr : Nat) (hcr : rest.length ≤ cr) (hv : Has (fun _ => False) W (RdF (Value.int .u8) ar rest)) :
    Calls Try.prog 11 ⟨[.slice al ts.length cl, .slice ar rest.length cr]⟩ W (Ret W fun v _ => v = .bool true) := by
  have hM := (((Mm.start (own := fun _ => False) (w := W) (fun _ h => h.elim)).known h2).known h1).known hv
  have e0 := fun {own W} hl => FewTokens_c ts al ts.length cl rfl own W hl
  refine f_start Try.func11 rfl Try.ntmps11 rfl rfl ?_; intro a hF
  (repeat (first | (with_reducible refine w_seq ?_) | (with_reducible refine c_region ?_) | (with_reducible refine s_nil ?_) | (with_reducible refine q_then_n ?_) | ((with_reducible apply s_pure hF); exact rfl; exact rfl; exact rfl; (first | exact trivial | omega | exact ⟨Int.natCast_nonneg _, Int.ofNat_lt.2 (by assumption)⟩ | decide); clear hF a; intro a hF)))
  (((with_reducible apply s_call (f := 18) hF hM); exact rfl; exact rfl; exact rfl; exact rfl; exact rfl; exact (e0 hM.lt (hM.facts (RdF id al (cellsT ts)) (by (repeat (first | with_reducible exact List.mem_cons_self | refine List.mem_cons_of_mem _ ?_))))); clear hF hM a; rintro v w a ⟨f, rfl, hf⟩ - hM hF))
  cases f with
  | false =>
    (repeat' (first | (with_reducible refine w_seq ?_) | (with_reducible refine c_region ?_) | (with_reducible refine s_nil ?_) | ((with_reducible apply s_call (f := 13) hF hM); exact rfl; exact rfl; exact rfl; exact rfl; exact rfl; exact (awake_c _ _ hM.lt); clear hF hM a; rintro v w a rfl - hM hF) | (with_reducible refine q_then_n ?_) | ((with_reducible apply s_pure hF); exact rfl; exact rfl; exact rfl; (first | exact trivial | omega | exact ⟨Int.natCast_nonneg _, Int.ofNat_lt.2 (by assumption)⟩ | decide); clear hF a; intro a hF) | (with_reducible refine w_ret ?_) | (with_reducible refine q_then_r ?_) | ((with_reducible apply c_true2 hF); exact rfl; (first | with_reducible rfl | (refine congrArg Value.bool ?_; focus (simp; done)))) | ((with_reducible apply s_skip hF); exact rfl; exact rfl; clear hF a; intro a hF)))
    (apply f_ret Try.results11 hF hM; (repeat (first | exact RL.nil | (apply RL.tmp; exact rfl) | (apply RL.cell; exact rfl; (repeat (first | exact List.mem_cons_self | refine List.mem_cons_of_mem _ ?_)); exact rfl))); refine Ret.mk hM.since ?_; dsimp only [resV])
  | true =>
  obtain ⟨hl60, hy40⟩ := hf rfl
  by_cases hs : 300 < rest.length
  · (repeat' (first | (with_reducible refine w_seq ?_) | (with_reducible refine c_region ?_) | (with_reducible refine s_nil ?_) | ((with_reducible apply s_call (f := 13) hF hM); exact rfl; exact rfl; exact rfl; exact rfl; exact rfl; exact (awake_c _ _ hM.lt); clear hF hM a; rintro v w a rfl - hM hF) | (with_reducible refine q_then_n ?_) | ((with_reducible apply s_pure hF); exact rfl; exact rfl; exact rfl; (first | exact trivial | omega | exact ⟨Int.natCast_nonneg _, Int.ofNat_lt.2 (by assumption)⟩ | decide); clear hF a; intro a hF) | (with_reducible refine w_ret ?_) | (with_reducible refine q_then_r ?_) | ((with_reducible apply c_dec hF); exact rfl; all_goals intro hc; all_goals (try (exfalso; omega)))))
    (apply f_ret Try.results11 hF hM; (repeat (first | exact RL.nil | (apply RL.tmp; exact rfl) | (apply RL.cell; exact rfl; (repeat (first | exact List.mem_cons_self | refine List.mem_cons_of_mem _ ?_)); exact rfl))); refine Ret.mk hM.since ?_; dsimp only [resV])
  have hx4 : ∀ t ∈ ts, t.1.x.length ≤ 4096 := fun t ht => Nat.le_trans (hy40 t ht) (by omega)
  have hpl := putToks_len40 (l := tms ts) (fun t ht => by
    obtain ⟨q, hq, rfl⟩ := List.mem_map.1 ht
    exact ⟨(tms_w hts hx4 q.1 (List.mem_map.2 ⟨q, hq, rfl⟩)).1, hy40 q hq⟩) (by rw [tms_len]; omega)
  rw [tms_len] at hpl
  have e2 := fun {own W} hl => conT_c 53 [] (fun t => !corT t) (fun _ => True) rfl ts ts.length rfl (by omega) (fun t _ own W hl _ => back1_c t own W hl) al cl own W hl (Has.pure fun _ => trivial)
  obtain ⟨f2, hany⟩ : ∃ f2, ((tms ts).any fun t => !corT t) = f2 := ⟨_, rfl⟩
  rw [hany] at e2
  (repeat (first | (with_reducible refine s_nil ?_) | (with_reducible refine q_then_n ?_) | ((with_reducible apply s_pure hF); exact rfl; exact rfl; exact rfl; (first | exact trivial | omega | exact ⟨Int.natCast_nonneg _, Int.ofNat_lt.2 (by assumption)⟩ | decide); clear hF a; intro a hF)))
  rw [decide_eq_false (show ¬ (300 : Int) < rest.length by omega)] at hF
  (repeat (first | (with_reducible refine w_seq ?_) | (with_reducible refine c_region ?_) | (with_reducible refine s_nil ?_) | ((with_reducible apply s_call (f := 37) hF hM); exact rfl; exact rfl; exact rfl; exact rfl; exact rfl; exact (e2 hM.lt (hM.facts (RdF id al (cellsT ts)) (by (repeat (first | with_reducible exact List.mem_cons_self | refine List.mem_cons_of_mem _ ?_))))); clear hF hM a; rintro v w a rfl - hM hF) | (with_reducible refine q_then_n ?_) | ((with_reducible apply s_pure hF); exact rfl; exact rfl; exact rfl; (first | exact trivial | omega | exact ⟨Int.natCast_nonneg _, Int.ofNat_lt.2 (by assumption)⟩ | decide); clear hF a; intro a hF) | (with_reducible refine w_skip ?_) | ((with_reducible apply c_false2 hF); exact rfl; (first | with_reducible rfl | (refine congrArg Value.bool ?_; focus (simp; done))))))
  refine c_cut (fun a' w2 => Fr 72 [] [(0, .slice al ts.length cl), (1, .slice ar rest.length cr)] a' ∧ Mm (fun _ => False) W [] [] [RdF (Value.int .u8) ar rest] w2) ?_ ?_
  · cases f2 with
    | true =>
      (repeat' (first | (with_reducible refine w_skip ?_) | ((with_reducible apply c_false2 hF); exact rfl; (first | with_reducible rfl | (refine congrArg Value.bool ?_; focus (simp; done))))))
      exact q_cut ⟨hF.sub (by repeat (first | exact Sub.nil | refine Sub.cons rfl (by first | with_reducible rfl | (refine congrArg (Value.int _) ?_; omega) | exact rfl) ?_)), hM.sub (.refl _) (.refl _) (by intro f hf; simp only [List.mem_cons, List.not_mem_nil, or_false] at hf; (repeat (rcases hf with rfl | hf; · (repeat (first | exact List.mem_cons_self | refine List.mem_cons_of_mem _ ?_)))); first | (subst hf; (repeat (first | exact List.mem_cons_self | refine List.mem_cons_of_mem _ ?_)); done) | (repeat (first | exact hf | refine List.mem_cons_of_mem _ ?_)))⟩
    | false =>
      have hcor : ∀ t ∈ tms ts, TokW t ∧ corT t = true := fun t ht => by
        have h := List.any_eq_false.1 hany t ht
        obtain ⟨q, hq, rfl⟩ := List.mem_map.1 ht
        have hq2 : ((⟨q.1.d, q.1.x⟩ : Itm), q.2) ∈ tP ts := List.mem_map.2 ⟨q, hq, rfl⟩
        exact ⟨⟨(hts _ hq2).1, hdg _ hq2⟩, by simpa using h⟩
      have hrd := tokens_put hcor (by rw [tms_len]; omega) rest
      have e3 := fun {own W} hl h1 h2 => PutTokens_c ts hts hx4 (by omega) [] (by simp) none al 0 0 ts.length cl rfl rfl own W hl RdF.nil h1 h2
      rw [List.nil_append] at e3
      have hpb := putToks_by (datw_by hts)
      generalize putToks (tms ts) = P at *
      obtain ⟨pl, hpq⟩ : ∃ q, 0 + P.length = q := ⟨_, rfl⟩
      rw [hpq] at e3
      have hab : ∀ x ∈ P ++ rest, 0 ≤ x ∧ x < 256 := fun x hx => by
        rcases List.mem_append.1 hx with hx | hx
        · exact hpb x hx
        · exact hrb x hx
      have hal : (P ++ rest).length = pl + rest.length := by rw [List.length_append]; omega
      have e4 := fun {own W} a0 c0 hc hl hv => Tokens_c (P ++ rest) hab (by omega) a0 c0 hc own W hl hv
      rw [hal, hrd] at e4
      have e5 := fun {own W} a2 c1 hl hv1 hv2 => eqBy_c rest rest hrb hrb a2 ar rest.length rest.length c1 cr rfl rfl own W hl hv1 hv2
      rw [decide_eq_true rfl] at e5
      (repeat' (first | (with_reducible refine w_seq ?_) | (with_reducible refine c_region ?_) | ((with_reducible apply s_callO (f := 51) hF); exact rfl; exact rfl; exact rfl; exact rfl; exact rfl; exact (e3 hM.lt (hM.facts (RdF id al (cellsT ts)) (by (repeat (first | with_reducible exact List.mem_cons_self | refine List.mem_cons_of_mem _ ?_)))) (hM.facts (DatF (tP ts)) (by (repeat (first | with_reducible exact List.mem_cons_self | refine List.mem_cons_of_mem _ ?_))))); clear hF a; rintro v wn a ⟨a3, c3, rfl, hO⟩ hS hF; replace hM := hM.addRows hS hO; clear hS hO; dsimp only [List.cons_append, List.nil_append] at hM) | ((with_reducible apply s_appF hF hM); exact rfl; exact rfl; (repeat (first | exact List.mem_cons_self | refine List.mem_cons_of_mem _ ?_)); exact rfl; exact rfl; (repeat (first | exact Kth.z | apply Kth.s)); (intro _; exact rfl); exact rfl; omega; clear hF hM a; intro g cap w a hM hF; dsimp only [List.set] at hM) | ((with_reducible apply s_pure hF); exact rfl; exact rfl; exact rfl; (first | exact trivial | omega | exact ⟨Int.natCast_nonneg _, Int.ofNat_lt.2 (by assumption)⟩ | decide); clear hF a; intro a hF) | ((with_reducible apply c_true2 hF); exact rfl; (first | with_reducible rfl | (refine congrArg Value.bool ?_; focus (simp; done))))))
      rw [← List.map_append] at hM
      obtain ⟨xa, ya, ea, ga, -⟩ := OffR.shape hM (k := 0) rfl (OffR.plain hM List.mem_cons_self)
      injection ea with _ _ ea
      replace hM := hM.freezeN
      (((with_reducible apply s_call (f := 48) hF hM); exact rfl; exact rfl; exact rfl; exact rfl; exact rfl; exact (e4 _ _ (by omega) hM.lt (hM.facts (RdF (Value.int .u8) _ (P ++ rest)) (by (repeat (first | with_reducible exact List.mem_cons_self | refine List.mem_cons_of_mem _ ?_))))); clear hF hM a; rintro v w a ⟨x1, y1, x2, y2, rfl, ⟨us, u1, u2, u3, u4, u5⟩, u6, u7⟩ - hM hF; replace hM := ((hM.addFact u3).addFact u4).addFact u6; clear u3 u4 u6))
      have e6 := fun {own W} hl h1 h2 h3 h4 => SameTokens_c us ts u2 hts (toks_ps (fun t ht => by obtain ⟨q, hq, rfl⟩ := List.mem_map.1 ht; exact hx4 q hq) u1) x1 al (tms ts).length ts.length y1 cl (by rw [← tms_len, u1]) rfl (by rw [tms_len]; omega) own W hl h1 h2 h3 h4
      rw [decide_eq_true u1] at e6
      (repeat' (first | (with_reducible refine w_seq ?_) | (with_reducible refine c_region ?_) | (with_reducible refine s_nil ?_) | ((with_reducible apply s_call (f := 17) hF hM); exact rfl; exact rfl; exact rfl; exact rfl; exact rfl; exact (e6 hM.lt (hM.facts (RdF id x1 (cellsT us)) (by (repeat (first | with_reducible exact List.mem_cons_self | refine List.mem_cons_of_mem _ ?_)))) (hM.facts (DatF (tP us)) (by (repeat (first | with_reducible exact List.mem_cons_self | refine List.mem_cons_of_mem _ ?_)))) (hM.facts (RdF id al (cellsT ts)) (by (repeat (first | with_reducible exact List.mem_cons_self | refine List.mem_cons_of_mem _ ?_)))) (hM.facts (DatF (tP ts)) (by (repeat (first | with_reducible exact List.mem_cons_self | refine List.mem_cons_of_mem _ ?_))))); clear hF hM a; rintro v w a rfl - hM hF) | ((with_reducible apply s_call (f := 50) hF hM); exact rfl; exact rfl; exact rfl; exact rfl; exact rfl; exact (e5 x2 y2 hM.lt (hM.facts (RdF (Value.int .u8) x2 rest) (by (repeat (first | with_reducible exact List.mem_cons_self | refine List.mem_cons_of_mem _ ?_)))) (hM.facts (RdF (Value.int .u8) ar rest) (by (repeat (first | with_reducible exact List.mem_cons_self | refine List.mem_cons_of_mem _ ?_))))); clear hF hM a; rintro v w a rfl - hM hF) | (with_reducible refine q_then_n ?_) | ((with_reducible apply s_pure hF); exact rfl; exact rfl; exact rfl; (first | exact trivial | omega | exact ⟨Int.natCast_nonneg _, Int.ofNat_lt.2 (by assumption)⟩ | decide); clear hF a; intro a hF) | (with_reducible refine w_skip ?_) | ((with_reducible apply c_false2 hF); exact rfl; (first | with_reducible rfl | (refine congrArg Value.bool ?_; focus (simp; done))))))
      exact q_cut ⟨hF.sub (by repeat (first | exact Sub.nil | refine Sub.cons rfl (by first | with_reducible rfl | (refine congrArg (Value.int _) ?_; omega) | exact rfl) ?_)), hM.sub (List.nil_sublist _) (.refl _) (by intro f hf; simp only [List.mem_cons, List.not_mem_nil, or_false] at hf; (repeat (rcases hf with rfl | hf; · (repeat (first | exact List.mem_cons_self | refine List.mem_cons_of_mem _ ?_)))); first | (subst hf; (repeat (first | exact List.mem_cons_self | refine List.mem_cons_of_mem _ ?_)); done) | (repeat (first | exact hf | refine List.mem_cons_of_mem _ ?_)))⟩
  clear hF hM a
  rintro a w2 ⟨hF, hM⟩
  have e1 := fun {own W} hl hv => Tokens_c rest hrb (by omega) ar cr hcr own W hl hv
  cases hr : rdTokens rest with
  | error e =>
    rw [hr] at e1
    (repeat' (first | (with_reducible refine w_seq ?_) | (with_reducible refine c_region ?_) | (with_reducible refine s_nil ?_) | ((with_reducible apply s_call (f := 48) hF hM); exact rfl; exact rfl; exact rfl; exact rfl; exact rfl; exact (e1 hM.lt (hM.facts (RdF (Value.int .u8) ar rest) (by (repeat (first | with_reducible exact List.mem_cons_self | refine List.mem_cons_of_mem _ ?_))))); clear hF hM a; rintro v w a ⟨rfl, he⟩ - hM hF) | ((with_reducible apply s_call (f := 13) hF hM); exact rfl; exact rfl; exact rfl; exact rfl; exact rfl; exact (awake_c _ _ hM.lt); clear hF hM a; rintro v w a rfl - hM hF) | (with_reducible refine q_then_n ?_) | ((with_reducible apply s_pure hF); exact rfl; exact rfl; exact rfl; (first | exact trivial | omega | exact ⟨Int.natCast_nonneg _, Int.ofNat_lt.2 (by assumption)⟩ | decide); clear hF a; intro a hF) | (with_reducible refine w_ret ?_) | (with_reducible refine q_then_r ?_) | ((with_reducible apply c_dec hF); exact rfl; all_goals intro hc; all_goals (try (exfalso; omega)))))
    (apply f_ret Try.results11 hF hM; (repeat (first | exact RL.nil | (apply RL.tmp; exact rfl) | (apply RL.cell; exact rfl; (repeat (first | exact List.mem_cons_self | refine List.mem_cons_of_mem _ ?_)); exact rfl))); refine Ret.mk hM.since ?_; dsimp only [resV])
  | ok pr =>
    obtain ⟨l, ys⟩ := pr
    rw [hr] at e1
    have hlx := tokens_x hr
    obtain ⟨hln, hyn⟩ := tokens_num hrb hr
    have hcan := tokens_can hrb hr
    (repeat (first | (with_reducible refine w_seq ?_) | (with_reducible refine c_region ?_) | (with_reducible refine s_nil ?_) | ((with_reducible apply s_call (f := 48) hF hM); exact rfl; exact rfl; exact rfl; exact rfl; exact rfl; exact (e1 hM.lt (hM.facts (RdF (Value.int .u8) ar rest) (by (repeat (first | with_reducible exact List.mem_cons_self | refine List.mem_cons_of_mem _ ?_))))); clear hF hM a; rintro v w a ⟨x1, y1, x2, y2, rfl, ⟨us, u1, u2, u3, u4, u5⟩, u6, u7⟩ - hM hF; replace hM := ((hM.addFact u3).addFact u4).addFact u6; clear u3 u4 u6) | (with_reducible refine q_then_n ?_) | ((with_reducible apply s_pure hF); exact rfl; exact rfl; exact rfl; (first | exact trivial | omega | exact ⟨Int.natCast_nonneg _, Int.ofNat_lt.2 (by assumption)⟩ | decide); clear hF a; intro a hF) | (with_reducible refine w_skip ?_) | ((with_reducible apply c_false2 hF); exact rfl; (first | with_reducible rfl | (refine congrArg Value.bool ?_; focus (simp; done))))))
    have hul : us.length = l.length := by rw [← tms_len, u1]
    have hux : ∀ t ∈ us, t.1.x.length ≤ 4096 := fun t ht => hlx t.1 (by rw [← u1]; exact List.mem_map.2 ⟨t, ht, rfl⟩)
    have e3 := fun {own W} hl h1 h2 => PutTokens_c us u2 hux (by omega) [] (by simp) none x1 0 0 us.length y1 rfl rfl own W hl RdF.nil h1 h2
    rw [List.nil_append, u1, hul] at e3
    generalize putToks l = P at *
    obtain ⟨pl, hpq⟩ : ∃ q, 0 + P.length = q := ⟨_, rfl⟩
    rw [hpq] at e3
    have hal : (P ++ ys).length = pl + ys.length := by rw [List.length_append]; omega
    have hbd : pl + ys.length = rest.length := by rw [← hal, ← hcan]
    have e5 := fun {own W} a2 c1 hl hv1 hv2 => eqBy_c (P ++ ys) rest (by rw [← hcan]; exact hrb) hrb a2 ar (pl + ys.length) rest.length c1 cr hal rfl own W hl hv1 hv2
    rw [decide_eq_true hcan.symm] at e5
    (repeat' (first | ((with_reducible apply s_callO (f := 51) hF); exact rfl; exact rfl; exact rfl; exact rfl; exact rfl; exact (e3 hM.lt (hM.facts (RdF id x1 (cellsT us)) (by (repeat (first | with_reducible exact List.mem_cons_self | refine List.mem_cons_of_mem _ ?_)))) (hM.facts (DatF (tP us)) (by (repeat (first | with_reducible exact List.mem_cons_self | refine List.mem_cons_of_mem _ ?_))))); clear hF a; rintro v wn a ⟨a3, c3, rfl, hO⟩ hS hF; replace hM := hM.addRows hS hO; clear hS hO; dsimp only [List.cons_append, List.nil_append] at hM) | ((with_reducible apply s_appF hF hM); exact rfl; exact rfl; (repeat (first | exact List.mem_cons_self | refine List.mem_cons_of_mem _ ?_)); exact rfl; exact rfl; (repeat (first | exact Kth.z | apply Kth.s)); (intro _; exact rfl); exact rfl; omega; clear hF hM a; intro g cap w a hM hF; dsimp only [List.set] at hM) | ((with_reducible apply s_pure hF); exact rfl; exact rfl; exact rfl; (first | exact trivial | omega | exact ⟨Int.natCast_nonneg _, Int.ofNat_lt.2 (by assumption)⟩ | decide); clear hF a; intro a hF)))
    rw [← List.map_append] at hM
    replace hM := hM.freezeN
    (repeat' (first | (with_reducible refine s_nil ?_) | ((with_reducible apply s_call (f := 50) hF hM); exact rfl; exact rfl; exact rfl; exact rfl; exact rfl; exact (e5 _ _ hM.lt (hM.facts (RdF (Value.int .u8) _ (P ++ ys)) (by (repeat (first | with_reducible exact List.mem_cons_self | refine List.mem_cons_of_mem _ ?_)))) (hM.facts (RdF (Value.int .u8) ar rest) (by (repeat (first | with_reducible exact List.mem_cons_self | refine List.mem_cons_of_mem _ ?_))))); clear hF hM a; rintro v w a rfl - hM hF) | ((with_reducible apply s_call (f := 13) hF hM); exact rfl; exact rfl; exact rfl; exact rfl; exact rfl; exact (awake_c _ _ hM.lt); clear hF hM a; rintro v w a rfl - hM hF) | (with_reducible refine q_then_n ?_) | ((with_reducible apply s_pure hF); exact rfl; exact rfl; exact rfl; (first | exact trivial | omega | exact ⟨Int.natCast_nonneg _, Int.ofNat_lt.2 (by assumption)⟩ | decide); clear hF a; intro a hF) | (with_reducible refine w_ret ?_)))
    (apply f_ret Try.results11 hF hM; (repeat (first | exact RL.nil | (apply RL.tmp; exact rfl) | (apply RL.cell; exact rfl; (repeat (first | exact List.mem_cons_self | refine List.mem_cons_of_mem _ ?_)); exact rfl))); refine Ret.mk hM.since ?_; dsimp only [resV])
end
end Go.Proofs.Ytonelgecjmpbgaa

