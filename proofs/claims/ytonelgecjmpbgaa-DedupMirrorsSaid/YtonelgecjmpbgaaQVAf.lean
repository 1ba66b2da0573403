/- Texts of this seat, one behind the other: S3 S4 S5. -/
import Derived.Test.YtonelgecjmpbgaaQVAe
set_option linter.unusedSimpArgs false
set_option linter.unusedVariables false
set_option linter.unusedSectionVars false
set_option maxRecDepth 3000
/- Layer 29: bounds of what is answered; the laws of Encode and Decode. -/
namespace Go.Proofs.Ytonelgecjmpbgaa
open Go.RowKit Go.Shelf D29
namespace D29
theorem enc_toks {cap : Int} : ∀ {xs : List Dat} {l : List Itm} {t : Tok}, t ∈ (encI cap xs l).2 → t.x = [] ∨ t.x ∈ xs
  | [], _, _, h => by simp [encI] at h
  | x :: r, l, t, h => by
    rw [encI] at h
    rcases List.mem_cons.1 h with rfl | h
    · unfold tokI
      split
      · exact .inl rfl
      · exact .inr List.mem_cons_self
    · rcases enc_toks h with h | h
      · exact .inl h
      · exact .inr (List.mem_cons_of_mem _ h)
theorem ch_len {x : Dat} (h : isCh x = true) : x.length ≤ 4096 := by
  unfold isCh at h
  rw [decide_eq_true_eq] at h
  exact h.2
theorem enc_bd {c : St} {l : Dat} {chunk : Int} {r : List Itm × List Tok} (h : encR c l chunk = .ok r) : SOk ⟨c.cap, r.1⟩ ∧ (∀ t ∈ r.2, t.x.length ≤ 4096) ∧ r.2.length ≤ l.length + 4096 := by
  unfold encR at h
  split at h
  · cases h
  · rename_i hc
    split at h
    · cases h
    · rename_i hk
      injection h with h
      subst h
      have h1 : SOk c := check_ok.1 (by simpa using hc)
      have hch := parts_ch (n := chunk.toNat) (l := l) (by omega) (by omega)
      refine ⟨enc_sok hch h1, ?_, ?_⟩
      · intro t ht
        rcases enc_toks ht with h | h
        · rw [h]; simp
        · exact ch_len (hch _ h)
      · rw [encI_len, parts_num]
        have := Nat.div_le_self (l.length + chunk.toNat - 1) chunk.toNat
        omega
theorem dec_bdI {cap : Int} : ∀ {ts : List Tok} {l : List Itm} {o : Dat} {r : List Itm × Dat}, decI cap ts l o = .ok r → SOk ⟨cap, l⟩ → SOk ⟨cap, r.1⟩ ∧ r.2.length ≤ o.length + ts.length * 4096
  | [], l, o, r, h, hs => by
    injection h with h
    subst h
    exact ⟨hs, by simp⟩
  | t :: ts, l, o, r, h, hs => by
    rw [decI_cons] at h
    cases hc : corT t with
    | false => rw [hc] at h; cases h
    | true =>
      rw [hc] at h
      simp only [Bool.not_true, Bool.false_eq_true, if_false] at h
      have key : ∀ x, isCh x = true → decI cap ts (addI cap l x) (o ++ x) = .ok r → SOk ⟨cap, r.1⟩ ∧ r.2.length ≤ o.length + (t :: ts).length * 4096 := fun x hx h => by
        obtain ⟨k1, k2⟩ := dec_bdI h (hs.add hx)
        refine ⟨k1, ?_⟩
        have := ch_len hx
        rw [List.length_append] at k2
        rw [List.length_cons, Nat.succ_mul]
        omega
      cases hr : t.r with
      | true =>
        rw [hr] at h
        simp only [if_true] at h
        cases hf : findI l t.d with
        | none => rw [hf] at h; cases h
        | some x =>
          rw [hf] at h
          obtain ⟨i, hi, _, e⟩ := findI_some hf
          exact key x (by rw [← e]; exact hs.its.ch i hi) h
      | false =>
        rw [hr] at h
        simp only [Bool.false_eq_true, if_false] at h
        refine key t.x ?_ h
        unfold corT at hc
        rw [hr] at hc
        simp only [Bool.false_eq_true, if_false, Bool.and_eq_true] at hc
        exact hc.2
theorem dec_bd {c : St} {l : List Tok} {r : List Itm × Dat} (h : decR c l = .ok r) : SOk ⟨c.cap, r.1⟩ ∧ r.2.length ≤ l.length * 4096 := by
  unfold decR at h
  split at h
  · cases h
  · rename_i hc
    obtain ⟨k1, k2⟩ := dec_bdI h (check_ok.1 (by simpa using hc))
    exact ⟨k1, by simpa using k2⟩
theorem sok_ps {cap : Int} {l : List Itm} {qs : List P} (h : SOk ⟨cap, l⟩) (hq : ims qs = l) : ∀ p ∈ qs, p.1.x.length ≤ 100000 := fun p hp => Nat.le_trans (ch_len (h.its.ch p.1 (by rw [show (⟨cap, l⟩ : St).items = l from rfl, ← hq]; exact List.mem_map.2 ⟨p, hp, rfl⟩))) (by omega)
theorem sok_len {cap : Int} {l : List Itm} (h : SOk ⟨cap, l⟩) : l.length ≤ 4096 := by
  have h1 := h.cap
  have h2 := h.len
  dsimp only at h1 h2
  omega
theorem toks_ps {l : List Tok} {us : List TP} (h : ∀ t ∈ l, t.x.length ≤ 4096) (hq : tms us = l) : ∀ p ∈ us, p.1.x.length ≤ 100000 := fun p hp => Nat.le_trans (h p.1 (by rw [← hq]; exact List.mem_map.2 ⟨p, hp, rfl⟩)) (by omega)
end D29
section
variable (cp : Int) (ps : List P) (a0 : Option Addr) (c0 : Nat) (hc0 : ps.length ≤ c0) (hDW : DatW ps) (W : World) (h1 : Has (fun _ => False) W (RdF id a0 (cellsP ps))) (h2 : Has (fun _ => False) W (DatF ps))
include hc0 hDW h1 h2
set_option maxRecDepth 20000 in
set_option maxHeartbeats 4000000 in
theorem encodes29_c (l : Dat) (hl8 : W8 l) (hlb : By8 l) (al : Option Addr) (cl : Nat) (hcl : l.length ≤ cl) (hx : Has (fun _ => False) W (RdF (Value.int .u8) al l.flatten)) (chunk : Int) :
    Calls Try.prog 3 ⟨[.agg #[.int .i64 cp, .slice a0 ps.length c0], .slice al l.length cl, .int .i64 chunk]⟩ W (Ret W fun v _ => v = .bool true) := by
  have hM := (((Mm.start (own := fun _ => False) (w := W) (fun _ h => h.elim)).known hx).known h2).known h1
  refine f_start Try.func3 rfl Try.ntmps3 rfl rfl ?_; intro a hF
  (repeat (first | (with_reducible refine w_seq ?_) | (with_reducible refine c_region ?_) | (with_reducible refine s_nil ?_) | (with_reducible refine q_then_n ?_) | ((with_reducible apply s_pure hF); exact rfl; exact rfl; exact rfl; (first | exact trivial | omega | exact ⟨Int.natCast_nonneg _, Int.ofNat_lt.2 (by assumption)⟩ | decide); clear hF a; intro a hF) | ((with_reducible apply s_load hF hM); exact rfl; exact rfl; (repeat (first | exact List.mem_cons_self | refine List.mem_cons_of_mem _ ?_)); exact rfl; exact rfl; clear hF a; intro a hF) | ((with_reducible apply s_box hF hM); exact rfl; exact rfl; exact rfl; exact rfl; clear hF hM a; intro b w a hM hF)))
  (((with_reducible apply s_call (f := 12) hF hM); exact rfl; exact rfl; exact rfl; exact rfl; exact rfl; exact (Few_c cp ps a0 _ c0 rfl _ _ hM.lt (hM.facts (RdF id a0 (cellsP ps)) (by (repeat (first | with_reducible exact List.mem_cons_self | refine List.mem_cons_of_mem _ ?_))))); clear hF hM a; rintro v w a ⟨f, rfl, hf⟩ - hM hF))
  cases f with
  | false =>
    (repeat' (first | (with_reducible refine w_seq ?_) | (with_reducible refine c_region ?_) | (with_reducible refine s_nil ?_) | ((with_reducible apply s_call (f := 13) hF hM); exact rfl; exact rfl; exact rfl; exact rfl; exact rfl; exact (awake_c _ _ hM.lt); clear hF hM a; rintro v w a rfl - hM hF) | (with_reducible refine q_then_n ?_) | ((with_reducible apply s_pure hF); exact rfl; exact rfl; exact rfl; (first | exact trivial | omega | exact ⟨Int.natCast_nonneg _, Int.ofNat_lt.2 (by assumption)⟩ | decide); clear hF a; intro a hF) | (with_reducible refine w_ret ?_) | (with_reducible refine q_then_r ?_) | ((with_reducible apply c_true2 hF); exact rfl; (first | with_reducible rfl | (refine congrArg Value.bool ?_; focus (simp; done)))) | ((with_reducible apply s_skip hF); exact rfl; exact rfl; clear hF a; intro a hF)))
    (apply f_ret Try.results3 hF hM; (repeat (first | exact RL.nil | (apply RL.tmp; exact rfl) | (apply RL.cell; exact rfl; (repeat (first | exact List.mem_cons_self | refine List.mem_cons_of_mem _ ?_)); exact rfl))); refine Ret.mk hM.since ?_; dsimp only [resV])
  | true =>
    obtain ⟨hl40, hx40⟩ := hf rfl
    by_cases hl60 : 60 < l.length
    · (repeat' (first | (with_reducible refine w_seq ?_) | (with_reducible refine c_region ?_) | (with_reducible refine s_nil ?_) | ((with_reducible apply s_call (f := 13) hF hM); exact rfl; exact rfl; exact rfl; exact rfl; exact rfl; exact (awake_c _ _ hM.lt); clear hF hM a; rintro v w a rfl - hM hF) | (with_reducible refine q_then_n ?_) | ((with_reducible apply s_pure hF); exact rfl; exact rfl; exact rfl; (first | exact trivial | omega | exact ⟨Int.natCast_nonneg _, Int.ofNat_lt.2 (by assumption)⟩ | decide); clear hF a; intro a hF) | (with_reducible refine w_ret ?_) | (with_reducible refine q_then_r ?_) | ((with_reducible apply c_dec hF); exact rfl; all_goals intro hc; all_goals (try (exfalso; omega)))))
      (apply f_ret Try.results3 hF hM; (repeat (first | exact RL.nil | (apply RL.tmp; exact rfl) | (apply RL.cell; exact rfl; (repeat (first | exact List.mem_cons_self | refine List.mem_cons_of_mem _ ?_)); exact rfl))); refine Ret.mk hM.since ?_; dsimp only [resV])
    · have hpx : ∀ p ∈ ps, p.1.x.length ≤ 100000 := fun p hp => Nat.le_trans (hx40 p hp) (by omega)
      have e1 := fun {own W} hl h1 h2 hx => Encode29_c cp ps a0 c0 ps.length rfl (by omega) hDW hpx own W hl h1 h2 l hl8 hlb al cl l.length rfl (by omega) hcl hx chunk
      have e2 := fun {own W} hl h1 h2 hx => EncodeR_c cp ps a0 c0 ps.length rfl (by omega) hDW hpx hc0 own W hl h1 h2 l hl8 hlb al cl l.length rfl (by omega) hcl hx chunk
      cases hr : encR ⟨cp, ims ps⟩ l chunk with
      | error e =>
        rw [hr] at e1 e2
        have e3 := fun {own W} hl => Same_c 0 0 [] [] (fun p hp => by simp at hp) (fun p hp => by simp at hp) (fun p hp => by simp at hp) none none 0 0 0 0 rfl rfl (by omega) own W hl RdF.nil (Has.pure fun _ p hp => by simp at hp) RdF.nil (Has.pure fun _ p hp => by simp at hp)
        have e4 := fun {own W} hl => SameTokens_c [] [] (fun p hp => by simp [tP] at hp) (fun p hp => by simp [tP] at hp) (fun p hp => by simp at hp) none none 0 0 0 0 rfl rfl (by omega) own W hl RdF.nil (Has.pure fun _ p hp => by simp [tP] at hp) RdF.nil (Has.pure fun _ p hp => by simp [tP] at hp)
        rw [decide_eq_true ⟨rfl, rfl⟩] at e3
        rw [decide_eq_true rfl] at e4
        (repeat' (first | (with_reducible refine w_seq ?_) | (with_reducible refine c_region ?_) | (with_reducible refine s_nil ?_) | ((with_reducible apply s_call (f := 14) hF hM); exact rfl; exact rfl; exact rfl; exact rfl; exact rfl; exact (e1 hM.lt (hM.facts (RdF id a0 (cellsP ps)) (by (repeat (first | with_reducible exact List.mem_cons_self | refine List.mem_cons_of_mem _ ?_)))) (hM.facts (DatF ps) (by (repeat (first | with_reducible exact List.mem_cons_self | refine List.mem_cons_of_mem _ ?_)))) (hM.facts (RdF (Value.int .u8) al l.flatten) (by (repeat (first | with_reducible exact List.mem_cons_self | refine List.mem_cons_of_mem _ ?_))))); clear hF hM a; rintro v w a rfl - hM hF) | ((with_reducible apply s_call (f := 15) hF hM); exact rfl; exact rfl; exact rfl; exact rfl; exact rfl; exact (e2 hM.lt (hM.facts (RdF id a0 (cellsP ps)) (by (repeat (first | with_reducible exact List.mem_cons_self | refine List.mem_cons_of_mem _ ?_)))) (hM.facts (DatF ps) (by (repeat (first | with_reducible exact List.mem_cons_self | refine List.mem_cons_of_mem _ ?_)))) (hM.facts (RdF (Value.int .u8) al l.flatten) (by (repeat (first | with_reducible exact List.mem_cons_self | refine List.mem_cons_of_mem _ ?_))))); clear hF hM a; rintro v w a rfl - hM hF) | ((with_reducible apply s_call (f := 16) hF hM); exact rfl; exact rfl; exact rfl; exact rfl; exact rfl; exact (e3 hM.lt); clear hF hM a; rintro v w a rfl - hM hF) | ((with_reducible apply s_call (f := 17) hF hM); exact rfl; exact rfl; exact rfl; exact rfl; exact rfl; exact (e4 hM.lt); clear hF hM a; rintro v w a rfl - hM hF) | ((with_reducible apply s_call (f := 13) hF hM); exact rfl; exact rfl; exact rfl; exact rfl; exact rfl; exact (awake_c _ _ hM.lt); clear hF hM a; rintro v w a rfl - hM hF) | (with_reducible refine q_then_n ?_) | ((with_reducible apply s_pure hF); exact rfl; exact rfl; exact rfl; (first | exact trivial | omega | exact ⟨Int.natCast_nonneg _, Int.ofNat_lt.2 (by assumption)⟩ | decide); clear hF a; intro a hF) | ((with_reducible apply s_load hF hM); exact rfl; exact rfl; (repeat (first | exact List.mem_cons_self | refine List.mem_cons_of_mem _ ?_)); exact rfl; exact rfl; clear hF a; intro a hF) | ((with_reducible apply s_store hF hM); exact rfl; exact rfl; exact rfl; exact rfl; (repeat (first | exact Upd.z | apply Upd.s)); exact rfl; exact rfl; exact rfl; clear hM; intro w hM) | ((with_reducible apply s_alloc hF hM); exact rfl; exact rfl; exact rfl; clear hF hM a; intro b w a hM hF) | (with_reducible refine w_skip ?_) | (with_reducible refine w_ret ?_) | ((fail_if_success ((with_reducible refine g_known true hF ?_ ?_); focus exact rfl)); (fail_if_success ((with_reducible refine g_known false hF ?_ ?_); focus exact rfl)); (with_reducible apply g_dec hF); exact rfl; exact rfl; all_goals (clear hF; intro hc hF); all_goals (try (exfalso; omega))) | ((with_reducible apply c_dec hF); exact rfl; all_goals intro hc; all_goals (try (exfalso; omega)))))
        (apply f_ret Try.results3 hF hM; (repeat (first | exact RL.nil | (apply RL.tmp; exact rfl) | (apply RL.cell; exact rfl; (repeat (first | exact List.mem_cons_self | refine List.mem_cons_of_mem _ ?_)); exact rfl))); refine Ret.mk hM.since ?_; dsimp only [resV])
      | ok r =>
        rw [hr] at e1 e2
        obtain ⟨b1, b2, b3⟩ := enc_bd hr
        obtain ⟨ri, rt⟩ := r
        dsimp only at b1 b2 b3
        have b4 := sok_len b1
        (repeat' (first | (with_reducible refine w_seq ?_) | (with_reducible refine c_region ?_) | (with_reducible refine s_nil ?_) | (with_reducible refine q_then_n ?_) | ((with_reducible apply s_pure hF); exact rfl; exact rfl; exact rfl; (first | exact trivial | omega | exact ⟨Int.natCast_nonneg _, Int.ofNat_lt.2 (by assumption)⟩ | decide); clear hF a; intro a hF) | ((with_reducible apply s_load hF hM); exact rfl; exact rfl; (repeat (first | exact List.mem_cons_self | refine List.mem_cons_of_mem _ ?_)); exact rfl; exact rfl; clear hF a; intro a hF) | (with_reducible refine w_skip ?_) | ((with_reducible apply c_dec hF); exact rfl; all_goals intro hc; all_goals (try (exfalso; omega)))))
        (((with_reducible apply s_call (f := 14) hF hM); exact rfl; exact rfl; exact rfl; exact rfl; exact rfl; exact (e1 hM.lt (hM.facts (RdF id a0 (cellsP ps)) (by (repeat (first | with_reducible exact List.mem_cons_self | refine List.mem_cons_of_mem _ ?_)))) (hM.facts (DatF ps) (by (repeat (first | with_reducible exact List.mem_cons_self | refine List.mem_cons_of_mem _ ?_)))) (hM.facts (RdF (Value.int .u8) al l.flatten) (by (repeat (first | with_reducible exact List.mem_cons_self | refine List.mem_cons_of_mem _ ?_))))); clear hF hM a; rintro v w a ⟨x1, y1, x2, y2, rfl, ⟨qs, q1, q2, q3, q4, q5⟩, us, u1, u2, u3, u4, u5⟩ - hM hF; replace hM := (((hM.addFact q3).addFact q4).addFact u3).addFact u4; clear q3 q4 u3 u4))
        (repeat (first | (with_reducible refine w_seq ?_) | (with_reducible refine c_region ?_) | (with_reducible refine s_nil ?_) | (with_reducible refine q_then_n ?_) | ((with_reducible apply s_pure hF); exact rfl; exact rfl; exact rfl; (first | exact trivial | omega | exact ⟨Int.natCast_nonneg _, Int.ofNat_lt.2 (by assumption)⟩ | decide); clear hF a; intro a hF) | ((with_reducible apply s_load hF hM); exact rfl; exact rfl; (repeat (first | exact List.mem_cons_self | refine List.mem_cons_of_mem _ ?_)); exact rfl; exact rfl; clear hF a; intro a hF) | ((with_reducible apply s_store hF hM); exact rfl; exact rfl; exact rfl; exact rfl; (repeat (first | exact Upd.z | apply Upd.s)); exact rfl; exact rfl; exact rfl; clear hM; intro w hM) | ((with_reducible apply s_alloc hF hM); exact rfl; exact rfl; exact rfl; clear hF hM a; intro b w a hM hF)))
        (((with_reducible apply s_call (f := 15) hF hM); exact rfl; exact rfl; exact rfl; exact rfl; exact rfl; exact (e2 hM.lt (hM.facts (RdF id a0 (cellsP ps)) (by (repeat (first | with_reducible exact List.mem_cons_self | refine List.mem_cons_of_mem _ ?_)))) (hM.facts (DatF ps) (by (repeat (first | with_reducible exact List.mem_cons_self | refine List.mem_cons_of_mem _ ?_)))) (hM.facts (RdF (Value.int .u8) al l.flatten) (by (repeat (first | with_reducible exact List.mem_cons_self | refine List.mem_cons_of_mem _ ?_))))); clear hF hM a; rintro v w a ⟨x3, y3, x4, y4, rfl, ⟨ps2, p1, p2, p3, p4, p5⟩, vs, v1, v2, v3, v4, v5⟩ - hM hF; replace hM := (((hM.addFact p3).addFact p4).addFact v3).addFact v4; clear p3 p4 v3 v4))
        dsimp only at hF hM q1 u1 p1 v1
        have e3 := fun {own W} hl h1 h2 h3 h4 => Same_c cp cp qs ps2 q2 p2 (sok_ps b1 q1) x1 x3 ri.length ri.length y1 y3 (by rw [← ims_len, q1]) (by rw [← ims_len, p1]) (by omega) own W hl h1 h2 h3 h4
        have e4 := fun {own W} hl h1 h2 h3 h4 => SameTokens_c us vs u2 v2 (toks_ps b2 u1) x2 x4 rt.length rt.length y2 y4 (by rw [← tms_len, u1]) (by rw [← tms_len, v1]) (by omega) own W hl h1 h2 h3 h4
        rw [decide_eq_true ⟨rfl, by rw [q1, p1]⟩] at e3
        rw [decide_eq_true (by rw [u1, v1])] at e4
        (repeat' (first | (with_reducible refine w_seq ?_) | (with_reducible refine c_region ?_) | (with_reducible refine s_nil ?_) | ((with_reducible apply s_call (f := 16) hF hM); exact rfl; exact rfl; exact rfl; exact rfl; exact rfl; exact (e3 hM.lt (hM.facts (RdF id x1 (cellsP qs)) (by (repeat (first | with_reducible exact List.mem_cons_self | refine List.mem_cons_of_mem _ ?_)))) (hM.facts (DatF qs) (by (repeat (first | with_reducible exact List.mem_cons_self | refine List.mem_cons_of_mem _ ?_)))) (hM.facts (RdF id x3 (cellsP ps2)) (by (repeat (first | with_reducible exact List.mem_cons_self | refine List.mem_cons_of_mem _ ?_)))) (hM.facts (DatF ps2) (by (repeat (first | with_reducible exact List.mem_cons_self | refine List.mem_cons_of_mem _ ?_))))); clear hF hM a; rintro v w a rfl - hM hF) | ((with_reducible apply s_call (f := 17) hF hM); exact rfl; exact rfl; exact rfl; exact rfl; exact rfl; exact (e4 hM.lt (hM.facts (RdF id x2 (cellsT us)) (by (repeat (first | with_reducible exact List.mem_cons_self | refine List.mem_cons_of_mem _ ?_)))) (hM.facts (DatF (tP us)) (by (repeat (first | with_reducible exact List.mem_cons_self | refine List.mem_cons_of_mem _ ?_)))) (hM.facts (RdF id x4 (cellsT vs)) (by (repeat (first | with_reducible exact List.mem_cons_self | refine List.mem_cons_of_mem _ ?_)))) (hM.facts (DatF (tP vs)) (by (repeat (first | with_reducible exact List.mem_cons_self | refine List.mem_cons_of_mem _ ?_))))); clear hF hM a; rintro v w a rfl - hM hF) | ((with_reducible apply s_call (f := 13) hF hM); exact rfl; exact rfl; exact rfl; exact rfl; exact rfl; exact (awake_c _ _ hM.lt); clear hF hM a; rintro v w a rfl - hM hF) | (with_reducible refine q_then_n ?_) | ((with_reducible apply s_pure hF); exact rfl; exact rfl; exact rfl; (first | exact trivial | omega | exact ⟨Int.natCast_nonneg _, Int.ofNat_lt.2 (by assumption)⟩ | decide); clear hF a; intro a hF) | ((with_reducible apply s_load hF hM); exact rfl; exact rfl; (repeat (first | exact List.mem_cons_self | refine List.mem_cons_of_mem _ ?_)); exact rfl; exact rfl; clear hF a; intro a hF) | ((with_reducible apply s_store hF hM); exact rfl; exact rfl; exact rfl; exact rfl; (repeat (first | exact Upd.z | apply Upd.s)); exact rfl; exact rfl; exact rfl; clear hM; intro w hM) | ((with_reducible apply s_alloc hF hM); exact rfl; exact rfl; exact rfl; clear hF hM a; intro b w a hM hF) | (with_reducible refine w_ret ?_)))
        (apply f_ret Try.results3 hF hM; (repeat (first | exact RL.nil | (apply RL.tmp; exact rfl) | (apply RL.cell; exact rfl; (repeat (first | exact List.mem_cons_self | refine List.mem_cons_of_mem _ ?_)); exact rfl))); refine Ret.mk hM.since ?_; dsimp only [resV])
set_option maxRecDepth 20000 in
set_option maxHeartbeats 4000000 in
theorem decodes29_c (ts : List TP) (hts : DatW (tP ts)) (al : Option Addr) (cl : Nat) (hx1 : Has (fun _ => False) W (RdF id al (cellsT ts))) (hx2 : Has (fun _ => False) W (DatF (tP ts))) :
    Calls Try.prog 4 ⟨[.agg #[.int .i64 cp, .slice a0 ps.length c0], .slice al ts.length cl]⟩ W (Ret W fun v _ => v = .bool true) := by
  have hM := ((((Mm.start (own := fun _ => False) (w := W) (fun _ h => h.elim)).known hx2).known hx1).known h2).known h1
  refine f_start Try.func4 rfl Try.ntmps4 rfl rfl ?_; intro a hF
  (repeat (first | (with_reducible refine w_seq ?_) | (with_reducible refine c_region ?_) | (with_reducible refine s_nil ?_) | (with_reducible refine q_then_n ?_) | ((with_reducible apply s_pure hF); exact rfl; exact rfl; exact rfl; (first | exact trivial | omega | exact ⟨Int.natCast_nonneg _, Int.ofNat_lt.2 (by assumption)⟩ | decide); clear hF a; intro a hF) | ((with_reducible apply s_load hF hM); exact rfl; exact rfl; (repeat (first | exact List.mem_cons_self | refine List.mem_cons_of_mem _ ?_)); exact rfl; exact rfl; clear hF a; intro a hF) | ((with_reducible apply s_box hF hM); exact rfl; exact rfl; exact rfl; exact rfl; clear hF hM a; intro b w a hM hF)))
  (((with_reducible apply s_call (f := 12) hF hM); exact rfl; exact rfl; exact rfl; exact rfl; exact rfl; exact (Few_c cp ps a0 _ c0 rfl _ _ hM.lt (hM.facts (RdF id a0 (cellsP ps)) (by (repeat (first | with_reducible exact List.mem_cons_self | refine List.mem_cons_of_mem _ ?_))))); clear hF hM a; rintro v w a ⟨f, rfl, hf⟩ - hM hF))
  have e0 := fun {own W} hl => FewTokens_c ts al ts.length cl rfl own W hl
  cases f with
  | false =>
    (repeat' (first | (with_reducible refine w_seq ?_) | (with_reducible refine c_region ?_) | (with_reducible refine s_nil ?_) | ((with_reducible apply s_call (f := 13) hF hM); exact rfl; exact rfl; exact rfl; exact rfl; exact rfl; exact (awake_c _ _ hM.lt); clear hF hM a; rintro v w a rfl - hM hF) | (with_reducible refine q_then_n ?_) | ((with_reducible apply s_pure hF); exact rfl; exact rfl; exact rfl; (first | exact trivial | omega | exact ⟨Int.natCast_nonneg _, Int.ofNat_lt.2 (by assumption)⟩ | decide); clear hF a; intro a hF) | (with_reducible refine w_ret ?_) | (with_reducible refine q_then_r ?_) | ((with_reducible apply c_true2 hF); exact rfl; (first | with_reducible rfl | (refine congrArg Value.bool ?_; focus (simp; done)))) | ((with_reducible apply s_skip hF); exact rfl; exact rfl; clear hF a; intro a hF)))
    (apply f_ret Try.results4 hF hM; (repeat (first | exact RL.nil | (apply RL.tmp; exact rfl) | (apply RL.cell; exact rfl; (repeat (first | exact List.mem_cons_self | refine List.mem_cons_of_mem _ ?_)); exact rfl))); refine Ret.mk hM.since ?_; dsimp only [resV])
  | true =>
    obtain ⟨hl40, hx40⟩ := hf rfl
    (repeat (first | ((with_reducible apply s_pure hF); exact rfl; exact rfl; exact rfl; (first | exact trivial | omega | exact ⟨Int.natCast_nonneg _, Int.ofNat_lt.2 (by assumption)⟩ | decide); clear hF a; intro a hF)))
    (((with_reducible apply s_call (f := 18) hF hM); exact rfl; exact rfl; exact rfl; exact rfl; exact rfl; exact (e0 hM.lt (hM.facts (RdF id al (cellsT ts)) (by (repeat (first | with_reducible exact List.mem_cons_self | refine List.mem_cons_of_mem _ ?_))))); clear hF hM a; rintro v w a ⟨f, rfl, hf⟩ - hM hF))
    cases f with
    | false =>
      (repeat' (first | (with_reducible refine w_seq ?_) | (with_reducible refine c_region ?_) | (with_reducible refine s_nil ?_) | ((with_reducible apply s_call (f := 13) hF hM); exact rfl; exact rfl; exact rfl; exact rfl; exact rfl; exact (awake_c _ _ hM.lt); clear hF hM a; rintro v w a rfl - hM hF) | (with_reducible refine q_then_n ?_) | ((with_reducible apply s_pure hF); exact rfl; exact rfl; exact rfl; (first | exact trivial | omega | exact ⟨Int.natCast_nonneg _, Int.ofNat_lt.2 (by assumption)⟩ | decide); clear hF a; intro a hF) | (with_reducible refine w_ret ?_) | (with_reducible refine q_then_r ?_) | ((with_reducible apply c_true2 hF); exact rfl; (first | with_reducible rfl | (refine congrArg Value.bool ?_; focus (simp; done))))))
      (apply f_ret Try.results4 hF hM; (repeat (first | exact RL.nil | (apply RL.tmp; exact rfl) | (apply RL.cell; exact rfl; (repeat (first | exact List.mem_cons_self | refine List.mem_cons_of_mem _ ?_)); exact rfl))); refine Ret.mk hM.since ?_; dsimp only [resV])
    | true =>
      obtain ⟨hl60, hy40⟩ := hf rfl
      have hpx : ∀ p ∈ ps, p.1.x.length ≤ 100000 := fun p hp => Nat.le_trans (hx40 p hp) (by omega)
      have e1 := fun {own W} hl h1 h2 hx1 hx2 => Decode29_c cp ps a0 c0 ps.length rfl (by omega) hDW hpx own W hl h1 h2 ts hts al cl ts.length rfl (by omega) hx1 hx2
      have e2 := fun {own W} hl h1 h2 hx1 hx2 => DecodeR_c cp ps a0 c0 ps.length rfl (by omega) hDW hpx hc0 own W hl h1 h2 ts hts al cl ts.length rfl (by omega) hx1 hx2
      cases hr : decR ⟨cp, ims ps⟩ (tms ts) with
      | error e =>
        rw [hr] at e1 e2
        have e3 := fun {own W} hl => Same_c 0 0 [] [] (fun p hp => by simp at hp) (fun p hp => by simp at hp) (fun p hp => by simp at hp) none none 0 0 0 0 rfl rfl (by omega) own W hl RdF.nil (Has.pure fun _ p hp => by simp at hp) RdF.nil (Has.pure fun _ p hp => by simp at hp)
        have e4 := fun {own W} hl => eqS_c [] [] (fun p hp => by simp at hp) (fun p hp => by simp at hp) none none 0 0 0 0 rfl rfl (by omega) own W hl RdF.nil RdF.nil
        rw [decide_eq_true ⟨rfl, rfl⟩] at e3
        rw [decide_eq_true rfl] at e4
        (repeat' (first | (with_reducible refine w_seq ?_) | (with_reducible refine c_region ?_) | (with_reducible refine s_nil ?_) | (with_reducible refine q_then_n ?_) | ((with_reducible apply s_pure hF); exact rfl; exact rfl; exact rfl; (first | exact trivial | omega | exact ⟨Int.natCast_nonneg _, Int.ofNat_lt.2 (by assumption)⟩ | decide); clear hF a; intro a hF) | ((with_reducible apply s_load hF hM); exact rfl; exact rfl; (repeat (first | exact List.mem_cons_self | refine List.mem_cons_of_mem _ ?_)); exact rfl; exact rfl; clear hF a; intro a hF) | (with_reducible refine w_skip ?_) | ((with_reducible apply c_false2 hF); exact rfl; (first | with_reducible rfl | (refine congrArg Value.bool ?_; focus (simp; done))))))
        (((with_reducible apply s_call (f := 19) hF hM); exact rfl; exact rfl; exact rfl; exact rfl; exact rfl; exact (e1 hM.lt (hM.facts (RdF id a0 (cellsP ps)) (by (repeat (first | with_reducible exact List.mem_cons_self | refine List.mem_cons_of_mem _ ?_)))) (hM.facts (DatF ps) (by (repeat (first | with_reducible exact List.mem_cons_self | refine List.mem_cons_of_mem _ ?_)))) (hM.facts (RdF id al (cellsT ts)) (by (repeat (first | with_reducible exact List.mem_cons_self | refine List.mem_cons_of_mem _ ?_)))) (hM.facts (DatF (tP ts)) (by (repeat (first | with_reducible exact List.mem_cons_self | refine List.mem_cons_of_mem _ ?_))))); clear hF hM a; rintro v w a rfl - hM hF))
        (repeat (first | (with_reducible refine w_seq ?_) | (with_reducible refine c_region ?_) | (with_reducible refine s_nil ?_) | (with_reducible refine q_then_n ?_) | ((with_reducible apply s_pure hF); exact rfl; exact rfl; exact rfl; (first | exact trivial | omega | exact ⟨Int.natCast_nonneg _, Int.ofNat_lt.2 (by assumption)⟩ | decide); clear hF a; intro a hF) | ((with_reducible apply s_load hF hM); exact rfl; exact rfl; (repeat (first | exact List.mem_cons_self | refine List.mem_cons_of_mem _ ?_)); exact rfl; exact rfl; clear hF a; intro a hF) | ((with_reducible apply s_store hF hM); exact rfl; exact rfl; exact rfl; exact rfl; (repeat (first | exact Upd.z | apply Upd.s)); exact rfl; exact rfl; exact rfl; clear hM; intro w hM) | ((with_reducible apply s_alloc hF hM); exact rfl; exact rfl; exact rfl; clear hF hM a; intro b w a hM hF)))
        (((with_reducible apply s_call (f := 20) hF hM); exact rfl; exact rfl; exact rfl; exact rfl; exact rfl; exact (e2 hM.lt (hM.facts (RdF id a0 (cellsP ps)) (by (repeat (first | with_reducible exact List.mem_cons_self | refine List.mem_cons_of_mem _ ?_)))) (hM.facts (DatF ps) (by (repeat (first | with_reducible exact List.mem_cons_self | refine List.mem_cons_of_mem _ ?_)))) (hM.facts (RdF id al (cellsT ts)) (by (repeat (first | with_reducible exact List.mem_cons_self | refine List.mem_cons_of_mem _ ?_)))) (hM.facts (DatF (tP ts)) (by (repeat (first | with_reducible exact List.mem_cons_self | refine List.mem_cons_of_mem _ ?_))))); clear hF hM a; rintro v w a rfl - hM hF))
        (repeat' (first | (with_reducible refine w_seq ?_) | (with_reducible refine c_region ?_) | (with_reducible refine s_nil ?_) | ((with_reducible apply s_call (f := 16) hF hM); exact rfl; exact rfl; exact rfl; exact rfl; exact rfl; exact (e3 hM.lt); clear hF hM a; rintro v w a rfl - hM hF) | ((with_reducible apply s_call (f := 21) hF hM); exact rfl; exact rfl; exact rfl; exact rfl; exact rfl; exact (e4 hM.lt); clear hF hM a; rintro v w a rfl - hM hF) | ((with_reducible apply s_call (f := 13) hF hM); exact rfl; exact rfl; exact rfl; exact rfl; exact rfl; exact (awake_c _ _ hM.lt); clear hF hM a; rintro v w a rfl - hM hF) | (with_reducible refine q_then_n ?_) | ((with_reducible apply s_pure hF); exact rfl; exact rfl; exact rfl; (first | exact trivial | omega | exact ⟨Int.natCast_nonneg _, Int.ofNat_lt.2 (by assumption)⟩ | decide); clear hF a; intro a hF) | ((with_reducible apply s_load hF hM); exact rfl; exact rfl; (repeat (first | exact List.mem_cons_self | refine List.mem_cons_of_mem _ ?_)); exact rfl; exact rfl; clear hF a; intro a hF) | ((with_reducible apply s_store hF hM); exact rfl; exact rfl; exact rfl; exact rfl; (repeat (first | exact Upd.z | apply Upd.s)); exact rfl; exact rfl; exact rfl; clear hM; intro w hM) | ((with_reducible apply s_alloc hF hM); exact rfl; exact rfl; exact rfl; clear hF hM a; intro b w a hM hF) | (with_reducible refine w_ret ?_) | ((fail_if_success ((with_reducible refine g_known true hF ?_ ?_); focus exact rfl)); (fail_if_success ((with_reducible refine g_known false hF ?_ ?_); focus exact rfl)); (with_reducible apply g_dec hF); exact rfl; exact rfl; all_goals (clear hF; intro hc hF); all_goals (try (exfalso; omega)))))
        (apply f_ret Try.results4 hF hM; (repeat (first | exact RL.nil | (apply RL.tmp; exact rfl) | (apply RL.cell; exact rfl; (repeat (first | exact List.mem_cons_self | refine List.mem_cons_of_mem _ ?_)); exact rfl))); refine Ret.mk hM.since ?_; dsimp only [resV])
      | ok r =>
        rw [hr] at e1 e2
        obtain ⟨b1, b2⟩ := dec_bd hr
        obtain ⟨ri, rx⟩ := r
        dsimp only at b1 b2
        rw [tms_len] at b2
        have b4 := sok_len b1
        (repeat' (first | (with_reducible refine w_seq ?_) | (with_reducible refine c_region ?_) | (with_reducible refine s_nil ?_) | (with_reducible refine q_then_n ?_) | ((with_reducible apply s_pure hF); exact rfl; exact rfl; exact rfl; (first | exact trivial | omega | exact ⟨Int.natCast_nonneg _, Int.ofNat_lt.2 (by assumption)⟩ | decide); clear hF a; intro a hF) | ((with_reducible apply s_load hF hM); exact rfl; exact rfl; (repeat (first | exact List.mem_cons_self | refine List.mem_cons_of_mem _ ?_)); exact rfl; exact rfl; clear hF a; intro a hF) | (with_reducible refine w_skip ?_) | ((with_reducible apply c_false2 hF); exact rfl; (first | with_reducible rfl | (refine congrArg Value.bool ?_; focus (simp; done))))))
        (((with_reducible apply s_call (f := 19) hF hM); exact rfl; exact rfl; exact rfl; exact rfl; exact rfl; exact (e1 hM.lt (hM.facts (RdF id a0 (cellsP ps)) (by (repeat (first | with_reducible exact List.mem_cons_self | refine List.mem_cons_of_mem _ ?_)))) (hM.facts (DatF ps) (by (repeat (first | with_reducible exact List.mem_cons_self | refine List.mem_cons_of_mem _ ?_)))) (hM.facts (RdF id al (cellsT ts)) (by (repeat (first | with_reducible exact List.mem_cons_self | refine List.mem_cons_of_mem _ ?_)))) (hM.facts (DatF (tP ts)) (by (repeat (first | with_reducible exact List.mem_cons_self | refine List.mem_cons_of_mem _ ?_))))); clear hF hM a; rintro v w a ⟨x1, y1, x2, y2, rfl, ⟨qs, q1, q2, q3, q4, q5⟩, u1, u2, u3, u4⟩ - hM hF; replace hM := ((hM.addFact q3).addFact q4).addFact u1; clear q3 q4 u1))
        (repeat (first | (with_reducible refine w_seq ?_) | (with_reducible refine c_region ?_) | (with_reducible refine s_nil ?_) | (with_reducible refine q_then_n ?_) | ((with_reducible apply s_pure hF); exact rfl; exact rfl; exact rfl; (first | exact trivial | omega | exact ⟨Int.natCast_nonneg _, Int.ofNat_lt.2 (by assumption)⟩ | decide); clear hF a; intro a hF) | ((with_reducible apply s_load hF hM); exact rfl; exact rfl; (repeat (first | exact List.mem_cons_self | refine List.mem_cons_of_mem _ ?_)); exact rfl; exact rfl; clear hF a; intro a hF) | ((with_reducible apply s_store hF hM); exact rfl; exact rfl; exact rfl; exact rfl; (repeat (first | exact Upd.z | apply Upd.s)); exact rfl; exact rfl; exact rfl; clear hM; intro w hM) | ((with_reducible apply s_alloc hF hM); exact rfl; exact rfl; exact rfl; clear hF hM a; intro b w a hM hF)))
        (((with_reducible apply s_call (f := 20) hF hM); exact rfl; exact rfl; exact rfl; exact rfl; exact rfl; exact (e2 hM.lt (hM.facts (RdF id a0 (cellsP ps)) (by (repeat (first | with_reducible exact List.mem_cons_self | refine List.mem_cons_of_mem _ ?_)))) (hM.facts (DatF ps) (by (repeat (first | with_reducible exact List.mem_cons_self | refine List.mem_cons_of_mem _ ?_)))) (hM.facts (RdF id al (cellsT ts)) (by (repeat (first | with_reducible exact List.mem_cons_self | refine List.mem_cons_of_mem _ ?_)))) (hM.facts (DatF (tP ts)) (by (repeat (first | with_reducible exact List.mem_cons_self | refine List.mem_cons_of_mem _ ?_))))); clear hF hM a; rintro v w a ⟨x3, y3, x4, y4, rfl, ⟨ps2, p1, p2, p3, p4, p5⟩, v1, v2, v3, v4⟩ - hM hF; replace hM := ((hM.addFact p3).addFact p4).addFact v1; clear p3 p4 v1))
        dsimp only at hF hM q1 p1 u3
        have e3 := fun {own W} hl h1 h2 h3 h4 => Same_c cp cp qs ps2 q2 p2 (sok_ps b1 q1) x1 x3 ri.length ri.length y1 y3 (by rw [← ims_len, q1]) (by rw [← ims_len, p1]) (by omega) own W hl h1 h2 h3 h4
        have e4 := fun {own W} hl h1 h2 => eqS_c rx rx u3 u3 x2 x4 rx.length rx.length y2 y4 rfl rfl (by omega) own W hl h1 h2
        rw [decide_eq_true ⟨rfl, by rw [q1, p1]⟩] at e3
        rw [decide_eq_true rfl] at e4
        (repeat' (first | (with_reducible refine w_seq ?_) | (with_reducible refine c_region ?_) | (with_reducible refine s_nil ?_) | ((with_reducible apply s_call (f := 16) hF hM); exact rfl; exact rfl; exact rfl; exact rfl; exact rfl; exact (e3 hM.lt (hM.facts (RdF id x1 (cellsP qs)) (by (repeat (first | with_reducible exact List.mem_cons_self | refine List.mem_cons_of_mem _ ?_)))) (hM.facts (DatF qs) (by (repeat (first | with_reducible exact List.mem_cons_self | refine List.mem_cons_of_mem _ ?_)))) (hM.facts (RdF id x3 (cellsP ps2)) (by (repeat (first | with_reducible exact List.mem_cons_self | refine List.mem_cons_of_mem _ ?_)))) (hM.facts (DatF ps2) (by (repeat (first | with_reducible exact List.mem_cons_self | refine List.mem_cons_of_mem _ ?_))))); clear hF hM a; rintro v w a rfl - hM hF) | ((with_reducible apply s_call (f := 21) hF hM); exact rfl; exact rfl; exact rfl; exact rfl; exact rfl; exact (e4 hM.lt (hM.facts (RdF (Value.int .u8) x2 rx.flatten) (by (repeat (first | with_reducible exact List.mem_cons_self | refine List.mem_cons_of_mem _ ?_)))) (hM.facts (RdF (Value.int .u8) x4 rx.flatten) (by (repeat (first | with_reducible exact List.mem_cons_self | refine List.mem_cons_of_mem _ ?_))))); clear hF hM a; rintro v w a rfl - hM hF) | ((with_reducible apply s_call (f := 13) hF hM); exact rfl; exact rfl; exact rfl; exact rfl; exact rfl; exact (awake_c _ _ hM.lt); clear hF hM a; rintro v w a rfl - hM hF) | (with_reducible refine q_then_n ?_) | ((with_reducible apply s_pure hF); exact rfl; exact rfl; exact rfl; (first | exact trivial | omega | exact ⟨Int.natCast_nonneg _, Int.ofNat_lt.2 (by assumption)⟩ | decide); clear hF a; intro a hF) | ((with_reducible apply s_load hF hM); exact rfl; exact rfl; (repeat (first | exact List.mem_cons_self | refine List.mem_cons_of_mem _ ?_)); exact rfl; exact rfl; clear hF a; intro a hF) | ((with_reducible apply s_store hF hM); exact rfl; exact rfl; exact rfl; exact rfl; (repeat (first | exact Upd.z | apply Upd.s)); exact rfl; exact rfl; exact rfl; clear hM; intro w hM) | ((with_reducible apply s_alloc hF hM); exact rfl; exact rfl; exact rfl; clear hF hM a; intro b w a hM hF) | (with_reducible refine w_ret ?_)))
        (apply f_ret Try.results4 hF hM; (repeat (first | exact RL.nil | (apply RL.tmp; exact rfl) | (apply RL.cell; exact rfl; (repeat (first | exact List.mem_cons_self | refine List.mem_cons_of_mem _ ?_)); exact rfl))); refine Ret.mk hM.since ?_; dsimp only [resV])
end
end Go.Proofs.Ytonelgecjmpbgaa


/- Layer 29: the law of mirrors. -/
namespace Go.Proofs.Ytonelgecjmpbgaa
open Go.RowKit Go.Shelf D29
theorem few1_c (a : Option Addr) (c : Nat) (x : Dat) (n : Nat) (hn : x.length = n) (own : Nat → Prop) (W : World) (hl : ∀ b, own b → b < W.heap.size) : Calls Try.prog 68 ⟨[.slice a n c]⟩ W (Ret W fun v _ => v = .bool (decide ((30 : Int) < x.length))) := by
  have hM := Mm.start hl
  rw [hn]
  refine f_start Try.func68 rfl Try.ntmps68 rfl rfl ?_; intro a hF
  (repeat (first | (with_reducible refine w_seq ?_) | (with_reducible refine c_region ?_) | (with_reducible refine s_nil ?_) | (with_reducible refine q_then_n ?_) | ((with_reducible apply s_pure hF); exact rfl; exact rfl; exact rfl; (first | exact trivial | omega | exact ⟨Int.natCast_nonneg _, Int.ofNat_lt.2 (by assumption)⟩ | decide); clear hF a; intro a hF) | (with_reducible refine w_ret ?_)))
  (apply f_ret Try.results68 hF hM; (repeat (first | exact RL.nil | (apply RL.tmp; exact rfl) | (apply RL.cell; exact rfl; (repeat (first | exact List.mem_cons_self | refine List.mem_cons_of_mem _ ?_)); exact rfl))); refine Ret.mk hM.since ?_; dsimp only [resV])
set_option maxHeartbeats 1000000 in
theorem few29_c (ls : List SP) (a0 : Option Addr) (c0 n : Nat) (hn : ls.length = n) (own : Nat → Prop) (W : World) (hl : ∀ b, own b → b < W.heap.size) (h1 : Has own W (RdF encSP a0 ls)) :
    Calls Try.prog 22 ⟨[.slice a0 n c0]⟩ W (Ret W fun v _ => ∃ f : Bool, v = .bool f ∧ (f = true → n ≤ 12 ∧ ∀ q ∈ ls, q.1.length ≤ 30)) := by
  have hM := (Mm.start hl).known h1
  refine f_start Try.func22 rfl Try.ntmps22 rfl rfl ?_; intro a hF
  by_cases h12 : n ≤ 12
  · have e1 := fun {own W} hl => conS_c 68 [] (fun x => decide ((30 : Int) < x.length)) (fun _ => True) rfl ls n hn (by omega) (fun t _ own W hl _ => few1_c t.2.1 t.2.2 t.1 _ rfl own W hl) a0 c0 own W hl (Has.pure fun _ => trivial)
    cases hany : (sms ls).any (fun x => decide ((30 : Int) < x.length)) with
    | true =>
      rw [hany] at e1
      (repeat' (first | (with_reducible refine w_seq ?_) | (with_reducible refine c_region ?_) | (with_reducible refine s_nil ?_) | ((with_reducible apply s_call (f := 67) hF hM); exact rfl; exact rfl; exact rfl; exact rfl; exact rfl; exact (e1 hM.lt (hM.facts (RdF encSP a0 ls) (by (repeat (first | exact List.mem_cons_self | refine List.mem_cons_of_mem _ ?_))))); clear hF hM a; rintro v w a rfl - hM hF) | (with_reducible refine q_then_n ?_) | ((with_reducible apply s_pure hF); exact rfl; exact rfl; exact rfl; (first | exact trivial | omega | exact ⟨Int.natCast_nonneg _, Int.ofNat_lt.2 (by assumption)⟩ | decide); clear hF a; intro a hF) | (with_reducible refine w_ret ?_) | ((fail_if_success ((with_reducible refine g_known true hF ?_ ?_); focus exact rfl)); (fail_if_success ((with_reducible refine g_known false hF ?_ ?_); focus exact rfl)); (with_reducible apply g_dec hF); exact rfl; exact rfl; all_goals (clear hF; intro hc hF); all_goals (try (exfalso; omega)))))
      (apply f_ret Try.results22 hF hM; (repeat (first | exact RL.nil | (apply RL.tmp; exact rfl) | (apply RL.cell; exact rfl; (repeat (first | exact List.mem_cons_self | refine List.mem_cons_of_mem _ ?_)); exact rfl))); refine Ret.mk hM.since ?_; dsimp only [resV])
      exact ⟨_, rfl, fun h => by cases h⟩
    | false =>
      rw [hany] at e1
      (repeat' (first | (with_reducible refine w_seq ?_) | (with_reducible refine c_region ?_) | (with_reducible refine s_nil ?_) | ((with_reducible apply s_call (f := 67) hF hM); exact rfl; exact rfl; exact rfl; exact rfl; exact rfl; exact (e1 hM.lt (hM.facts (RdF encSP a0 ls) (by (repeat (first | exact List.mem_cons_self | refine List.mem_cons_of_mem _ ?_))))); clear hF hM a; rintro v w a rfl - hM hF) | (with_reducible refine q_then_n ?_) | ((with_reducible apply s_pure hF); exact rfl; exact rfl; exact rfl; (first | exact trivial | omega | exact ⟨Int.natCast_nonneg _, Int.ofNat_lt.2 (by assumption)⟩ | decide); clear hF a; intro a hF) | (with_reducible refine w_ret ?_) | ((fail_if_success ((with_reducible refine g_known true hF ?_ ?_); focus exact rfl)); (fail_if_success ((with_reducible refine g_known false hF ?_ ?_); focus exact rfl)); (with_reducible apply g_dec hF); exact rfl; exact rfl; all_goals (clear hF; intro hc hF); all_goals (try (exfalso; omega)))))
      (apply f_ret Try.results22 hF hM; (repeat (first | exact RL.nil | (apply RL.tmp; exact rfl) | (apply RL.cell; exact rfl; (repeat (first | exact List.mem_cons_self | refine List.mem_cons_of_mem _ ?_)); exact rfl))); refine Ret.mk hM.since ?_; dsimp only [resV])
      refine ⟨_, rfl, fun _ => ⟨h12, fun q hq => ?_⟩⟩
      have := List.any_eq_false.1 hany q.1 (List.mem_map.2 ⟨q, hq, rfl⟩)
      simp only [decide_eq_true_eq] at this
      omega
  · (repeat' (first | (with_reducible refine w_seq ?_) | (with_reducible refine c_region ?_) | (with_reducible refine s_nil ?_) | (with_reducible refine q_then_n ?_) | ((with_reducible apply s_pure hF); exact rfl; exact rfl; exact rfl; (first | exact trivial | omega | exact ⟨Int.natCast_nonneg _, Int.ofNat_lt.2 (by assumption)⟩ | decide); clear hF a; intro a hF) | (with_reducible refine w_ret ?_) | ((with_reducible apply s_skip hF); exact rfl; exact rfl; clear hF a; intro a hF) | ((fail_if_success ((with_reducible refine g_known true hF ?_ ?_); focus exact rfl)); (fail_if_success ((with_reducible refine g_known false hF ?_ ?_); focus exact rfl)); (with_reducible apply g_dec hF); exact rfl; exact rfl; all_goals (clear hF; intro hc hF); all_goals (try (exfalso; omega)))))
    (apply f_ret Try.results22 hF hM; (repeat (first | exact RL.nil | (apply RL.tmp; exact rfl) | (apply RL.cell; exact rfl; (repeat (first | exact List.mem_cons_self | refine List.mem_cons_of_mem _ ?_)); exact rfl))); refine Ret.mk hM.since ?_; dsimp only [resV])
    exact ⟨_, rfl, fun h => by cases h⟩
namespace D29
theorem enc_ok {c : St} (h : check c = 0) {n : Nat} (h1 : 1 ≤ n) (h2 : n ≤ 4096) (l : Dat) : encR c l n = .ok (encI c.cap (parts n l) c.items) := by
  unfold encR
  rw [h, if_neg (by simp), if_neg (by omega)]
  rfl
theorem dec_mir {cap : Int} {l : List Itm} (h : check ⟨cap, l⟩ = 0) {n : Nat} (h1 : 1 ≤ n) (h2 : n ≤ 4096) (x : Dat) : decR ⟨cap, l⟩ (encI cap (parts n x) l).2 = .ok ((encI cap (parts n x) l).1, x) := by
  unfold decR
  rw [h, if_neg (by simp)]
  show decI cap _ l [] = _
  rw [mirror cap (parts_ch h1 h2), List.nil_append, parts_flat h1]
end D29
set_option maxRecDepth 20000 in
set_option maxHeartbeats 8000000 in
theorem mirrors29_c (x y : Int) (hx : 0 ≤ x ∧ x < 256) (hy : 0 ≤ y ∧ y < 256) (ls : List SP) (hls : DatW (sP ls)) (al : Option Addr) (cl : Nat) (W : World) (h1 : Has (fun _ => False) W (RdF encSP al ls)) (h2 : Has (fun _ => False) W (DatF (sP ls))) :
    Calls Try.prog 5 ⟨[.int .u8 x, .int .u8 y, .slice al ls.length cl]⟩ W (Ret W fun v _ => v = .bool true) := by
  have hM := ((Mm.start (own := fun _ => False) (w := W) (fun _ h => h.elim)).known h2).known h1
  refine f_start Try.func5 rfl Try.ntmps5 rfl rfl ?_; intro a hF
  (repeat (first | (with_reducible refine w_seq ?_) | (with_reducible refine c_region ?_) | (with_reducible refine s_nil ?_) | (with_reducible refine q_then_n ?_) | ((with_reducible apply s_pure hF); exact rfl; exact rfl; exact rfl; (first | exact trivial | omega | exact ⟨Int.natCast_nonneg _, Int.ofNat_lt.2 (by assumption)⟩ | decide); clear hF a; intro a hF)))
  (((with_reducible apply s_call (f := 22) hF hM); exact rfl; exact rfl; exact rfl; exact rfl; exact rfl; exact (few29_c ls al cl _ rfl _ _ hM.lt (hM.facts (RdF encSP al ls) (by (repeat (first | with_reducible exact List.mem_cons_self | refine List.mem_cons_of_mem _ ?_))))); clear hF hM a; rintro v w a ⟨f, rfl, hf⟩ - hM hF))
  cases f with
  | false =>
    (repeat' (first | (with_reducible refine w_seq ?_) | (with_reducible refine c_region ?_) | (with_reducible refine s_nil ?_) | ((with_reducible apply s_call (f := 13) hF hM); exact rfl; exact rfl; exact rfl; exact rfl; exact rfl; exact (awake_c _ _ hM.lt); clear hF hM a; rintro v w a rfl - hM hF) | (with_reducible refine q_then_n ?_) | ((with_reducible apply s_pure hF); exact rfl; exact rfl; exact rfl; (first | exact trivial | omega | exact ⟨Int.natCast_nonneg _, Int.ofNat_lt.2 (by assumption)⟩ | decide); clear hF a; intro a hF) | (with_reducible refine w_ret ?_) | (with_reducible refine q_then_r ?_) | ((with_reducible apply c_true2 hF); exact rfl; (first | with_reducible rfl | (refine congrArg Value.bool ?_; focus (simp; done))))))
    (apply f_ret Try.results5 hF hM; (repeat (first | exact RL.nil | (apply RL.tmp; exact rfl) | (apply RL.cell; exact rfl; (repeat (first | exact List.mem_cons_self | refine List.mem_cons_of_mem _ ?_)); exact rfl))); refine Ret.mk hM.since ?_; dsimp only [resV])
  | true =>
    obtain ⟨hl12, hl30⟩ := hf rfl
    have e1 := fun {own W} hl => New29_c (x % 20 + 1) own W hl
    rw [if_pos (by omega), if_pos (by omega)] at e1
    (repeat' (first | (with_reducible refine w_seq ?_) | (with_reducible refine c_region ?_) | (with_reducible refine s_nil ?_) | ((with_reducible apply s_call (f := 23) hF hM); exact rfl; exact rfl; exact rfl; exact rfl; exact rfl; exact (e1 hM.lt); clear hF hM a; rintro v w a rfl - hM hF) | (with_reducible refine q_then_n ?_) | ((with_reducible apply s_pure hF); exact rfl; exact rfl; exact rfl; (first | exact trivial | omega | exact ⟨Int.natCast_nonneg _, Int.ofNat_lt.2 (by assumption)⟩ | decide); clear hF a; intro a hF) | ((with_reducible apply s_load hF hM); exact rfl; exact rfl; (repeat (first | exact List.mem_cons_self | refine List.mem_cons_of_mem _ ?_)); exact rfl; exact rfl; clear hF a; intro a hF) | ((with_reducible apply s_store hF hM); exact rfl; exact rfl; exact rfl; exact rfl; (repeat (first | exact Upd.z | apply Upd.s)); exact rfl; exact rfl; exact rfl; clear hM; intro w hM) | ((with_reducible apply s_alloc hF hM); exact rfl; exact rfl; exact rfl; clear hF hM a; intro b w a hM hF) | (with_reducible refine w_skip ?_) | (with_reducible refine w_block ?_) | ((with_reducible apply c_false2 hF); exact rfl; (first | with_reducible rfl | (refine congrArg Value.bool ?_; focus (simp; done))))))
    rename_i b7 _ _ _
    generalize b = b9 at *
    obtain ⟨cap, hcap⟩ : ∃ cap, x % 20 + 1 = cap := ⟨_, rfl⟩
    obtain ⟨N, hN⟩ : ∃ N : Nat, y % 8 + 1 = N := ⟨(y % 8 + 1).toNat, by omega⟩
    have hc1 : 1 ≤ cap ∧ cap ≤ 4096 := by omega
    have hN1 : 1 ≤ N ∧ N ≤ 4096 := by omega
    rw [hcap] at hM
    refine c_loop (m := ls.length) (fun m a w' => ∃ (k : Nat) (qa qb : List P) (xa xb : Option Addr) (ca cb na : Nat), m + k = ls.length ∧ qa.length = na ∧ SOk ⟨cap, ims qa⟩ ∧ ims qb = ims qa ∧ DatW qa ∧ DatW qb ∧ na ≤ ca ∧ na ≤ cb ∧
      Fr 98 [] [(36, .int .i64 k), (35, .int .i64 ls.length), (34, .slice al ls.length cl), (9, .pointer (some ⟨b9, 0, none⟩)), (7, .pointer (some ⟨b7, 0, none⟩)), (1, .int .u8 y)] a ∧
      Mm (fun _ => False) W [⟨b9, ⟨[.int .i64 cap, .slice xb na cb]⟩, 24⟩, ⟨b7, ⟨[.int .i64 cap, .slice xa na ca]⟩, 24⟩] [] [RdF id xa (cellsP qa), DatF qa, RdF id xb (cellsP qb), DatF qb, RdF encSP al ls, DatF (sP ls)] w')
      ⟨0, [], [], none, none, 0, 0, 0, by omega, rfl, ⟨hc1, by show (0 : Int) ≤ cap; omega, fun i hi => by simp [ims] at hi, fun i hi => by simp [ims] at hi, List.Pairwise.nil⟩, rfl, fun p hp => by simp at hp, fun p hp => by simp at hp, Nat.le_refl _, Nat.le_refl _, hF.sub (by repeat (first | exact Sub.nil | refine Sub.cons rfl (by first | with_reducible rfl | (refine congrArg (Value.int _) ?_; omega) | exact rfl) ?_)), ?_⟩ ?_
    · exact ((((hM.addFact (f := DatF []) (Has.pure fun _ p hp => by simp at hp)).addFact (f := RdF id none (cellsP [])) RdF.nil))).sub (.refl _) (.refl _) (fun f hf => by simp only [List.mem_cons, List.not_mem_nil, or_false] at hf ⊢; rcases hf with h | h | h | h | h | h <;> simp [h])
    clear hF hM a e1
    rintro m a w' ⟨k, qa, qb, xa, xb, ca, cb, na, hm, hqa, hS, hqe, hwa, hwb, hca, hcb, hF, hM⟩
    have hnb : qb.length = na := by rw [← ims_len, hqe, ims_len, hqa]
    have hna : na ≤ 4096 := by rw [← hqa, ← ims_len]; exact sok_len hS
    by_cases hk : k < ls.length
    · obtain ⟨q, hq⟩ := get_of_lt hk
      have hqm := List.mem_of_getElem? hq
      obtain ⟨hq8, hqc, hqby⟩ := hls ((⟨0, q.1⟩ : Itm), q.2) (List.mem_map.2 ⟨q, hqm, rfl⟩)
      have hq30 := hl30 q hqm
      have hqr := dat_one (hM.facts (DatF (sP ls)) (by (repeat (first | with_reducible exact List.mem_cons_self | refine List.mem_cons_of_mem _ ?_)))) (p := ((⟨0, q.1⟩ : Itm), q.2)) (List.mem_map.2 ⟨q, hqm, rfl⟩)
      obtain ⟨ad, rfl⟩ : ∃ ad, al = some ad := rd_some hM (enc := encSP) (a := al) (xs := ls) (by (repeat (first | with_reducible exact List.mem_cons_self | refine List.mem_cons_of_mem _ ?_))) hq
      obtain ⟨l, aq, cq⟩ := q
      dsimp only at hq8 hqc hqby hq30 hqr
      have hck : check ⟨cap, ims qa⟩ = 0 := check_ok.2 hS
      have hpa : ∀ p ∈ qa, p.1.x.length ≤ 100000 := sok_ps hS rfl
      have hpb : ∀ p ∈ qb, p.1.x.length ≤ 100000 := sok_ps hS hqe
      have henc := enc_ok hck hN1.1 hN1.2 l
      have hdec := dec_mir hck hN1.1 hN1.2 l
      obtain ⟨bd1, bd2, bd3⟩ := enc_bd henc
      have hnum : (encI cap (parts N l) (ims qa)).2.length = (l.length + N - 1) / N := by rw [encI_len, parts_num]
      obtain ⟨⟨ri, rt⟩, hr⟩ : ∃ r, encI cap (parts N l) (ims qa) = r := ⟨_, rfl⟩
      rw [hr] at henc hdec bd1 bd2 bd3 hnum
      dsimp only at henc hdec bd1 bd2 bd3 hnum
      have hck2 : check ⟨cap, ri⟩ = 0 := check_ok.2 bd1
      have hri := sok_len bd1
      have hdiv : ((rt.length : Nat) : Int) = ((l.length : Int) + (N : Int) - 1) / (N : Int) := by
        rw [hnum, Int.natCast_ediv]
        congr 1
        omega
      replace hM := hM.addFact hqr
      have e1 := fun {own W} hl h1 h2 hx => Encode29_c cap qa xa ca na hqa (by omega) hwa hpa own W hl h1 h2 l hq8 hqby aq cq l.length rfl (by omega) hqc hx (N : Int)
      rw [show encR ⟨cap, ims qa⟩ l (N : Int) = .ok (ri, rt) from henc] at e1
      (repeat' (first | (with_reducible refine w_seq ?_) | (with_reducible refine c_region ?_) | (with_reducible refine s_nil ?_) | (with_reducible refine q_then_n ?_) | ((with_reducible apply s_pure hF); exact rfl; exact rfl; exact rfl; (first | exact trivial | omega | exact ⟨Int.natCast_nonneg _, Int.ofNat_lt.2 (by assumption)⟩ | decide); clear hF a; intro a hF) | ((with_reducible apply s_load hF hM); exact rfl; exact rfl; (repeat (first | exact List.mem_cons_self | refine List.mem_cons_of_mem _ ?_)); exact rfl; exact rfl; clear hF a; intro a hF) | ((with_reducible apply s_loadF hF hM); exact rfl; exact rfl; (repeat (first | exact List.mem_cons_self | refine List.mem_cons_of_mem _ ?_)); exact rfl; exact rfl; (first | with_reducible assumption | (simp only [Int.toNat_natCast]; with_reducible assumption)); clear hF a; intro a hF) | (with_reducible refine w_skip ?_) | (with_reducible refine w_block ?_) | ((with_reducible apply c_dec hF); exact rfl; all_goals intro hc; all_goals (try (exfalso; omega)))))
      rw [hN] at hF
      unfold encSP at hF
      dsimp only at hF
      (((with_reducible apply s_call (f := 14) hF hM); exact rfl; exact rfl; exact rfl; exact rfl; exact rfl; exact (e1 hM.lt (hM.facts (RdF id xa (cellsP qa)) (by (repeat (first | with_reducible exact List.mem_cons_self | refine List.mem_cons_of_mem _ ?_)))) (hM.facts (DatF qa) (by (repeat (first | with_reducible exact List.mem_cons_self | refine List.mem_cons_of_mem _ ?_)))) (hM.facts (RdF (Value.int .u8) aq l.flatten) (by (repeat (first | with_reducible exact List.mem_cons_self | refine List.mem_cons_of_mem _ ?_))))); clear hF hM a; rintro v w a ⟨x1, y1, x2, y2, rfl, ⟨qs, q1, q2, q3, q4, q5⟩, us, u1, u2, u3, u4, u5⟩ - hM hF; replace hM := (((hM.addFact q3).addFact q4).addFact u3).addFact u4; clear q3 q4 u3 u4))
      dsimp only at hF q1 u1 q5
      have hul : us.length = rt.length := by rw [← tms_len, u1]
      have hsl : qs.length = ri.length := by rw [← ims_len, q1]
      have e2 := fun {own W} hl h1 h2 hx1 hx2 => Decode29_c cap qb xb cb na hnb (by omega) hwb hpb own W hl h1 h2 us u2 x2 y2 rt.length hul (by omega) hx1 hx2
      rw [show decR ⟨cap, ims qb⟩ (tms us) = .ok (ri, l) by rw [hqe, u1]; exact hdec] at e2
      (repeat (first | (with_reducible refine w_seq ?_) | (with_reducible refine c_region ?_) | (with_reducible refine s_nil ?_) | (with_reducible refine q_then_n ?_) | ((with_reducible apply s_pure hF); exact rfl; exact rfl; exact rfl; (first | exact trivial | omega | exact ⟨Int.natCast_nonneg _, Int.ofNat_lt.2 (by assumption)⟩ | decide); clear hF a; intro a hF) | ((with_reducible apply s_load hF hM); exact rfl; exact rfl; (repeat (first | exact List.mem_cons_self | refine List.mem_cons_of_mem _ ?_)); exact rfl; exact rfl; clear hF a; intro a hF) | ((with_reducible apply s_store hF hM); exact rfl; exact rfl; exact rfl; exact rfl; (repeat (first | exact Upd.z | apply Upd.s)); exact rfl; exact rfl; exact rfl; clear hM; intro w hM) | ((with_reducible apply s_alloc hF hM); exact rfl; exact rfl; exact rfl; clear hF hM a; intro b w a hM hF)))
      generalize b = b13 at *
      (((with_reducible apply s_call (f := 19) hF hM); exact rfl; exact rfl; exact rfl; exact rfl; exact rfl; exact (e2 hM.lt (hM.facts (RdF id xb (cellsP qb)) (by (repeat (first | with_reducible exact List.mem_cons_self | refine List.mem_cons_of_mem _ ?_)))) (hM.facts (DatF qb) (by (repeat (first | with_reducible exact List.mem_cons_self | refine List.mem_cons_of_mem _ ?_)))) (hM.facts (RdF id x2 (cellsT us)) (by (repeat (first | with_reducible exact List.mem_cons_self | refine List.mem_cons_of_mem _ ?_)))) (hM.facts (DatF (tP us)) (by (repeat (first | with_reducible exact List.mem_cons_self | refine List.mem_cons_of_mem _ ?_))))); clear hF hM a; rintro v w a ⟨x3, y3, x4, y4, rfl, ⟨ps2, p1, p2, p3, p4, p5⟩, v1, v2, v3, v4⟩ - hM hF; replace hM := ((hM.addFact p3).addFact p4).addFact v1; clear p3 p4 v1))
      dsimp only at hF hM p1 v2 v3 v4 p5
      have e3 := fun {own W} hl h1 h2 h3 h4 => Same_c cap cap qs ps2 q2 p2 (sok_ps bd1 q1) x1 x3 ri.length ri.length y1 y3 hsl (by rw [← ims_len, p1]) (by omega) own W hl h1 h2 h3 h4
      have e4 := fun {own W} hl h1 h2 => eqS_c l l v3 hq8 x4 aq l.length l.length y4 cq rfl rfl (by omega) own W hl h1 h2
      have e5 := fun {own W} hl h1 h2 => Check29_c cap qs x1 y1 ri.length hsl (by omega) q2 (sok_ps bd1 q1) own W hl h1 h2
      rw [decide_eq_true ⟨rfl, q1.trans p1.symm⟩] at e3
      rw [decide_eq_true rfl] at e4
      rw [q1, hck2] at e5
      (repeat (first | (with_reducible refine w_seq ?_) | (with_reducible refine c_region ?_) | (with_reducible refine s_nil ?_) | (with_reducible refine q_then_n ?_) | ((with_reducible apply s_pure hF); exact rfl; exact rfl; exact rfl; (first | exact trivial | omega | exact ⟨Int.natCast_nonneg _, Int.ofNat_lt.2 (by assumption)⟩ | decide); clear hF a; intro a hF) | ((with_reducible apply s_store hF hM); exact rfl; exact rfl; exact rfl; exact rfl; (repeat (first | exact Upd.z | apply Upd.s)); exact rfl; exact rfl; exact rfl; clear hM; intro w hM) | ((with_reducible apply s_alloc hF hM); exact rfl; exact rfl; exact rfl; clear hF hM a; intro b w a hM hF)))
      generalize b = b16 at *
      (repeat' (first | (with_reducible refine s_nil ?_) | ((with_reducible apply s_call (f := 21) hF hM); exact rfl; exact rfl; exact rfl; exact rfl; exact rfl; exact (e4 hM.lt (hM.facts (RdF (Value.int .u8) x4 l.flatten) (by (repeat (first | with_reducible exact List.mem_cons_self | refine List.mem_cons_of_mem _ ?_)))) (hM.facts (RdF (Value.int .u8) aq l.flatten) (by (repeat (first | with_reducible exact List.mem_cons_self | refine List.mem_cons_of_mem _ ?_))))); clear hF hM a; rintro v w a rfl - hM hF) | ((with_reducible apply s_call (f := 16) hF hM); exact rfl; exact rfl; exact rfl; exact rfl; exact rfl; exact (e3 hM.lt (hM.facts (RdF id x1 (cellsP qs)) (by (repeat (first | with_reducible exact List.mem_cons_self | refine List.mem_cons_of_mem _ ?_)))) (hM.facts (DatF qs) (by (repeat (first | with_reducible exact List.mem_cons_self | refine List.mem_cons_of_mem _ ?_)))) (hM.facts (RdF id x3 (cellsP ps2)) (by (repeat (first | with_reducible exact List.mem_cons_self | refine List.mem_cons_of_mem _ ?_)))) (hM.facts (DatF ps2) (by (repeat (first | with_reducible exact List.mem_cons_self | refine List.mem_cons_of_mem _ ?_))))); clear hF hM a; rintro v w a rfl - hM hF) | ((with_reducible apply s_call (f := 24) hF hM); exact rfl; exact rfl; exact rfl; exact rfl; exact rfl; exact (e5 hM.lt (hM.facts (RdF id x1 (cellsP qs)) (by (repeat (first | with_reducible exact List.mem_cons_self | refine List.mem_cons_of_mem _ ?_)))) (hM.facts (DatF qs) (by (repeat (first | with_reducible exact List.mem_cons_self | refine List.mem_cons_of_mem _ ?_))))); clear hF hM a; rintro v w a rfl - hM hF) | (with_reducible refine q_then_n ?_) | ((with_reducible apply s_pure hF); exact rfl; exact rfl; exact rfl; (first | exact trivial | omega | exact ⟨Int.natCast_nonneg _, Int.ofNat_lt.2 (by assumption)⟩ | decide); clear hF a; intro a hF) | ((with_reducible apply s_load hF hM); exact rfl; exact rfl; (repeat (first | exact List.mem_cons_self | refine List.mem_cons_of_mem _ ?_)); exact rfl; exact rfl; clear hF a; intro a hF) | (with_reducible refine w_skip ?_) | ((with_reducible apply c_false2 hF); exact rfl; (first | with_reducible rfl | (refine congrArg Value.bool ?_; focus (simp; done)))) | ((fail_if_success ((with_reducible refine g_known true hF ?_ ?_); focus exact rfl)); (fail_if_success ((with_reducible refine g_known false hF ?_ ?_); focus exact rfl)); (with_reducible apply g_dec hF); exact rfl; exact rfl; all_goals (clear hF; intro hc hF); all_goals (try (exfalso; omega)))))
      all_goals first | (exfalso; omega) | skip
      replace hM := hM.perm (bs' := [⟨b9, ⟨[.int .i64 cap, .slice xb na cb]⟩, 24⟩, ⟨b7, ⟨[.int .i64 cap, .slice xa na ca]⟩, 24⟩, ⟨b16, ⟨[.int .i64 cap, .slice x3 ri.length y3]⟩, 24⟩, ⟨b13, ⟨[.int .i64 cap, .slice x1 ri.length y1]⟩, 24⟩]) (List.perm_append_comm (l₁ := [_, _]) (l₂ := [_, _]))
      refine c_drawS (fun i => Nat.ble 4 i) (fun x hx => List.mem_cons_of_mem _ (List.mem_cons_of_mem _ (hx))) hM ?_; clear hM; intro w hM
      (first | (apply t_load (i := 0) hF rfl rfl rfl; (repeat (first | exact List.mem_cons_self | refine List.mem_cons_of_mem _ ?_)); exact rfl; exact rfl; kernel_rfl; exact (hM.sm.sub (fun x hx => by repeat (first | exact hx | refine List.mem_cons_of_mem _ ?_)) (fun _ h => by repeat (first | exact h | refine List.mem_cons_of_mem _ ?_))); exact (fun _ _ _ h => h); clear hF a; intro a hF))
      (first | (apply t_load (i := 1) hF rfl rfl rfl; (repeat (first | exact List.mem_cons_self | refine List.mem_cons_of_mem _ ?_)); exact rfl; exact rfl; kernel_rfl; exact (hM.sm.sub (fun x hx => by repeat (first | exact hx | refine List.mem_cons_of_mem _ ?_)) (fun _ h => by repeat (first | exact h | refine List.mem_cons_of_mem _ ?_))); exact (fun _ _ _ h => h); clear hF a; intro a hF))
      refine t_one (i := 2) hF rfl (by kernel_rfl) rfl ?_
      intro K hK
      (apply x_store hF hM rfl rfl rfl; (repeat (first | exact Upd.z | apply Upd.s)); exact rfl; exact rfl; exact rfl; clear hF hM a; intro w a hM hF)
      refine hK _ _ (fun _ => (hM.sm.sub (fun x hx => by repeat (first | exact hx | refine List.mem_cons_of_mem _ ?_)) (fun _ h => by repeat (first | exact h | refine List.mem_cons_of_mem _ ?_)))) ?_; clear hK
      refine t_one (i := 3) hF rfl (by kernel_rfl) rfl ?_
      intro K hK
      (apply x_store hF hM rfl rfl rfl; (repeat (first | exact Upd.z | apply Upd.s)); exact rfl; exact rfl; exact rfl; clear hF hM a; intro w a hM hF)
      refine hK _ _ (fun _ => (hM.sm.sub (fun x hx => by repeat (first | exact hx | refine List.mem_cons_of_mem _ ?_)) (fun _ h => by repeat (first | exact h | refine List.mem_cons_of_mem _ ?_)))) ?_; clear hK
      refine t_done (by kernel_rfl) ?_
      (repeat' (first | (with_reducible refine c_region ?_) | (with_reducible refine s_nil ?_) | (with_reducible refine q_then_n ?_) | ((with_reducible apply s_pure hF); exact rfl; exact rfl; exact rfl; (first | exact trivial | omega | exact ⟨Int.natCast_nonneg _, Int.ofNat_lt.2 (by assumption)⟩ | decide); clear hF a; intro a hF) | (with_reducible refine q_blk_n ?_)))
      refine ⟨m - 1, by omega, k + 1, qs, ps2, x1, x3, y1, y3, ri.length, by omega, hsl, by rw [q1]; exact bd1, p1.trans q1.symm, q2, p2, q5, p5, hF.sub (by repeat (first | exact Sub.nil | refine Sub.cons rfl (by first | with_reducible rfl | (refine congrArg (Value.int _) ?_; omega) | exact rfl) ?_)), hM.sub (.cons_cons _ (.cons_cons _ (.cons _ (.cons _ .slnil)))) (.refl _) (fun f hf => ?_)⟩
      simp only [List.mem_cons, List.not_mem_nil, or_false] at hf ⊢
      rcases hf with h | h | h | h | h | h <;> simp [h]
    · (repeat' (first | (with_reducible refine w_seq ?_) | (with_reducible refine c_region ?_) | (with_reducible refine s_nil ?_) | ((with_reducible apply s_call (f := 13) hF hM); exact rfl; exact rfl; exact rfl; exact rfl; exact rfl; exact (awake_c _ _ hM.lt); clear hF hM a; rintro v w a rfl - hM hF) | (with_reducible refine q_then_n ?_) | ((with_reducible apply s_pure hF); exact rfl; exact rfl; exact rfl; (first | exact trivial | omega | exact ⟨Int.natCast_nonneg _, Int.ofNat_lt.2 (by assumption)⟩ | decide); clear hF a; intro a hF) | (with_reducible refine w_exit ?_) | (with_reducible refine w_ret ?_) | (with_reducible refine q_then_x ?_) | (with_reducible refine q_blk_x ?_) | ((with_reducible apply c_dec hF); exact rfl; all_goals intro hc; all_goals (try (exfalso; omega)))))
      (apply f_ret Try.results5 hF hM; (repeat (first | exact RL.nil | (apply RL.tmp; exact rfl) | (apply RL.cell; exact rfl; (repeat (first | exact List.mem_cons_self | refine List.mem_cons_of_mem _ ?_)); exact rfl))); refine Ret.mk hM.since ?_; dsimp only [resV])
end Go.Proofs.Ytonelgecjmpbgaa

