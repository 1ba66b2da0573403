/- Texts of this seat, one behind the other: Th. -/
import Derived.Test.YtadfdpkhehdikaaQVBf
set_option linter.unusedSimpArgs false
set_option linter.unusedVariables false
set_option linter.unusedSectionVars false
set_option maxRecDepth 3000
/- The law TopCycleSupplied. -/
namespace Go.Proofs.Ytadfdpkhehdikaa
open Go.RowKit Go.Shelf D29
namespace D29
theorem addI_pp {cap : Int} {l : List Itm} {x : Dat} {PP : Dat → Prop} (hl : ∀ i ∈ l, PP i.x) (hx : PP x) : ∀ i ∈ addI cap l x, PP i.x := by
  have h2 : ∀ i ∈ l ++ [(⟨dg x, x⟩ : Itm)], PP i.x := fun i hi => by
    rcases List.mem_append.1 hi with hi | hi
    · exact hl i hi
    · rw [List.mem_singleton.1 hi]; exact hx
  unfold addI
  split
  · exact hl
  · split
    · exact fun i hi => h2 i (List.mem_of_mem_drop hi)
    · exact h2
theorem dec_pp {cap : Int} {PP : Dat → Prop} : ∀ {ts : List Tok} {l : List Itm} {o : Dat} {r : List Itm × Dat}, decI cap ts l o = .ok r → (∀ i ∈ l, PP i.x) → (∀ t ∈ ts, t.r = false → PP t.x) → ∀ i ∈ r.1, PP i.x
  | [], l, o, r, h, hl, _ => by
    injection h with h
    subst h
    exact hl
  | t :: ts, l, o, r, h, hl, ht => by
    rw [decI_cons] at h
    cases hc : corT t with
    | false => rw [hc] at h; cases h
    | true =>
      rw [hc] at h
      simp only [Bool.not_true, Bool.false_eq_true, if_false] at h
      have ht2 := fun s hs => ht s (List.mem_cons_of_mem _ hs)
      cases hr : t.r with
      | true =>
        rw [hr] at h
        simp only [if_true] at h
        cases hf : findI l t.d with
        | none => rw [hf] at h; cases h
        | some x =>
          rw [hf] at h
          obtain ⟨i, hi, _, e⟩ := findI_some hf
          exact dec_pp h (addI_pp hl (by rw [← e]; exact hl i hi)) ht2
      | false =>
        rw [hr] at h
        simp only [Bool.false_eq_true, if_false] at h
        exact dec_pp h (addI_pp hl (ht t List.mem_cons_self hr)) ht2
theorem StL.pp {ts : List Tok} {xs : List Dat} (h : StL ts xs) : ∀ t ∈ ts, t.r = false → t.x ∈ xs := by
  induction h with
  | nil => intro t ht; simp at ht
  | @cons t0 x0 ts xs h1 h2 ih =>
    intro t ht hr
    rcases List.mem_cons.1 ht with rfl | ht
    · obtain ⟨_, ⟨a, b, c⟩ | ⟨a, b, c⟩⟩ := h1
      · rw [hr] at a; cases a
      · rw [c]; exact List.mem_cons_self
    · exact List.mem_cons_of_mem _ (ih t ht hr)
theorem sup_pp {f : List Itm} {PP : Dat → Prop} (hf : ∀ i ∈ f, PP i.x) {ts : List Tok} (ht : ∀ t ∈ ts, t.r = false → PP t.x) : ∀ t ∈ ts.map (supT f), t.r = false → PP t.x := by
  intro t' h hr
  obtain ⟨t, hm, rfl⟩ := List.mem_map.1 h
  by_cases hc : t.r = true ∧ corT t = true
  · rw [supT_ok hc] at hr ⊢
    cases hs : supF f t.d with
    | none => rw [hs] at hr; exact ht t hm hr
    | some x =>
      unfold supF at hs
      rw [Option.map_eq_some_iff] at hs
      obtain ⟨i, hi, rfl⟩ := hs
      exact hf i (List.mem_of_find?_eq_some hi)
  · rw [supT_same hc] at hr ⊢
    exact ht t hm hr
end D29
set_option maxRecDepth 20000 in
set_option maxHeartbeats 16000000 in
theorem supplied16_c (x y : Int) (hx : 0 ≤ x ∧ x < 256) (hy : 0 ≤ y ∧ y < 256) (ls : List SP) (hls : DatW (sP ls)) (hq : ∀ q ∈ ls, q.1.length ≤ 1000000000000000) (bs : List Bool) (al ab : Option Addr) (cl cb : Nat) (W : World) (h1 : Has (fun _ => False) W (RdF encSP al ls)) (h2 : Has (fun _ => False) W (DatF (sP ls))) (h3 : Has (fun _ => False) W (RdF Value.bool ab bs)) :
    Calls Try.prog 4 ⟨[.agg #[.int .u8 x, .int .u8 y, .slice al ls.length cl, .slice ab bs.length cb]]⟩ W (Ret W fun v _ => v = .bool true) := by
  have hM := (((Mm.start (own := fun _ => False) (w := W) (fun _ h => h.elim)).known h3).known h2).known h1
  refine f_start Try.func4 rfl Try.ntmps4 rfl rfl ?_; intro a hF
  (repeat (first | (with_reducible refine w_seq ?_) | (with_reducible refine c_region ?_) | (with_reducible refine s_nil ?_) | (with_reducible refine q_then_n ?_) | ((with_reducible apply s_pure hF); exact rfl; exact rfl; exact rfl; (first | exact trivial | omega | exact ⟨Int.natCast_nonneg _, Int.ofNat_lt.2 (by assumption)⟩ | decide); clear hF a; intro a hF) | ((with_reducible apply s_load hF hM); exact rfl; exact rfl; (repeat (first | exact List.mem_cons_self | refine List.mem_cons_of_mem _ ?_)); exact rfl; exact rfl; clear hF a; intro a hF) | ((with_reducible apply s_box hF hM); exact rfl; exact rfl; exact rfl; exact rfl; clear hF hM a; intro b w a hM hF)))
  generalize b = b1 at *
  (((with_reducible apply s_call (f := 6) hF hM); exact rfl; exact rfl; exact rfl; exact rfl; exact rfl; exact (fewS_c x y ls hq al ab cl bs.length cb _ _ hM.lt (hM.facts (RdF encSP al ls) (by (repeat (first | with_reducible exact List.mem_cons_self | refine List.mem_cons_of_mem _ ?_))))); clear hF hM a; rintro v w a ⟨f, rfl, hf⟩ - hM hF))
  cases f with
  | false =>
    (repeat' (first | (with_reducible refine w_seq ?_) | (with_reducible refine c_region ?_) | (with_reducible refine s_nil ?_) | (with_reducible refine q_then_n ?_) | ((with_reducible apply s_pure hF); exact rfl; exact rfl; exact rfl; (first | exact trivial | omega | exact ⟨Int.natCast_nonneg _, Int.ofNat_lt.2 (by assumption)⟩ | decide); clear hF a; intro a hF) | (with_reducible refine w_ret ?_) | (with_reducible refine q_then_r ?_) | ((with_reducible apply c_true2 hF); exact rfl; (first | with_reducible rfl | (refine congrArg Value.bool ?_; focus (simp; done))))))
    (apply f_ret Try.results4 hF hM; (repeat (first | exact RL.nil | (apply RL.tmp; exact rfl) | (apply RL.cell; exact rfl; (repeat (first | exact List.mem_cons_self | refine List.mem_cons_of_mem _ ?_)); exact rfl))); refine Ret.mk hM.since ?_; dsimp only [resV])
  | true =>
    obtain ⟨hl21, hl120, hb30⟩ := hf rfl
    obtain ⟨N, hN⟩ : ∃ N : Nat, y % 4 + 1 = N := ⟨(y % 4 + 1).toNat, by omega⟩
    have hN1 : 1 ≤ N ∧ N ≤ 4096 := by omega
    have e0 := fun {own W} hl h1 h2 => runChunks_c ls hls hl120 hl21 al cl own W hl h1 h2 N hN1
    (repeat' (first | (with_reducible refine w_seq ?_) | (with_reducible refine c_region ?_) | (with_reducible refine s_nil ?_) | (with_reducible refine q_then_n ?_) | ((with_reducible apply s_pure hF); exact rfl; exact rfl; exact rfl; (first | exact trivial | omega | exact ⟨Int.natCast_nonneg _, Int.ofNat_lt.2 (by assumption)⟩ | decide); clear hF a; intro a hF) | ((with_reducible apply s_load hF hM); exact rfl; exact rfl; (repeat (first | exact List.mem_cons_self | refine List.mem_cons_of_mem _ ?_)); exact rfl; exact rfl; clear hF a; intro a hF) | (with_reducible refine w_skip ?_) | ((with_reducible apply c_false2 hF); exact rfl; (first | with_reducible rfl | (refine congrArg Value.bool ?_; focus (simp; done))))))
    rw [hN] at hF
    (((with_reducible apply s_call (f := 13) hF hM); exact rfl; exact rfl; exact rfl; exact rfl; exact rfl; exact (e0 hM.lt (hM.facts (RdF encSP al ls) (by (repeat (first | with_reducible exact List.mem_cons_self | refine List.mem_cons_of_mem _ ?_)))) (hM.facts (DatF (sP ls)) (by (repeat (first | with_reducible exact List.mem_cons_self | refine List.mem_cons_of_mem _ ?_))))); clear hF hM a; rintro v w a ⟨xc, cc, cs, rfl, hcs, hcn, hcw, k1, k2⟩ - hM hF; replace hM := (hM.addFact k1).addFact k2; clear k1 k2))
    have hisc : ∀ x ∈ sms cs, isCh x = true := fun x hx => by
      rw [hcs] at hx
      obtain ⟨p, hp, hx⟩ := List.mem_flatten.1 hx
      obtain ⟨l, hl, rfl⟩ := List.mem_map.1 hp
      exact parts_ch hN1.1 hN1.2 x hx
    have hcx : ∀ q ∈ cs, q.1.length ≤ 4096 := fun q hq => ch_len (hisc q.1 (List.mem_map.2 ⟨q, hq, rfl⟩))
    (repeat (first | (with_reducible refine w_seq ?_) | (with_reducible refine c_region ?_) | (with_reducible refine s_nil ?_) | (with_reducible refine q_then_n ?_) | ((with_reducible apply s_pure hF); exact rfl; exact rfl; exact rfl; (first | exact trivial | omega | exact ⟨Int.natCast_nonneg _, Int.ofNat_lt.2 (by assumption)⟩ | decide); clear hF a; intro a hF)))
    (((with_reducible apply s_call (f := 14) hF hM); exact rfl; exact rfl; exact rfl; exact rfl; exact rfl; exact (Collides_c cs hcw hcx _ rfl (by omega) xc cc _ _ hM.lt (hM.facts (RdF encSP xc cs) (by (repeat (first | with_reducible exact List.mem_cons_self | refine List.mem_cons_of_mem _ ?_)))) (hM.facts (DatF (sP cs)) (by (repeat (first | with_reducible exact List.mem_cons_self | refine List.mem_cons_of_mem _ ?_))))); clear hF hM a; rintro v w a ⟨f, rfl, hno⟩ - hM hF))
    cases f with
    | true =>
      (repeat' (first | (with_reducible refine w_seq ?_) | (with_reducible refine c_region ?_) | (with_reducible refine s_nil ?_) | (with_reducible refine q_then_n ?_) | ((with_reducible apply s_pure hF); exact rfl; exact rfl; exact rfl; (first | exact trivial | omega | exact ⟨Int.natCast_nonneg _, Int.ofNat_lt.2 (by assumption)⟩ | decide); clear hF a; intro a hF) | (with_reducible refine w_ret ?_) | (with_reducible refine q_then_r ?_) | ((with_reducible apply c_true2 hF); exact rfl; (first | with_reducible rfl | (refine congrArg Value.bool ?_; focus (simp; done))))))
      (apply f_ret Try.results4 hF hM; (repeat (first | exact RL.nil | (apply RL.tmp; exact rfl) | (apply RL.cell; exact rfl; (repeat (first | exact List.mem_cons_self | refine List.mem_cons_of_mem _ ?_)); exact rfl))); refine Ret.mk hM.since ?_; dsimp only [resV])
    | false =>
    replace hno := hno rfl
    obtain ⟨PP, hPP⟩ : ∃ PP : Dat → Prop, PP = fun x => x ∈ sms cs := ⟨_, rfl⟩
    have hnoc : NoC PP := by
      rw [hPP]
      exact fun x y hx hy e => hno x hx y hy e
    have hPs : ∀ x, PP x → x ∈ sms cs := fun x hx => by rw [hPP] at hx; exact hx
    have hsP : ∀ x, x ∈ sms cs → PP x := fun x hx => by rw [hPP]; exact hx
    have e1 := fun {own W} hl => New29_c (x % 12 + 1) own W hl
    rw [if_pos (by omega), if_pos (by omega)] at e1
    (repeat' (first | (with_reducible refine w_seq ?_) | (with_reducible refine c_region ?_) | (with_reducible refine s_nil ?_) | ((with_reducible apply s_call (f := 7) hF hM); exact rfl; exact rfl; exact rfl; exact rfl; exact rfl; exact (e1 hM.lt); clear hF hM a; rintro v w a rfl - hM hF) | (with_reducible refine q_then_n ?_) | ((with_reducible apply s_pure hF); exact rfl; exact rfl; exact rfl; (first | exact trivial | omega | exact ⟨Int.natCast_nonneg _, Int.ofNat_lt.2 (by assumption)⟩ | decide); clear hF a; intro a hF) | ((with_reducible apply s_load hF hM); exact rfl; exact rfl; (repeat (first | exact List.mem_cons_self | refine List.mem_cons_of_mem _ ?_)); exact rfl; exact rfl; clear hF a; intro a hF) | ((with_reducible apply s_store hF hM); exact rfl; exact rfl; exact rfl; exact rfl; (repeat (first | exact Upd.z | apply Upd.s)); exact rfl; exact rfl; exact rfl; clear hM; intro w hM) | ((with_reducible apply s_alloc hF hM); exact rfl; exact rfl; exact rfl; clear hF hM a; intro b w a hM hF) | (with_reducible refine w_skip ?_) | (with_reducible refine w_block ?_) | ((with_reducible apply c_false2 hF); exact rfl; (first | with_reducible rfl | (refine congrArg Value.bool ?_; focus (simp; done))))))
    rename_i b7 _ _ _
    generalize b = b9 at *
    obtain ⟨cap, hcap⟩ : ∃ cap, x % 12 + 1 = cap := ⟨_, rfl⟩
    have hc1 : 1 ≤ cap ∧ cap ≤ 4096 := by omega
    rw [hcap] at hM
    clear hPP hno e1 e0
    refine c_loop (m := ls.length) (fun m a w' => ∃ (k : Nat) (qa qb : List P) (xa xb : Option Addr) (ca cb' na nq : Nat), m + k = ls.length ∧ qa.length = na ∧ qb.length = nq ∧ SOk ⟨cap, ims qa⟩ ∧ SOk ⟨cap, ims qb⟩ ∧ (∀ i ∈ ims qa, PP i.x) ∧ (∀ i ∈ ims qb, PP i.x) ∧ DatW qa ∧ DatW qb ∧ na ≤ ca ∧
      Fr 127 [] [(48, .int .i64 k), (47, .int .i64 ls.length), (46, .slice al ls.length cl), (7, .pointer (some ⟨b9, 0, none⟩)), (5, .pointer (some ⟨b7, 0, none⟩)), (4, .slice xc cs.length cc), (3, .int .i64 N), (1, .pointer (some ⟨b1, 0, none⟩))] a ∧
      Mm (fun _ => False) W [⟨b9, ⟨[.int .i64 cap, .slice xb nq cb']⟩, 29⟩, ⟨b7, ⟨[.int .i64 cap, .slice xa na ca]⟩, 29⟩, ⟨b1, ⟨[.int .u8 x, .int .u8 y, .slice al ls.length cl, .slice ab bs.length cb]⟩, 25⟩] [] [RdF id xa (cellsP qa), DatF qa, RdF id xb (cellsP qb), DatF qb, RdF encSP xc cs, DatF (sP cs), RdF encSP al ls, DatF (sP ls), RdF Value.bool ab bs] w')
      ⟨0, [], [], none, none, 0, 0, 0, 0, by omega, rfl, rfl, ⟨hc1, by show (0 : Int) ≤ cap; omega, fun i hi => by simp [ims] at hi, fun i hi => by simp [ims] at hi, List.Pairwise.nil⟩, ⟨hc1, by show (0 : Int) ≤ cap; omega, fun i hi => by simp [ims] at hi, fun i hi => by simp [ims] at hi, List.Pairwise.nil⟩, fun i hi => by simp [ims] at hi, fun i hi => by simp [ims] at hi, fun p hp => by simp at hp, fun p hp => by simp at hp, Nat.le_refl _, hF.sub (by repeat (first | exact Sub.nil | refine Sub.cons rfl (by first | with_reducible rfl | (refine congrArg (Value.int _) ?_; omega) | exact rfl) ?_)), ?_⟩ ?_
    · exact ((((hM.addFact (f := DatF []) (Has.pure fun _ p hp => by simp at hp)).addFact (f := RdF id none (cellsP [])) RdF.nil))).sub (.refl _) (.refl _) (fun f hf => by simp only [List.mem_cons, List.not_mem_nil, or_false] at hf ⊢; rcases hf with h | h | h | h | h | h | h | h | h <;> simp [h])
    clear hF hM a
    rintro m a w' ⟨k, qa, qb, xa, xb, ca, cb', na, nq, hm, hqa, hqb, hS, hSb, hpa, hpb, hwa, hwb, hca, hF, hM⟩
    have hna : na ≤ 4096 := by rw [← hqa, ← ims_len]; exact sok_len hS
    have hnb : nq ≤ 4096 := by rw [← hqb, ← ims_len]; exact sok_len hSb
    by_cases hk : k < ls.length
    · obtain ⟨q, hq⟩ := get_of_lt hk
      have hqm := List.mem_of_getElem? hq
      obtain ⟨hq8, hqc, hqby⟩ := hls ((⟨0, q.1⟩ : Itm), q.2) (List.mem_map.2 ⟨q, hqm, rfl⟩)
      have hq30 := totS_mem hqm
      have hqr := dat_sp (hM.facts (DatF (sP ls)) (by (repeat (first | with_reducible exact List.mem_cons_self | refine List.mem_cons_of_mem _ ?_)))) hqm
      have hPx : ∀ x ∈ parts N q.1, PP x := fun x hx => hsP x (by
        rw [hcs]
        exact List.mem_flatten.2 ⟨_, List.mem_map.2 ⟨q.1, List.mem_map.2 ⟨q, hqm, rfl⟩, rfl⟩, hx⟩)
      obtain ⟨ad, rfl⟩ : ∃ ad, al = some ad := rd_some hM (enc := encSP) (a := al) (xs := ls) (by (repeat (first | with_reducible exact List.mem_cons_self | refine List.mem_cons_of_mem _ ?_))) hq
      obtain ⟨l, aq, cq⟩ := q
      dsimp only at hq8 hqc hqby hq30 hqr hPx
      have hl120' : l.length ≤ 120 := by omega
      have hck : check ⟨cap, ims qa⟩ = 0 := check_ok.2 hS
      have hckb : check ⟨cap, ims qb⟩ = 0 := check_ok.2 hSb
      have hpxa : ∀ p ∈ qa, p.1.x.length ≤ 100000 := sok_ps hS rfl
      have hpxb : ∀ p ∈ qb, p.1.x.length ≤ 100000 := sok_ps hSb rfl
      have henc := enc_ok hck hN1.1 hN1.2 l
      have hmir := dec_mir hck hN1.1 hN1.2 l
      obtain ⟨bd1, bd2, bd3⟩ := enc_bd henc
      obtain ⟨hc5, hc6, hc7⟩ := enc_carry (cap := cap) hN1.1 hN1.2 hq8 hl120' (ims qa)
      have hstl : StL (encI cap (parts N l) (ims qa)).2 (parts N l) := enc_stl (parts_ch hN1.1 hN1.2)
      have hpf : (parts N l).flatten = l := parts_flat hN1.1
      obtain ⟨⟨ri, rt⟩, hr⟩ : ∃ r, encI cap (parts N l) (ims qa) = r := ⟨_, rfl⟩
      rw [hr] at henc hmir bd1 bd2 bd3 hc5 hc6 hc7 hstl
      dsimp only at henc hmir bd1 bd2 bd3 hc5 hc6 hc7 hstl
      have htp : ∀ t ∈ rt, t.r = false → PP t.x := fun t ht hr => hPx _ (hstl.pp t ht hr)
      have hrip : ∀ i ∈ ri, PP i.x := by
        unfold decR at hmir
        rw [hck, if_neg (by simp)] at hmir
        exact dec_pp hmir hpa htp
      have hri := sok_len bd1
      have hPb : ∀ i ∈ ims qb, i.d = dg i.x ∧ PP i.x := fun i hi => ⟨hSb.its.dg i hi, hpb i hi⟩
      obtain ⟨ms, hms⟩ : ∃ ms, misI cap rt ((ims qb).map (·.d)) [] = ms := ⟨_, rfl⟩
      have hmR : misR ⟨cap, ims qb⟩ rt = ms := by rw [misR_ok hckb hstl.nany]; exact hms
      have hmsd : ∀ d ∈ ms, ∃ x ∈ sms cs, dg x = d := fun d hd => by
        rw [← hms] at hd
        rcases mis_ref hd with h | ⟨t, ht, hr, e⟩
        · simp at h
        · obtain ⟨x, hx, e2⟩ := hstl.ref t ht hr
          exact ⟨x, hPs x (hPx x hx), by rw [← e2, e]⟩
      have hmsl : ms.length ≤ 1000 := by
        have := misR_len (c := ⟨cap, ims qb⟩) (l := rt)
        rw [hmR] at this
        omega
      obtain ⟨d1, d2⟩ := dec_raw hnoc (cap := cap) hstl (l := ims qb) (o := []) hPx hPb
      rw [hms] at d1 d2
      rw [List.nil_append, hpf] at d1
      replace hM := hM.addFact hqr
      have e1 := fun {own W} hl h1 h2 hx => Encode29_c cap qa xa ca na hqa (by omega) hwa hpxa own W hl h1 h2 l hq8 hqby aq cq l.length rfl (by omega) hqc hx (N : Int)
      rw [show encR ⟨cap, ims qa⟩ l (N : Int) = .ok (ri, rt) from henc] at e1
      (repeat (first | (with_reducible refine w_seq ?_) | (with_reducible refine c_region ?_) | (with_reducible refine s_nil ?_) | (with_reducible refine q_then_n ?_) | ((with_reducible apply s_pure hF); exact rfl; exact rfl; exact rfl; (first | exact trivial | omega | exact ⟨Int.natCast_nonneg _, Int.ofNat_lt.2 (by assumption)⟩ | decide); clear hF a; intro a hF)))
      rw [decide_eq_true (show (k : Int) < (ls.length : Int) by omega)] at hF
      (repeat (first | (with_reducible refine w_seq ?_) | (with_reducible refine c_region ?_) | (with_reducible refine s_nil ?_) | (with_reducible refine q_then_n ?_) | ((with_reducible apply s_pure hF); exact rfl; exact rfl; exact rfl; (first | exact trivial | omega | exact ⟨Int.natCast_nonneg _, Int.ofNat_lt.2 (by assumption)⟩ | decide); clear hF a; intro a hF) | ((with_reducible apply s_load hF hM); exact rfl; exact rfl; (repeat (first | exact List.mem_cons_self | refine List.mem_cons_of_mem _ ?_)); exact rfl; exact rfl; clear hF a; intro a hF) | ((with_reducible apply s_loadF hF hM); exact rfl; exact rfl; (repeat (first | exact List.mem_cons_self | refine List.mem_cons_of_mem _ ?_)); exact rfl; exact rfl; (first | with_reducible assumption | (simp only [Int.toNat_natCast]; with_reducible assumption)); clear hF a; intro a hF) | (with_reducible refine w_skip ?_) | (with_reducible refine w_block ?_) | ((with_reducible apply c_true2 hF); exact rfl; (first | with_reducible rfl | (refine congrArg Value.bool ?_; focus (simp; done))))))
      unfold encSP at hF
      dsimp only at hF
      (((with_reducible apply s_call (f := 8) hF hM); exact rfl; exact rfl; exact rfl; exact rfl; exact rfl; exact (e1 hM.lt (hM.facts (RdF id xa (cellsP qa)) (by (repeat (first | with_reducible exact List.mem_cons_self | refine List.mem_cons_of_mem _ ?_)))) (hM.facts (DatF qa) (by (repeat (first | with_reducible exact List.mem_cons_self | refine List.mem_cons_of_mem _ ?_)))) (hM.facts (RdF (Value.int .u8) aq l.flatten) (by (repeat (first | with_reducible exact List.mem_cons_self | refine List.mem_cons_of_mem _ ?_))))); clear hF hM a; rintro v w a ⟨x1, y1, x2, y2, rfl, ⟨qs, q1, q2, q3, q4, q5⟩, us, u1, u2, u3, u4, u5⟩ - hM hF; replace hM := (((hM.addFact q3).addFact q4).addFact u3).addFact u4; clear q3 q4 u3 u4))
      dsimp only at hF q1 u1 q5
      have hul : us.length = rt.length := by rw [← tms_len, u1]
      have hsl : qs.length = ri.length := by rw [← ims_len, q1]
      have hux : ∀ t ∈ us, t.1.x.length ≤ 4096 := fun t ht => bd2 t.1 (by rw [← u1]; exact List.mem_map.2 ⟨t, ht, rfl⟩)
      have e6 := fun {own W} hl h1 h2 => runCarry_c us u2 (by rw [u1]; exact hc5) hux (by rw [u1]; exact hc6) rt.length hul (by omega) x2 y2 own W hl h1 h2
      (repeat (first | (with_reducible refine w_seq ?_) | (with_reducible refine c_region ?_) | (with_reducible refine s_nil ?_) | (with_reducible refine q_then_n ?_) | ((with_reducible apply s_pure hF); exact rfl; exact rfl; exact rfl; (first | exact trivial | omega | exact ⟨Int.natCast_nonneg _, Int.ofNat_lt.2 (by assumption)⟩ | decide); clear hF a; intro a hF) | ((with_reducible apply s_store hF hM); exact rfl; exact rfl; exact rfl; exact rfl; (repeat (first | exact Upd.z | apply Upd.s)); exact rfl; exact rfl; exact rfl; clear hM; intro w hM) | ((with_reducible apply s_alloc hF hM); exact rfl; exact rfl; exact rfl; clear hF hM a; intro b w a hM hF)))
      generalize b = b13 at *
      (((with_reducible apply s_call (f := 9) hF hM); exact rfl; exact rfl; exact rfl; exact rfl; exact rfl; exact (e6 hM.lt (hM.facts (RdF id x2 (cellsT us)) (by (repeat (first | with_reducible exact List.mem_cons_self | refine List.mem_cons_of_mem _ ?_)))) (hM.facts (DatF (tP us)) (by (repeat (first | with_reducible exact List.mem_cons_self | refine List.mem_cons_of_mem _ ?_))))); clear hF hM a; rintro v w a ⟨x5, y5, rfl, vs, v1, v2, v3, v4, v5⟩ - hM hF; replace hM := (hM.addFact v3).addFact v4; clear v3 v4))
      rw [u1] at v1
      have hvl : vs.length = rt.length := by rw [← tms_len, v1]
      have hvx := toks_ps bd2 v1
      have e3 := fun {own W} hl h1 h2 hx1 hx2 => Missing29_c cap qb xb cb' nq hqb (by omega) hwb hpxb own W hl h1 h2 vs v2 hvx x5 y5 rt.length hvl (by omega) hx1 hx2
      rw [show misR ⟨cap, ims qb⟩ (tms vs) = ms by rw [v1]; exact hmR] at e3
      have e5 := fun {own W} hl h1 h2 hx1 hx2 => Decode29_c cap qb xb cb' nq hqb (by omega) hwb hpxb own W hl h1 h2 vs v2 x5 y5 rt.length hvl (by omega) hx1 hx2
      (repeat' (first | (with_reducible refine w_seq ?_) | (with_reducible refine c_region ?_) | (with_reducible refine s_nil ?_) | (with_reducible refine q_then_n ?_) | ((with_reducible apply s_pure hF); exact rfl; exact rfl; exact rfl; (first | exact trivial | omega | exact ⟨Int.natCast_nonneg _, Int.ofNat_lt.2 (by assumption)⟩ | decide); clear hF a; intro a hF) | ((with_reducible apply s_load hF hM); exact rfl; exact rfl; (repeat (first | exact List.mem_cons_self | refine List.mem_cons_of_mem _ ?_)); exact rfl; exact rfl; clear hF a; intro a hF) | (with_reducible refine w_skip ?_) | ((with_reducible apply c_false2 hF); exact rfl; (first | with_reducible rfl | (refine congrArg Value.bool ?_; focus (simp; done))))))
      (((with_reducible apply s_call (f := 15) hF hM); exact rfl; exact rfl; exact rfl; exact rfl; exact rfl; exact (e3 hM.lt (hM.facts (RdF id xb (cellsP qb)) (by (repeat (first | with_reducible exact List.mem_cons_self | refine List.mem_cons_of_mem _ ?_)))) (hM.facts (DatF qb) (by (repeat (first | with_reducible exact List.mem_cons_self | refine List.mem_cons_of_mem _ ?_)))) (hM.facts (RdF id x5 (cellsT vs)) (by (repeat (first | with_reducible exact List.mem_cons_self | refine List.mem_cons_of_mem _ ?_)))) (hM.facts (DatF (tP vs)) (by (repeat (first | with_reducible exact List.mem_cons_self | refine List.mem_cons_of_mem _ ?_))))); clear hF hM a; rintro v w a ⟨am, cm, rfl, hmr⟩ - hM hF))
      replace hM := hM.addFact hmr
      (repeat (first | (with_reducible refine w_seq ?_) | (with_reducible refine c_region ?_) | (with_reducible refine s_nil ?_) | (with_reducible refine q_then_n ?_) | ((with_reducible apply s_pure hF); exact rfl; exact rfl; exact rfl; (first | exact trivial | omega | exact ⟨Int.natCast_nonneg _, Int.ofNat_lt.2 (by assumption)⟩ | decide); clear hF a; intro a hF) | ((with_reducible apply s_load hF hM); exact rfl; exact rfl; (repeat (first | exact List.mem_cons_self | refine List.mem_cons_of_mem _ ?_)); exact rfl; exact rfl; clear hF a; intro a hF)))
      by_cases hm0 : ms = []
      · obtain ⟨l1, hl1⟩ := d1 hm0
        have hdR : decR ⟨cap, ims qb⟩ rt = .ok (l1, l) := by
          unfold decR
          rw [hckb, if_neg (by simp)]
          exact hl1
        rw [show decR ⟨cap, ims qb⟩ (tms vs) = .ok (l1, l) by rw [v1]; exact hdR] at e5
        have hs1 := (dec_bd hdR).1
        have hp1 := dec_pp hl1 hpb htp
        dsimp only at hs1 hp1
        have hml0 : ms.length = 0 := by rw [hm0]; rfl
        (((with_reducible apply s_call (f := 10) hF hM); exact rfl; exact rfl; exact rfl; exact rfl; exact rfl; exact (e5 hM.lt (hM.facts (RdF id xb (cellsP qb)) (by (repeat (first | with_reducible exact List.mem_cons_self | refine List.mem_cons_of_mem _ ?_)))) (hM.facts (DatF qb) (by (repeat (first | with_reducible exact List.mem_cons_self | refine List.mem_cons_of_mem _ ?_)))) (hM.facts (RdF id x5 (cellsT vs)) (by (repeat (first | with_reducible exact List.mem_cons_self | refine List.mem_cons_of_mem _ ?_)))) (hM.facts (DatF (tP vs)) (by (repeat (first | with_reducible exact List.mem_cons_self | refine List.mem_cons_of_mem _ ?_))))); clear hF hM a; rintro v w a ⟨x7, y7, x8, y8, rfl, ⟨qc, p1, p2, p3, p4, p5⟩, w1, w2, w3, w4⟩ - hM hF; replace hM := ((hM.addFact p3).addFact p4).addFact w1; clear p3 p4 w1))
        dsimp only at hF hM p1 w2 w3 w4 p5
        rw [hml0] at hF
        (repeat (first | (with_reducible refine w_seq ?_) | (with_reducible refine c_region ?_) | (with_reducible refine s_nil ?_) | ((with_reducible apply s_neB hF); exact rfl; exact rfl; exact rfl; kernel_rfl; kernel_rfl; exact rfl; clear hF a; intro a hF) | (with_reducible refine q_then_n ?_) | ((with_reducible apply s_pure hF); exact rfl; exact rfl; exact rfl; (first | exact trivial | omega | exact ⟨Int.natCast_nonneg _, Int.ofNat_lt.2 (by assumption)⟩ | decide); clear hF a; intro a hF) | ((with_reducible apply s_store hF hM); exact rfl; exact rfl; exact rfl; exact rfl; (repeat (first | exact Upd.z | apply Upd.s)); exact rfl; exact rfl; exact rfl; clear hM; intro w hM) | ((with_reducible apply s_alloc hF hM); exact rfl; exact rfl; exact rfl; clear hF hM a; intro b w a hM hF) | (with_reducible refine w_skip ?_) | ((with_reducible apply c_false2 hF); exact rfl; (first | with_reducible rfl | (refine congrArg Value.bool ?_; focus (simp; done))))))
        generalize b = b16 at *
        have hcl2 : qc.length = l1.length := by rw [← ims_len, p1]
        (repeat' (first | (with_reducible refine w_seq ?_) | (with_reducible refine s_nil ?_) | ((with_reducible apply s_call (f := 11) hF hM); exact rfl; exact rfl; exact rfl; exact rfl; exact rfl; exact (SameS_c l l w3 hq8 x8 aq l.length l.length y8 cq rfl rfl (by omega) _ _ hM.lt (hM.facts (RdF (Value.int .u8) x8 l.flatten) (by (repeat (first | with_reducible exact List.mem_cons_self | refine List.mem_cons_of_mem _ ?_)))) (hM.facts (RdF (Value.int .u8) aq l.flatten) (by (repeat (first | with_reducible exact List.mem_cons_self | refine List.mem_cons_of_mem _ ?_))))); clear hF hM a; rintro v w a rfl - hM hF; rw [decide_eq_true rfl] at hF) | (with_reducible refine q_then_n ?_) | ((with_reducible apply s_pure hF); exact rfl; exact rfl; exact rfl; (first | exact trivial | omega | exact ⟨Int.natCast_nonneg _, Int.ofNat_lt.2 (by assumption)⟩ | decide); clear hF a; intro a hF) | (with_reducible refine w_skip ?_) | ((with_reducible apply c_false2 hF); exact rfl; (first | with_reducible rfl | (refine congrArg Value.bool ?_; focus (simp; done))))))
        all_goals first | (exfalso; omega) | skip
        replace hM := hM.perm (bs' := [⟨b9, ⟨[.int .i64 cap, .slice xb nq cb']⟩, 29⟩, ⟨b7, ⟨[.int .i64 cap, .slice xa na ca]⟩, 29⟩, ⟨b1, ⟨[.int .u8 x, .int .u8 y, .slice (some ad) ls.length cl, .slice ab bs.length cb]⟩, 25⟩, ⟨b16, ⟨[.int .i64 cap, .slice x7 l1.length y7]⟩, 29⟩, ⟨b13, ⟨[.int .i64 cap, .slice x1 ri.length y1]⟩, 29⟩]) (List.perm_append_comm (l₁ := [_, _]) (l₂ := [_, _, _]))
        refine c_drawS (fun i => Nat.ble 4 i) (fun x hx => List.mem_cons_of_mem _ (List.mem_cons_of_mem _ (hx))) hM ?_; clear hM; intro w hM
        (first | (apply t_load (i := 0) hF rfl rfl rfl; (repeat (first | exact List.mem_cons_self | refine List.mem_cons_of_mem _ ?_)); exact rfl; exact rfl; kernel_rfl; exact (hM.sm.sub (fun x hx => by repeat (first | exact hx | refine List.mem_cons_of_mem _ ?_)) (fun _ h => by repeat (first | exact h | refine List.mem_cons_of_mem _ ?_))); exact (fun _ _ _ h => h); clear hF a; intro a hF))
        (first | (apply t_load (i := 1) hF rfl rfl rfl; (repeat (first | exact List.mem_cons_self | refine List.mem_cons_of_mem _ ?_)); exact rfl; exact rfl; kernel_rfl; exact (hM.sm.sub (fun x hx => by repeat (first | exact hx | refine List.mem_cons_of_mem _ ?_)) (fun _ h => by repeat (first | exact h | refine List.mem_cons_of_mem _ ?_))); exact (fun _ _ _ h => h); clear hF a; intro a hF))
        refine t_one (i := 2) hF rfl (by kernel_rfl) rfl ?_
        intro K hK
        (apply x_store hF hM rfl rfl rfl; (repeat (first | exact Upd.z | apply Upd.s)); exact rfl; exact rfl; exact rfl; clear hF hM a; intro w a hM hF)
        refine hK _ _ (fun _ => (hM.sm.sub (fun x hx => by repeat (first | exact hx | refine List.mem_cons_of_mem _ ?_)) (fun _ h => by repeat (first | exact h | refine List.mem_cons_of_mem _ ?_)))) ?_; clear hK
        refine t_one (i := 3) hF rfl (by kernel_rfl) rfl ?_
        intro K hK
        (apply x_store hF hM rfl rfl rfl; (repeat (first | exact Upd.z | apply Upd.s)); exact rfl; exact rfl; exact rfl; clear hF hM a; intro w a hM hF)
        refine hK _ _ (fun _ => (hM.sm.sub (fun x hx => by repeat (first | exact hx | refine List.mem_cons_of_mem _ ?_)) (fun _ h => by repeat (first | exact h | refine List.mem_cons_of_mem _ ?_)))) ?_; clear hK
        refine t_done (by kernel_rfl) ?_
        by_cases hkb : k < bs.length
        · obtain ⟨bb, hbb⟩ := get_of_lt hkb
          obtain ⟨adb, rfl⟩ : ∃ ad, ab = some ad := rd_some hM (enc := Value.bool) (a := ab) (xs := bs) (by (repeat (first | with_reducible exact List.mem_cons_self | refine List.mem_cons_of_mem _ ?_))) hbb
          cases bb with
          | true =>
            (repeat' (first | (with_reducible refine w_seq ?_) | (with_reducible refine c_region ?_) | (with_reducible refine s_nil ?_) | (with_reducible refine q_then_n ?_) | ((with_reducible apply s_pure hF); exact rfl; exact rfl; exact rfl; (first | exact trivial | omega | exact ⟨Int.natCast_nonneg _, Int.ofNat_lt.2 (by assumption)⟩ | decide); clear hF a; intro a hF) | ((with_reducible apply s_load hF hM); exact rfl; exact rfl; (repeat (first | exact List.mem_cons_self | refine List.mem_cons_of_mem _ ?_)); exact rfl; exact rfl; clear hF a; intro a hF) | ((with_reducible apply s_loadF hF hM); exact rfl; exact rfl; (repeat (first | exact List.mem_cons_self | refine List.mem_cons_of_mem _ ?_)); exact rfl; exact rfl; (first | with_reducible assumption | (simp only [Int.toNat_natCast]; with_reducible assumption)); clear hF a; intro a hF) | ((with_reducible apply s_store hF hM); exact rfl; exact rfl; exact rfl; exact rfl; (repeat (first | exact Upd.z | apply Upd.s)); exact rfl; exact rfl; exact rfl; clear hM; intro w hM) | (with_reducible refine q_blk_n ?_) | ((with_reducible apply c_true2 hF); exact rfl; (first | with_reducible rfl | (refine congrArg Value.bool ?_; focus (simp; done)))) | ((fail_if_success ((with_reducible refine g_known true hF ?_ ?_); focus exact rfl)); (fail_if_success ((with_reducible refine g_known false hF ?_ ?_); focus exact rfl)); (with_reducible apply g_dec hF); exact rfl; exact rfl; all_goals (clear hF; intro hc hF); all_goals (try (exfalso; omega)))))
            refine ⟨m - 1, by omega, k + 1, qs, [], x1, none, y1, 0, ri.length, 0, by omega, hsl, rfl, by rw [q1]; exact bd1, ⟨hc1, by show (0 : Int) ≤ cap; omega, fun i hi => by simp [ims] at hi, fun i hi => by simp [ims] at hi, List.Pairwise.nil⟩, by rw [q1]; exact hrip, fun i hi => by simp [ims] at hi, q2, fun p hp => by simp at hp, q5, hF.sub (by repeat (first | exact Sub.nil | refine Sub.cons rfl (by first | with_reducible rfl | (refine congrArg (Value.int _) ?_; omega) | exact rfl) ?_)), ((hM.addFact (f := DatF []) (Has.pure fun _ p hp => by simp at hp)).addFact (f := RdF id none (cellsP [])) RdF.nil).sub (.cons_cons _ (.cons_cons _ (.cons_cons _ (.cons _ (.cons _ .slnil))))) (.refl _) (fun f hf => ?_)⟩
            simp only [List.mem_cons, List.not_mem_nil, or_false] at hf ⊢
            rcases hf with h | h | h | h | h | h | h | h | h <;> simp [h]
          | false =>
            (repeat' (first | (with_reducible refine w_seq ?_) | (with_reducible refine c_region ?_) | (with_reducible refine s_nil ?_) | (with_reducible refine q_then_n ?_) | ((with_reducible apply s_pure hF); exact rfl; exact rfl; exact rfl; (first | exact trivial | omega | exact ⟨Int.natCast_nonneg _, Int.ofNat_lt.2 (by assumption)⟩ | decide); clear hF a; intro a hF) | ((with_reducible apply s_load hF hM); exact rfl; exact rfl; (repeat (first | exact List.mem_cons_self | refine List.mem_cons_of_mem _ ?_)); exact rfl; exact rfl; clear hF a; intro a hF) | ((with_reducible apply s_loadF hF hM); exact rfl; exact rfl; (repeat (first | exact List.mem_cons_self | refine List.mem_cons_of_mem _ ?_)); exact rfl; exact rfl; (first | with_reducible assumption | (simp only [Int.toNat_natCast]; with_reducible assumption)); clear hF a; intro a hF) | (with_reducible refine w_skip ?_) | (with_reducible refine q_blk_n ?_) | ((with_reducible apply c_false2 hF); exact rfl; (first | with_reducible rfl | (refine congrArg Value.bool ?_; focus (simp; done)))) | ((fail_if_success ((with_reducible refine g_known true hF ?_ ?_); focus exact rfl)); (fail_if_success ((with_reducible refine g_known false hF ?_ ?_); focus exact rfl)); (with_reducible apply g_dec hF); exact rfl; exact rfl; all_goals (clear hF; intro hc hF); all_goals (try (exfalso; omega)))))
            refine ⟨m - 1, by omega, k + 1, qs, qc, x1, x7, y1, y7, ri.length, l1.length, by omega, hsl, hcl2, by rw [q1]; exact bd1, by rw [p1]; exact hs1, by rw [q1]; exact hrip, by rw [p1]; exact hp1, q2, p2, q5, hF.sub (by repeat (first | exact Sub.nil | refine Sub.cons rfl (by first | with_reducible rfl | (refine congrArg (Value.int _) ?_; omega) | exact rfl) ?_)), hM.sub (.cons_cons _ (.cons_cons _ (.cons_cons _ (.cons _ (.cons _ .slnil))))) (.refl _) (fun f hf => ?_)⟩
            simp only [List.mem_cons, List.not_mem_nil, or_false] at hf ⊢
            rcases hf with h | h | h | h | h | h | h | h | h <;> simp [h]
        · (repeat' (first | (with_reducible refine w_seq ?_) | (with_reducible refine c_region ?_) | (with_reducible refine s_nil ?_) | (with_reducible refine q_then_n ?_) | ((with_reducible apply s_pure hF); exact rfl; exact rfl; exact rfl; (first | exact trivial | omega | exact ⟨Int.natCast_nonneg _, Int.ofNat_lt.2 (by assumption)⟩ | decide); clear hF a; intro a hF) | ((with_reducible apply s_load hF hM); exact rfl; exact rfl; (repeat (first | exact List.mem_cons_self | refine List.mem_cons_of_mem _ ?_)); exact rfl; exact rfl; clear hF a; intro a hF) | (with_reducible refine w_skip ?_) | (with_reducible refine q_blk_n ?_) | ((with_reducible apply c_false2 hF); exact rfl; (first | with_reducible rfl | (refine congrArg Value.bool ?_; focus (simp; done)))) | ((with_reducible apply s_skip hF); exact rfl; exact rfl; clear hF a; intro a hF) | ((fail_if_success ((with_reducible refine g_known true hF ?_ ?_); focus exact rfl)); (fail_if_success ((with_reducible refine g_known false hF ?_ ?_); focus exact rfl)); (with_reducible apply g_dec hF); exact rfl; exact rfl; all_goals (clear hF; intro hc hF); all_goals (try (exfalso; omega)))))
          refine ⟨m - 1, by omega, k + 1, qs, qc, x1, x7, y1, y7, ri.length, l1.length, by omega, hsl, hcl2, by rw [q1]; exact bd1, by rw [p1]; exact hs1, by rw [q1]; exact hrip, by rw [p1]; exact hp1, q2, p2, q5, hF.sub (by repeat (first | exact Sub.nil | refine Sub.cons rfl (by first | with_reducible rfl | (refine congrArg (Value.int _) ?_; omega) | exact rfl) ?_)), hM.sub (.cons_cons _ (.cons_cons _ (.cons_cons _ (.cons _ (.cons _ .slnil))))) (.refl _) (fun f hf => ?_)⟩
          simp only [List.mem_cons, List.not_mem_nil, or_false] at hf ⊢
          rcases hf with h | h | h | h | h | h | h | h | h <;> simp [h]
      · have hdR : decR ⟨cap, ims qb⟩ rt = .error 25 := by
          unfold decR
          rw [hckb, if_neg (by simp)]
          exact d2 hm0
        rw [show decR ⟨cap, ims qb⟩ (tms vs) = .error 25 by rw [v1]; exact hdR] at e5
        have hml0 : 0 < ms.length := Nat.pos_of_ne_zero fun h => hm0 (List.eq_nil_of_length_eq_zero h)
        (((with_reducible apply s_call (f := 10) hF hM); exact rfl; exact rfl; exact rfl; exact rfl; exact rfl; exact (e5 hM.lt (hM.facts (RdF id xb (cellsP qb)) (by (repeat (first | with_reducible exact List.mem_cons_self | refine List.mem_cons_of_mem _ ?_)))) (hM.facts (DatF qb) (by (repeat (first | with_reducible exact List.mem_cons_self | refine List.mem_cons_of_mem _ ?_)))) (hM.facts (RdF id x5 (cellsT vs)) (by (repeat (first | with_reducible exact List.mem_cons_self | refine List.mem_cons_of_mem _ ?_)))) (hM.facts (DatF (tP vs)) (by (repeat (first | with_reducible exact List.mem_cons_self | refine List.mem_cons_of_mem _ ?_))))); clear hF hM a; rintro v w a rfl - hM hF))
        (repeat (first | (with_reducible refine w_seq ?_) | (with_reducible refine c_region ?_) | (with_reducible refine s_nil ?_) | ((with_reducible apply s_neB hF); exact rfl; exact rfl; exact rfl; kernel_rfl; kernel_rfl; exact rfl; clear hF a; intro a hF) | (with_reducible refine q_then_n ?_) | ((with_reducible apply s_pure hF); exact rfl; exact rfl; exact rfl; (first | exact trivial | omega | exact ⟨Int.natCast_nonneg _, Int.ofNat_lt.2 (by assumption)⟩ | decide); clear hF a; intro a hF) | ((with_reducible apply s_store hF hM); exact rfl; exact rfl; exact rfl; exact rfl; (repeat (first | exact Upd.z | apply Upd.s)); exact rfl; exact rfl; exact rfl; clear hM; intro w hM) | ((with_reducible apply s_alloc hF hM); exact rfl; exact rfl; exact rfl; clear hF hM a; intro b w a hM hF)))
        generalize b = b16 at *
        have hc87 : decide (decide ((25 : Int) = 25) ≠ decide ((0 : Int) < ((ms.length : Nat) : Int))) = false := by
          rw [decide_eq_true (show (0 : Int) < (ms.length : Int) by omega)]
          rfl
        rw [hc87] at hF
        have hsup : ∀ fd : List P, (ims fd).map (·.d) = ms → (∀ p ∈ fd, p.1.x ∈ sms cs ∧ dg p.1.x = p.1.d) → ∃ l1, decR ⟨cap, ims qb⟩ (rt.map (supT (ims fd))) = .ok (l1, l) ∧ SOk ⟨cap, l1⟩ ∧ ∀ i ∈ l1, PP i.x := by
          intro fd hfd hfr
          have hfP : ∀ i ∈ ims fd, PP i.x := fun i hi => by
            obtain ⟨p, hp, rfl⟩ := List.mem_map.1 hi
            exact hsP _ (hfr p hp).1
          obtain ⟨l1, hl1⟩ := dec_sup hnoc (cap := cap) (f := ims fd) hfP hstl (l := ims qb) (o := []) (m := []) hPx hPb (fun x hx hd => by
            rw [hms, ← hfd] at hd
            obtain ⟨i, hi, e⟩ := List.mem_map.1 hd
            obtain ⟨p, hp, rfl⟩ := List.mem_map.1 hi
            obtain ⟨c1, c2⟩ := hfr p hp
            exact ⟨p.1, hi, e, hisc _ c1, c2⟩)
          rw [List.nil_append, hpf] at hl1
          have hdR2 : decR ⟨cap, ims qb⟩ (rt.map (supT (ims fd))) = .ok (l1, l) := by
            unfold decR
            rw [hckb, if_neg (by simp)]
            exact hl1
          exact ⟨l1, hdR2, (dec_bd hdR2).1, dec_pp hl1 hpb (sup_pp hfP htp)⟩
        have e8 : ∀ {own : Nat → Prop} {W : World} (ws : List TP) (x4 : Option Addr) (y4 : Nat) (l1 : List Itm), decR ⟨cap, ims qb⟩ (tms ws) = .ok (l1, l) → ws.length = vs.length → DatW (tP ws) → (∀ b, own b → b < W.heap.size) → Has own W (RdF id xb (cellsP qb)) → Has own W (DatF qb) → Has own W (RdF id x4 (cellsT ws)) → Has own W (DatF (tP ws)) → Calls Try.prog 10 ⟨[.agg #[.int .i64 cap, .slice xb nq cb'], .slice x4 vs.length y4]⟩ W (Ret W (decP own cap (.ok (l1, l)))) := by
          intro own W ws x4 y4 l1 hd hwl g2 hl h1 h2 h3 h4
          have h := Decode29_c cap qb xb cb' nq hqb (by omega) hwb hpxb own W hl h1 h2 ws g2 x4 y4 vs.length hwl (by omega) h3 h4
          rw [hd] at h
          exact h
        have e9 : ∀ {own : Nat → Prop} {W : World} (fd : List P) (a9 : Option Addr) (c9 : Nat), fd.length = ms.length → (∀ p ∈ fd, p.1.x ∈ sms cs ∧ dg p.1.x = p.1.d) → DatW fd → (∀ b, own b → b < W.heap.size) → Has own W (RdF id a9 (cellsP fd)) → Has own W (DatF fd) → Has own W (RdF id x5 (cellsT vs)) → Has own W (DatF (tP vs)) → Calls Try.prog 16 ⟨[.slice x5 rt.length y5, .slice a9 ms.length c9]⟩ W (Ret W fun v w' => ∃ (a : Option Addr) (c : Nat), v = .slice a vs.length c ∧ TkR own ((tms vs).map (supT (ims fd))) a c w') := by
          intro own W fd a9 c9 f1 f3 f4 hl h1 h2 h3 h4
          exact Supply29_c fd a9 c9 ms.length f1 (by omega) f4 (fun p hp => by have := ch_len (hisc _ (f3 p hp).1); omega) own W hl h1 h2 vs v2 hvx x5 y5 rt.length hvl (by omega) h3 h4
        have e7 := fun {own W} hl h1 h2 h3 => runFound_c cs hcw hcx cs.length rfl (by omega) xc cc own W hl h1 h2 ms hmsd (by omega) am cm ms.length rfl h3
        (repeat (first | (with_reducible refine w_seq ?_) | (with_reducible refine c_region ?_) | (with_reducible refine s_nil ?_) | (with_reducible refine q_then_n ?_) | ((with_reducible apply s_pure hF); exact rfl; exact rfl; exact rfl; (first | exact trivial | omega | exact ⟨Int.natCast_nonneg _, Int.ofNat_lt.2 (by assumption)⟩ | decide); clear hF a; intro a hF) | (with_reducible refine w_skip ?_) | ((with_reducible apply c_true2 hF); exact rfl; (first | with_reducible rfl | (refine congrArg Value.bool ?_; focus (simp; done)))) | ((with_reducible apply c_false2 hF); exact rfl; (first | with_reducible rfl | (refine congrArg Value.bool ?_; focus (simp; done))))))
        refine c_drawS (fun i => Nat.ble 13 i) (fun x hx => List.mem_cons_of_mem _ (hx)) hM ?_; clear hM; intro w hM
        (first | (apply t_load (i := 0) hF rfl rfl rfl; (repeat (first | exact List.mem_cons_self | refine List.mem_cons_of_mem _ ?_)); exact rfl; exact rfl; kernel_rfl; exact (hM.sm.sub (fun x hx => by repeat (first | exact hx | refine List.mem_cons_of_mem _ ?_)) (fun _ h => by repeat (first | exact h | refine List.mem_cons_of_mem _ ?_))); exact (fun _ _ _ h => h); clear hF a; intro a hF))
        (first | (refine t_pure (i := 1) hF rfl rfl rfl rfl (by kernel_rfl) (hM.sm.sub (fun x hx => by repeat (first | exact hx | refine List.mem_cons_of_mem _ ?_)) (fun _ h => by repeat (first | exact h | refine List.mem_cons_of_mem _ ?_))) (fun _ _ _ h => h) ?_ ?_; (first | exact trivial | omega | decide); clear hF a; intro a hF))
        (first | (refine t_pure (i := 2) hF rfl rfl rfl rfl (by kernel_rfl) (hM.sm.sub (fun x hx => by repeat (first | exact hx | refine List.mem_cons_of_mem _ ?_)) (fun _ h => by repeat (first | exact h | refine List.mem_cons_of_mem _ ?_))) (fun _ _ _ h => h) ?_ ?_; (first | exact trivial | omega | decide); clear hF a; intro a hF))
        (first | (refine t_pure (i := 3) hF rfl rfl rfl rfl (by kernel_rfl) (hM.sm.sub (fun x hx => by repeat (first | exact hx | refine List.mem_cons_of_mem _ ?_)) (fun _ h => by repeat (first | exact h | refine List.mem_cons_of_mem _ ?_))) (fun _ _ _ h => h) ?_ ?_; (first | exact trivial | omega | decide); clear hF a; intro a hF))
        refine t_one (i := 4) hF rfl (by kernel_rfl) rfl ?_
        intro K hK
        (apply x_call hF hM; exact rfl; exact rfl; exact rfl; exact rfl; exact (e7 hM.lt (hM.facts (RdF encSP xc cs) (by (repeat (first | with_reducible exact List.mem_cons_self | refine List.mem_cons_of_mem _ ?_)))) (hM.facts (DatF (sP cs)) (by (repeat (first | with_reducible exact List.mem_cons_self | refine List.mem_cons_of_mem _ ?_)))) (hM.facts (RdF (Value.int .u64) am ms) (by (repeat (first | with_reducible exact List.mem_cons_self | refine List.mem_cons_of_mem _ ?_))))); clear hF hM a; rintro v w a ⟨a9, c9, fd, rfl, f1, f2, f3, f4, f5, f6⟩ - hM hF)
        replace hM := (hM.addFact f5).addFact f6; clear f5 f6
        refine hK _ _ (fun _ => (hM.sm.sub (fun x hx => by repeat (first | exact hx | refine List.mem_cons_of_mem _ ?_)) (fun _ h => by repeat (first | exact h | refine List.mem_cons_of_mem _ ?_)))) ?_; clear hK
        refine t_one (i := 5) hF rfl (by kernel_rfl) rfl ?_
        intro K hK
        (apply x_call hF hM; exact rfl; exact rfl; exact rfl; exact rfl; exact (e9 fd a9 c9 f1 f3 f4 hM.lt (hM.facts (RdF id a9 (cellsP fd)) (by (repeat (first | with_reducible exact List.mem_cons_self | refine List.mem_cons_of_mem _ ?_)))) (hM.facts (DatF fd) (by (repeat (first | with_reducible exact List.mem_cons_self | refine List.mem_cons_of_mem _ ?_)))) (hM.facts (RdF id x5 (cellsT vs)) (by (repeat (first | with_reducible exact List.mem_cons_self | refine List.mem_cons_of_mem _ ?_)))) (hM.facts (DatF (tP vs)) (by (repeat (first | with_reducible exact List.mem_cons_self | refine List.mem_cons_of_mem _ ?_))))); clear hF hM a; rintro v w a ⟨x4, y4, rfl, ws, g1, g2, g3, g4, g5⟩ - hM hF)
        replace hM := (hM.addFact g3).addFact g4; clear g3 g4; rw [v1] at g1; (obtain ⟨l1, hdR2, hs1, hp1⟩ := hsup fd f2 f3); have hwl : ws.length = vs.length := by rw [← tms_len, g1, List.length_map, hvl]
        refine hK _ _ (fun _ => (hM.sm.sub (fun x hx => by repeat (first | exact hx | refine List.mem_cons_of_mem _ ?_)) (fun _ h => by repeat (first | exact h | refine List.mem_cons_of_mem _ ?_)))) ?_; clear hK
        refine t_one (i := 6) hF rfl (by kernel_rfl) rfl ?_
        intro K hK
        (apply x_call hF hM; exact rfl; exact rfl; exact rfl; exact rfl; exact (e8 ws x4 y4 l1 (by rw [g1]; exact hdR2) hwl g2 hM.lt (hM.facts (RdF id xb (cellsP qb)) (by (repeat (first | with_reducible exact List.mem_cons_self | refine List.mem_cons_of_mem _ ?_)))) (hM.facts (DatF qb) (by (repeat (first | with_reducible exact List.mem_cons_self | refine List.mem_cons_of_mem _ ?_)))) (hM.facts (RdF id x4 (cellsT ws)) (by (repeat (first | with_reducible exact List.mem_cons_self | refine List.mem_cons_of_mem _ ?_)))) (hM.facts (DatF (tP ws)) (by (repeat (first | with_reducible exact List.mem_cons_self | refine List.mem_cons_of_mem _ ?_))))); clear hF hM a; rintro v w a ⟨x7, y7, x8, y8, rfl, ⟨qc, p1, p2, p3, p4, p5⟩, w1, w2, w3, w4⟩ - hM hF)
        replace hM := ((hM.addFact p3).addFact p4).addFact w1; clear p3 p4 w1; dsimp only at hF hM p1 w2 w3 w4 p5
        refine hK _ _ (fun _ => (hM.sm.sub (fun x hx => by repeat (first | exact hx | refine List.mem_cons_of_mem _ ?_)) (fun _ h => by repeat (first | exact h | refine List.mem_cons_of_mem _ ?_)))) ?_; clear hK
        (first | (refine t_pure (i := 7) hF rfl rfl rfl rfl (by kernel_rfl) (hM.sm.sub (fun x hx => by repeat (first | exact hx | refine List.mem_cons_of_mem _ ?_)) (fun _ h => by repeat (first | exact h | refine List.mem_cons_of_mem _ ?_))) (fun _ _ _ h => h) ?_ ?_; (first | exact trivial | omega | decide); clear hF a; intro a hF))
        (first | (refine t_pure (i := 8) hF rfl rfl rfl rfl (by kernel_rfl) (hM.sm.sub (fun x hx => by repeat (first | exact hx | refine List.mem_cons_of_mem _ ?_)) (fun _ h => by repeat (first | exact h | refine List.mem_cons_of_mem _ ?_))) (fun _ _ _ h => h) ?_ ?_; (first | exact trivial | omega | decide); clear hF a; intro a hF))
        (first | (refine t_pure (i := 9) hF rfl rfl rfl rfl (by kernel_rfl) (hM.sm.sub (fun x hx => by repeat (first | exact hx | refine List.mem_cons_of_mem _ ?_)) (fun _ h => by repeat (first | exact h | refine List.mem_cons_of_mem _ ?_))) (fun _ _ _ h => h) ?_ ?_; (first | exact trivial | omega | decide); clear hF a; intro a hF))
        (first | (refine t_pure (i := 10) hF rfl rfl rfl rfl (by kernel_rfl) (hM.sm.sub (fun x hx => by repeat (first | exact hx | refine List.mem_cons_of_mem _ ?_)) (fun _ h => by repeat (first | exact h | refine List.mem_cons_of_mem _ ?_))) (fun _ _ _ h => h) ?_ ?_; (first | exact trivial | omega | decide); clear hF a; intro a hF))
        refine t_one (i := 11) hF rfl (by kernel_rfl) rfl ?_
        intro K hK
        (apply x_store hF hM rfl rfl rfl; (repeat (first | exact Upd.z | apply Upd.s)); exact rfl; exact rfl; exact rfl; clear hF hM a; intro w a hM hF)
        refine hK _ _ (fun _ => (hM.sm.sub (fun x hx => by repeat (first | exact hx | refine List.mem_cons_of_mem _ ?_)) (fun _ h => by repeat (first | exact h | refine List.mem_cons_of_mem _ ?_)))) ?_; clear hK
        (first | (refine t_pure (i := 12) hF rfl rfl rfl rfl (by kernel_rfl) (hM.sm.sub (fun x hx => by repeat (first | exact hx | refine List.mem_cons_of_mem _ ?_)) (fun _ h => by repeat (first | exact h | refine List.mem_cons_of_mem _ ?_))) (fun _ _ _ h => h) ?_ ?_; (first | exact trivial | omega | decide); clear hF a; intro a hF))
        refine t_one (i := 13) hF rfl (by kernel_rfl) rfl ?_
        intro K hK
        (first | (refine x_pure hF hM rfl rfl ?_ ?_; (first | exact trivial | omega | decide); clear hF a; intro a hF) | (apply x_load hF hM rfl; (repeat (first | exact List.mem_cons_self | refine List.mem_cons_of_mem _ ?_)); exact rfl; exact rfl; clear hF a; intro a hF))
        refine hK _ _ (fun h => by cases h) ?_; clear hK
        refine t_done (by kernel_rfl) ?_
        have hcl2 : qc.length = l1.length := by rw [← ims_len, p1]
        (repeat' (first | (with_reducible refine w_seq ?_) | (with_reducible refine c_region ?_) | (with_reducible refine s_nil ?_) | ((with_reducible apply s_call (f := 11) hF hM); exact rfl; exact rfl; exact rfl; exact rfl; exact rfl; exact (SameS_c l l w3 hq8 x8 aq l.length l.length y8 cq rfl rfl (by omega) _ _ hM.lt (hM.facts (RdF (Value.int .u8) x8 l.flatten) (by (repeat (first | with_reducible exact List.mem_cons_self | refine List.mem_cons_of_mem _ ?_)))) (hM.facts (RdF (Value.int .u8) aq l.flatten) (by (repeat (first | with_reducible exact List.mem_cons_self | refine List.mem_cons_of_mem _ ?_))))); clear hF hM a; rintro v w a rfl - hM hF; rw [decide_eq_true rfl] at hF) | (with_reducible refine q_then_n ?_) | ((with_reducible apply s_pure hF); exact rfl; exact rfl; exact rfl; (first | exact trivial | omega | exact ⟨Int.natCast_nonneg _, Int.ofNat_lt.2 (by assumption)⟩ | decide); clear hF a; intro a hF) | (with_reducible refine w_skip ?_) | ((with_reducible apply c_false2 hF); exact rfl; (first | with_reducible rfl | (refine congrArg Value.bool ?_; focus (simp; done))))))
        all_goals first | (exfalso; omega) | skip
        replace hM := hM.perm (bs' := [⟨b9, ⟨[.int .i64 cap, .slice xb nq cb']⟩, 29⟩, ⟨b7, ⟨[.int .i64 cap, .slice xa na ca]⟩, 29⟩, ⟨b1, ⟨[.int .u8 x, .int .u8 y, .slice (some ad) ls.length cl, .slice ab bs.length cb]⟩, 25⟩, ⟨b16, ⟨[.int .i64 cap, .slice x7 l1.length y7]⟩, 29⟩, ⟨b13, ⟨[.int .i64 cap, .slice x1 ri.length y1]⟩, 29⟩]) (List.perm_append_comm (l₁ := [_, _]) (l₂ := [_, _, _]))
        refine c_drawS (fun i => Nat.ble 4 i) (fun x hx => List.mem_cons_of_mem _ (List.mem_cons_of_mem _ (hx))) hM ?_; clear hM; intro w hM
        (first | (apply t_load (i := 0) hF rfl rfl rfl; (repeat (first | exact List.mem_cons_self | refine List.mem_cons_of_mem _ ?_)); exact rfl; exact rfl; kernel_rfl; exact (hM.sm.sub (fun x hx => by repeat (first | exact hx | refine List.mem_cons_of_mem _ ?_)) (fun _ h => by repeat (first | exact h | refine List.mem_cons_of_mem _ ?_))); exact (fun _ _ _ h => h); clear hF a; intro a hF))
        (first | (apply t_load (i := 1) hF rfl rfl rfl; (repeat (first | exact List.mem_cons_self | refine List.mem_cons_of_mem _ ?_)); exact rfl; exact rfl; kernel_rfl; exact (hM.sm.sub (fun x hx => by repeat (first | exact hx | refine List.mem_cons_of_mem _ ?_)) (fun _ h => by repeat (first | exact h | refine List.mem_cons_of_mem _ ?_))); exact (fun _ _ _ h => h); clear hF a; intro a hF))
        refine t_one (i := 2) hF rfl (by kernel_rfl) rfl ?_
        intro K hK
        (apply x_store hF hM rfl rfl rfl; (repeat (first | exact Upd.z | apply Upd.s)); exact rfl; exact rfl; exact rfl; clear hF hM a; intro w a hM hF)
        refine hK _ _ (fun _ => (hM.sm.sub (fun x hx => by repeat (first | exact hx | refine List.mem_cons_of_mem _ ?_)) (fun _ h => by repeat (first | exact h | refine List.mem_cons_of_mem _ ?_)))) ?_; clear hK
        refine t_one (i := 3) hF rfl (by kernel_rfl) rfl ?_
        intro K hK
        (apply x_store hF hM rfl rfl rfl; (repeat (first | exact Upd.z | apply Upd.s)); exact rfl; exact rfl; exact rfl; clear hF hM a; intro w a hM hF)
        refine hK _ _ (fun _ => (hM.sm.sub (fun x hx => by repeat (first | exact hx | refine List.mem_cons_of_mem _ ?_)) (fun _ h => by repeat (first | exact h | refine List.mem_cons_of_mem _ ?_)))) ?_; clear hK
        refine t_done (by kernel_rfl) ?_
        by_cases hkb : k < bs.length
        · obtain ⟨bb, hbb⟩ := get_of_lt hkb
          obtain ⟨adb, rfl⟩ : ∃ ad, ab = some ad := rd_some hM (enc := Value.bool) (a := ab) (xs := bs) (by (repeat (first | with_reducible exact List.mem_cons_self | refine List.mem_cons_of_mem _ ?_))) hbb
          cases bb with
          | true =>
            (repeat' (first | (with_reducible refine w_seq ?_) | (with_reducible refine c_region ?_) | (with_reducible refine s_nil ?_) | (with_reducible refine q_then_n ?_) | ((with_reducible apply s_pure hF); exact rfl; exact rfl; exact rfl; (first | exact trivial | omega | exact ⟨Int.natCast_nonneg _, Int.ofNat_lt.2 (by assumption)⟩ | decide); clear hF a; intro a hF) | ((with_reducible apply s_load hF hM); exact rfl; exact rfl; (repeat (first | exact List.mem_cons_self | refine List.mem_cons_of_mem _ ?_)); exact rfl; exact rfl; clear hF a; intro a hF) | ((with_reducible apply s_loadF hF hM); exact rfl; exact rfl; (repeat (first | exact List.mem_cons_self | refine List.mem_cons_of_mem _ ?_)); exact rfl; exact rfl; (first | with_reducible assumption | (simp only [Int.toNat_natCast]; with_reducible assumption)); clear hF a; intro a hF) | ((with_reducible apply s_store hF hM); exact rfl; exact rfl; exact rfl; exact rfl; (repeat (first | exact Upd.z | apply Upd.s)); exact rfl; exact rfl; exact rfl; clear hM; intro w hM) | (with_reducible refine q_blk_n ?_) | ((with_reducible apply c_true2 hF); exact rfl; (first | with_reducible rfl | (refine congrArg Value.bool ?_; focus (simp; done)))) | ((fail_if_success ((with_reducible refine g_known true hF ?_ ?_); focus exact rfl)); (fail_if_success ((with_reducible refine g_known false hF ?_ ?_); focus exact rfl)); (with_reducible apply g_dec hF); exact rfl; exact rfl; all_goals (clear hF; intro hc hF); all_goals (try (exfalso; omega)))))
            refine ⟨m - 1, by omega, k + 1, qs, [], x1, none, y1, 0, ri.length, 0, by omega, hsl, rfl, by rw [q1]; exact bd1, ⟨hc1, by show (0 : Int) ≤ cap; omega, fun i hi => by simp [ims] at hi, fun i hi => by simp [ims] at hi, List.Pairwise.nil⟩, by rw [q1]; exact hrip, fun i hi => by simp [ims] at hi, q2, fun p hp => by simp at hp, q5, hF.sub (by repeat (first | exact Sub.nil | refine Sub.cons rfl (by first | with_reducible rfl | (refine congrArg (Value.int _) ?_; omega) | exact rfl) ?_)), ((hM.addFact (f := DatF []) (Has.pure fun _ p hp => by simp at hp)).addFact (f := RdF id none (cellsP [])) RdF.nil).sub (.cons_cons _ (.cons_cons _ (.cons_cons _ (.cons _ (.cons _ .slnil))))) (.refl _) (fun f hf => ?_)⟩
            simp only [List.mem_cons, List.not_mem_nil, or_false] at hf ⊢
            rcases hf with h | h | h | h | h | h | h | h | h <;> simp [h]
          | false =>
            (repeat' (first | (with_reducible refine w_seq ?_) | (with_reducible refine c_region ?_) | (with_reducible refine s_nil ?_) | (with_reducible refine q_then_n ?_) | ((with_reducible apply s_pure hF); exact rfl; exact rfl; exact rfl; (first | exact trivial | omega | exact ⟨Int.natCast_nonneg _, Int.ofNat_lt.2 (by assumption)⟩ | decide); clear hF a; intro a hF) | ((with_reducible apply s_load hF hM); exact rfl; exact rfl; (repeat (first | exact List.mem_cons_self | refine List.mem_cons_of_mem _ ?_)); exact rfl; exact rfl; clear hF a; intro a hF) | ((with_reducible apply s_loadF hF hM); exact rfl; exact rfl; (repeat (first | exact List.mem_cons_self | refine List.mem_cons_of_mem _ ?_)); exact rfl; exact rfl; (first | with_reducible assumption | (simp only [Int.toNat_natCast]; with_reducible assumption)); clear hF a; intro a hF) | (with_reducible refine w_skip ?_) | (with_reducible refine q_blk_n ?_) | ((with_reducible apply c_false2 hF); exact rfl; (first | with_reducible rfl | (refine congrArg Value.bool ?_; focus (simp; done)))) | ((fail_if_success ((with_reducible refine g_known true hF ?_ ?_); focus exact rfl)); (fail_if_success ((with_reducible refine g_known false hF ?_ ?_); focus exact rfl)); (with_reducible apply g_dec hF); exact rfl; exact rfl; all_goals (clear hF; intro hc hF); all_goals (try (exfalso; omega)))))
            refine ⟨m - 1, by omega, k + 1, qs, qc, x1, x7, y1, y7, ri.length, l1.length, by omega, hsl, hcl2, by rw [q1]; exact bd1, by rw [p1]; exact hs1, by rw [q1]; exact hrip, by rw [p1]; exact hp1, q2, p2, q5, hF.sub (by repeat (first | exact Sub.nil | refine Sub.cons rfl (by first | with_reducible rfl | (refine congrArg (Value.int _) ?_; omega) | exact rfl) ?_)), hM.sub (.cons_cons _ (.cons_cons _ (.cons_cons _ (.cons _ (.cons _ .slnil))))) (.refl _) (fun f hf => ?_)⟩
            simp only [List.mem_cons, List.not_mem_nil, or_false] at hf ⊢
            rcases hf with h | h | h | h | h | h | h | h | h <;> simp [h]
        · (repeat' (first | (with_reducible refine w_seq ?_) | (with_reducible refine c_region ?_) | (with_reducible refine s_nil ?_) | (with_reducible refine q_then_n ?_) | ((with_reducible apply s_pure hF); exact rfl; exact rfl; exact rfl; (first | exact trivial | omega | exact ⟨Int.natCast_nonneg _, Int.ofNat_lt.2 (by assumption)⟩ | decide); clear hF a; intro a hF) | ((with_reducible apply s_load hF hM); exact rfl; exact rfl; (repeat (first | exact List.mem_cons_self | refine List.mem_cons_of_mem _ ?_)); exact rfl; exact rfl; clear hF a; intro a hF) | (with_reducible refine w_skip ?_) | (with_reducible refine q_blk_n ?_) | ((with_reducible apply c_false2 hF); exact rfl; (first | with_reducible rfl | (refine congrArg Value.bool ?_; focus (simp; done)))) | ((with_reducible apply s_skip hF); exact rfl; exact rfl; clear hF a; intro a hF) | ((fail_if_success ((with_reducible refine g_known true hF ?_ ?_); focus exact rfl)); (fail_if_success ((with_reducible refine g_known false hF ?_ ?_); focus exact rfl)); (with_reducible apply g_dec hF); exact rfl; exact rfl; all_goals (clear hF; intro hc hF); all_goals (try (exfalso; omega)))))
          refine ⟨m - 1, by omega, k + 1, qs, qc, x1, x7, y1, y7, ri.length, l1.length, by omega, hsl, hcl2, by rw [q1]; exact bd1, by rw [p1]; exact hs1, by rw [q1]; exact hrip, by rw [p1]; exact hp1, q2, p2, q5, hF.sub (by repeat (first | exact Sub.nil | refine Sub.cons rfl (by first | with_reducible rfl | (refine congrArg (Value.int _) ?_; omega) | exact rfl) ?_)), hM.sub (.cons_cons _ (.cons_cons _ (.cons_cons _ (.cons _ (.cons _ .slnil))))) (.refl _) (fun f hf => ?_)⟩
          simp only [List.mem_cons, List.not_mem_nil, or_false] at hf ⊢
          rcases hf with h | h | h | h | h | h | h | h | h <;> simp [h]
    · (repeat' (first | (with_reducible refine w_seq ?_) | (with_reducible refine c_region ?_) | (with_reducible refine s_nil ?_) | (with_reducible refine q_then_n ?_) | ((with_reducible apply s_pure hF); exact rfl; exact rfl; exact rfl; (first | exact trivial | omega | exact ⟨Int.natCast_nonneg _, Int.ofNat_lt.2 (by assumption)⟩ | decide); clear hF a; intro a hF) | (with_reducible refine w_exit ?_) | (with_reducible refine w_ret ?_) | (with_reducible refine q_then_x ?_) | (with_reducible refine q_blk_x ?_) | ((with_reducible apply c_dec hF); exact rfl; all_goals intro hc; all_goals (try (exfalso; omega)))))
      (apply f_ret Try.results4 hF hM; (repeat (first | exact RL.nil | (apply RL.tmp; exact rfl) | (apply RL.cell; exact rfl; (repeat (first | exact List.mem_cons_self | refine List.mem_cons_of_mem _ ?_)); exact rfl))); refine Ret.mk hM.since ?_; dsimp only [resV])
end Go.Proofs.Ytadfdpkhehdikaa

