/- Texts of this seat, one behind the other: Jo Jp Jq Jr Js Jt Ju Jv Jw Jx Jy Jz S1 S2 S3 S4 S5. -/
import Derived.Test.YtonelgecjmpbgaaQVCc
set_option linter.unusedSimpArgs false
set_option linter.unusedVariables false
set_option linter.unusedSectionVars false
set_option maxRecDepth 3000
/- dedup: Missing. -/
namespace Go.Proofs.Ytonelgecjmpbgaa
open Go.RowKit Go.Shelf D29
namespace D29
def misStep (cap : Int) (s : List Int × List Int) (t : Tok) : List Int × List Int := if tokD t ∈ s.1 then s else (knw cap s.1 (tokD t), if t.r = true ∧ tokD t ∉ s.2 then s.2 ++ [tokD t] else s.2)
theorem misI_fold (cap : Int) : ∀ (ts : List Tok) (k o : List Int), misI cap ts k o = (ts.foldl (misStep cap) (k, o)).2
  | [], _, _ => rfl
  | t :: r, k, o => by
    rw [misI, List.foldl_cons]
    by_cases h : tokD t ∈ k
    · rw [if_pos h, show misStep cap (k, o) t = (k, o) from if_pos h]
      exact misI_fold cap r k o
    · rw [if_neg h, show misStep cap (k, o) t = (knw cap k (tokD t), if t.r = true ∧ tokD t ∉ o then o ++ [tokD t] else o) from if_neg h]
      exact misI_fold cap r _ _
theorem _root_.Go.Proofs.Ytonelgecjmpbgaa.Mm.rowsEq {own : Nat → Prop} {w0 w : World} {bs : List BoxE} {L L' : List Ent} {Fs : List (World → Prop)} (hM : Mm own w0 bs L Fs w) (h : L = L') : Mm own w0 bs L' Fs w := h ▸ hM
/-- What Missing answers. -/
def misR (c : St) (l : List Tok) : List Int := if check c = 0 ∧ (l.any fun t => !corT t) = false then misI c.cap l (c.items.map (·.d)) [] else []
theorem misR_bad {c : St} {l : List Tok} (h : check c ≠ 0) : misR c l = [] := if_neg fun q => h q.1
theorem misR_inc {c : St} {l : List Tok} (h : (l.any fun t => !corT t) = true) : misR c l = [] := if_neg fun q => by rw [h] at q; cases q.2
theorem misR_ok {c : St} {l : List Tok} (h : check c = 0) (h2 : (l.any fun t => !corT t) = false) : misR c l = misI c.cap l (c.items.map (·.d)) [] := if_pos ⟨h, h2⟩
end D29
theorem missing1_c (t : TP) (own : Nat → Prop) (W : World) (hl : ∀ b, own b → b < W.heap.size) : Calls Try.prog 75 ⟨.agg ⟨tkC t⟩ :: []⟩ W (Ret W fun v _ => v = .bool (!corT t.1)) := by
  have hM := Mm.start hl
  refine f_start Try.func75 rfl Try.ntmps75 rfl rfl ?_; intro a hF
  unfold tkC at *
  (repeat (first | (with_reducible refine w_seq ?_) | (with_reducible refine c_region ?_) | (with_reducible refine s_nil ?_) | ((with_reducible apply s_call (f := 66) hF hM); exact rfl; exact rfl; exact rfl; exact rfl; exact rfl; exact (correct_c t _ _ hM.lt); clear hF hM a; rintro v w a rfl - hM hF) | (with_reducible refine q_then_n ?_) | ((with_reducible apply s_pure hF); exact rfl; exact rfl; exact rfl; (first | exact trivial | omega | exact ⟨Int.natCast_nonneg _, Int.ofNat_lt.2 (by assumption)⟩ | decide); clear hF a; intro a hF) | ((with_reducible apply s_load hF hM); exact rfl; exact rfl; (repeat (first | exact List.mem_cons_self | refine List.mem_cons_of_mem _ ?_)); exact rfl; exact rfl; clear hF a; intro a hF) | ((with_reducible apply s_box hF hM); exact rfl; exact rfl; exact rfl; exact rfl; clear hF hM a; intro b w a hM hF) | (with_reducible refine w_ret ?_)))
  (apply f_ret Try.results75 hF hM; (repeat (first | exact RL.nil | (apply RL.tmp; exact rfl) | (apply RL.cell; exact rfl; (repeat (first | exact List.mem_cons_self | refine List.mem_cons_of_mem _ ?_)); exact rfl))); refine Ret.mk hM.since ?_; dsimp only [resV])
section
variable (cp : Int) (ps : List P) (a0 : Option Addr) (c0 n : Nat) (hn : ps.length = n) (hlen : n ≤ 100000) (hDW : DatW ps) (hpx : ∀ p ∈ ps, p.1.x.length ≤ 100000) (own : Nat → Prop) (W : World) (hl : ∀ b, own b → b < W.heap.size) (h1 : Has own W (RdF id a0 (cellsP ps))) (h2 : Has own W (DatF ps))
include hn hlen hDW hpx hl h1 h2
set_option maxRecDepth 20000 in
set_option maxHeartbeats 8000000 in
theorem Missing29_c (ts : List TP) (hts : DatW (tP ts)) (hx4 : ∀ t ∈ ts, t.1.x.length ≤ 100000) (al : Option Addr) (cl nl : Nat) (hnl : ts.length = nl) (hnl4 : nl ≤ 100000) (hx1 : Has own W (RdF id al (cellsT ts))) (hx2 : Has own W (DatF (tP ts))) :
    Calls Try.prog 42 ⟨[.agg #[.int .i64 cp, .slice a0 n c0], .slice al nl cl]⟩ W (Ret W fun v w' => ∃ (a : Option Addr) (c : Nat), v = .slice a (misR ⟨cp, ims ps⟩ (tms ts)).length c ∧ Has own w' (RdF (Value.int .u64) a (misR ⟨cp, ims ps⟩ (tms ts)))) := by
  have hM := ((((Mm.start hl).known hx2).known hx1).known h2).known h1
  refine f_startM Try.func42 rfl Try.ntmps42 rfl rfl ?_; intro a hF
  (repeat (first | (with_reducible refine w_seq ?_) | (with_reducible refine c_region ?_) | (with_reducible refine s_nil ?_) | (with_reducible refine q_then_n ?_) | ((with_reducible apply s_pure hF); exact rfl; exact rfl; exact rfl; (first | exact trivial | omega | exact ⟨Int.natCast_nonneg _, Int.ofNat_lt.2 (by assumption)⟩ | decide); clear hF a; intro a hF) | ((with_reducible apply s_load hF hM); exact rfl; exact rfl; (repeat (first | exact List.mem_cons_self | refine List.mem_cons_of_mem _ ?_)); exact rfl; exact rfl; clear hF a; intro a hF) | ((with_reducible apply s_box hF hM); exact rfl; exact rfl; exact rfl; exact rfl; clear hF hM a; intro b w a hM hF)))
  generalize b = b2 at *
  have hno : ∀ w', misR ⟨cp, ims ps⟩ (tms ts) = [] → ∃ (a : Option Addr) (c : Nat), Value.slice none 0 0 = .slice a (misR ⟨cp, ims ps⟩ (tms ts)).length c ∧ Has own w' (RdF (Value.int .u64) a (misR ⟨cp, ims ps⟩ (tms ts))) := fun w' e => by
    rw [e]
    exact ⟨none, 0, rfl, RdF.nil⟩
  have e1 := fun {own W} hl => Check29_c cp ps a0 c0 n hn hlen hDW hpx own W hl
  have e2 := fun {own W} hl => conT_c 75 [] (fun t => !corT t) (fun _ => True) rfl ts nl hnl (by omega) (fun t _ own W hl _ => missing1_c t own W hl) al cl own W hl (Has.pure fun _ => trivial)
  by_cases hck : check ⟨cp, ims ps⟩ = 0
  case neg =>
    have he := misR_bad (l := tms ts) hck
    generalize check ⟨cp, ims ps⟩ = e at *
    (repeat' (first | (with_reducible refine w_seq ?_) | (with_reducible refine c_region ?_) | (with_reducible refine s_nil ?_) | ((with_reducible apply s_call (f := 24) hF hM); exact rfl; exact rfl; exact rfl; exact rfl; exact rfl; exact (e1 hM.lt (hM.facts (RdF id a0 (cellsP ps)) (by (repeat (first | with_reducible exact List.mem_cons_self | refine List.mem_cons_of_mem _ ?_)))) (hM.facts (DatF ps) (by (repeat (first | with_reducible exact List.mem_cons_self | refine List.mem_cons_of_mem _ ?_))))); clear hF hM a; rintro v w a rfl - hM hF) | (with_reducible refine q_then_n ?_) | ((with_reducible apply s_pure hF); exact rfl; exact rfl; exact rfl; (first | exact trivial | omega | exact ⟨Int.natCast_nonneg _, Int.ofNat_lt.2 (by assumption)⟩ | decide); clear hF a; intro a hF) | (with_reducible refine w_ret ?_) | (with_reducible refine q_then_r ?_) | ((with_reducible apply c_true2 hF); exact rfl; (first | with_reducible rfl | (refine congrArg Value.bool ?_; focus (simp; done)))) | ((with_reducible apply s_skip hF); exact rfl; exact rfl; clear hF a; intro a hF) | ((fail_if_success ((with_reducible refine g_known true hF ?_ ?_); focus exact rfl)); (fail_if_success ((with_reducible refine g_known false hF ?_ ?_); focus exact rfl)); (with_reducible apply g_dec hF); exact rfl; exact rfl; all_goals (clear hF; intro hc hF); all_goals (try (exfalso; omega)))))
    all_goals first | (exfalso; omega) | (apply f_ret0 Try.results42 hF hM (by (repeat (first | exact RL.nil | (apply RL.tmp; exact rfl) | (apply RL.cell; exact rfl; (repeat (first | exact List.mem_cons_self | refine List.mem_cons_of_mem _ ?_)); exact rfl)))); refine Ret.mk hM.since ?_; dsimp only [resV])
    all_goals exact hno _ he
  rw [hck] at e1
  cases hinc : (tms ts).any fun t => !corT t with
  | true =>
    have he := misR_inc (c := ⟨cp, ims ps⟩) hinc
    rw [hinc] at e2
    (repeat' (first | (with_reducible refine w_seq ?_) | (with_reducible refine c_region ?_) | (with_reducible refine s_nil ?_) | ((with_reducible apply s_call (f := 24) hF hM); exact rfl; exact rfl; exact rfl; exact rfl; exact rfl; exact (e1 hM.lt (hM.facts (RdF id a0 (cellsP ps)) (by (repeat (first | with_reducible exact List.mem_cons_self | refine List.mem_cons_of_mem _ ?_)))) (hM.facts (DatF ps) (by (repeat (first | with_reducible exact List.mem_cons_self | refine List.mem_cons_of_mem _ ?_))))); clear hF hM a; rintro v w a rfl - hM hF) | ((with_reducible apply s_call (f := 37) hF hM); exact rfl; exact rfl; exact rfl; exact rfl; exact rfl; exact (e2 hM.lt (hM.facts (RdF id al (cellsT ts)) (by (repeat (first | with_reducible exact List.mem_cons_self | refine List.mem_cons_of_mem _ ?_))))); clear hF hM a; rintro v w a rfl - hM hF) | (with_reducible refine q_then_n ?_) | ((with_reducible apply s_pure hF); exact rfl; exact rfl; exact rfl; (first | exact trivial | omega | exact ⟨Int.natCast_nonneg _, Int.ofNat_lt.2 (by assumption)⟩ | decide); clear hF a; intro a hF) | (with_reducible refine w_ret ?_) | (with_reducible refine q_then_r ?_) | ((with_reducible apply c_true2 hF); exact rfl; (first | with_reducible rfl | (refine congrArg Value.bool ?_; focus (simp; done))))))
    all_goals first | (exfalso; omega) | (apply f_ret0 Try.results42 hF hM (by (repeat (first | exact RL.nil | (apply RL.tmp; exact rfl) | (apply RL.cell; exact rfl; (repeat (first | exact List.mem_cons_self | refine List.mem_cons_of_mem _ ?_)); exact rfl)))); refine Ret.mk hM.since ?_; dsimp only [resV])
    all_goals exact hno _ he
  | false =>
    have he := misR_ok hck hinc
    rw [hinc] at e2
    (repeat' (first | (with_reducible refine w_seq ?_) | (with_reducible refine c_region ?_) | (with_reducible refine s_nil ?_) | ((with_reducible apply s_call (f := 24) hF hM); exact rfl; exact rfl; exact rfl; exact rfl; exact rfl; exact (e1 hM.lt (hM.facts (RdF id a0 (cellsP ps)) (by (repeat (first | with_reducible exact List.mem_cons_self | refine List.mem_cons_of_mem _ ?_)))) (hM.facts (DatF ps) (by (repeat (first | with_reducible exact List.mem_cons_self | refine List.mem_cons_of_mem _ ?_))))); clear hF hM a; rintro v w a rfl - hM hF) | ((with_reducible apply s_call (f := 37) hF hM); exact rfl; exact rfl; exact rfl; exact rfl; exact rfl; exact (e2 hM.lt (hM.facts (RdF id al (cellsT ts)) (by (repeat (first | with_reducible exact List.mem_cons_self | refine List.mem_cons_of_mem _ ?_))))); clear hF hM a; rintro v w a rfl - hM hF) | (with_reducible refine q_then_n ?_) | ((with_reducible apply s_pure hF); exact rfl; exact rfl; exact rfl; (first | exact trivial | omega | exact ⟨Int.natCast_nonneg _, Int.ofNat_lt.2 (by assumption)⟩ | decide); clear hF a; intro a hF) | ((with_reducible apply s_load hF hM); exact rfl; exact rfl; (repeat (first | exact List.mem_cons_self | refine List.mem_cons_of_mem _ ?_)); exact rfl; exact rfl; clear hF a; intro a hF) | ((with_reducible apply s_alloc hF hM); exact rfl; exact rfl; exact rfl; clear hF hM a; intro b w a hM hF) | (with_reducible refine w_skip ?_) | (with_reducible refine w_block ?_) | ((with_reducible apply c_false2 hF); exact rfl; (first | with_reducible rfl | (refine congrArg Value.bool ?_; focus (simp; done))))))
    all_goals first | (exfalso; omega) | skip
    rename_i b5 _
    generalize b = b6 at *
    have hck2 := (check_ok.1 hck)
    have hcp : 1 ≤ cp ∧ cp ≤ 4096 := hck2.cap
    have hnc : (n : Int) ≤ cp := by
      have h : ((ims ps).length : Int) ≤ cp := hck2.len
      rw [ims_len, hn] at h
      exact h
    have hw := itC_len ps
    subst hn
    have hrow := (hM.nilRow 54 1)
    refine c_loop (m := ps.length) (fun m a w' => ∃ (k : Nat) (kv : Value), m + k = ps.length ∧
      Fr 61 [] [(21, .int .i64 k), (20, .int .i64 ps.length), (19, .slice a0 ps.length c0), (6, .pointer (some ⟨b6, 0, none⟩)), (5, .pointer (some ⟨b5, 0, none⟩)), (2, .pointer (some ⟨b2, 0, none⟩)), (1, .slice al nl cl)] a ∧
      Mm own W [⟨b6, ⟨[.slice none 0 0]⟩, 74⟩, ⟨b5, ⟨[kv]⟩, 74⟩, ⟨b2, ⟨[.int .i64 cp, .slice a0 ps.length c0]⟩, 24⟩] [⟨54, 1, kv, k, ((ims (ps.take k)).map (·.d)).map (Value.int .u64)⟩] [RdF id a0 (cellsP ps), DatF ps, RdF id al (cellsT ts), DatF (tP ts)] w')
      ⟨0, _, by omega, hF.sub (by repeat (first | exact Sub.nil | refine Sub.cons rfl (by first | with_reducible rfl | (refine congrArg (Value.int _) ?_; omega) | exact rfl) ?_)), hrow⟩ ?_
    clear hF hM hrow a
    rintro m a w' ⟨k, kv, hm, hF, hM⟩
    by_cases hk : k < ps.length
    · obtain ⟨p, hp⟩ := get_of_lt hk
      have hpe : (ps.map itC)[k]? = some [.int .u64 p.1.d, .slice p.2.1 p.1.x.length p.2.2] := by rw [List.getElem?_map, hp]; rfl
      obtain ⟨ad, rfl⟩ : ∃ ad, a0 = some ad := rd_some hM (enc := id) (a := a0) (xs := cellsP ps) (by (repeat (first | exact List.mem_cons_self | refine List.mem_cons_of_mem _ ?_))) (flat_get (q := 0) hw hpe rfl)
      have htk : (ims (ps.take (k + 1))).map (·.d) = (ims (ps.take k)).map (·.d) ++ [p.1.d] := by
        rw [List.take_add_one, hp]
        simp [ims]
      have hcc : cellsP ps = (ps.map itC).flatten := rfl
      rw [hcc] at hM
      (repeat' (first | (with_reducible refine w_seq ?_) | (with_reducible refine c_region ?_) | (with_reducible refine s_nil ?_) | ((with_reducible apply s_loadE hF hM); exact rfl; exact rfl; (repeat (first | exact List.mem_cons_self | refine List.mem_cons_of_mem _ ?_)); exact rfl; exact rfl; (first | with_reducible assumption | (simp only [Int.toNat_natCast]; with_reducible assumption)); (with_reducible assumption); clear hF a; intro a hF) | (with_reducible refine q_then_n ?_) | ((with_reducible apply s_pure hF); exact rfl; exact rfl; exact rfl; (first | exact trivial | omega | exact ⟨Int.natCast_nonneg _, Int.ofNat_lt.2 (by assumption)⟩ | decide); clear hF a; intro a hF) | ((with_reducible apply s_load hF hM); exact rfl; exact rfl; (repeat (first | exact List.mem_cons_self | refine List.mem_cons_of_mem _ ?_)); exact rfl; exact rfl; clear hF a; intro a hF) | ((with_reducible apply s_store hF hM); exact rfl; exact rfl; exact rfl; exact rfl; (repeat (first | exact Upd.z | apply Upd.s)); exact rfl; exact rfl; exact rfl; clear hM; intro w hM) | ((with_reducible apply s_alloc hF hM); exact rfl; exact rfl; exact rfl; clear hF hM a; intro b w a hM hF) | ((with_reducible apply s_lit hF hM); exact rfl; exact rfl; exact rfl; exact rfl; clear hF hM a; intro bl w a hM hF) | ((with_reducible apply s_app hF hM); exact rfl; exact rfl; exact rfl; exact rfl; (repeat (first | exact Kth.z | apply Kth.s)); exact rfl; exact rfl; exact rfl; exact rfl; omega; clear hF hM a; intro g cap w a hM hF; dsimp only [List.set] at hM) | (with_reducible refine w_skip ?_) | (with_reducible refine w_block ?_) | (with_reducible refine q_blk_n ?_) | ((with_reducible apply c_dec hF); exact rfl; all_goals intro hc; all_goals (try (exfalso; omega)))))
      refine ⟨m - 1, by omega, k + 1, .slice (some ⟨g, 0, none⟩) (k + 1) cap, by omega, hF.sub (by repeat (first | exact Sub.nil | refine Sub.cons rfl (by first | with_reducible rfl | (refine congrArg (Value.int _) ?_; omega) | exact rfl) ?_)), ?_⟩
      rw [htk, List.map_append, hcc]
      exact hM.sub (.cons _ (.refl _)) (.refl _) (fun f hf => hf)
    · obtain rfl : k = ps.length := by omega
      rw [List.take_of_length_le (Nat.le_refl _)] at hM
      (repeat' (first | (with_reducible refine w_seq ?_) | (with_reducible refine c_region ?_) | (with_reducible refine s_nil ?_) | ((with_reducible apply s_call (f := 76) hF hM); exact rfl; exact rfl; exact rfl; exact rfl; exact rfl; exact (digests_c al nl cl W.heap.size _ _ hM.lt hM.since.size); clear hF hM a; rintro v w a ⟨q1, hq1, rfl, hB1⟩ - hM hF) | (with_reducible refine q_then_n ?_) | ((with_reducible apply s_pure hF); exact rfl; exact rfl; exact rfl; (first | exact trivial | omega | exact ⟨Int.natCast_nonneg _, Int.ofNat_lt.2 (by assumption)⟩ | decide); clear hF a; intro a hF) | (with_reducible refine w_block ?_) | (with_reducible refine w_exit ?_) | (with_reducible refine q_then_x ?_) | (with_reducible refine q_blk_x ?_) | ((with_reducible apply c_false2 hF); exact rfl; (first | with_reducible rfl | (refine congrArg Value.bool ?_; focus (simp; done))))))
      obtain ⟨w2, rfl⟩ : ∃ x, x = w := ⟨_, rfl⟩
      have hsz : W.heap.size ≤ w2.heap.size := hM.since.size
      have hrow := (hM.nilRow 54 1).permL (L' := [⟨54, 1, kv, ps.length, ((ims ps).map (·.d)).map (Value.int .u64)⟩, ⟨54, 1, .slice none 0 0, 0, []⟩]) (.swap _ _ _)
      have hK0 := OffR.plain hrow List.mem_cons_self
      refine c_range3 hF rfl rfl rfl rfl (va := fun t : Tok => .int .u64 (tokD t)) (vb := fun t => .bool t.r) (la := fun t => [(10, .bool t.r), (9, .int .u64 (tokD t)), (6, .pointer (some ⟨b6, 0, none⟩)), (5, .pointer (some ⟨b5, 0, none⟩)), (2, .pointer (some ⟨b2, 0, none⟩))]) (digs_stops ts nl hnl hnl4 hts hx4 al cl q1 W w2 (hx1.own_eq fun _ h => h.elim) (hx2.own_eq fun _ h => h.elim) hM.since hq1 hB1) (by omega) (fun _ => Kd.refl) (fun h k => h.trans k) ?kb (Below.refl _ _)
        (fun pre W' => ∃ (kn o : List Int) (kv ov : Value) (Ek : Ent), (kn, o) = pre.foldl (misStep cp) ((ims ps).map (·.d), []) ∧ (kn.length : Int) ≤ cp ∧ o.length ≤ pre.length ∧ OffR 54 1 kv kn.length (kn.map (Value.int .u64)) Ek ∧
          Mm own W [⟨b6, ⟨[ov]⟩, 74⟩, ⟨b5, ⟨[kv]⟩, 74⟩, ⟨b2, ⟨[.int .i64 cp, .slice a0 ps.length c0]⟩, 24⟩] [Ek, ⟨54, 1, ov, o.length, o.map (Value.int .u64)⟩] [] W') ?hI ?h0 ?assign ?body ?done
      case kb =>
        intro W' lb o o' h1 h2 h3 h4
        exact ⟨belowK_b hsz W' lb o o' h1 h2 h3 h4, KT.putObj o' h2 h3⟩
      case hI =>
        rintro pre W1 W2 row ⟨kn, o, kv, ov, Ek, i1, i2, i3, i4, hm⟩ hg hr
        exact ⟨kn, o, kv, ov, Ek, i1, i2, i3, i4, hm.turn hg (fun r e => ⟨by have := (hr r e).1; omega, (hr r e).2⟩)⟩
      case h0 => exact ⟨(ims ps).map (·.d), [], kv, _, _, rfl, by rw [List.length_map, ims_len]; exact hnc, Nat.le_refl _, by rw [List.length_map, ims_len]; exact hK0, hrow.sub (.refl _) (.refl _) (fun f hf => by simp at hf)⟩
      case assign =>
        intro l0 k x a W' hF
        (repeat (first | (with_reducible refine w_seq ?_) | ((with_reducible refine c_regionR ?_ ?_); rotate_left; exact rfl) | (with_reducible refine s_nil ?_) | (with_reducible refine q_then_n ?_) | ((with_reducible apply s_pure hF); exact rfl; exact rfl; exact rfl; (first | exact trivial | omega | exact ⟨Int.natCast_nonneg _, Int.ofNat_lt.2 (by assumption)⟩ | decide); clear hF a; intro a hF)))
        exact q_cut ⟨rfl, hF.sub (by repeat (first | exact Sub.nil | refine Sub.cons rfl (by first | with_reducible rfl | (refine congrArg (Value.int _) ?_; omega) | exact rfl) ?_))⟩
      case done =>
        rintro D xs a W' hD rfl ⟨kn, o, kv, ov, Ek, i1, i2, i3, i4, hM⟩ hK hF
        have ho : misR ⟨cp, ims ps⟩ (tms ts) = o := by
          rw [he]
          show misI cp (tms ts) ((ims ps).map (·.d)) [] = o
          rw [misI_fold, ← i1]
        replace hM := hM.addDef hK (by omega)
        (repeat (first | (with_reducible refine w_seq ?_) | (with_reducible refine c_region ?_) | (with_reducible refine s_nil ?_) | (with_reducible refine q_then_n ?_) | ((with_reducible apply s_pure hF); exact rfl; exact rfl; exact rfl; (first | exact trivial | omega | exact ⟨Int.natCast_nonneg _, Int.ofNat_lt.2 (by assumption)⟩ | decide); clear hF a; intro a hF) | ((with_reducible apply s_load hF hM); exact rfl; exact rfl; (repeat (first | exact List.mem_cons_self | refine List.mem_cons_of_mem _ ?_)); exact rfl; exact rfl; clear hF a; intro a hF) | (with_reducible refine w_ret ?_) | (with_reducible refine q_blk_n ?_)))
        obtain ⟨av, cv, rfl, hcv, -⟩ := OffR.shape hM (k := 1) rfl (OffR.plain hM (List.mem_cons_of_mem _ List.mem_cons_self))
        replace hM := Mm.freezeN (hM.sub (.refl _) (.cons _ (.refl _)) (fun _ h => h))
        apply f_retMN [RdF (Value.int .u64) av o] Try.results42 hF hM (by (repeat (first | with_reducible exact List.mem_cons_self | refine List.mem_cons_of_mem _ ?_))) (by omega)
        · intro f hf
          simp only [List.mem_cons, List.not_mem_nil, or_false] at hf ⊢
          simp [hf]
        · intro f hf
          simp only [List.mem_cons, List.not_mem_nil, or_false] at hf
          rw [hf]
          exact Nb.rd
        · (repeat (first | exact RL.nil | (apply RL.tmp; exact rfl) | (apply RL.cell; exact rfl; (repeat (first | exact List.mem_cons_self | refine List.mem_cons_of_mem _ ?_)); exact rfl)))
        intro w' hM'
        rw [ho]
        exact Ret.mk hM'.since ⟨av, cv, rfl, hM'.factOut (by (repeat (first | with_reducible exact List.mem_cons_self | refine List.mem_cons_of_mem _ ?_)))⟩
      case body =>
        clear hM hF hrow hK0 hno he
        rintro l0 j pre t a W' ⟨kn, o, kv, ov, Ek, i1, i2, i3, i4, hM⟩ hF hlt
        have hM0 := hM
        have hEk : Ek.e = 54 := i4.1
        have htyp : ∀ y ∈ [Ek, ⟨54, 1, ov, o.length, o.map (Value.int .u64)⟩], y.e ≠ 28 := by
          intro y hy
          simp only [List.mem_cons, List.not_mem_nil, or_false] at hy
          rcases hy with rfl | rfl
          · rw [hEk]; decide
          · show (54 : Nat) ≠ _; decide
        replace hM := (hM.addFact (hM0.ko hsz)).addFact (hM0.kt 28 (by simp) htyp)
        obtain ⟨d, hd⟩ : ∃ d, tokD t = d := ⟨_, rfl⟩
        have hst : (pre ++ [t]).foldl (misStep cp) ((ims ps).map (·.d), []) = if tokD t ∈ kn then (kn, o) else (knw cp kn (tokD t), if t.r = true ∧ tokD t ∉ o then o ++ [tokD t] else o) := by rw [List.foldl_append, ← i1]; rfl
        rw [hd] at hF hst
        obtain ⟨r, td, tx⟩ := t
        dsimp only at hF hst
        clear hd
        obtain ⟨ak, ck, rfl, hck3, -⟩ := OffR.shape hM (k := 0) rfl i4
        obtain ⟨av, cv, rfl, hcv, -⟩ := OffR.shape hM (k := 1) rfl (OffR.plain hM (List.mem_cons_of_mem _ List.mem_cons_self))
        have hkl : kn.length ≤ 4096 := by omega
        have hol : o.length ≤ 100000 := by omega
        have e3 := fun {own W} hl => conU_c kn d ak ck kn.length rfl (by omega) own W hl
        have e4 := fun {own W} hl => conU_c o d av cv o.length rfl (by omega) own W hl
        by_cases hdk : d ∈ kn
        · rw [if_pos hdk] at hst
          rw [decide_eq_true hdk] at e3
          (repeat' (first | (with_reducible refine w_seq ?_) | ((with_reducible refine c_regionR ?_ ?_); rotate_left; exact rfl) | (with_reducible refine s_nil ?_) | ((with_reducible apply s_call (f := 77) hF hM); exact rfl; exact rfl; exact rfl; exact rfl; exact rfl; exact (e3 (fun b h => hM.lt b (.inl h)) (OffR.fact hM (k := 0) rfl i4)); clear hF hM a; rintro v w a rfl - hM hF) | (with_reducible refine q_then_n ?_) | ((with_reducible apply s_pure hF); exact rfl; exact rfl; exact rfl; (first | exact trivial | omega | exact ⟨Int.natCast_nonneg _, Int.ofNat_lt.2 (by assumption)⟩ | decide); clear hF a; intro a hF) | ((with_reducible apply s_load hF hM); exact rfl; exact rfl; (repeat (first | exact List.mem_cons_self | refine List.mem_cons_of_mem _ ?_)); exact rfl; exact rfl; clear hF a; intro a hF) | (with_reducible refine w_block ?_) | (with_reducible refine w_exit ?_) | (with_reducible refine q_then_x ?_) | (with_reducible refine q_blk_x ?_) | ((with_reducible apply c_true2 hF); exact rfl; (first | with_reducible rfl | (refine congrArg Value.bool ?_; focus (simp; done))))))
          have hko := hM.fact (f := KeepsFrom w2.heap.size W') (by (repeat (first | exact List.mem_cons_self | refine List.mem_cons_of_mem _ ?_)))
          refine ⟨hko, ⟨below_mm hM0 hM hko.size, hM.fact (f := KT _ 28 W') (by (repeat (first | exact List.mem_cons_self | refine List.mem_cons_of_mem _ ?_)))⟩, ?_⟩
          exact ⟨kn, o, _, _, Ek, hst.symm, i2, by rw [List.length_append, List.length_singleton]; omega, i4, hM.sub (.refl _) (.refl _) (fun f hf => by simp at hf)⟩
        · rw [if_neg hdk] at hst
          rw [decide_eq_false hdk] at e3
          cases r with
          | false =>
            rw [if_neg (by simp)] at hst
            (repeat' (first | (with_reducible refine w_seq ?_) | ((with_reducible refine c_regionR ?_ ?_); rotate_left; exact rfl) | (with_reducible refine s_nil ?_) | ((with_reducible apply s_call (f := 77) hF hM); exact rfl; exact rfl; exact rfl; exact rfl; exact rfl; exact (e3 (fun b h => hM.lt b (.inl h)) (OffR.fact hM (k := 0) rfl i4)); clear hF hM a; rintro v w a rfl - hM hF) | (with_reducible refine q_then_n ?_) | ((with_reducible apply s_pure hF); exact rfl; exact rfl; exact rfl; (first | exact trivial | omega | exact ⟨Int.natCast_nonneg _, Int.ofNat_lt.2 (by assumption)⟩ | decide); clear hF a; intro a hF) | ((with_reducible apply s_load hF hM); exact rfl; exact rfl; (repeat (first | exact List.mem_cons_self | refine List.mem_cons_of_mem _ ?_)); exact rfl; exact rfl; clear hF a; intro a hF) | ((with_reducible apply s_lit hF hM); exact rfl; exact rfl; exact rfl; exact rfl; clear hF hM a; intro bl w a hM hF) | (with_reducible refine w_skip ?_) | (with_reducible refine w_block ?_) | ((with_reducible apply c_false2 hF); exact rfl; (first | with_reducible rfl | (refine congrArg Value.bool ?_; focus (simp; done)))) | ((with_reducible apply s_skip hF); exact rfl; exact rfl; clear hF a; intro a hF)))
            apply s_appO 0 hF hM i4
            · exact rfl
            · exact rfl
            · exact rfl
            · exact rfl
            · exact .z
            · exact rfl
            · exact rfl
            · exact rfl
            · exact rfl
            · omega
            clear hF hM a
            intro kv' Ek' w a hK' hM hF
            dsimp only [List.set] at hM
            obtain ⟨ak2, ck2, rfl, hkc, hks⟩ := OffR.shape hM (k := 0) rfl hK'
            obtain ⟨adk, rfl⟩ := hks (by omega)
            clear hks
            by_cases hgt : cp < (kn.length : Int) + 1
            · have hdr := OffR.drop hM (k := 0) rfl hK' 1 (by omega)
              (repeat' (first | (with_reducible refine w_seq ?_) | ((with_reducible refine c_regionR ?_ ?_); rotate_left; exact rfl) | (with_reducible refine s_nil ?_) | (with_reducible refine q_then_n ?_) | ((with_reducible apply s_pure hF); exact rfl; exact rfl; exact rfl; (first | exact trivial | omega | exact ⟨Int.natCast_nonneg _, Int.ofNat_lt.2 (by assumption)⟩ | decide); clear hF a; intro a hF) | ((with_reducible apply s_load hF hM); exact rfl; exact rfl; (repeat (first | exact List.mem_cons_self | refine List.mem_cons_of_mem _ ?_)); exact rfl; exact rfl; clear hF a; intro a hF) | ((with_reducible apply s_store hF hM); exact rfl; exact rfl; exact rfl; exact rfl; (repeat (first | exact Upd.z | apply Upd.s)); exact rfl; exact rfl; exact rfl; clear hM; intro w hM) | (with_reducible refine q_blk_n ?_) | ((with_reducible apply c_dec hF); exact rfl; all_goals intro hc; all_goals (try (exfalso; omega)))))
              have hko := hM.fact (f := KeepsFrom w2.heap.size W') (by (repeat (first | exact List.mem_cons_self | refine List.mem_cons_of_mem _ ?_)))
              refine ⟨hko, ⟨below_mm hM0 hM hko.size, hM.fact (f := KT _ 28 W') (by (repeat (first | exact List.mem_cons_self | refine List.mem_cons_of_mem _ ?_)))⟩, ?_⟩
              refine ⟨(kn ++ [d]).drop 1, o, _, _, Ek', ?_, ?_, ?_, ?_, hM.sub (.refl _) (.refl _) (fun f hf => by simp at hf)⟩
              · rw [hst]
                unfold knw
                rw [if_neg hdk, if_pos (by rw [List.length_append, List.length_singleton]; omega)]
              · rw [List.length_drop, List.length_append, List.length_singleton]
                omega
              · simp only [List.length_append, List.length_singleton]
                omega
              · rw [List.length_drop, List.length_append, List.length_singleton, List.map_drop, List.map_append]
                rw [Int.toNat_natCast]
                exact hdr
            · (repeat' (first | (with_reducible refine w_seq ?_) | ((with_reducible refine c_regionR ?_ ?_); rotate_left; exact rfl) | (with_reducible refine s_nil ?_) | (with_reducible refine q_then_n ?_) | ((with_reducible apply s_pure hF); exact rfl; exact rfl; exact rfl; (first | exact trivial | omega | exact ⟨Int.natCast_nonneg _, Int.ofNat_lt.2 (by assumption)⟩ | decide); clear hF a; intro a hF) | ((with_reducible apply s_load hF hM); exact rfl; exact rfl; (repeat (first | exact List.mem_cons_self | refine List.mem_cons_of_mem _ ?_)); exact rfl; exact rfl; clear hF a; intro a hF) | ((with_reducible apply s_store hF hM); exact rfl; exact rfl; exact rfl; exact rfl; (repeat (first | exact Upd.z | apply Upd.s)); exact rfl; exact rfl; exact rfl; clear hM; intro w hM) | (with_reducible refine w_skip ?_) | (with_reducible refine q_blk_n ?_) | ((with_reducible apply c_dec hF); exact rfl; all_goals intro hc; all_goals (try (exfalso; omega)))))
              have hko := hM.fact (f := KeepsFrom w2.heap.size W') (by (repeat (first | exact List.mem_cons_self | refine List.mem_cons_of_mem _ ?_)))
              refine ⟨hko, ⟨below_mm hM0 hM hko.size, hM.fact (f := KT _ 28 W') (by (repeat (first | exact List.mem_cons_self | refine List.mem_cons_of_mem _ ?_)))⟩, ?_⟩
              refine ⟨kn ++ [d], o, _, _, Ek', ?_, ?_, ?_, ?_, hM.sub (.refl _) (.refl _) (fun f hf => by simp at hf)⟩
              · rw [hst]
                unfold knw
                rw [if_neg hdk, if_neg (by rw [List.length_append, List.length_singleton]; omega)]
              · rw [List.length_append, List.length_singleton]
                omega
              · simp only [List.length_append, List.length_singleton]
                omega
              · rw [List.length_append, List.length_singleton, List.map_append]
                exact hK'
          | true =>
            by_cases hdo : d ∈ o
            · rw [if_neg (fun q => q.2 hdo)] at hst
              rw [decide_eq_true hdo] at e4
              (repeat' (first | (with_reducible refine w_seq ?_) | ((with_reducible refine c_regionR ?_ ?_); rotate_left; exact rfl) | (with_reducible refine s_nil ?_) | ((with_reducible apply s_call (f := 77) hF hM); exact rfl; exact rfl; exact rfl; exact rfl; exact rfl; exact (e3 (fun b h => hM.lt b (.inl h)) (OffR.fact hM (k := 0) rfl i4)); clear hF hM a; rintro v w a rfl - hM hF) | ((with_reducible apply s_call (f := 77) hF hM); exact rfl; exact rfl; exact rfl; exact rfl; exact rfl; exact (e4 (fun b h => hM.lt b (.inl h)) (OffR.fact hM (k := 1) rfl (OffR.plain hM (List.mem_cons_of_mem _ List.mem_cons_self)))); clear hF hM a; rintro v w a rfl - hM hF) | (with_reducible refine q_then_n ?_) | ((with_reducible apply s_pure hF); exact rfl; exact rfl; exact rfl; (first | exact trivial | omega | exact ⟨Int.natCast_nonneg _, Int.ofNat_lt.2 (by assumption)⟩ | decide); clear hF a; intro a hF) | ((with_reducible apply s_load hF hM); exact rfl; exact rfl; (repeat (first | exact List.mem_cons_self | refine List.mem_cons_of_mem _ ?_)); exact rfl; exact rfl; clear hF a; intro a hF) | ((with_reducible apply s_lit hF hM); exact rfl; exact rfl; exact rfl; exact rfl; clear hF hM a; intro bl w a hM hF) | (with_reducible refine w_skip ?_) | (with_reducible refine w_block ?_) | ((with_reducible apply c_false2 hF); exact rfl; (first | with_reducible rfl | (refine congrArg Value.bool ?_; focus (simp; done))))))
              apply s_appO 0 hF hM i4
              · exact rfl
              · exact rfl
              · exact rfl
              · exact rfl
              · exact .z
              · exact rfl
              · exact rfl
              · exact rfl
              · exact rfl
              · omega
              clear hF hM a
              intro kv' Ek' w a hK' hM hF
              dsimp only [List.set] at hM
              obtain ⟨ak2, ck2, rfl, hkc, hks⟩ := OffR.shape hM (k := 0) rfl hK'
              obtain ⟨adk, rfl⟩ := hks (by omega)
              clear hks
              by_cases hgt : cp < (kn.length : Int) + 1
              · have hdr := OffR.drop hM (k := 0) rfl hK' 1 (by omega)
                (repeat' (first | (with_reducible refine w_seq ?_) | ((with_reducible refine c_regionR ?_ ?_); rotate_left; exact rfl) | (with_reducible refine s_nil ?_) | (with_reducible refine q_then_n ?_) | ((with_reducible apply s_pure hF); exact rfl; exact rfl; exact rfl; (first | exact trivial | omega | exact ⟨Int.natCast_nonneg _, Int.ofNat_lt.2 (by assumption)⟩ | decide); clear hF a; intro a hF) | ((with_reducible apply s_load hF hM); exact rfl; exact rfl; (repeat (first | exact List.mem_cons_self | refine List.mem_cons_of_mem _ ?_)); exact rfl; exact rfl; clear hF a; intro a hF) | ((with_reducible apply s_store hF hM); exact rfl; exact rfl; exact rfl; exact rfl; (repeat (first | exact Upd.z | apply Upd.s)); exact rfl; exact rfl; exact rfl; clear hM; intro w hM) | (with_reducible refine q_blk_n ?_) | ((with_reducible apply c_dec hF); exact rfl; all_goals intro hc; all_goals (try (exfalso; omega)))))
                have hko := hM.fact (f := KeepsFrom w2.heap.size W') (by (repeat (first | exact List.mem_cons_self | refine List.mem_cons_of_mem _ ?_)))
                refine ⟨hko, ⟨below_mm hM0 hM hko.size, hM.fact (f := KT _ 28 W') (by (repeat (first | exact List.mem_cons_self | refine List.mem_cons_of_mem _ ?_)))⟩, ?_⟩
                refine ⟨(kn ++ [d]).drop 1, o, _, _, Ek', ?_, ?_, ?_, ?_, hM.sub (.refl _) (.refl _) (fun f hf => by simp at hf)⟩
                · rw [hst]
                  unfold knw
                  rw [if_neg hdk, if_pos (by rw [List.length_append, List.length_singleton]; omega)]
                · rw [List.length_drop, List.length_append, List.length_singleton]
                  omega
                · simp only [List.length_append, List.length_singleton]
                  omega
                · rw [List.length_drop, List.length_append, List.length_singleton, List.map_drop, List.map_append]
                  rw [Int.toNat_natCast]
                  exact hdr
              · (repeat' (first | (with_reducible refine w_seq ?_) | ((with_reducible refine c_regionR ?_ ?_); rotate_left; exact rfl) | (with_reducible refine s_nil ?_) | (with_reducible refine q_then_n ?_) | ((with_reducible apply s_pure hF); exact rfl; exact rfl; exact rfl; (first | exact trivial | omega | exact ⟨Int.natCast_nonneg _, Int.ofNat_lt.2 (by assumption)⟩ | decide); clear hF a; intro a hF) | ((with_reducible apply s_load hF hM); exact rfl; exact rfl; (repeat (first | exact List.mem_cons_self | refine List.mem_cons_of_mem _ ?_)); exact rfl; exact rfl; clear hF a; intro a hF) | ((with_reducible apply s_store hF hM); exact rfl; exact rfl; exact rfl; exact rfl; (repeat (first | exact Upd.z | apply Upd.s)); exact rfl; exact rfl; exact rfl; clear hM; intro w hM) | (with_reducible refine w_skip ?_) | (with_reducible refine q_blk_n ?_) | ((with_reducible apply c_dec hF); exact rfl; all_goals intro hc; all_goals (try (exfalso; omega)))))
                have hko := hM.fact (f := KeepsFrom w2.heap.size W') (by (repeat (first | exact List.mem_cons_self | refine List.mem_cons_of_mem _ ?_)))
                refine ⟨hko, ⟨below_mm hM0 hM hko.size, hM.fact (f := KT _ 28 W') (by (repeat (first | exact List.mem_cons_self | refine List.mem_cons_of_mem _ ?_)))⟩, ?_⟩
                refine ⟨kn ++ [d], o, _, _, Ek', ?_, ?_, ?_, ?_, hM.sub (.refl _) (.refl _) (fun f hf => by simp at hf)⟩
                · rw [hst]
                  unfold knw
                  rw [if_neg hdk, if_neg (by rw [List.length_append, List.length_singleton]; omega)]
                · rw [List.length_append, List.length_singleton]
                  omega
                · simp only [List.length_append, List.length_singleton]
                  omega
                · rw [List.length_append, List.length_singleton, List.map_append]
                  exact hK'
            · rw [if_pos ⟨rfl, hdo⟩] at hst
              rw [decide_eq_false hdo] at e4
              (repeat' (first | (with_reducible refine w_seq ?_) | ((with_reducible refine c_regionR ?_ ?_); rotate_left; exact rfl) | (with_reducible refine s_nil ?_) | ((with_reducible apply s_call (f := 77) hF hM); exact rfl; exact rfl; exact rfl; exact rfl; exact rfl; exact (e3 (fun b h => hM.lt b (.inl h)) (OffR.fact hM (k := 0) rfl i4)); clear hF hM a; rintro v w a rfl - hM hF) | ((with_reducible apply s_call (f := 77) hF hM); exact rfl; exact rfl; exact rfl; exact rfl; exact rfl; exact (e4 (fun b h => hM.lt b (.inl h)) (OffR.fact hM (k := 1) rfl (OffR.plain hM (List.mem_cons_of_mem _ List.mem_cons_self)))); clear hF hM a; rintro v w a rfl - hM hF) | (with_reducible refine q_then_n ?_) | ((with_reducible apply s_pure hF); exact rfl; exact rfl; exact rfl; (first | exact trivial | omega | exact ⟨Int.natCast_nonneg _, Int.ofNat_lt.2 (by assumption)⟩ | decide); clear hF a; intro a hF) | ((with_reducible apply s_load hF hM); exact rfl; exact rfl; (repeat (first | exact List.mem_cons_self | refine List.mem_cons_of_mem _ ?_)); exact rfl; exact rfl; clear hF a; intro a hF) | ((with_reducible apply s_store hF hM); exact rfl; exact rfl; exact rfl; exact rfl; (repeat (first | exact Upd.z | apply Upd.s)); exact rfl; exact rfl; exact rfl; clear hM; intro w hM) | ((with_reducible apply s_lit hF hM); exact rfl; exact rfl; exact rfl; exact rfl; clear hF hM a; intro bl w a hM hF) | ((with_reducible apply s_app hF hM); exact rfl; exact rfl; exact rfl; exact rfl; (repeat (first | exact Kth.z | apply Kth.s)); exact rfl; exact rfl; exact rfl; exact rfl; omega; clear hF hM a; intro g cap w a hM hF; dsimp only [List.set] at hM) | (with_reducible refine w_skip ?_) | (with_reducible refine w_block ?_) | ((with_reducible apply c_true2 hF); exact rfl; (first | with_reducible rfl | (refine congrArg Value.bool ?_; focus (simp; done)))) | ((with_reducible apply c_false2 hF); exact rfl; (first | with_reducible rfl | (refine congrArg Value.bool ?_; focus (simp; done))))))
              replace hM := hM.rowsEq (L' := [Ek, ⟨54, 1, .slice (some ⟨g, 0, none⟩) (o.length + 1) cap, (o ++ [d]).length, (o ++ [d]).map (Value.int .u64)⟩]) (by rw [List.length_append, List.map_append]; rfl)
              apply s_appO 0 hF hM i4
              · exact rfl
              · exact rfl
              · exact rfl
              · exact rfl
              · exact .z
              · exact rfl
              · exact rfl
              · exact rfl
              · exact rfl
              · omega
              clear hF hM a
              intro kv' Ek' w a hK' hM hF
              dsimp only [List.set] at hM
              obtain ⟨ak2, ck2, rfl, hkc, hks⟩ := OffR.shape hM (k := 0) rfl hK'
              obtain ⟨adk, rfl⟩ := hks (by omega)
              clear hks
              by_cases hgt : cp < (kn.length : Int) + 1
              · have hdr := OffR.drop hM (k := 0) rfl hK' 1 (by omega)
                (repeat' (first | (with_reducible refine w_seq ?_) | ((with_reducible refine c_regionR ?_ ?_); rotate_left; exact rfl) | (with_reducible refine s_nil ?_) | (with_reducible refine q_then_n ?_) | ((with_reducible apply s_pure hF); exact rfl; exact rfl; exact rfl; (first | exact trivial | omega | exact ⟨Int.natCast_nonneg _, Int.ofNat_lt.2 (by assumption)⟩ | decide); clear hF a; intro a hF) | ((with_reducible apply s_load hF hM); exact rfl; exact rfl; (repeat (first | exact List.mem_cons_self | refine List.mem_cons_of_mem _ ?_)); exact rfl; exact rfl; clear hF a; intro a hF) | ((with_reducible apply s_store hF hM); exact rfl; exact rfl; exact rfl; exact rfl; (repeat (first | exact Upd.z | apply Upd.s)); exact rfl; exact rfl; exact rfl; clear hM; intro w hM) | (with_reducible refine q_blk_n ?_) | ((with_reducible apply c_dec hF); exact rfl; all_goals intro hc; all_goals (try (exfalso; omega)))))
                have hko := hM.fact (f := KeepsFrom w2.heap.size W') (by (repeat (first | exact List.mem_cons_self | refine List.mem_cons_of_mem _ ?_)))
                refine ⟨hko, ⟨below_mm hM0 hM hko.size, hM.fact (f := KT _ 28 W') (by (repeat (first | exact List.mem_cons_self | refine List.mem_cons_of_mem _ ?_)))⟩, ?_⟩
                refine ⟨(kn ++ [d]).drop 1, (o ++ [d]), _, _, Ek', ?_, ?_, ?_, ?_, hM.sub (.refl _) (.refl _) (fun f hf => by simp at hf)⟩
                · rw [hst]
                  unfold knw
                  rw [if_neg hdk, if_pos (by rw [List.length_append, List.length_singleton]; omega)]
                · rw [List.length_drop, List.length_append, List.length_singleton]
                  omega
                · simp only [List.length_append, List.length_singleton]
                  omega
                · rw [List.length_drop, List.length_append, List.length_singleton, List.map_drop, List.map_append]
                  rw [Int.toNat_natCast]
                  exact hdr
              · (repeat' (first | (with_reducible refine w_seq ?_) | ((with_reducible refine c_regionR ?_ ?_); rotate_left; exact rfl) | (with_reducible refine s_nil ?_) | (with_reducible refine q_then_n ?_) | ((with_reducible apply s_pure hF); exact rfl; exact rfl; exact rfl; (first | exact trivial | omega | exact ⟨Int.natCast_nonneg _, Int.ofNat_lt.2 (by assumption)⟩ | decide); clear hF a; intro a hF) | ((with_reducible apply s_load hF hM); exact rfl; exact rfl; (repeat (first | exact List.mem_cons_self | refine List.mem_cons_of_mem _ ?_)); exact rfl; exact rfl; clear hF a; intro a hF) | ((with_reducible apply s_store hF hM); exact rfl; exact rfl; exact rfl; exact rfl; (repeat (first | exact Upd.z | apply Upd.s)); exact rfl; exact rfl; exact rfl; clear hM; intro w hM) | (with_reducible refine w_skip ?_) | (with_reducible refine q_blk_n ?_) | ((with_reducible apply c_dec hF); exact rfl; all_goals intro hc; all_goals (try (exfalso; omega)))))
                have hko := hM.fact (f := KeepsFrom w2.heap.size W') (by (repeat (first | exact List.mem_cons_self | refine List.mem_cons_of_mem _ ?_)))
                refine ⟨hko, ⟨below_mm hM0 hM hko.size, hM.fact (f := KT _ 28 W') (by (repeat (first | exact List.mem_cons_self | refine List.mem_cons_of_mem _ ?_)))⟩, ?_⟩
                refine ⟨kn ++ [d], (o ++ [d]), _, _, Ek', ?_, ?_, ?_, ?_, hM.sub (.refl _) (.refl _) (fun f hf => by simp at hf)⟩
                · rw [hst]
                  unfold knw
                  rw [if_neg hdk, if_neg (by rw [List.length_append, List.length_singleton]; omega)]
                · rw [List.length_append, List.length_singleton]
                  omega
                · simp only [List.length_append, List.length_singleton]
                  omega
                · rw [List.length_append, List.length_singleton, List.map_append]
                  exact hK'
end
end Go.Proofs.Ytonelgecjmpbgaa


/- dedup: Supply. -/
namespace Go.Proofs.Ytonelgecjmpbgaa
open Go.RowKit Go.Shelf D29
section
variable {n : Nat} {ds : List Deferred} {l : List (Nat × Value)} {a : Act} {w w0 : World} {own : Nat → Prop} {bs : List BoxE} {L : List Ent} {Fs : List (World → Prop)}
variable {os rest : List Oper} {Q : Exit → Act → World → Prop}
variable {d : Nat} {ty : TypeId} {pos : String} {af : Array Edge} {g : Option (Nat × Bool)}
theorem s_lookupOkE {α : Type} [DecidableEq α] {kt xT : TypeId} {ek : α → Value} {A : α → Prop} {z : Value} {b : Nat} {es : List (α × Value)} {x : α} {X I : Operand} (hK : KeyOk kt ek A) (hF : Fr n ds l a) (hM : Mm own w0 bs L Fs w) (hg : wantO os l g = some true) (hX : ev l X = some (.map (some b))) (hI : ev l I = some (ek x)) (ht : mapTy xT = some (kt, z)) (hb : MpE ek b es ∈ Fs) (hd : Nat.blt d n = true) (hx : A x) (hes : ∀ e ∈ es, A e.1)
    (kk : ∀ a, Fr n ds ((d, .tuple #[(kadd x z es).2.2, .bool (kfind x es 0).isSome]) :: l) a → wl ⟨os⟩ Q rest a w) : wl ⟨os⟩ Q (⟨some d, .lookup xT X I true, ty, pos, af, g⟩ :: rest) a w :=
  s_lookupOk hK hF hM hg hX hI ht hb hx (stamp_ok hes) hd fun a h => by
    rw [(plk_stamp x z es).1, (plk_stamp x z es).2] at h
    exact kk a h
theorem s_mapUpdateN {α : Type} [DecidableEq α] {kt xT : TypeId} {ek : α → Value} {A : α → Prop} {z : Value} {b : Nat} {es : List (α × Value)} {x : α} {X I Y : Operand} (hK : KeyOk kt ek A) {v : Value} (hF : Fr n ds l a) (hM : Mm own w0 bs L (MpE ek b es :: Fs) w) (hg : wantO os l g = some true) (hX : ev l X = some (.map (some b))) (hI : ev l I = some (ek x)) (hY : ev l Y = some v) (ht : mapTy xT = some (kt, z)) (hx : A x) (hes : ∀ e ∈ es, A e.1) (hb0 : w0.heap.size ≤ b) (hcf : ∀ f ∈ Fs, Nb b f)
    (k : ∀ w' a', Mm own w0 bs L (MpE ek b (kput x v es) :: Fs) w' → Fr n ds l a' → wl ⟨os⟩ Q rest a' w') : wl ⟨os⟩ Q (⟨none, .mapUpdate xT X I Y, ty, pos, af, g⟩ :: rest) a w :=
  s_op hF hg fun _ hK' => e_mapUpdateN hK hF hM hX hI hY ht hx hes hb0 hcf fun w' h => hK' _ _ (k w' _ h hF)
end
namespace D29
/-- The table of the data that are supplied. -/
def slV (p : P) : Value := .slice p.2.1 p.1.x.length p.2.2
def esM (M : List P) : List (Int × Value) := M.map fun p => (p.1.d, slV p)
def fM (d : Int) (M : List P) : Option P := M.find? fun p => decide (p.1.d = d)
theorem kfindM (d : Int) : ∀ (M : List P) (i : Nat), (kfind d (esM M) i).isSome = (fM d M).isSome ∧ ∀ j, kfind d (esM M) i = some j → ∃ p, M[j - i]? = some p ∧ fM d M = some p
  | [], i => ⟨rfl, fun j h => by cases h⟩
  | p :: M, i => by
    have ih := kfindM d M (i + 1)
    unfold fM at ih ⊢
    rw [esM, List.map_cons, kfind, List.find?_cons]
    by_cases h : p.1.d = d
    · rw [if_pos h.symm, decide_eq_true h]
      refine ⟨rfl, fun j hj => ?_⟩
      injection hj with hj
      subst hj
      exact ⟨p, by simp, rfl⟩
    · rw [if_neg (fun q => h q.symm), decide_eq_false h]
      refine ⟨ih.1, fun j hj => ?_⟩
      obtain ⟨q, h1, h2⟩ := ih.2 j hj
      have := (kfind_lt (es := esM M) hj).1
      exact ⟨q, by rw [show j - i = (j - (i + 1)) + 1 by omega, List.getElem?_cons_succ]; exact h1, h2⟩
theorem kaddM (d : Int) (z : Value) (M : List P) : (kadd d z (esM M)).2.2 = match fM d M with | some p => slV p | none => z := by
  have h := kfindM d M 0
  unfold kadd
  cases hk : kfind d (esM M) 0 with
  | none =>
    have h1 := h.1
    rw [hk] at h1
    cases hf : fM d M with
    | none => rfl
    | some p => rw [hf] at h1; cases h1
  | some j =>
    obtain ⟨p, h1, h2⟩ := h.2 j hk
    rw [h2]
    rw [Nat.sub_zero] at h1
    simp [esM, h1]
theorem kputM (p : P) (M : List P) (h : fM p.1.d M = none) : kput p.1.d (slV p) (esM M) = esM (M ++ [p]) := by
  have h1 := (kfindM p.1.d M 0).1
  rw [h] at h1
  rw [kput_add p.1.d (slV p) .nilFunc]
  unfold kadd
  cases hk : kfind p.1.d (esM M) 0 with
  | some j => rw [hk] at h1; cases h1
  | none => simp [esM]
def rightI (i : Itm) : Bool := isCh i.x && decide (dg i.x = i.d)
theorem supF_snoc (l : List Itm) (i : Itm) (d : Int) : supF (l ++ [i]) d = match supF l d with | some x => some x | none => if i.d = d ∧ rightI i = true then some i.x else none := by
  unfold supF rightI
  rw [List.find?_append]
  cases h : l.find? fun i => decide (i.d = d) && (isCh i.x && decide (dg i.x = i.d)) with
  | some j => rfl
  | none =>
    simp only [Option.map_none, List.find?_cons, List.find?_nil]
    by_cases h1 : i.d = d
    · cases h2 : isCh i.x && decide (dg i.x = i.d) <;> simp [h1] <;> simp_all
    · simp [h1]
def SupM (M : List P) (l : List Itm) : Prop := ∀ d, (fM d M).map (·.1.x) = supF l d
theorem SupM.none {M : List P} {l : List Itm} (h : SupM M l) {d : Int} (hd : fM d M = none) : supF l d = none := by rw [← h d, hd]; rfl
theorem SupM.some {M : List P} {l : List Itm} (h : SupM M l) {d : Int} {p : P} (hd : fM d M = some p) : supF l d = some p.1.x := by rw [← h d, hd]; rfl
theorem supM_add {M : List P} {l : List Itm} {p : P} (h : SupM M l) (h1 : fM p.1.d M = none) (h2 : rightI p.1 = true) : SupM (M ++ [p]) (l ++ [p.1]) := by
  intro d
  rw [supF_snoc, ← h d]
  unfold fM at h1 ⊢
  rw [List.find?_append]
  cases hf : M.find? fun q => decide (q.1.d = d) with
  | some q => rfl
  | none =>
    simp only [Option.map_none, List.find?_cons, List.find?_nil]
    by_cases hd : p.1.d = d
    · simp [hd, h2]
    · simp [hd]
theorem supM_skip {M : List P} {l : List Itm} {p : P} (h : SupM M l) (h1 : (∃ q, fM p.1.d M = some q) ∨ rightI p.1 = false) : SupM M (l ++ [p.1]) := by
  intro d
  rw [supF_snoc, ← h d]
  cases hf : fM d M with
  | some q => rfl
  | none =>
    simp only [Option.map_none]
    rw [if_neg]
    rintro ⟨e, e2⟩
    rcases h1 with ⟨q, h1⟩ | h1
    · rw [e, hf] at h1; cases h1
    · rw [h1] at e2; cases e2
theorem fM_mem {M : List P} {d : Int} {p : P} (h : fM d M = some p) : p ∈ M := List.mem_of_find?_eq_some h
end D29
section
variable (ps : List P) (a0 : Option Addr) (c0 n : Nat) (hn : ps.length = n) (hlen : n ≤ 100000) (hDW : DatW ps) (hpx : ∀ p ∈ ps, p.1.x.length ≤ 100000) (own : Nat → Prop) (W : World) (hl : ∀ b, own b → b < W.heap.size) (h1 : Has own W (RdF id a0 (cellsP ps))) (h2 : Has own W (DatF ps))
include hn hlen hDW hpx hl h1 h2
set_option maxRecDepth 20000 in
set_option maxHeartbeats 8000000 in
theorem Supply29_c (ts : List TP) (hts : DatW (tP ts)) (hx4 : ∀ t ∈ ts, t.1.x.length ≤ 100000) (al : Option Addr) (cl nl : Nat) (hnl : ts.length = nl) (hnl4 : nl ≤ 100000) (hx1 : Has own W (RdF id al (cellsT ts))) (hx2 : Has own W (DatF (tP ts))) :
    Calls Try.prog 44 ⟨[.slice al nl cl, .slice a0 n c0]⟩ W (Ret W fun v w' => ∃ (a : Option Addr) (c : Nat), v = .slice a ts.length c ∧ TkR own ((tms ts).map (supT (ims ps))) a c w') := by
  have hM := ((((Mm.start hl).known hx2).known hx1).known h2).known h1
  subst hn hnl
  have hw := itC_len ps
  have hw3 := tkC_len ts
  refine f_start Try.func44 rfl Try.ntmps44 rfl rfl ?_; intro a hF
  (repeat (first | (with_reducible refine w_seq ?_) | (with_reducible refine c_region ?_) | (with_reducible refine s_nil ?_) | (with_reducible refine q_then_n ?_) | ((with_reducible apply s_pure hF); exact rfl; exact rfl; exact rfl; (first | exact trivial | omega | exact ⟨Int.natCast_nonneg _, Int.ofNat_lt.2 (by assumption)⟩ | decide); clear hF a; intro a hF)))
  refine s_makeMapE (α := Int) (ek := Value.int .u64) hF hM rfl rfl ?_
  clear hF hM a
  intro mb w a hmb hM hF
  (repeat (first | (with_reducible refine w_seq ?_) | (with_reducible refine c_region ?_) | (with_reducible refine s_nil ?_) | (with_reducible refine q_then_n ?_) | ((with_reducible apply s_pure hF); exact rfl; exact rfl; exact rfl; (first | exact trivial | omega | exact ⟨Int.natCast_nonneg _, Int.ofNat_lt.2 (by assumption)⟩ | decide); clear hF a; intro a hF) | (with_reducible refine w_block ?_)))
  have hcf : ∀ f ∈ [RdF id a0 (cellsP ps), DatF ps, RdF id al (cellsT ts), DatF (tP ts)], Nb mb f := by
    intro f hf
    simp only [List.mem_cons, List.not_mem_nil, or_false] at hf
    rcases hf with rfl | rfl | rfl | rfl
    · exact Nb.rd
    · exact Nb.dat
    · exact Nb.rd
    · exact Nb.dat
  refine c_loop (m := ps.length) (fun m a w' => ∃ (k : Nat) (M : List P), m + k = ps.length ∧ SupM M (ims (ps.take k)) ∧ (∀ p ∈ M, p ∈ ps) ∧
    Fr 85 [] [(18, .int .i64 k), (17, .int .i64 ps.length), (16, .slice a0 ps.length c0), (5, .map (some mb)), (0, .slice al ts.length cl)] a ∧
    Mm own W [] [] [MpE (Value.int .u64) mb (esM M), RdF id a0 (cellsP ps), DatF ps, RdF id al (cellsT ts), DatF (tP ts)] w')
    ⟨0, [], by omega, fun d => rfl, fun p hp => by simp at hp, hF.sub (by repeat (first | exact Sub.nil | refine Sub.cons rfl (by first | with_reducible rfl | (refine congrArg (Value.int _) ?_; omega) | exact rfl) ?_)), hM⟩ ?_
  clear hF hM a
  rintro m a w' ⟨k, M, hm, hS, hMp, hF, hM⟩
  by_cases hk : k < ps.length
  · obtain ⟨p, hp⟩ := get_of_lt hk
    have hpm := List.mem_of_getElem? hp
    obtain ⟨hp8, hpc, hpb⟩ := hDW p hpm
    have hp4 := hpx p hpm
    have hpr := dat_one (hM.facts (DatF ps) (by (repeat (first | with_reducible exact List.mem_cons_self | refine List.mem_cons_of_mem _ ?_)))) hpm
    have hki : ims (ps.take (k + 1)) = ims (ps.take k) ++ [p.1] := by
      rw [List.take_add_one, hp]
      simp [ims]
    have hkM := kaddM p.1.d (.slice none 0 0) M
    have hkI := (kfindM p.1.d M 0).1
    have hkP := kputM p M
    have hpe : (ps.map itC)[k]? = some [.int .u64 p.1.d, .slice p.2.1 p.1.x.length p.2.2] := by rw [List.getElem?_map, hp]; rfl
    obtain ⟨ad, rfl⟩ : ∃ ad, a0 = some ad := rd_some hM (enc := id) (a := a0) (xs := cellsP ps) (by (repeat (first | exact List.mem_cons_self | refine List.mem_cons_of_mem _ ?_))) (flat_get (q := 0) hw hpe rfl)
    have hcc : cellsP ps = (ps.map itC).flatten := rfl
    rw [hcc] at hM hcf
    have hadd := fun h1 h2 => supM_add (p := p) hS h1 h2
    have hskip := fun h1 => supM_skip (p := p) hS h1
    have hMp2 : ∀ q ∈ M ++ [p], q ∈ ps := by
      intro q hq
      rcases List.mem_append.1 hq with hq | hq
      · exact hMp q hq
      · rw [List.mem_singleton] at hq
        rw [hq]
        exact hpm
    rw [← hki] at hadd hskip
    unfold rightI slV at *
    obtain ⟨⟨d, x⟩, ax, cx⟩ := p
    dsimp only at hp8 hpc hpb hp4 hpr hpe hkM hkI hkP hadd hskip hMp2
    obtain ⟨q, hxq⟩ : ∃ q, x.length = q := ⟨_, rfl⟩
    rw [hxq] at hpe hkP
    replace hM : Mm own W [] [] (MpE (Value.int .u64) mb (esM M) :: [RdF id (some ad) (ps.map itC).flatten, DatF ps, RdF id al (cellsT ts), DatF (tP ts)]) w' := hM
    (repeat' (first | (with_reducible refine w_seq ?_) | (with_reducible refine c_region ?_) | (with_reducible refine s_nil ?_) | ((with_reducible apply s_loadE hF hM); exact rfl; exact rfl; (repeat (first | exact List.mem_cons_self | refine List.mem_cons_of_mem _ ?_)); exact rfl; exact rfl; (first | with_reducible assumption | (simp only [Int.toNat_natCast]; with_reducible assumption)); (with_reducible assumption); clear hF a; intro a hF) | (with_reducible refine q_then_n ?_) | ((with_reducible apply s_pure hF); exact rfl; exact rfl; exact rfl; (first | exact trivial | omega | exact ⟨Int.natCast_nonneg _, Int.ofNat_lt.2 (by assumption)⟩ | decide); clear hF a; intro a hF) | ((with_reducible apply s_load hF hM); exact rfl; exact rfl; (repeat (first | exact List.mem_cons_self | refine List.mem_cons_of_mem _ ?_)); exact rfl; exact rfl; clear hF a; intro a hF) | ((with_reducible apply s_store hF hM); exact rfl; exact rfl; exact rfl; exact rfl; (repeat (first | exact Upd.z | apply Upd.s)); exact rfl; exact rfl; exact rfl; clear hM; intro w hM) | ((with_reducible apply s_alloc hF hM); exact rfl; exact rfl; exact rfl; clear hF hM a; intro b w a hM hF) | (with_reducible refine w_skip ?_) | (with_reducible refine w_block ?_) | ((with_reducible apply c_dec hF); exact rfl; all_goals intro hc; all_goals (try (exfalso; omega)))))
    refine s_lookupOkE (ek := Value.int .u64) (z := .slice none 0 0) (x := d) (es := esM M) (keyOk_int rfl) hF hM rfl rfl rfl rfl (by (repeat (first | exact List.mem_cons_self | refine List.mem_cons_of_mem _ ?_))) rfl trivial (fun _ _ => trivial) ?_
    clear hF a
    intro a hF
    rw [hkM, hkI] at hF
    cases hf : fM d M with
    | some pp =>
      rw [hf] at hF
      dsimp only [Option.isSome] at hF
      (repeat (first | (with_reducible refine w_seq ?_) | (with_reducible refine s_nil ?_) | (with_reducible refine q_then_n ?_) | ((with_reducible apply s_pure hF); exact rfl; exact rfl; exact rfl; (first | exact trivial | omega | exact ⟨Int.natCast_nonneg _, Int.ofNat_lt.2 (by assumption)⟩ | decide); clear hF a; intro a hF)))
      refine c_draw (fun i => Nat.ble 15 i) hM ?_; clear hM; intro w hM
      (first | (refine t_pure (i := 0) hF rfl rfl rfl rfl (by kernel_rfl) hM.sm (fun _ _ _ h => h) ?_ ?_; (first | exact trivial | omega | decide); clear hF a; intro a hF))
      (first | (refine t_pure (i := 1) hF rfl rfl rfl rfl (by kernel_rfl) hM.sm (fun _ _ _ h => h) ?_ ?_; (first | exact trivial | omega | decide); clear hF a; intro a hF))
      (first | (refine t_pure (i := 2) hF rfl rfl rfl rfl (by kernel_rfl) hM.sm (fun _ _ _ h => h) ?_ ?_; (first | exact trivial | omega | decide); clear hF a; intro a hF))
      (first | (refine t_skip (i := 3) hF rfl rfl rfl (by kernel_rfl) hM.sm (fun _ _ _ h => h) ?_; clear hF a; intro a hF))
      (first | (refine t_skip (i := 4) hF rfl rfl rfl (by kernel_rfl) hM.sm (fun _ _ _ h => h) ?_; clear hF a; intro a hF))
      (refine t_skip (i := 5) hF rfl rfl rfl (by kernel_rfl) hM.sm (fun _ _ _ h => h) ?_; clear hF a; intro a hF)
      (first | (refine t_pure (i := 6) hF rfl rfl rfl rfl (by kernel_rfl) hM.sm (fun _ _ _ h => h) ?_ ?_; (first | exact trivial | omega | decide); clear hF a; intro a hF))
      (first | (refine t_pure (i := 7) hF rfl rfl rfl rfl (by kernel_rfl) hM.sm (fun _ _ _ h => h) ?_ ?_; (first | exact trivial | omega | decide); clear hF a; intro a hF))
      (first | (refine t_skip (i := 8) hF rfl rfl rfl (by kernel_rfl) hM.sm (fun _ _ _ h => h) ?_; clear hF a; intro a hF))
      (first | (refine t_skip (i := 9) hF rfl rfl rfl (by kernel_rfl) hM.sm (fun _ _ _ h => h) ?_; clear hF a; intro a hF))
      (refine t_skip (i := 10) hF rfl rfl rfl (by kernel_rfl) hM.sm (fun _ _ _ h => h) ?_; clear hF a; intro a hF)
      (first | (refine t_skip (i := 11) hF rfl rfl rfl (by kernel_rfl) hM.sm (fun _ _ _ h => h) ?_; clear hF a; intro a hF))
      (first | (refine t_skip (i := 12) hF rfl rfl rfl (by kernel_rfl) hM.sm (fun _ _ _ h => h) ?_; clear hF a; intro a hF))
      (first | (refine t_skip (i := 13) hF rfl rfl rfl (by kernel_rfl) hM.sm (fun _ _ _ h => h) ?_; clear hF a; intro a hF))
      (first | (refine t_pure (i := 14) hF rfl rfl rfl rfl (by kernel_rfl) hM.sm (fun _ _ _ h => h) ?_ ?_; (first | exact trivial | omega | decide); clear hF a; intro a hF))
      refine t_done (by kernel_rfl) ?_
      (repeat' (first | (with_reducible refine c_region ?_) | (with_reducible refine s_nil ?_) | (with_reducible refine q_then_n ?_) | ((with_reducible apply s_pure hF); exact rfl; exact rfl; exact rfl; (first | exact trivial | omega | exact ⟨Int.natCast_nonneg _, Int.ofNat_lt.2 (by assumption)⟩ | decide); clear hF a; intro a hF) | (with_reducible refine w_skip ?_) | (with_reducible refine q_blk_n ?_) | ((with_reducible apply c_false2 hF); exact rfl; (first | with_reducible rfl | (refine congrArg Value.bool ?_; focus (simp; done))))))
      exact ⟨m - 1, by omega, k + 1, M, by omega, hskip (.inl ⟨_, hf⟩), hMp, hF.sub (by repeat (first | exact Sub.nil | refine Sub.cons rfl (by first | with_reducible rfl | (refine congrArg (Value.int _) ?_; omega) | exact rfl) ?_)), hM.sub (.cons _ .slnil) (.refl _) (fun f hf => hf)⟩
    | none =>
      rw [hf] at hF
      dsimp only [Option.isSome] at hF
      cases hch : isCh x with
      | false =>
        (repeat (first | (with_reducible refine w_seq ?_) | (with_reducible refine s_nil ?_) | (with_reducible refine q_then_n ?_) | ((with_reducible apply s_pure hF); exact rfl; exact rfl; exact rfl; (first | exact trivial | omega | exact ⟨Int.natCast_nonneg _, Int.ofNat_lt.2 (by assumption)⟩ | decide); clear hF a; intro a hF)))
        refine c_draw (fun i => Nat.ble 15 i) hM ?_; clear hM; intro w hM
        (first | (refine t_pure (i := 0) hF rfl rfl rfl rfl (by kernel_rfl) hM.sm (fun _ _ _ h => h) ?_ ?_; (first | exact trivial | omega | decide); clear hF a; intro a hF))
        (first | (refine t_pure (i := 1) hF rfl rfl rfl rfl (by kernel_rfl) hM.sm (fun _ _ _ h => h) ?_ ?_; (first | exact trivial | omega | decide); clear hF a; intro a hF))
        (first | (refine t_pure (i := 2) hF rfl rfl rfl rfl (by kernel_rfl) hM.sm (fun _ _ _ h => h) ?_ ?_; (first | exact trivial | omega | decide); clear hF a; intro a hF))
        (first | (refine t_pure (i := 3) hF rfl rfl rfl rfl (by kernel_rfl) hM.sm (fun _ _ _ h => h) ?_ ?_; (first | exact trivial | omega | decide); clear hF a; intro a hF))
        (first | (apply t_load (i := 4) hF rfl rfl rfl; (repeat (first | exact List.mem_cons_self | refine List.mem_cons_of_mem _ ?_)); exact rfl; exact rfl; kernel_rfl; exact hM.sm; exact (fun _ _ _ h => h); clear hF a; intro a hF))
        refine t_one (i := 5) hF rfl (by kernel_rfl) rfl ?_
        intro K hK
        (apply x_call hF hM; exact rfl; exact rfl; exact rfl; exact rfl; exact (isChunk_c x ax cx q hxq _ _ hM.lt); clear hF hM a; rintro v w a rfl - hM hF)
        rw [hch] at hF
        refine hK _ _ (fun _ => (hM.sm.sub (fun x hx => by repeat (first | exact hx | refine List.mem_cons_of_mem _ ?_)) (fun _ h => by repeat (first | exact h | refine List.mem_cons_of_mem _ ?_)))) ?_; clear hK
        (first | (refine t_pure (i := 6) hF rfl rfl rfl rfl (by kernel_rfl) (hM.sm.sub (fun x hx => by repeat (first | exact hx | refine List.mem_cons_of_mem _ ?_)) (fun _ h => by repeat (first | exact h | refine List.mem_cons_of_mem _ ?_))) (fun _ _ _ h => h) ?_ ?_; (first | exact trivial | omega | decide); clear hF a; intro a hF))
        (first | (refine t_pure (i := 7) hF rfl rfl rfl rfl (by kernel_rfl) (hM.sm.sub (fun x hx => by repeat (first | exact hx | refine List.mem_cons_of_mem _ ?_)) (fun _ h => by repeat (first | exact h | refine List.mem_cons_of_mem _ ?_))) (fun _ _ _ h => h) ?_ ?_; (first | exact trivial | omega | decide); clear hF a; intro a hF))
        (first | (refine t_skip (i := 8) hF rfl rfl rfl (by kernel_rfl) (hM.sm.sub (fun x hx => by repeat (first | exact hx | refine List.mem_cons_of_mem _ ?_)) (fun _ h => by repeat (first | exact h | refine List.mem_cons_of_mem _ ?_))) (fun _ _ _ h => h) ?_; clear hF a; intro a hF))
        (first | (refine t_skip (i := 9) hF rfl rfl rfl (by kernel_rfl) (hM.sm.sub (fun x hx => by repeat (first | exact hx | refine List.mem_cons_of_mem _ ?_)) (fun _ h => by repeat (first | exact h | refine List.mem_cons_of_mem _ ?_))) (fun _ _ _ h => h) ?_; clear hF a; intro a hF))
        (refine t_skip (i := 10) hF rfl rfl rfl (by kernel_rfl) (hM.sm.sub (fun x hx => by repeat (first | exact hx | refine List.mem_cons_of_mem _ ?_)) (fun _ h => by repeat (first | exact h | refine List.mem_cons_of_mem _ ?_))) (fun _ _ _ h => h) ?_; clear hF a; intro a hF)
        (first | (refine t_skip (i := 11) hF rfl rfl rfl (by kernel_rfl) (hM.sm.sub (fun x hx => by repeat (first | exact hx | refine List.mem_cons_of_mem _ ?_)) (fun _ h => by repeat (first | exact h | refine List.mem_cons_of_mem _ ?_))) (fun _ _ _ h => h) ?_; clear hF a; intro a hF))
        (first | (refine t_skip (i := 12) hF rfl rfl rfl (by kernel_rfl) (hM.sm.sub (fun x hx => by repeat (first | exact hx | refine List.mem_cons_of_mem _ ?_)) (fun _ h => by repeat (first | exact h | refine List.mem_cons_of_mem _ ?_))) (fun _ _ _ h => h) ?_; clear hF a; intro a hF))
        (first | (refine t_skip (i := 13) hF rfl rfl rfl (by kernel_rfl) (hM.sm.sub (fun x hx => by repeat (first | exact hx | refine List.mem_cons_of_mem _ ?_)) (fun _ h => by repeat (first | exact h | refine List.mem_cons_of_mem _ ?_))) (fun _ _ _ h => h) ?_; clear hF a; intro a hF))
        (first | (refine t_pure (i := 14) hF rfl rfl rfl rfl (by kernel_rfl) (hM.sm.sub (fun x hx => by repeat (first | exact hx | refine List.mem_cons_of_mem _ ?_)) (fun _ h => by repeat (first | exact h | refine List.mem_cons_of_mem _ ?_))) (fun _ _ _ h => h) ?_ ?_; (first | exact trivial | omega | decide); clear hF a; intro a hF))
        refine t_done (by kernel_rfl) ?_
        (repeat' (first | (with_reducible refine c_region ?_) | (with_reducible refine s_nil ?_) | (with_reducible refine q_then_n ?_) | ((with_reducible apply s_pure hF); exact rfl; exact rfl; exact rfl; (first | exact trivial | omega | exact ⟨Int.natCast_nonneg _, Int.ofNat_lt.2 (by assumption)⟩ | decide); clear hF a; intro a hF) | (with_reducible refine w_skip ?_) | (with_reducible refine q_blk_n ?_) | ((with_reducible apply c_false2 hF); exact rfl; (first | with_reducible rfl | (refine congrArg Value.bool ?_; focus (simp; done))))))
        exact ⟨m - 1, by omega, k + 1, M, by omega, hskip (.inr (by rw [hch]; rfl)), hMp, hF.sub (by repeat (first | exact Sub.nil | refine Sub.cons rfl (by first | with_reducible rfl | (refine congrArg (Value.int _) ?_; omega) | exact rfl) ?_)), hM.sub (.cons _ .slnil) (.refl _) (fun f hf => hf)⟩
      | true =>
        (repeat (first | (with_reducible refine w_seq ?_) | (with_reducible refine s_nil ?_) | (with_reducible refine q_then_n ?_) | ((with_reducible apply s_pure hF); exact rfl; exact rfl; exact rfl; (first | exact trivial | omega | exact ⟨Int.natCast_nonneg _, Int.ofNat_lt.2 (by assumption)⟩ | decide); clear hF a; intro a hF)))
        refine c_draw (fun i => Nat.ble 15 i) hM ?_; clear hM; intro w hM
        (first | (refine t_pure (i := 0) hF rfl rfl rfl rfl (by kernel_rfl) hM.sm (fun _ _ _ h => h) ?_ ?_; (first | exact trivial | omega | decide); clear hF a; intro a hF))
        (first | (refine t_pure (i := 1) hF rfl rfl rfl rfl (by kernel_rfl) hM.sm (fun _ _ _ h => h) ?_ ?_; (first | exact trivial | omega | decide); clear hF a; intro a hF))
        (first | (refine t_pure (i := 2) hF rfl rfl rfl rfl (by kernel_rfl) hM.sm (fun _ _ _ h => h) ?_ ?_; (first | exact trivial | omega | decide); clear hF a; intro a hF))
        (first | (refine t_pure (i := 3) hF rfl rfl rfl rfl (by kernel_rfl) hM.sm (fun _ _ _ h => h) ?_ ?_; (first | exact trivial | omega | decide); clear hF a; intro a hF))
        (first | (apply t_load (i := 4) hF rfl rfl rfl; (repeat (first | exact List.mem_cons_self | refine List.mem_cons_of_mem _ ?_)); exact rfl; exact rfl; kernel_rfl; exact hM.sm; exact (fun _ _ _ h => h); clear hF a; intro a hF))
        refine t_one (i := 5) hF rfl (by kernel_rfl) rfl ?_
        intro K hK
        (apply x_call hF hM; exact rfl; exact rfl; exact rfl; exact rfl; exact (isChunk_c x ax cx q hxq _ _ hM.lt); clear hF hM a; rintro v w a rfl - hM hF)
        rw [hch] at hF
        refine hK _ _ (fun _ => (hM.sm.sub (fun x hx => by repeat (first | exact hx | refine List.mem_cons_of_mem _ ?_)) (fun _ h => by repeat (first | exact h | refine List.mem_cons_of_mem _ ?_)))) ?_; clear hK
        (first | (refine t_pure (i := 6) hF rfl rfl rfl rfl (by kernel_rfl) (hM.sm.sub (fun x hx => by repeat (first | exact hx | refine List.mem_cons_of_mem _ ?_)) (fun _ h => by repeat (first | exact h | refine List.mem_cons_of_mem _ ?_))) (fun _ _ _ h => h) ?_ ?_; (first | exact trivial | omega | decide); clear hF a; intro a hF))
        (first | (refine t_pure (i := 7) hF rfl rfl rfl rfl (by kernel_rfl) (hM.sm.sub (fun x hx => by repeat (first | exact hx | refine List.mem_cons_of_mem _ ?_)) (fun _ h => by repeat (first | exact h | refine List.mem_cons_of_mem _ ?_))) (fun _ _ _ h => h) ?_ ?_; (first | exact trivial | omega | decide); clear hF a; intro a hF))
        (first | (refine t_pure (i := 8) hF rfl rfl rfl rfl (by kernel_rfl) (hM.sm.sub (fun x hx => by repeat (first | exact hx | refine List.mem_cons_of_mem _ ?_)) (fun _ h => by repeat (first | exact h | refine List.mem_cons_of_mem _ ?_))) (fun _ _ _ h => h) ?_ ?_; (first | exact trivial | omega | decide); clear hF a; intro a hF))
        (first | (apply t_load (i := 9) hF rfl rfl rfl; (repeat (first | exact List.mem_cons_self | refine List.mem_cons_of_mem _ ?_)); exact rfl; exact rfl; kernel_rfl; exact (hM.sm.sub (fun x hx => by repeat (first | exact hx | refine List.mem_cons_of_mem _ ?_)) (fun _ h => by repeat (first | exact h | refine List.mem_cons_of_mem _ ?_))); exact (fun _ _ _ h => h); clear hF a; intro a hF))
        (first | (refine t_pure (i := 11) hF rfl rfl rfl rfl (by kernel_rfl) (hM.sm.sub (fun x hx => by repeat (first | exact hx | refine List.mem_cons_of_mem _ ?_)) (fun _ h => by repeat (first | exact h | refine List.mem_cons_of_mem _ ?_))) (fun _ _ _ h => h) ?_ ?_; (first | exact trivial | omega | decide); clear hF a; intro a hF))
        (first | (apply t_load (i := 12) hF rfl rfl rfl; (repeat (first | exact List.mem_cons_self | refine List.mem_cons_of_mem _ ?_)); exact rfl; exact rfl; kernel_rfl; exact (hM.sm.sub (fun x hx => by repeat (first | exact hx | refine List.mem_cons_of_mem _ ?_)) (fun _ h => by repeat (first | exact h | refine List.mem_cons_of_mem _ ?_))); exact (fun _ _ _ h => h); clear hF a; intro a hF))
        refine t_one (i := 10) hF rfl (by kernel_rfl) rfl ?_
        intro K hK
        (apply x_call hF hM; exact rfl; exact rfl; exact rfl; exact rfl; exact (sectors_c x hp8 (by omega) ax cx q hxq _ _ hM.lt (dat_one (hM.facts (DatF ps) (by (repeat (first | with_reducible exact List.mem_cons_self | refine List.mem_cons_of_mem _ ?_)))) hpm)); clear hF hM a; rintro v w a rfl - hM hF)
        refine hK _ _ (fun _ => (hM.sm.sub (fun x hx => by repeat (first | exact hx | refine List.mem_cons_of_mem _ ?_)) (fun _ h => by repeat (first | exact h | refine List.mem_cons_of_mem _ ?_)))) ?_; clear hK
        (first | (refine t_pure (i := 13) hF rfl rfl rfl rfl (by kernel_rfl) (hM.sm.sub (fun x hx => by repeat (first | exact hx | refine List.mem_cons_of_mem _ ?_)) (fun _ h => by repeat (first | exact h | refine List.mem_cons_of_mem _ ?_))) (fun _ _ _ h => h) ?_ ?_; (first | exact trivial | omega | decide); clear hF a; intro a hF))
        (first | (refine t_pure (i := 14) hF rfl rfl rfl rfl (by kernel_rfl) (hM.sm.sub (fun x hx => by repeat (first | exact hx | refine List.mem_cons_of_mem _ ?_)) (fun _ h => by repeat (first | exact h | refine List.mem_cons_of_mem _ ?_))) (fun _ _ _ h => h) ?_ ?_; (first | exact trivial | omega | decide); clear hF a; intro a hF))
        refine t_done (by kernel_rfl) ?_
        by_cases hdg : dg x = d
        · (repeat' (first | (with_reducible refine c_region ?_) | (with_reducible refine q_then_n ?_) | ((with_reducible apply s_pure hF); exact rfl; exact rfl; exact rfl; (first | exact trivial | omega | exact ⟨Int.natCast_nonneg _, Int.ofNat_lt.2 (by assumption)⟩ | decide); clear hF a; intro a hF) | ((with_reducible apply s_load hF hM); exact rfl; exact rfl; (repeat (first | exact List.mem_cons_self | refine List.mem_cons_of_mem _ ?_)); exact rfl; exact rfl; clear hF a; intro a hF) | ((with_reducible apply c_dec hF); exact rfl; all_goals intro hc; all_goals (try (exfalso; omega)))))
          refine s_mapUpdateN (ek := Value.int .u64) (z := .slice none 0 0) (keyOk_int rfl) hF hM rfl rfl rfl rfl rfl trivial (fun _ _ => trivial) hmb hcf ?_
          clear hF hM a
          intro w a hM hF
          rw [hkP hf] at hM
          (repeat' (first | (with_reducible refine c_region ?_) | (with_reducible refine s_nil ?_) | (with_reducible refine q_then_n ?_) | ((with_reducible apply s_pure hF); exact rfl; exact rfl; exact rfl; (first | exact trivial | omega | exact ⟨Int.natCast_nonneg _, Int.ofNat_lt.2 (by assumption)⟩ | decide); clear hF a; intro a hF) | (with_reducible refine q_blk_n ?_)))
          exact ⟨m - 1, by omega, k + 1, M ++ [(⟨d, x⟩, ax, cx)], by omega, hadd hf (by rw [hch, decide_eq_true hdg]; rfl), hMp2, hF.sub (by repeat (first | exact Sub.nil | refine Sub.cons rfl (by first | with_reducible rfl | (refine congrArg (Value.int _) ?_; omega) | exact rfl) ?_)), hM.sub (.cons _ .slnil) (.refl _) (fun f hf => hf)⟩
        · (repeat' (first | (with_reducible refine c_region ?_) | (with_reducible refine s_nil ?_) | (with_reducible refine q_then_n ?_) | ((with_reducible apply s_pure hF); exact rfl; exact rfl; exact rfl; (first | exact trivial | omega | exact ⟨Int.natCast_nonneg _, Int.ofNat_lt.2 (by assumption)⟩ | decide); clear hF a; intro a hF) | (with_reducible refine w_skip ?_) | (with_reducible refine q_blk_n ?_) | ((with_reducible apply c_dec hF); exact rfl; all_goals intro hc; all_goals (try (exfalso; omega)))))
          exact ⟨m - 1, by omega, k + 1, M, by omega, hskip (.inr (by rw [hch, decide_eq_false hdg]; rfl)), hMp, hF.sub (by repeat (first | exact Sub.nil | refine Sub.cons rfl (by first | with_reducible rfl | (refine congrArg (Value.int _) ?_; omega) | exact rfl) ?_)), hM.sub (.cons _ .slnil) (.refl _) (fun f hf => hf)⟩
  · obtain rfl : k = ps.length := by omega
    rw [List.take_of_length_le (Nat.le_refl _)] at hS
    (repeat' (first | (with_reducible refine w_seq ?_) | (with_reducible refine c_region ?_) | (with_reducible refine s_nil ?_) | (with_reducible refine q_then_n ?_) | ((with_reducible apply s_pure hF); exact rfl; exact rfl; exact rfl; (first | exact trivial | omega | exact ⟨Int.natCast_nonneg _, Int.ofNat_lt.2 (by assumption)⟩ | decide); clear hF a; intro a hF) | (with_reducible refine w_block ?_) | (with_reducible refine w_exit ?_) | (with_reducible refine q_then_x ?_) | (with_reducible refine q_blk_x ?_) | ((with_reducible apply c_false2 hF); exact rfl; (first | with_reducible rfl | (refine congrArg Value.bool ?_; focus (simp; done))))))
    have hrow := (hM.nilRow 68 3).addFact (f := DatF (tP [])) (Has.pure fun _ p hp => by simp [tP] at hp)
    refine c_loop (m := ts.length) (fun m a w' => ∃ (k : Nat) (outs : List TP) (ov : Value), m + k = ts.length ∧ outs.length = k ∧ tms outs = (tms (ts.take k)).map (supT (ims ps)) ∧ DatW (tP outs) ∧
      Fr 85 [] [(52, .int .i64 k), (51, .int .i64 ts.length), (50, .slice al ts.length cl), (10, ov), (5, .map (some mb))] a ∧
      Mm own W [] [⟨68, 3, ov, k, cellsT outs⟩] [DatF (tP outs), MpE (Value.int .u64) mb (esM M), RdF id a0 (cellsP ps), DatF ps, RdF id al (cellsT ts), DatF (tP ts)] w')
      ⟨0, [], _, by omega, rfl, rfl, fun p hp => by simp [tP] at hp, hF.sub (by repeat (first | exact Sub.nil | refine Sub.cons rfl (by first | with_reducible rfl | (refine congrArg (Value.int _) ?_; omega) | exact rfl) ?_)), hrow⟩ ?_
    clear hF hM hrow a
    rintro m a w' ⟨k, outs, ov, hm, hol, hos, how, hF, hM⟩
    by_cases hk : k < ts.length
    · obtain ⟨t, ht⟩ := get_of_lt hk
      have htm := List.mem_of_getElem? ht
      obtain ⟨ht8, htc, htb⟩ := hts ((⟨t.1.d, t.1.x⟩ : Itm), t.2) (List.mem_map.2 ⟨t, htm, rfl⟩)
      have hxl := hx4 t htm
      have htr := dat_one (hM.facts (DatF (tP ts)) (by (repeat (first | with_reducible exact List.mem_cons_self | refine List.mem_cons_of_mem _ ?_)))) (p := ((⟨t.1.d, t.1.x⟩ : Itm), t.2)) (List.mem_map.2 ⟨t, htm, rfl⟩)
      have htk : tms (ts.take (k + 1)) = tms (ts.take k) ++ [t.1] := by
        rw [List.take_add_one, ht]
        simp [tms]
      have hpe : (ts.map tkC)[k]? = some [.bool t.1.r, .int .u64 t.1.d, .slice t.2.1 t.1.x.length t.2.2] := by rw [List.getElem?_map, ht]; rfl
      obtain ⟨ad, rfl⟩ : ∃ ad, al = some ad := rd_some hM (enc := id) (a := al) (xs := cellsT ts) (by (repeat (first | exact List.mem_cons_self | refine List.mem_cons_of_mem _ ?_))) (flat_get (q := 0) hw3 hpe rfl)
      have hcc : cellsT ts = (ts.map tkC).flatten := rfl
      rw [hcc] at hM
      have hkM := kaddM t.1.d (.slice none 0 0) M
      have hkI := (kfindM t.1.d M 0).1
      obtain ⟨⟨r, d, x⟩, ax, cx⟩ := t
      dsimp only at ht8 htc htb hxl htr hpe hkM hkI
      obtain ⟨q, hxq⟩ : ∃ q, x.length = q := ⟨_, rfl⟩
      rw [hxq] at hpe
      replace hM := hM.addFact htr
      (repeat' (first | (with_reducible refine w_seq ?_) | (with_reducible refine c_region ?_) | (with_reducible refine s_nil ?_) | ((with_reducible apply s_callO (f := 59) hF); exact rfl; exact rfl; exact rfl; exact rfl; exact rfl; exact (sclone_c x ht8 ax cx q hxq (by omega) _ _ hM.lt (hM.facts (RdF (Value.int .u8) ax x.flatten) (by (repeat (first | with_reducible exact List.mem_cons_self | refine List.mem_cons_of_mem _ ?_))))); clear hF a; rintro v wn a ⟨a2, c2, rfl, hO⟩ hS hF; replace hM := hM.addRows hS hO; clear hS hO; dsimp only [List.cons_append, List.nil_append] at hM; (obtain ⟨ao2, c22, e02, hcc2, -⟩ := OffR.shape hM (k := 0) rfl (OffR.plain hM List.mem_cons_self)); replace hM := hM.freezeN) | ((with_reducible apply s_loadE hF hM); exact rfl; exact rfl; (repeat (first | exact List.mem_cons_self | refine List.mem_cons_of_mem _ ?_)); exact rfl; exact rfl; (first | with_reducible assumption | (simp only [Int.toNat_natCast]; with_reducible assumption)); (with_reducible assumption); clear hF a; intro a hF) | (with_reducible refine q_then_n ?_) | ((with_reducible apply s_pure hF); exact rfl; exact rfl; exact rfl; (first | exact trivial | omega | exact ⟨Int.natCast_nonneg _, Int.ofNat_lt.2 (by assumption)⟩ | decide); clear hF a; intro a hF) | ((with_reducible apply s_load hF hM); exact rfl; exact rfl; (repeat (first | exact List.mem_cons_self | refine List.mem_cons_of_mem _ ?_)); exact rfl; exact rfl; clear hF a; intro a hF) | ((with_reducible apply s_store hF hM); exact rfl; exact rfl; exact rfl; exact rfl; (repeat (first | exact Upd.z | apply Upd.s)); exact rfl; exact rfl; exact rfl; clear hM; intro w hM) | ((with_reducible apply s_alloc hF hM); exact rfl; exact rfl; exact rfl; clear hF hM a; intro b w a hM hF) | (with_reducible refine w_skip ?_) | (with_reducible refine w_block ?_) | ((with_reducible apply c_dec hF); exact rfl; all_goals intro hc; all_goals (try (exfalso; omega)))))
      injection e02 with q1 q2 q3
      have hsup : (supT (ims ps) ⟨r, d, x⟩) = if r = true ∧ corT ⟨r, d, x⟩ = true then match supF (ims ps) d with
        | some x => ⟨false, 0, x⟩
        | none => ⟨r, d, x⟩
        else ⟨r, d, x⟩ := rfl
      refine s_lookupOkE (ek := Value.int .u64) (z := .slice none 0 0) (x := d) (es := esM M) (keyOk_int rfl) hF hM rfl rfl rfl rfl (by (repeat (first | exact List.mem_cons_self | refine List.mem_cons_of_mem _ ?_))) rfl trivial (fun _ _ => trivial) ?_
      clear hF a
      intro a hF
      rw [hkM, hkI] at hF
      cases hf : fM d M with
      | none =>
        rw [hf] at hF
        dsimp only [Option.isSome] at hF
        rw [hS.none hf] at hsup
        replace hsup : supT (ims ps) ⟨r, d, x⟩ = ⟨r, d, x⟩ := by rw [hsup]; split <;> rfl
        (repeat' (first | (with_reducible refine w_seq ?_) | (with_reducible refine c_region ?_) | (with_reducible refine s_nil ?_) | (with_reducible refine q_then_n ?_) | ((with_reducible apply s_pure hF); exact rfl; exact rfl; exact rfl; (first | exact trivial | omega | exact ⟨Int.natCast_nonneg _, Int.ofNat_lt.2 (by assumption)⟩ | decide); clear hF a; intro a hF) | ((with_reducible apply s_load hF hM); exact rfl; exact rfl; (repeat (first | exact List.mem_cons_self | refine List.mem_cons_of_mem _ ?_)); exact rfl; exact rfl; clear hF a; intro a hF) | ((with_reducible apply s_lit hF hM); exact rfl; exact rfl; exact rfl; exact rfl; clear hF hM a; intro bl w a hM hF) | ((with_reducible apply s_app hF hM); exact rfl; exact rfl; exact rfl; exact rfl; (repeat (first | exact Kth.z | apply Kth.s)); exact rfl; exact rfl; exact rfl; exact rfl; omega; clear hF hM a; intro g cap w a hM hF; dsimp only [List.set] at hM) | (with_reducible refine w_skip ?_) | (with_reducible refine q_blk_n ?_) | ((with_reducible apply c_false2 hF); exact rfl; (first | with_reducible rfl | (refine congrArg Value.bool ?_; focus (simp; done)))) | ((with_reducible apply s_skip hF); exact rfl; exact rfl; clear hF a; intro a hF)))
        have hD := DatF.snoc (p := ((⟨d, x⟩ : Itm), a2, c2)) (hM.facts (DatF (tP outs)) (by (repeat (first | with_reducible exact List.mem_cons_self | refine List.mem_cons_of_mem _ ?_)))) (hM.facts (RdF (Value.int .u8) a2 x.flatten) (by (repeat (first | with_reducible exact List.mem_cons_self | refine List.mem_cons_of_mem _ ?_))))
        refine ⟨m - 1, by omega, k + 1, outs ++ [((⟨r, d, x⟩ : Tok), a2, c2)], .slice (some ⟨g, 0, none⟩) (k + 1) cap, by omega, by simp; omega, ?_, ?_, hF.sub (by repeat (first | exact Sub.nil | refine Sub.cons rfl (by first | with_reducible rfl | (refine congrArg (Value.int _) ?_; omega) | exact rfl) ?_)), ?_⟩
        · rw [tms_app, hos, htk, List.map_append, List.map_singleton, hsup]
          rfl
        · rw [tP_app]
          exact how.snoc ⟨ht8, by show x.length ≤ c2; omega, htb⟩
        · have hce : cellsT (outs ++ [((⟨r, d, x⟩ : Tok), a2, c2)]) = cellsT outs ++ [.bool r, .int .u64 d, .slice a2 q c2] := by rw [cellsT_app, ← hxq]; rfl
          rw [hce, tP_app]
          exact (hM.addFact hD).sub (.cons _ .slnil) (.refl _) (fun f hf => by simp only [List.mem_cons, List.not_mem_nil, or_false] at hf ⊢; rcases hf with h | h | h | h | h | h <;> simp [h, tP, hcc])
      | some pp =>
        rw [hf] at hF
        dsimp only [Option.isSome] at hF
        rw [hS.some hf] at hsup
        have hppm := hMp pp (fM_mem hf)
        obtain ⟨hp8, hpc, hpb⟩ := hDW pp hppm
        have hp4 := hpx pp hppm
        replace hM := hM.addFact (dat_one (hM.facts (DatF ps) (by (repeat (first | with_reducible exact List.mem_cons_self | refine List.mem_cons_of_mem _ ?_)))) hppm)
        unfold slV at hF
        obtain ⟨⟨dp, xp⟩, ap, cp⟩ := pp
        dsimp only at hp8 hpc hpb hp4 hM hF hsup
        obtain ⟨qp, hxp⟩ : ∃ qp, xp.length = qp := ⟨_, rfl⟩
        rw [hxp] at hF
        cases r with
        | false =>
          rw [if_neg (by simp)] at hsup
          (repeat' (first | (with_reducible refine w_seq ?_) | (with_reducible refine c_region ?_) | (with_reducible refine s_nil ?_) | (with_reducible refine q_then_n ?_) | ((with_reducible apply s_pure hF); exact rfl; exact rfl; exact rfl; (first | exact trivial | omega | exact ⟨Int.natCast_nonneg _, Int.ofNat_lt.2 (by assumption)⟩ | decide); clear hF a; intro a hF) | ((with_reducible apply s_load hF hM); exact rfl; exact rfl; (repeat (first | exact List.mem_cons_self | refine List.mem_cons_of_mem _ ?_)); exact rfl; exact rfl; clear hF a; intro a hF) | ((with_reducible apply s_lit hF hM); exact rfl; exact rfl; exact rfl; exact rfl; clear hF hM a; intro bl w a hM hF) | ((with_reducible apply s_app hF hM); exact rfl; exact rfl; exact rfl; exact rfl; (repeat (first | exact Kth.z | apply Kth.s)); exact rfl; exact rfl; exact rfl; exact rfl; omega; clear hF hM a; intro g cap w a hM hF; dsimp only [List.set] at hM) | (with_reducible refine w_skip ?_) | (with_reducible refine q_blk_n ?_) | ((with_reducible apply c_false2 hF); exact rfl; (first | with_reducible rfl | (refine congrArg Value.bool ?_; focus (simp; done)))) | ((with_reducible apply s_skip hF); exact rfl; exact rfl; clear hF a; intro a hF)))
          have hD := DatF.snoc (p := ((⟨d, x⟩ : Itm), a2, c2)) (hM.facts (DatF (tP outs)) (by (repeat (first | with_reducible exact List.mem_cons_self | refine List.mem_cons_of_mem _ ?_)))) (hM.facts (RdF (Value.int .u8) a2 x.flatten) (by (repeat (first | with_reducible exact List.mem_cons_self | refine List.mem_cons_of_mem _ ?_))))
          refine ⟨m - 1, by omega, k + 1, outs ++ [((⟨false, d, x⟩ : Tok), a2, c2)], .slice (some ⟨g, 0, none⟩) (k + 1) cap, by omega, by simp; omega, ?_, ?_, hF.sub (by repeat (first | exact Sub.nil | refine Sub.cons rfl (by first | with_reducible rfl | (refine congrArg (Value.int _) ?_; omega) | exact rfl) ?_)), ?_⟩
          · rw [tms_app, hos, htk, List.map_append, List.map_singleton, hsup]
            rfl
          · rw [tP_app]
            exact how.snoc ⟨ht8, by show x.length ≤ c2; omega, htb⟩
          · have hce : cellsT (outs ++ [((⟨false, d, x⟩ : Tok), a2, c2)]) = cellsT outs ++ [.bool false, .int .u64 d, .slice a2 q c2] := by rw [cellsT_app, ← hxq]; rfl
            rw [hce, tP_app]
            exact (hM.addFact hD).sub (.cons _ .slnil) (.refl _) (fun f hf => by simp only [List.mem_cons, List.not_mem_nil, or_false] at hf ⊢; rcases hf with h | h | h | h | h | h <;> simp [h, tP, hcc])
        | true =>
          cases hcor : corT ⟨true, d, x⟩ with
          | false =>
            rw [hcor, if_neg (by simp)] at hsup
            (repeat' (first | (with_reducible refine w_seq ?_) | (with_reducible refine c_region ?_) | (with_reducible refine s_nil ?_) | ((with_reducible apply s_call (f := 66) hF hM); exact rfl; exact rfl; exact rfl; exact rfl; exact rfl; exact (correct1_c true d x a2 c2 q hxq _ _ hM.lt); clear hF hM a; rintro v w a rfl - hM hF; rw [hcor] at hF) | (with_reducible refine q_then_n ?_) | ((with_reducible apply s_pure hF); exact rfl; exact rfl; exact rfl; (first | exact trivial | omega | exact ⟨Int.natCast_nonneg _, Int.ofNat_lt.2 (by assumption)⟩ | decide); clear hF a; intro a hF) | ((with_reducible apply s_load hF hM); exact rfl; exact rfl; (repeat (first | exact List.mem_cons_self | refine List.mem_cons_of_mem _ ?_)); exact rfl; exact rfl; clear hF a; intro a hF) | ((with_reducible apply s_lit hF hM); exact rfl; exact rfl; exact rfl; exact rfl; clear hF hM a; intro bl w a hM hF) | ((with_reducible apply s_app hF hM); exact rfl; exact rfl; exact rfl; exact rfl; (repeat (first | exact Kth.z | apply Kth.s)); exact rfl; exact rfl; exact rfl; exact rfl; omega; clear hF hM a; intro g cap w a hM hF; dsimp only [List.set] at hM) | (with_reducible refine w_skip ?_) | (with_reducible refine q_blk_n ?_) | ((with_reducible apply c_false2 hF); exact rfl; (first | with_reducible rfl | (refine congrArg Value.bool ?_; focus (simp; done))))))
            have hD := DatF.snoc (p := ((⟨d, x⟩ : Itm), a2, c2)) (hM.facts (DatF (tP outs)) (by (repeat (first | with_reducible exact List.mem_cons_self | refine List.mem_cons_of_mem _ ?_)))) (hM.facts (RdF (Value.int .u8) a2 x.flatten) (by (repeat (first | with_reducible exact List.mem_cons_self | refine List.mem_cons_of_mem _ ?_))))
            refine ⟨m - 1, by omega, k + 1, outs ++ [((⟨true, d, x⟩ : Tok), a2, c2)], .slice (some ⟨g, 0, none⟩) (k + 1) cap, by omega, by simp; omega, ?_, ?_, hF.sub (by repeat (first | exact Sub.nil | refine Sub.cons rfl (by first | with_reducible rfl | (refine congrArg (Value.int _) ?_; omega) | exact rfl) ?_)), ?_⟩
            · rw [tms_app, hos, htk, List.map_append, List.map_singleton, hsup]
              rfl
            · rw [tP_app]
              exact how.snoc ⟨ht8, by show x.length ≤ c2; omega, htb⟩
            · have hce : cellsT (outs ++ [((⟨true, d, x⟩ : Tok), a2, c2)]) = cellsT outs ++ [.bool true, .int .u64 d, .slice a2 q c2] := by rw [cellsT_app, ← hxq]; rfl
              rw [hce, tP_app]
              exact (hM.addFact hD).sub (.cons _ .slnil) (.refl _) (fun f hf => by simp only [List.mem_cons, List.not_mem_nil, or_false] at hf ⊢; rcases hf with h | h | h | h | h | h <;> simp [h, tP, hcc])
          | true =>
            rw [hcor, if_pos ⟨rfl, rfl⟩] at hsup
            (repeat' (first | (with_reducible refine w_seq ?_) | (with_reducible refine c_region ?_) | (with_reducible refine s_nil ?_) | ((with_reducible apply s_call (f := 66) hF hM); exact rfl; exact rfl; exact rfl; exact rfl; exact rfl; exact (correct1_c true d x a2 c2 q hxq _ _ hM.lt); clear hF hM a; rintro v w a rfl - hM hF; rw [hcor] at hF) | ((with_reducible apply s_callO (f := 59) hF); exact rfl; exact rfl; exact rfl; exact rfl; exact rfl; exact (sclone_c xp hp8 ap cp qp hxp (by omega) _ _ hM.lt (hM.facts (RdF (Value.int .u8) ap xp.flatten) (by (repeat (first | with_reducible exact List.mem_cons_self | refine List.mem_cons_of_mem _ ?_))))); clear hF a; rintro v wn a ⟨a3, c3, rfl, hO⟩ hS hF; replace hM := hM.addRows hS hO; clear hS hO; dsimp only [List.cons_append, List.nil_append] at hM; (obtain ⟨ao3, c33, e03, hcc3, -⟩ := OffR.shape hM (k := 0) rfl (OffR.plain hM List.mem_cons_self)); replace hM := hM.freezeN) | (with_reducible refine q_then_n ?_) | ((with_reducible apply s_pure hF); exact rfl; exact rfl; exact rfl; (first | exact trivial | omega | exact ⟨Int.natCast_nonneg _, Int.ofNat_lt.2 (by assumption)⟩ | decide); clear hF a; intro a hF) | ((with_reducible apply s_load hF hM); exact rfl; exact rfl; (repeat (first | exact List.mem_cons_self | refine List.mem_cons_of_mem _ ?_)); exact rfl; exact rfl; clear hF a; intro a hF) | ((with_reducible apply s_store hF hM); exact rfl; exact rfl; exact rfl; exact rfl; (repeat (first | exact Upd.z | apply Upd.s)); exact rfl; exact rfl; exact rfl; clear hM; intro w hM) | ((with_reducible apply s_lit hF hM); exact rfl; exact rfl; exact rfl; exact rfl; clear hF hM a; intro bl w a hM hF) | ((with_reducible apply s_app hF hM); exact rfl; exact rfl; exact rfl; exact rfl; (repeat (first | exact Kth.z | apply Kth.s)); exact rfl; exact rfl; exact rfl; exact rfl; omega; clear hF hM a; intro g cap w a hM hF; dsimp only [List.set] at hM) | (with_reducible refine q_blk_n ?_) | ((with_reducible apply c_true2 hF); exact rfl; (first | with_reducible rfl | (refine congrArg Value.bool ?_; focus (simp; done))))))
            injection e03 with q4 q5 q6
            have hD := DatF.snoc (p := ((⟨0, xp⟩ : Itm), a3, c3)) (hM.facts (DatF (tP outs)) (by (repeat (first | with_reducible exact List.mem_cons_self | refine List.mem_cons_of_mem _ ?_)))) (hM.facts (RdF (Value.int .u8) a3 xp.flatten) (by (repeat (first | with_reducible exact List.mem_cons_self | refine List.mem_cons_of_mem _ ?_))))
            refine ⟨m - 1, by omega, k + 1, outs ++ [((⟨false, 0, xp⟩ : Tok), a3, c3)], .slice (some ⟨g, 0, none⟩) (k + 1) cap, by omega, by simp; omega, ?_, ?_, hF.sub (by repeat (first | exact Sub.nil | refine Sub.cons rfl (by first | with_reducible rfl | (refine congrArg (Value.int _) ?_; omega) | exact rfl) ?_)), ?_⟩
            · rw [tms_app, hos, htk, List.map_append, List.map_singleton, hsup]
              rfl
            · rw [tP_app]
              exact how.snoc ⟨hp8, by show xp.length ≤ c3; omega, hpb⟩
            · have hce : cellsT (outs ++ [((⟨false, 0, xp⟩ : Tok), a3, c3)]) = cellsT outs ++ [.bool false, .int .u64 0, .slice a3 qp c3] := by rw [cellsT_app, ← hxp]; rfl
              rw [hce, tP_app]
              exact (hM.addFact hD).sub (.cons _ .slnil) (.refl _) (fun f hf => by simp only [List.mem_cons, List.not_mem_nil, or_false] at hf ⊢; rcases hf with h | h | h | h | h | h <;> simp [h, tP, hcc])
    · obtain rfl : k = ts.length := by omega
      rw [List.take_of_length_le (Nat.le_refl _)] at hos
      (repeat' (first | (with_reducible refine w_seq ?_) | (with_reducible refine c_region ?_) | (with_reducible refine s_nil ?_) | (with_reducible refine q_then_n ?_) | ((with_reducible apply s_pure hF); exact rfl; exact rfl; exact rfl; (first | exact trivial | omega | exact ⟨Int.natCast_nonneg _, Int.ofNat_lt.2 (by assumption)⟩ | decide); clear hF a; intro a hF) | (with_reducible refine w_exit ?_) | (with_reducible refine w_ret ?_) | (with_reducible refine q_then_x ?_) | (with_reducible refine q_blk_x ?_) | ((with_reducible apply c_false2 hF); exact rfl; (first | with_reducible rfl | (refine congrArg Value.bool ?_; focus (simp; done))))))
      obtain ⟨av, cv, rfl, hcv, -⟩ := OffR.shape hM (k := 0) rfl (OffR.plain hM List.mem_cons_self)
      replace hM := Mm.freezeN (enc := id) (xs := cellsT outs) (by rw [List.map_id]; exact hM)
      (repeat' (first | fail))
      (apply f_ret Try.results44 hF hM; (repeat (first | exact RL.nil | (apply RL.tmp; exact rfl) | (apply RL.cell; exact rfl; (repeat (first | exact List.mem_cons_self | refine List.mem_cons_of_mem _ ?_)); exact rfl))); refine Ret.mk hM.since ?_; dsimp only [resV])
      exact ⟨av, cv, rfl, outs, hos, how, hM.factOut (by (repeat (first | with_reducible exact List.mem_cons_self | refine List.mem_cons_of_mem _ ?_))), hM.factOut (by (repeat (first | with_reducible exact List.mem_cons_self | refine List.mem_cons_of_mem _ ?_))), by rw [List.length_map, tms_len]; exact hcv⟩
end
end Go.Proofs.Ytonelgecjmpbgaa


/- The reference of layer 29: digests, searches, copies. -/
namespace Go.Proofs.Ytonelgecjmpbgaa
open Go.RowKit Go.Shelf D29
section
variable {n : Nat} {ds : List Deferred} {l : List (Nat × Value)} {a : Act} {w : World} {os rest : List Oper} {Q : Exit → Act → World → Prop} {d : Nat} {ty : TypeId} {pos : String} {af : Array Edge} {g : Option (Nat × Bool)}
/-- The address of a number in an array that is an element of a slice. -/
theorem s_idxA {t e : TypeId} {len m z : Nat} {X I : Operand} {A : Addr} {j0 i : Int} {k : IntKind} (hF : Fr n ds l a) (hg : wantO os l g = some true) (hX : ev l X = some (.pointer (some (adr A j0 m)))) (hI : ev l I = some (.int k i)) (ht : tyD t = some (.array len e)) (hs : tyS e = some z) (hd : Nat.blt d n = true) (hb : 0 ≤ i ∧ i < len)
    (kk : ∀ a, Fr n ds ((d, .pointer (some (adr (adr A j0 m) i z))) :: l) a → wl ⟨os⟩ Q rest a w) : wl ⟨os⟩ Q (⟨some d, .indexAddr t X I, ty, pos, af, g⟩ :: rest) a w :=
  s_op hF hg fun _ hK => upon_value (v := .pointer (some (adr (adr A j0 m) i z))) (by
    have := indexAt_array (a := adr A j0 m) (k := k) ht hs hb w
    simp only [execOp, hF.eval hX, hF.eval hI]
    rw [Sem.run_bind, this]
    rfl) (hK _ _ (kk _ (hF.put hd _)))
end
namespace D29
theorem rd_elt {own : Nat → Prop} {w : World} {ad : Addr} {l : Dat} (hw : W8 l) (h : Has own w (RdF (Value.int .u8) (some ad) l.flatten)) {i : Nat} {s : List Int} (hs : l[i]? = some s) : Has own w (RdF (Value.int .u8) (some (adr ad i 8)) s) := by
  refine h.imp fun w h j x hx => ?_
  obtain ⟨b, off, e, hb, hc⟩ := h (i * 8 + j) x (flat_get hw hs hx)
  injection e with e
  subst e
  refine ⟨b, off + i * 8, ?_, hb, ?_⟩
  · unfold adr
    rw [Int.toNat_natCast, add_lit]
  · rw [Nat.add_assoc]
    exact hc
theorem cells_get {ps : List P} {k : Nat} {p : P} (h : ps[k]? = some p) : (cellsP ps)[k * 2 + 0]? = some (.int .u64 p.1.d) ∧ (cellsP ps)[k * 2 + 1]? = some (.slice p.2.1 p.1.x.length p.2.2) := by
  have hpe : (ps.map itC)[k]? = some (itC p) := by rw [List.getElem?_map, h]; rfl
  exact ⟨flat_get (q := 0) (itC_len ps) hpe rfl, flat_get (q := 1) (itC_len ps) hpe rfl⟩
theorem take_snoc {α : Type} {l : List α} {k : Nat} {x : α} (h : l[k]? = some x) : l.take (k + 1) = l.take k ++ [x] := by rw [List.take_add_one, h]; rfl
theorem ims_app (l m : List P) : ims (l ++ m) = ims l ++ ims m := by simp [ims]
end D29
set_option maxRecDepth 20000 in
set_option maxHeartbeats 1000000 in
theorem BytesR_c (l : Dat) (hw : D29.W8 l) (a0 : Option Addr) (c0 n : Nat) (hn : l.length = n) (hlen : n ≤ 100000) (own : Nat → Prop) (W : World) (hl : ∀ b, own b → b < W.heap.size) (hv : Has own W (RdF (Value.int .u8) a0 l.flatten)) :
    Calls Try.prog 70 ⟨[.slice a0 n c0]⟩ W (Ret W fun v w' => ∃ a' c', v = .slice a' l.flatten.length c' ∧ Has own w' (RdF (Value.int .u8) a' l.flatten)) := by
  subst hn
  have hM := ((Mm.start hl).known hv).nilRow 5 1
  have hw' : ∀ y ∈ l, y.length = 8 := hw
  have hfl := flat_len hw
  refine f_start Try.func70 rfl Try.ntmps70 rfl rfl ?_; intro a hF
  (repeat (first | (with_reducible refine w_seq ?_) | (with_reducible refine c_region ?_) | (with_reducible refine s_nil ?_) | (with_reducible refine q_then_n ?_) | ((with_reducible apply s_pure hF); exact rfl; exact rfl; exact rfl; (first | exact trivial | omega | exact ⟨Int.natCast_nonneg _, Int.ofNat_lt.2 (by assumption)⟩ | decide); clear hF a; intro a hF) | (with_reducible refine w_block ?_)))
  refine c_loop (m := l.length) (fun m a w' => ∃ (i : Nat) (v : Value), m + i = l.length ∧
    Fr 26 [] [(4, .int .i64 i), (3, v), (0, .slice a0 l.length c0)] a ∧
    Mm own W [] [⟨5, 1, v, i * 8, (l.flatten.take (i * 8)).map (Value.int .u8)⟩] [RdF (Value.int .u8) a0 l.flatten] w') ⟨0, .slice none 0 0, by omega, hF.sub (by repeat (first | exact Sub.nil | refine Sub.cons rfl (by first | with_reducible rfl | (refine congrArg (Value.int _) ?_; omega) | exact rfl) ?_)), hM.rowsEq (by rw [Nat.zero_mul, List.take_zero, List.map_nil])⟩ ?_
  clear hF hM a
  rintro m a w' ⟨i, v, hm, hF, hM⟩
  by_cases hi : i < l.length
  · obtain ⟨s, hs⟩ := get_of_lt hi
    have hs8 := hw s (List.mem_of_getElem? hs)
    obtain ⟨b0, o0, rfl⟩ : ∃ b0 o0, a0 = some ⟨b0, o0, none⟩ := by
      obtain ⟨b0, o0, e, _, _⟩ := (hM.fact (f := RdF (Value.int .u8) a0 l.flatten) (by (repeat (first | exact List.mem_cons_self | refine List.mem_cons_of_mem _ ?_)))) _ _ (flat_get (q := 0) hw hs (List.getElem?_eq_getElem (by omega)))
      exact ⟨b0, o0, e⟩
    have hrd := rd_elt hw (hM.facts (RdF (Value.int .u8) (some ⟨b0, o0, none⟩) l.flatten) (by (repeat (first | exact List.mem_cons_self | refine List.mem_cons_of_mem _ ?_)))) hs
    replace hM := hM.addFact hrd
    (repeat' (first | (with_reducible refine w_seq ?_) | (with_reducible refine c_region ?_) | (with_reducible refine s_nil ?_) | (with_reducible refine q_then_n ?_) | ((with_reducible apply s_pure hF); exact rfl; exact rfl; exact rfl; (first | exact trivial | omega | exact ⟨Int.natCast_nonneg _, Int.ofNat_lt.2 (by assumption)⟩ | decide); clear hF a; intro a hF) | (with_reducible refine w_skip ?_) | (with_reducible refine w_block ?_) | ((with_reducible apply c_dec hF); exact rfl; all_goals intro hc; all_goals (try (exfalso; omega)))))
    refine c_loop (m := 8) (fun m a w' => ∃ (j : Nat) (v : Value), m + j = 8 ∧
      Fr 26 [] [(5, .int .i64 j), (4, .int .i64 i), (3, v), (0, .slice (some ⟨b0, o0, none⟩) l.length c0)] a ∧
      Mm own W [] [⟨5, 1, v, i * 8 + j, (l.flatten.take (i * 8 + j)).map (Value.int .u8)⟩] [RdF (Value.int .u8) (some (adr ⟨b0, o0, none⟩ i 8)) s, RdF (Value.int .u8) (some ⟨b0, o0, none⟩) l.flatten] w') ⟨0, v, by omega, hF.sub (by repeat (first | exact Sub.nil | refine Sub.cons rfl (by first | with_reducible rfl | (refine congrArg (Value.int _) ?_; omega) | exact rfl) ?_)), hM⟩ ?_
    clear hF hM a
    rintro mj a w' ⟨j, v, hmj, hF, hM⟩
    by_cases hj : j < 8
    · obtain ⟨x, hx⟩ := get_of_lt (l := s) (i := j) (by omega)
      have htk := take_snoc (flat_get hw hs hx)
      (repeat' (first | (with_reducible refine w_seq ?_) | (with_reducible refine c_region ?_) | (with_reducible refine s_nil ?_) | ((with_reducible apply s_idxA hF); exact rfl; exact rfl; exact rfl; exact rfl; exact rfl; exact rfl; (first | omega | exact ⟨Int.natCast_nonneg _, Int.ofNat_lt.2 (by assumption)⟩); clear hF a; intro a hF) | (with_reducible refine q_then_n ?_) | ((with_reducible apply s_pure hF); exact rfl; exact rfl; exact rfl; (first | exact trivial | omega | exact ⟨Int.natCast_nonneg _, Int.ofNat_lt.2 (by assumption)⟩ | decide); clear hF a; intro a hF) | ((with_reducible apply s_loadF hF hM); exact rfl; exact rfl; (repeat (first | exact List.mem_cons_self | refine List.mem_cons_of_mem _ ?_)); exact rfl; exact rfl; (first | with_reducible assumption | (simp only [Int.toNat_natCast]; with_reducible assumption)); clear hF a; intro a hF) | ((with_reducible apply s_lit hF hM); exact rfl; exact rfl; exact rfl; exact rfl; clear hF hM a; intro bl w a hM hF) | ((with_reducible apply s_app hF hM); exact rfl; exact rfl; exact rfl; exact rfl; (repeat (first | exact Kth.z | apply Kth.s)); exact rfl; exact rfl; exact rfl; exact rfl; omega; clear hF hM a; intro g cap w a hM hF; dsimp only [List.set] at hM) | (with_reducible refine w_skip ?_) | (with_reducible refine w_block ?_) | (with_reducible refine q_blk_n ?_) | ((with_reducible apply c_dec hF); exact rfl; all_goals intro hc; all_goals (try (exfalso; omega)))))
      refine ⟨mj - 1, by omega, j + 1, .slice (some ⟨g, 0, none⟩) (i * 8 + j + 1) cap, by omega, hF.sub (by repeat (first | exact Sub.nil | refine Sub.cons rfl (by first | with_reducible rfl | (refine congrArg (Value.int _) ?_; omega) | exact rfl) ?_)), ?_⟩
      rw [← Nat.add_assoc, htk, List.map_append]
      exact hM
    · obtain rfl : j = 8 := by omega
      (repeat' (first | (with_reducible refine w_seq ?_) | (with_reducible refine c_region ?_) | (with_reducible refine s_nil ?_) | (with_reducible refine q_then_n ?_) | ((with_reducible apply s_pure hF); exact rfl; exact rfl; exact rfl; (first | exact trivial | omega | exact ⟨Int.natCast_nonneg _, Int.ofNat_lt.2 (by assumption)⟩ | decide); clear hF a; intro a hF) | (with_reducible refine w_exit ?_) | (with_reducible refine q_then_x ?_) | (with_reducible refine q_blk_n ?_) | (with_reducible refine q_blk_x ?_) | ((with_reducible apply c_false2 hF); exact rfl; (first | with_reducible rfl | (refine congrArg Value.bool ?_; focus (simp; done))))))
      refine ⟨m - 1, by omega, i + 1, v, by omega, hF.sub (by repeat (first | exact Sub.nil | refine Sub.cons rfl (by first | with_reducible rfl | (refine congrArg (Value.int _) ?_; omega) | exact rfl) ?_)), ?_⟩
      rw [Nat.succ_mul]
      exact hM.sub (.refl _) (.refl _) (fun f hf => List.mem_cons_of_mem _ hf)
  · obtain rfl : i = l.length := by omega
    rw [← hfl, List.take_length] at hM
    obtain ⟨av, cv, rfl, hcv, -⟩ := OffR.shape hM (k := 0) rfl (OffR.plain hM List.mem_cons_self)
    replace hM := hM.freezeN
    (repeat' (first | (with_reducible refine w_seq ?_) | (with_reducible refine c_region ?_) | (with_reducible refine s_nil ?_) | (with_reducible refine q_then_n ?_) | ((with_reducible apply s_pure hF); exact rfl; exact rfl; exact rfl; (first | exact trivial | omega | exact ⟨Int.natCast_nonneg _, Int.ofNat_lt.2 (by assumption)⟩ | decide); clear hF a; intro a hF) | (with_reducible refine w_exit ?_) | (with_reducible refine w_ret ?_) | (with_reducible refine q_then_x ?_) | (with_reducible refine q_blk_x ?_) | ((with_reducible apply c_false2 hF); exact rfl; (first | with_reducible rfl | (refine congrArg Value.bool ?_; focus (simp; done))))))
    (apply f_ret Try.results70 hF hM; (repeat (first | exact RL.nil | (apply RL.tmp; exact rfl) | (apply RL.cell; exact rfl; (repeat (first | exact List.mem_cons_self | refine List.mem_cons_of_mem _ ?_)); exact rfl))); refine Ret.mk hM.since ?_; dsimp only [resV])
    exact ⟨av, cv, rfl, hM.factOut (by (repeat (first | with_reducible exact List.mem_cons_self | refine List.mem_cons_of_mem _ ?_)))⟩
end Go.Proofs.Ytonelgecjmpbgaa


/- The reference of layer 29: digests, searches. -/
namespace Go.Proofs.Ytonelgecjmpbgaa
open Go.RowKit Go.Shelf D29
set_option maxRecDepth 20000 in
set_option maxHeartbeats 1000000 in
theorem DigestR_c (xs : List Int) (a0 : Option Addr) (c0 n : Nat) (hn : xs.length = n) (hlen : n ≤ 1000000) (own : Nat → Prop) (W : World) (hl : ∀ b, own b → b < W.heap.size) (hv : Has own W (RdF (Value.int .u8) a0 xs)) :
    Calls Try.prog 69 ⟨[.slice a0 n c0]⟩ W (Ret W fun v _ => v = .int .u64 (dgB xs)) := by
  subst hn
  have hM := (Mm.start hl).known hv
  refine f_start Try.func69 rfl Try.ntmps69 rfl rfl ?_; intro a hF
  (repeat (first | (with_reducible refine w_seq ?_) | (with_reducible refine c_region ?_) | (with_reducible refine s_nil ?_) | (with_reducible refine q_then_n ?_) | ((with_reducible apply s_pure hF); exact rfl; exact rfl; exact rfl; (first | exact trivial | omega | exact ⟨Int.natCast_nonneg _, Int.ofNat_lt.2 (by assumption)⟩ | decide); clear hF a; intro a hF) | (with_reducible refine w_block ?_)))
  refine c_loop (m := xs.length) (fun m a w' => ∃ (i : Nat), m + i = xs.length ∧
    Fr 23 [] [(4, .int .i64 i), (3, .int .u64 ((xs.take i).foldl dgs 14695981039346656037)), (0, .slice a0 xs.length c0)] a ∧
    Mm own W [] [] [RdF (Value.int .u8) a0 xs] w') ⟨0, by omega, hF.sub (by repeat (first | exact Sub.nil | refine Sub.cons rfl (by first | with_reducible rfl | (refine congrArg (Value.int _) ?_; omega) | exact rfl) ?_)), hM⟩ ?_
  clear hF hM a
  rintro m a w' ⟨i, hm, hF, hM⟩
  by_cases hi : i < xs.length
  · obtain ⟨x, hx⟩ := get_of_lt hi
    obtain ⟨ad, rfl⟩ : ∃ ad, a0 = some ad := rd_some hM (by (repeat (first | exact List.mem_cons_self | refine List.mem_cons_of_mem _ ?_))) hx
    have htk : (xs.take (i + 1)).foldl dgs 14695981039346656037 = dgs ((xs.take i).foldl dgs 14695981039346656037) x := by rw [take_snoc hx, List.foldl_append]; rfl
    generalize (xs.take i).foldl dgs 14695981039346656037 = h at *
    (repeat' (first | (with_reducible refine w_seq ?_) | (with_reducible refine c_region ?_) | (with_reducible refine s_nil ?_) | ((with_reducible apply s_xorU hF); exact rfl; exact rfl; exact rfl; exact rfl; clear hF a; intro a hF) | (with_reducible refine q_then_n ?_) | ((with_reducible apply s_pure hF); exact rfl; exact rfl; exact rfl; (first | exact trivial | omega | exact ⟨Int.natCast_nonneg _, Int.ofNat_lt.2 (by assumption)⟩ | decide); clear hF a; intro a hF) | ((with_reducible apply s_loadF hF hM); exact rfl; exact rfl; (repeat (first | exact List.mem_cons_self | refine List.mem_cons_of_mem _ ?_)); exact rfl; exact rfl; (first | with_reducible assumption | (simp only [Int.toNat_natCast]; with_reducible assumption)); clear hF a; intro a hF) | (with_reducible refine w_skip ?_) | (with_reducible refine w_block ?_) | (with_reducible refine q_blk_n ?_) | ((with_reducible apply c_dec hF); exact rfl; all_goals intro hc; all_goals (try (exfalso; omega)))))
    refine ⟨m - 1, by omega, i + 1, by omega, ?_, hM⟩
    rw [htk]
    exact hF.sub (by repeat (first | exact Sub.nil | refine Sub.cons rfl (by first | with_reducible rfl | (refine congrArg (Value.int _) ?_; omega) | exact rfl) ?_))
  · rw [List.take_of_length_le (by omega)] at hF
    unfold dgB
    generalize xs.foldl dgs 14695981039346656037 = h at *
    (repeat' (first | (with_reducible refine w_seq ?_) | (with_reducible refine c_region ?_) | (with_reducible refine s_nil ?_) | ((with_reducible apply s_xorU hF); exact rfl; exact rfl; exact rfl; exact rfl; clear hF a; intro a hF) | ((with_reducible apply s_shrU hF); exact rfl; exact rfl; exact rfl; exact rfl; clear hF a; intro a hF) | (with_reducible refine q_then_n ?_) | ((with_reducible apply s_pure hF); exact rfl; exact rfl; exact rfl; (first | exact trivial | omega | exact ⟨Int.natCast_nonneg _, Int.ofNat_lt.2 (by assumption)⟩ | decide); clear hF a; intro a hF) | (with_reducible refine w_exit ?_) | (with_reducible refine w_ret ?_) | (with_reducible refine q_then_x ?_) | (with_reducible refine q_blk_x ?_) | ((with_reducible apply c_dec hF); exact rfl; all_goals intro hc; all_goals (try (exfalso; omega)))))
    (apply f_ret Try.results69 hF hM; (repeat (first | exact RL.nil | (apply RL.tmp; exact rfl) | (apply RL.cell; exact rfl; (repeat (first | exact List.mem_cons_self | refine List.mem_cons_of_mem _ ?_)); exact rfl))); refine Ret.mk hM.since ?_; dsimp only [resV])
    rfl
theorem Sectors4_c (x : Dat) (hw : D29.W8 x) (a0 : Option Addr) (c0 n : Nat) (hn : x.length = n) (hlen : n ≤ 100000) (own : Nat → Prop) (W : World) (hl : ∀ b, own b → b < W.heap.size) (hv : Has own W (RdF (Value.int .u8) a0 x.flatten)) :
    Calls Try.prog 26 ⟨[.slice a0 n c0]⟩ W (Ret W fun v _ => v = .int .u64 (dg x)) := by
  have hM := (Mm.start hl).known hv
  have hfl := flat_len hw
  refine f_start Try.func26 rfl Try.ntmps26 rfl rfl ?_; intro a hF
  (repeat (first | (with_reducible refine w_seq ?_) | (with_reducible refine c_region ?_) | (with_reducible refine s_nil ?_) | ((with_reducible apply s_call (f := 70) hF hM); exact rfl; exact rfl; exact rfl; exact rfl; exact rfl; exact (BytesR_c x hw a0 c0 n hn hlen _ _ hM.lt (hM.facts (RdF (Value.int .u8) a0 x.flatten) (by (repeat (first | exact List.mem_cons_self | refine List.mem_cons_of_mem _ ?_))))); clear hF hM a; rintro v w a ⟨a', c', rfl, hr⟩ - hM hF; replace hM := hM.addFact hr) | (with_reducible refine q_then_n ?_) | ((with_reducible apply s_pure hF); exact rfl; exact rfl; exact rfl; (first | exact trivial | omega | exact ⟨Int.natCast_nonneg _, Int.ofNat_lt.2 (by assumption)⟩ | decide); clear hF a; intro a hF)))
  (((with_reducible apply s_call (f := 69) hF hM); exact rfl; exact rfl; exact rfl; exact rfl; exact rfl; exact (DigestR_c x.flatten a' c' _ rfl (by omega) _ _ hM.lt (hM.facts (RdF (Value.int .u8) a' x.flatten) (by (repeat (first | exact List.mem_cons_self | refine List.mem_cons_of_mem _ ?_))))); clear hF hM a; rintro v w a rfl - hM hF))
  (repeat (first | (with_reducible refine s_nil ?_) | (with_reducible refine q_then_n ?_) | ((with_reducible apply s_pure hF); exact rfl; exact rfl; exact rfl; (first | exact trivial | omega | exact ⟨Int.natCast_nonneg _, Int.ofNat_lt.2 (by assumption)⟩ | decide); clear hF a; intro a hF) | (with_reducible refine w_ret ?_)))
  (apply f_ret Try.results26 hF hM; (repeat (first | exact RL.nil | (apply RL.tmp; exact rfl) | (apply RL.cell; exact rfl; (repeat (first | exact List.mem_cons_self | refine List.mem_cons_of_mem _ ?_)); exact rfl))); refine Ret.mk hM.since ?_; dsimp only [resV])
  rfl
end Go.Proofs.Ytonelgecjmpbgaa


/- The reference of layer 29: Check, Add, Find. -/
namespace Go.Proofs.Ytonelgecjmpbgaa
open Go.RowKit Go.Shelf D29
namespace D29
theorem sadr_zero (a : Option Addr) (m s : Nat) : sadr a 0 m s = a := by
  unfold sadr
  split
  · rfl
  · cases a with
    | none => rfl
    | some a => rw [Nat.zero_mul]; rfl
end D29
section
variable (cp : Int) (ps : List P) (a0 : Option Addr) (c0 n : Nat) (hn : ps.length = n) (hlen : n ≤ 100000) (hDW : DatW ps) (hpx : ∀ p ∈ ps, p.1.x.length ≤ 100000) (hc0 : n ≤ c0)
  (own : Nat → Prop) (W : World) (hl : ∀ b, own b → b < W.heap.size) (h1 : Has own W (RdF id a0 (cellsP ps))) (h2 : Has own W (DatF ps))
include hn hlen hDW hpx hc0 hl h1 h2
end
end Go.Proofs.Ytonelgecjmpbgaa


/- The reference of layer 29: Encode. -/
namespace Go.Proofs.Ytonelgecjmpbgaa
open Go.RowKit Go.Shelf D29
namespace D29
theorem drop_rd {own : Nat → Prop} {w : World} {ar : Option Addr} {r : Dat} (hw : W8 r) (h : Has own w (RdF (Value.int .u8) ar r.flatten)) (e m : Nat) (hm : r.length ≤ m) : Has own w (RdF (Value.int .u8) (sadr ar e m 8) (r.drop e).flatten) := by
  refine h.imp fun w h j x hx => ?_
  have he : e < r.length := by
    apply Classical.byContradiction
    intro q
    rw [List.drop_of_length_le (by omega)] at hx
    simp at hx
  rw [flat_drop hw, List.getElem?_drop] at hx
  obtain ⟨b, off, rfl, hb, hc2⟩ := h (e * 8 + j) x hx
  refine ⟨b, off + e * 8, ?_, hb, ?_⟩
  · unfold sadr
    rw [if_neg (by omega)]
    simp [add_lit]
  · rw [Nat.add_assoc]
    exact hc2
theorem take_rd {own : Nat → Prop} {w : World} {ar : Option Addr} {r : Dat} (h : Has own w (RdF (Value.int .u8) ar r.flatten)) (e : Nat) : Has own w (RdF (Value.int .u8) ar (r.take e).flatten) := by
  refine h.imp fun w h j x hx => h j x ?_
  rw [← List.take_append_drop e r, List.flatten_append, List.getElem?_append_left (List.getElem?_eq_some_iff.1 hx).1]
  exact hx
end D29
section
variable (cp : Int) (ps : List P) (a0 : Option Addr) (c0 n : Nat) (hn : ps.length = n) (hlen : n ≤ 100000) (hDW : DatW ps) (hpx : ∀ p ∈ ps, p.1.x.length ≤ 100000) (hc0 : n ≤ c0)
  (own : Nat → Prop) (W : World) (hl : ∀ b, own b → b < W.heap.size) (h1 : Has own W (RdF id a0 (cellsP ps))) (h2 : Has own W (DatF ps))
include hn hlen hDW hpx hc0 hl h1 h2
end
end Go.Proofs.Ytonelgecjmpbgaa


/- The reference of layer 29: Decode. -/
namespace Go.Proofs.Ytonelgecjmpbgaa
open Go.RowKit Go.Shelf D29
namespace D29
theorem cellsT_get {ts : List TP} {k : Nat} {t : TP} (h : ts[k]? = some t) : (ts.map tkC).flatten[k * 3 + 0]? = some (.bool t.1.r) ∧ (ts.map tkC).flatten[k * 3 + 1]? = some (.int .u64 t.1.d) ∧ (ts.map tkC).flatten[k * 3 + 2]? = some (.slice t.2.1 t.1.x.length t.2.2) := by
  have hpe : (ts.map tkC)[k]? = some (tkC t) := by rw [List.getElem?_map, h]; rfl
  exact ⟨flat_get (q := 0) (tkC_len ts) hpe rfl, flat_get (q := 1) (tkC_len ts) hpe rfl, flat_get (q := 2) (tkC_len ts) hpe rfl⟩
end D29
section
variable (cp : Int) (ps : List P) (a0 : Option Addr) (c0 n : Nat) (hn : ps.length = n) (hlen : n ≤ 100000) (hDW : DatW ps) (hpx : ∀ p ∈ ps, p.1.x.length ≤ 100000) (hc0 : n ≤ c0)
  (own : Nat → Prop) (W : World) (hl : ∀ b, own b → b < W.heap.size) (h1 : Has own W (RdF id a0 (cellsP ps))) (h2 : Has own W (DatF ps))
include hn hlen hDW hpx hc0 hl h1 h2
end
end Go.Proofs.Ytonelgecjmpbgaa


/- The reference of layer 29: Same, SameTokens, Few, FewTokens. -/
namespace Go.Proofs.Ytonelgecjmpbgaa
open Go.RowKit Go.Shelf D29
section
variable {n : Nat} {ds : List Deferred} {l : List (Nat × Value)} {a : Act} {w : World} {os rest : List Oper} {Q : Exit → Act → World → Prop} {d : Nat} {ty : TypeId} {pos : String} {af : Array Edge} {g : Option (Nat × Bool)}
theorem e_neB {t t' : TypeId} {X Y : Operand} {x y : Bool} (hF : Fr n ds l a) (hX : ev l X = some (.bool x)) (hY : ev l Y = some (.bool y)) (hu : Try.prog.underlying t = some .bool) (hg : Try.prog.eqGuardType Try.prog.depth t = false) (w : World) {dst : Option Tmp} :
    (execOp a.eval ⟨dst, .binOp .neq t X Y t', ty, pos, af, g⟩).run Try.prog w = .ok (.value (.bool (decide (x ≠ y)))) w := by
  have h : ∀ d : Nat, (Op.equalIn (d + 1) t (.bool x) (.bool y)).run Try.prog w = .ok (decide (x = y)) w := fun d => by
    cases x <;> cases y <;> simp [Op.equalIn, run_underlying hu]
  have he : (Op.equal t (.bool x) (.bool y)).run Try.prog w = .ok (decide (x = y)) w := h 9999
  simp [execOp, hF.eval hX, hF.eval hY, eqGuard, Sem.run_bind, Result.andThen, hg, binOp, he]
end
namespace D29
instance tokDec : DecidableEq Tok := fun a b => if h : a.r = b.r ∧ a.d = b.d ∧ a.x = b.x then isTrue (by
  obtain ⟨r, d, x⟩ := a
  obtain ⟨r', d', x'⟩ := b
  obtain ⟨h1, h2, h3⟩ := h
  dsimp only at h1 h2 h3
  rw [h1, h2, h3]) else isFalse fun e => h (by rw [e]; exact ⟨rfl, rfl, rfl⟩)
end D29
set_option maxRecDepth 20000 in
set_option maxHeartbeats 1000000 in
theorem Few_c (cp : Int) (ps : List P) (a0 : Option Addr) (n c0 : Nat) (hn : ps.length = n) (own : Nat → Prop) (W : World) (hl : ∀ b, own b → b < W.heap.size) (h1 : Has own W (RdF id a0 (cellsP ps))) :
    Calls Try.prog 12 ⟨[.agg #[.int .i64 cp, .slice a0 n c0]]⟩ W (Ret W fun v _ => ∃ f : Bool, v = .bool f ∧ (f = true → n ≤ 40 ∧ ∀ p ∈ ps, p.1.x.length ≤ 40)) := by
  have hM := (Mm.start hl).known h1
  subst hn
  refine f_start Try.func12 rfl Try.ntmps12 rfl rfl ?_; intro a hF
  (repeat (first | (with_reducible refine w_seq ?_) | (with_reducible refine c_region ?_) | (with_reducible refine s_nil ?_) | (with_reducible refine q_then_n ?_) | ((with_reducible apply s_pure hF); exact rfl; exact rfl; exact rfl; (first | exact trivial | omega | exact ⟨Int.natCast_nonneg _, Int.ofNat_lt.2 (by assumption)⟩ | decide); clear hF a; intro a hF) | ((with_reducible apply s_box hF hM); exact rfl; exact rfl; exact rfl; exact rfl; clear hF hM a; intro b w a hM hF) | (with_reducible refine w_block ?_)))
  generalize b = b1 at *
  refine c_loop (m := 50) (fun m a w' => ∃ k : Nat, m + k = 50 ∧ (∀ p ∈ ps.take k, p.1.x.length ≤ 40) ∧
    Fr 27 [] [(3, .int .i64 k), (1, .pointer (some ⟨b1, 0, none⟩))] a ∧
    Mm own W [⟨b1, ⟨[.int .i64 cp, .slice a0 ps.length c0]⟩, 24⟩] [] [RdF id a0 (cellsP ps)] w') ⟨0, by omega, by simp, hF.sub (by repeat (first | exact Sub.nil | refine Sub.cons rfl (by first | with_reducible rfl | (refine congrArg (Value.int _) ?_; omega) | exact rfl) ?_)), hM⟩ ?_
  clear hF hM a
  rintro m a w' ⟨k, hm, hall, hF, hM⟩
  by_cases hk : k < ps.length ∧ k < 50
  · obtain ⟨hk1, hk2⟩ := hk
    obtain ⟨p, hp⟩ := get_of_lt hk1
    obtain ⟨hc0, hc1⟩ := cells_get hp
    obtain ⟨ad, rfl⟩ : ∃ ad, a0 = some ad := rd_some hM (enc := id) (a := a0) (xs := cellsP ps) (by (repeat (first | exact List.mem_cons_self | refine List.mem_cons_of_mem _ ?_))) hc0
    by_cases hx : p.1.x.length ≤ 40
    · (repeat' (first | (with_reducible refine w_seq ?_) | (with_reducible refine c_region ?_) | (with_reducible refine s_nil ?_) | ((with_reducible apply s_fieldA hF); exact rfl; exact rfl; exact rfl; exact rfl; clear hF a; intro a hF) | ((with_reducible apply s_loadP hF hM); exact rfl; exact rfl; (repeat (first | exact List.mem_cons_self | refine List.mem_cons_of_mem _ ?_)); exact rfl; exact rfl; (first | with_reducible assumption | (simp only [Int.toNat_natCast]; with_reducible assumption)); clear hF a; intro a hF) | (with_reducible refine q_then_n ?_) | ((with_reducible apply s_pure hF); exact rfl; exact rfl; exact rfl; (first | exact trivial | omega | exact ⟨Int.natCast_nonneg _, Int.ofNat_lt.2 (by assumption)⟩ | decide); clear hF a; intro a hF) | ((with_reducible apply s_load hF hM); exact rfl; exact rfl; (repeat (first | exact List.mem_cons_self | refine List.mem_cons_of_mem _ ?_)); exact rfl; exact rfl; clear hF a; intro a hF) | (with_reducible refine w_skip ?_) | (with_reducible refine w_block ?_) | (with_reducible refine q_blk_n ?_) | ((fail_if_success ((with_reducible refine g_known true hF ?_ ?_); focus exact rfl)); (fail_if_success ((with_reducible refine g_known false hF ?_ ?_); focus exact rfl)); (with_reducible apply g_dec hF); exact rfl; exact rfl; all_goals (clear hF; intro hc hF); all_goals (try (exfalso; omega))) | ((with_reducible apply c_dec hF); exact rfl; all_goals intro hc; all_goals (try (exfalso; omega)))))
      refine ⟨m - 1, by omega, k + 1, by omega, ?_, hF.sub (by repeat (first | exact Sub.nil | refine Sub.cons rfl (by first | with_reducible rfl | (refine congrArg (Value.int _) ?_; omega) | exact rfl) ?_)), hM⟩
      intro y hy
      rw [take_snoc hp] at hy
      rcases List.mem_append.1 hy with hy | hy
      · exact hall y hy
      · rw [List.mem_singleton] at hy; rw [hy]; exact hx
    · (repeat' (first | (with_reducible refine w_seq ?_) | (with_reducible refine c_region ?_) | (with_reducible refine s_nil ?_) | ((with_reducible apply s_fieldA hF); exact rfl; exact rfl; exact rfl; exact rfl; clear hF a; intro a hF) | ((with_reducible apply s_loadP hF hM); exact rfl; exact rfl; (repeat (first | exact List.mem_cons_self | refine List.mem_cons_of_mem _ ?_)); exact rfl; exact rfl; (first | with_reducible assumption | (simp only [Int.toNat_natCast]; with_reducible assumption)); clear hF a; intro a hF) | (with_reducible refine q_then_n ?_) | ((with_reducible apply s_pure hF); exact rfl; exact rfl; exact rfl; (first | exact trivial | omega | exact ⟨Int.natCast_nonneg _, Int.ofNat_lt.2 (by assumption)⟩ | decide); clear hF a; intro a hF) | ((with_reducible apply s_load hF hM); exact rfl; exact rfl; (repeat (first | exact List.mem_cons_self | refine List.mem_cons_of_mem _ ?_)); exact rfl; exact rfl; clear hF a; intro a hF) | (with_reducible refine w_skip ?_) | (with_reducible refine w_block ?_) | (with_reducible refine w_ret ?_) | (with_reducible refine q_then_r ?_) | (with_reducible refine q_blk_r ?_) | ((fail_if_success ((with_reducible refine g_known true hF ?_ ?_); focus exact rfl)); (fail_if_success ((with_reducible refine g_known false hF ?_ ?_); focus exact rfl)); (with_reducible apply g_dec hF); exact rfl; exact rfl; all_goals (clear hF; intro hc hF); all_goals (try (exfalso; omega))) | ((with_reducible apply c_dec hF); exact rfl; all_goals intro hc; all_goals (try (exfalso; omega)))))
      (apply f_ret Try.results12 hF hM; (repeat (first | exact RL.nil | (apply RL.tmp; exact rfl) | (apply RL.cell; exact rfl; (repeat (first | exact List.mem_cons_self | refine List.mem_cons_of_mem _ ?_)); exact rfl))); refine Ret.mk hM.since ?_; dsimp only [resV])
      exact ⟨_, rfl, fun h => by cases h⟩
  · by_cases hlen : ps.length ≤ 40
    · rw [List.take_of_length_le (by omega)] at hall
      (repeat' (first | (with_reducible refine w_seq ?_) | (with_reducible refine c_region ?_) | (with_reducible refine s_nil ?_) | (with_reducible refine q_then_n ?_) | ((with_reducible apply s_pure hF); exact rfl; exact rfl; exact rfl; (first | exact trivial | omega | exact ⟨Int.natCast_nonneg _, Int.ofNat_lt.2 (by assumption)⟩ | decide); clear hF a; intro a hF) | ((with_reducible apply s_load hF hM); exact rfl; exact rfl; (repeat (first | exact List.mem_cons_self | refine List.mem_cons_of_mem _ ?_)); exact rfl; exact rfl; clear hF a; intro a hF) | (with_reducible refine w_exit ?_) | (with_reducible refine w_ret ?_) | (with_reducible refine q_then_x ?_) | (with_reducible refine q_blk_x ?_) | ((with_reducible apply c_false2 hF); exact rfl; (first | with_reducible rfl | (refine congrArg Value.bool ?_; focus (simp; done)))) | ((with_reducible apply s_skip hF); exact rfl; exact rfl; clear hF a; intro a hF) | ((fail_if_success ((with_reducible refine g_known true hF ?_ ?_); focus exact rfl)); (fail_if_success ((with_reducible refine g_known false hF ?_ ?_); focus exact rfl)); (with_reducible apply g_dec hF); exact rfl; exact rfl; all_goals (clear hF; intro hc hF); all_goals (try (exfalso; omega)))))
      (apply f_ret Try.results12 hF hM; (repeat (first | exact RL.nil | (apply RL.tmp; exact rfl) | (apply RL.cell; exact rfl; (repeat (first | exact List.mem_cons_self | refine List.mem_cons_of_mem _ ?_)); exact rfl))); refine Ret.mk hM.since ?_; dsimp only [resV])
      exact ⟨_, rfl, fun _ => ⟨hlen, hall⟩⟩
    · (repeat' (first | (with_reducible refine w_seq ?_) | (with_reducible refine c_region ?_) | (with_reducible refine s_nil ?_) | (with_reducible refine q_then_n ?_) | ((with_reducible apply s_pure hF); exact rfl; exact rfl; exact rfl; (first | exact trivial | omega | exact ⟨Int.natCast_nonneg _, Int.ofNat_lt.2 (by assumption)⟩ | decide); clear hF a; intro a hF) | ((with_reducible apply s_load hF hM); exact rfl; exact rfl; (repeat (first | exact List.mem_cons_self | refine List.mem_cons_of_mem _ ?_)); exact rfl; exact rfl; clear hF a; intro a hF) | (with_reducible refine w_exit ?_) | (with_reducible refine w_ret ?_) | (with_reducible refine q_then_x ?_) | (with_reducible refine q_blk_x ?_) | ((with_reducible apply c_false2 hF); exact rfl; (first | with_reducible rfl | (refine congrArg Value.bool ?_; focus (simp; done)))) | ((with_reducible apply s_skip hF); exact rfl; exact rfl; clear hF a; intro a hF) | ((fail_if_success ((with_reducible refine g_known true hF ?_ ?_); focus exact rfl)); (fail_if_success ((with_reducible refine g_known false hF ?_ ?_); focus exact rfl)); (with_reducible apply g_dec hF); exact rfl; exact rfl; all_goals (clear hF; intro hc hF); all_goals (try (exfalso; omega))) | ((with_reducible apply c_dec hF); exact rfl; all_goals intro hc; all_goals (try (exfalso; omega)))))
      all_goals (apply f_ret Try.results12 hF hM; (repeat (first | exact RL.nil | (apply RL.tmp; exact rfl) | (apply RL.cell; exact rfl; (repeat (first | exact List.mem_cons_self | refine List.mem_cons_of_mem _ ?_)); exact rfl))); refine Ret.mk hM.since ?_; dsimp only [resV])
      all_goals exact ⟨_, rfl, fun h => by rw [decide_eq_true_eq] at h; omega⟩
end Go.Proofs.Ytonelgecjmpbgaa


/- The example of layer 29, in plain terms. -/
namespace Go.Proofs.Ytonelgecjmpbgaa
open Go.RowKit Go.Shelf D29
namespace D29
def sx : List Int := [1, 0, 0, 0, 0, 0, 0, 0]
def sy : List Int := [2, 0, 0, 0, 0, 0, 0, 0]
def sz : List Int := [3, 0, 0, 0, 0, 0, 0, 0]
theorem check0 : check ⟨2, []⟩ = 0 := rfl
theorem sxy : ([sx] : Dat) ≠ [sy] := by decide
theorem sxz : ([sx] : Dat) ≠ [sz] := by decide
theorem syz : ([sy] : Dat) ≠ [sz] := by decide
theorem aw_parts5 (a b c d e : List Int) : parts 1 [a, b, c, d, e] = [[a], [b], [c], [d], [e]] := by simp [parts, part, List.range, List.range.loop]
theorem aw_parts2 (a b : List Int) : parts 1 [a, b] = [[a], [b]] := by simp [parts, part, List.range, List.range.loop]
theorem aw_ch (x : List Int) : isCh [x] = true := rfl
def awI : List Itm := [⟨dg [sz], [sz]⟩, ⟨dg [sx], [sx]⟩]
def awT : List Tok := [⟨false, 0, [sx]⟩, ⟨false, 0, [sy]⟩, ⟨true, dg [sx], []⟩, ⟨false, 0, [sz]⟩, ⟨false, 0, [sx]⟩]
def awA : List Itm := [⟨dg [sx], [sx]⟩]
def awU : List Tok := [⟨true, dg [sx], []⟩, ⟨true, dg [sx], []⟩]
theorem aw_enc : encR ⟨2, []⟩ [sx, sy, sx, sz, sx] 1 = .ok (awI, awT) := by
  unfold encR
  rw [check0, if_neg (by decide), if_neg (by decide)]
  rw [show (1 : Int).toNat = 1 from rfl, aw_parts5]
  have h := ex_enc sxy sxz syz
  rw [show encI (⟨2, []⟩ : St).cap [[sx], [sy], [sx], [sz], [sx]] (⟨2, []⟩ : St).items = (awI, awT) from Prod.ext h.2 h.1]
theorem aw_add : addR 2 [] [sx] = awA := by
  unfold addR
  rw [if_pos ⟨check0, aw_ch sx⟩]
  simp [addI, hasD, awA]
theorem aw_check : check ⟨2, awA⟩ = 0 := by
  rw [check_ok]
  refine ⟨by decide, by decide, ⟨?_, ?_, List.pairwise_singleton _ _⟩⟩
  · intro i hi
    rw [show i = ⟨dg [sx], [sx]⟩ from List.mem_singleton.1 hi]
    exact aw_ch sx
  · intro i hi
    rw [show i = ⟨dg [sx], [sx]⟩ from List.mem_singleton.1 hi]
theorem aw_enc2 : encR ⟨2, awA⟩ [sx, sx] 1 = .ok (awA, awU) := by
  unfold encR
  rw [aw_check, if_neg (by decide), if_neg (by decide), show (1 : Int).toNat = 1 from rfl, aw_parts2]
  have ha : addI 2 awA [sx] = awA := by simp [addI, hasD, awA]
  have ht : tokI awA [sx] = ⟨true, dg [sx], []⟩ := by simp [tokI, findI, awA]
  show Except.ok (encI 2 [[sx], [sx]] awA) = _
  simp [encI, ha, ht, awU]
theorem aw_dec : decR ⟨2, []⟩ awT = .ok (awI, [sx, sy, sx, sz, sx]) := by
  unfold decR
  rw [check0, if_neg (by decide)]
  have h := mirror 2 (xs := [[sx], [sy], [sx], [sz], [sx]]) (l := []) (o := []) (by intro x hx; simp only [List.mem_cons, List.not_mem_nil, or_false] at hx; rcases hx with rfl | rfl | rfl | rfl | rfl <;> exact aw_ch _)
  have h2 := ex_enc sxy sxz syz
  rw [show encI 2 [[sx], [sy], [sx], [sz], [sx]] [] = (awI, awT) from Prod.ext h2.2 h2.1] at h
  exact h
theorem aw_dec2 : decR ⟨2, []⟩ awU = .error 25 := by
  unfold decR
  rw [check0, if_neg (by decide)]
  rfl
theorem aw_mis : misR ⟨2, []⟩ awT = [] := by
  rw [misR_ok check0 (by rfl)]
  show misI 2 awT [] [] = []
  have e0 : tokD ⟨false, 0, [sx]⟩ = dg [sx] := rfl
  have e1 : tokD ⟨false, 0, [sy]⟩ = dg [sy] := rfl
  have e2 : tokD ⟨true, dg [sx], []⟩ = dg [sx] := rfl
  have e3 : tokD ⟨false, 0, [sz]⟩ = dg [sz] := rfl
  unfold awT
  generalize dg [sx] = X at *
  generalize dg [sy] = Y at *
  generalize dg [sz] = Z at *
  simp only [misI, e0, e1, e2, e3]
  by_cases h1 : Y = X
  · subst h1
    simp [knw]
    repeat' split
    all_goals simp_all
  · by_cases h3 : Z = X <;> by_cases h2 : Z = Y <;> simp [knw, h1, h2, h3]
    all_goals (repeat' split) <;> simp_all
theorem aw_mis2 : misR ⟨2, []⟩ awU = [dg [sx]] := by
  rw [misR_ok check0 (by rfl)]
  show misI 2 awU [] [] = [dg [sx]]
  have e2 : tokD ⟨true, dg [sx], []⟩ = dg [sx] := rfl
  unfold awU
  generalize dg [sx] = X at *
  simp only [misI, e2]
  simp [knw]
theorem tok_r {ts : List TP} {l : List Tok} (h : tms ts = l) {k : Nat} {u : Tok} (hk : l[k]? = some u) : (ts.map tkC).flatten[k * 3 + 0]? = some (.bool u.r) := by
  rw [← h] at hk
  unfold tms at hk
  rw [List.getElem?_map] at hk
  cases ht : ts[k]? with
  | none => rw [ht] at hk; cases hk
  | some t =>
    rw [ht] at hk
    injection hk with hk
    rw [← hk]
    exact (cellsT_get ht).1
theorem tok_len {ts : List TP} {l : List Tok} (h : tms ts = l) (hl : ∀ u ∈ l, u.x.length ≤ 1) : ∀ t ∈ ts, t.1.x.length ≤ 100000 := fun t ht => Nat.le_trans (hl t.1 (by rw [← h]; exact List.mem_map.2 ⟨t, ht, rfl⟩)) (by omega)
theorem awT_len : ∀ u ∈ awT, u.x.length ≤ 1 := by
  unfold awT
  intro u hu
  simp only [List.mem_cons, List.not_mem_nil, or_false] at hu
  rcases hu with rfl | rfl | rfl | rfl | rfl <;> simp
theorem awU_len : ∀ u ∈ awU, u.x.length ≤ 1 := by
  unfold awU
  intro u hu
  simp only [List.mem_cons, List.not_mem_nil, or_false] at hu
  rcases hu with rfl | rfl <;> simp
theorem aw8 : W8 [sx, sy, sx, sz, sx] := by
  intro s hs
  simp only [List.mem_cons, List.not_mem_nil, or_false] at hs
  rcases hs with rfl | rfl | rfl | rfl | rfl <;> rfl
theorem awb : By8 [sx, sy, sx, sz, sx] := by
  intro s hs b hb
  simp only [List.mem_cons, List.not_mem_nil, or_false] at hs
  rcases hs with rfl | rfl | rfl | rfl | rfl <;> (simp only [sx, sy, sz, List.mem_cons, List.not_mem_nil, or_false] at hb; omega)
theorem awx8 : W8 [sx] := fun s hs => by rw [List.mem_singleton.1 hs]; rfl
theorem awxb : By8 [sx] := fun s hs b hb => awb s (by rw [List.mem_singleton.1 hs]; simp) b hb
theorem awxx8 : W8 [sx, sx] := by
  intro s hs
  simp only [List.mem_cons, List.not_mem_nil, or_false] at hs
  rcases hs with rfl | rfl <;> rfl
theorem awxxb : By8 [sx, sx] := fun s hs b hb => awb s (by simp only [List.mem_cons, List.not_mem_nil, or_false] at hs ⊢; rcases hs with rfl | rfl <;> simp) b hb
end D29
end Go.Proofs.Ytonelgecjmpbgaa


/- The example of layer 29: it is walked. -/
namespace Go.Proofs.Ytonelgecjmpbgaa
open Go.RowKit Go.Shelf D29
set_option maxRecDepth 20000 in
set_option maxHeartbeats 8000000 in
theorem awake_c (own : Nat → Prop) (W : World) (hl : ∀ b, own b → b < W.heap.size) : Calls Try.prog 13 ⟨[]⟩ W (Ret W fun v _ => v = .bool true) := by
  have hM := Mm.start hl
  have hW0 : DatW [] := fun p hp => by simp at hp
  have hx0 : ∀ p ∈ ([] : List P), p.1.x.length ≤ 100000 := fun p hp => by simp at hp
  have e0 := fun {own W} hl => New29_c 2 own W hl
  rw [if_pos (by decide), if_pos (by decide)] at e0
  refine f_start Try.func13 rfl Try.ntmps13 rfl rfl ?_; intro a hF
  (repeat (first | (with_reducible refine w_seq ?_) | (with_reducible refine c_region ?_) | (with_reducible refine s_nil ?_) | ((with_reducible apply s_call (f := 23) hF hM); exact rfl; exact rfl; exact rfl; exact rfl; exact rfl; exact (e0 hM.lt); clear hF hM a; rintro v w a rfl - hM hF) | (with_reducible refine q_then_n ?_) | ((with_reducible apply s_pure hF); exact rfl; exact rfl; exact rfl; (first | exact trivial | omega | exact ⟨Int.natCast_nonneg _, Int.ofNat_lt.2 (by assumption)⟩ | decide); clear hF a; intro a hF) | ((with_reducible apply s_load hF hM); exact rfl; exact rfl; (repeat (first | exact List.mem_cons_self | refine List.mem_cons_of_mem _ ?_)); exact rfl; exact rfl; clear hF a; intro a hF) | ((with_reducible apply s_store hF hM); exact rfl; exact rfl; exact rfl; exact rfl; (repeat (first | exact Upd.z | apply Upd.s)); exact rfl; exact rfl; exact rfl; clear hM; intro w hM) | ((with_reducible apply s_alloc hF hM); exact rfl; exact rfl; exact rfl; clear hF hM a; intro b w a hM hF) | ((with_reducible apply s_lit hF hM); exact rfl; exact rfl; exact rfl; exact rfl; clear hF hM a; intro bl w a hM hF)))
  rename_i bx _ by1 _ bz _ _ _ _ _ _ _
  generalize b = bc at *
  replace hM := hM.freeze
  replace hM := hM.addFact (Has.lit (enc := Value.int .u8) (hM.facts _ List.mem_cons_self) ([sx, sy, sx, sz, sx] : Dat).flatten rfl)
  have e1 := fun {own W} hl hx => Encode29_c 2 [] none 0 0 rfl (by omega) hW0 hx0 own W hl RdF.nil (Has.pure fun _ p hp => by simp at hp) [sx, sy, sx, sz, sx] aw8 awb (some ⟨bl, 0, none⟩) 5 5 rfl (by omega) (by omega) hx 1
  rw [show encR ⟨2, ims []⟩ [sx, sy, sx, sz, sx] 1 = .ok (awI, awT) from aw_enc] at e1
  (((with_reducible apply s_call (f := 14) hF hM); exact rfl; exact rfl; exact rfl; exact rfl; exact rfl; exact (e1 hM.lt (hM.facts (RdF (Value.int .u8) (some ⟨bl, 0, none⟩) ([sx, sy, sx, sz, sx] : Dat).flatten) (by (repeat (first | with_reducible exact List.mem_cons_self | refine List.mem_cons_of_mem _ ?_))))); clear hF hM a; rintro v w a ⟨ai, ci, at1, ct1, rfl, -, ts, t1, t2, t3, t4, t5⟩ - hM hF))
  replace hM := (hM.addFact t3).addFact t4
  clear e0 e1 t3 t4
  rw [show awI.length = 2 from rfl, show awT.length = 5 from rfl] at hF
  have g0 : (ts.map tkC).flatten[(0 : Int).toNat * 3 + 0]? = some (.bool false) := tok_r t1 (k := 0) rfl
  have g1 : (ts.map tkC).flatten[(1 : Int).toNat * 3 + 0]? = some (.bool false) := tok_r t1 (k := 1) rfl
  have g2 : (ts.map tkC).flatten[(2 : Int).toNat * 3 + 0]? = some (.bool true) := tok_r t1 (k := 2) rfl
  have g3 : (ts.map tkC).flatten[(3 : Int).toNat * 3 + 0]? = some (.bool false) := tok_r t1 (k := 3) rfl
  have g4 : (ts.map tkC).flatten[(4 : Int).toNat * 3 + 0]? = some (.bool false) := tok_r t1 (k := 4) rfl
  obtain ⟨adt, rfl⟩ : ∃ ad, at1 = some ad := rd_some hM (enc := id) (a := at1) (xs := cellsT ts) (by (repeat (first | with_reducible exact List.mem_cons_self | refine List.mem_cons_of_mem _ ?_))) g0
  have htl : ts.length = 5 := by rw [← tms_len, t1]; rfl
  rw [show cellsT ts = (ts.map tkC).flatten from rfl] at hM
  (repeat' (first | (with_reducible refine w_seq ?_) | (with_reducible refine c_region ?_) | (with_reducible refine s_nil ?_) | ((with_reducible apply s_fieldA hF); exact rfl; exact rfl; exact rfl; exact rfl; clear hF a; intro a hF) | ((with_reducible apply s_loadP hF hM); exact rfl; exact rfl; (repeat (first | exact List.mem_cons_self | refine List.mem_cons_of_mem _ ?_)); exact rfl; exact rfl; (first | with_reducible assumption | (simp only [Int.toNat_natCast]; with_reducible assumption)); clear hF a; intro a hF) | (with_reducible refine q_then_n ?_) | ((with_reducible apply s_pure hF); exact rfl; exact rfl; exact rfl; (first | exact trivial | omega | exact ⟨Int.natCast_nonneg _, Int.ofNat_lt.2 (by assumption)⟩ | decide); clear hF a; intro a hF) | ((with_reducible apply s_load hF hM); exact rfl; exact rfl; (repeat (first | exact List.mem_cons_self | refine List.mem_cons_of_mem _ ?_)); exact rfl; exact rfl; clear hF a; intro a hF) | ((with_reducible apply s_store hF hM); exact rfl; exact rfl; exact rfl; exact rfl; (repeat (first | exact Upd.z | apply Upd.s)); exact rfl; exact rfl; exact rfl; clear hM; intro w hM) | ((with_reducible apply s_alloc hF hM); exact rfl; exact rfl; exact rfl; clear hF hM a; intro b w a hM hF) | (with_reducible refine w_skip ?_) | ((with_reducible apply c_false2 hF); exact rfl; (first | with_reducible rfl | (refine congrArg Value.bool ?_; focus (simp; done))))))
  all_goals first | (exfalso; omega) | skip
  generalize b = b6 at *
  obtain ⟨D, hD⟩ : ∃ D, dg [sx] = D := ⟨_, rfl⟩
  have e2 : ∀ (bl : Nat) (own : Nat → Prop) (W : World), (∀ b, own b → b < W.heap.size) → Has own W (RdF (Value.int .u8) (some ⟨bl, 0, none⟩) ([sx] : Dat).flatten) → Calls Try.prog 30 ⟨[.agg #[.int .i64 2, .slice none 0 0], .slice (some ⟨bl, 0, none⟩) 1 1]⟩ W (Ret W fun v w' => ∃ (a : Option Addr) (c : Nat), v = .agg #[.int .i64 2, .slice a awA.length c] ∧ ItR own awA a c w') := by
    intro bl own W hl hx
    have h := Add29_c 2 [] none 0 0 rfl (by omega) hW0 hx0 own W hl RdF.nil (Has.pure fun _ p hp => by simp at hp) (Nat.le_refl _) [sx] awx8 awxb (some ⟨bl, 0, none⟩) 1 1 rfl hx
    rw [show addR 2 (ims []) [sx] = awA from aw_add] at h
    exact h
  have e3 : ∀ (bl : Nat) (qs : List P) (aq : Option Addr) (cq : Nat) (own : Nat → Prop) (W : World), (∀ b, own b → b < W.heap.size) → ims qs = awA → DatW qs → Has own W (RdF id aq (cellsP qs)) → Has own W (DatF qs) → Has own W (RdF (Value.int .u8) (some ⟨bl, 0, none⟩) ([sx, sx] : Dat).flatten) → Calls Try.prog 14 ⟨[.agg #[.int .i64 2, .slice aq awA.length cq], .slice (some ⟨bl, 0, none⟩) 2 2, .int .i64 1]⟩ W (Ret W (encP own 2 (.ok (awA, awU)))) := by
    intro bl qs aq cq own W hl q1 q2 h1 h2 hx
    have hql : qs.length = awA.length := by rw [← ims_len, q1]
    have h := Encode29_c 2 qs aq cq awA.length hql (by decide) q2 (fun p hp => by
      have : p.1 ∈ awA := by rw [← q1]; exact List.mem_map.2 ⟨p, hp, rfl⟩
      rw [show p.1 = ⟨dg [sx], [sx]⟩ from List.mem_singleton.1 this]
      decide) own W hl h1 h2 [sx, sx] awxx8 awxxb (some ⟨bl, 0, none⟩) 2 2 rfl (by omega) (by omega) hx 1
    rw [show encR ⟨2, ims qs⟩ [sx, sx] 1 = .ok (awA, awU) by rw [q1]; exact aw_enc2] at h
    exact h
  refine c_cut (fun a w => ∃ (at2 : Option Addr) (ct2 : Nat) (us : List TP), tms us = awU ∧ DatW (tP us) ∧ Fr 148 [] [(11, .int .i64 0), (10, .slice at2 2 ct2), (8, .int .i64 0), (7, .slice (some adt) 5 ct1), (6, .pointer (some ⟨b6, 0, none⟩)), (5, .int .i64 0), (4, .pointer (some ⟨bc, 0, none⟩)), (3, .pointer (some ⟨bz, 0, none⟩)), (2, .pointer (some ⟨by1, 0, none⟩)), (1, .pointer (some ⟨bx, 0, none⟩))] a ∧
    Mm own W [⟨bc, ⟨[.int .i64 2, .slice none 0 0]⟩, 24⟩, ⟨bz, ⟨sz.map (Value.int .u8)⟩, 44⟩, ⟨by1, ⟨sy.map (Value.int .u8)⟩, 44⟩, ⟨bx, ⟨sx.map (Value.int .u8)⟩, 44⟩] [] [RdF id at2 (cellsT us), DatF (tP us), RdF id (some adt) (cellsT ts), DatF (tP ts)] w) ?_ ?_
  · refine c_draw (fun i => Nat.ble 16 i) hM ?_; clear hM; intro w hM
    (first | (apply t_load (i := 0) hF rfl rfl rfl; (repeat (first | exact List.mem_cons_self | refine List.mem_cons_of_mem _ ?_)); exact rfl; exact rfl; kernel_rfl; exact hM.sm; exact (fun _ _ _ h => h); clear hF a; intro a hF))
    (first | (apply t_load (i := 1) hF rfl rfl rfl; (repeat (first | exact List.mem_cons_self | refine List.mem_cons_of_mem _ ?_)); exact rfl; exact rfl; kernel_rfl; exact hM.sm; exact (fun _ _ _ h => h); clear hF a; intro a hF))
    (first | (apply t_load (i := 4) hF rfl rfl rfl; (repeat (first | exact List.mem_cons_self | refine List.mem_cons_of_mem _ ?_)); exact rfl; exact rfl; kernel_rfl; exact hM.sm; exact (fun _ _ _ h => h); clear hF a; intro a hF))
    (first | (apply t_load (i := 5) hF rfl rfl rfl; (repeat (first | exact List.mem_cons_self | refine List.mem_cons_of_mem _ ?_)); exact rfl; exact rfl; kernel_rfl; exact hM.sm; exact (fun _ _ _ h => h); clear hF a; intro a hF))
    refine t_three (i := 2) (j := 6) (k := 12) hF rfl rfl rfl (by kernel_rfl) rfl rfl rfl ?_ ?_ ?_
    ·
      intro K hK
      (refine x_lit hF hM rfl rfl rfl ?_; clear hF hM a; intro bl w a hM hF; replace hM := Mm.freeze hM)
      obtain ⟨bl2, rfl⟩ : ∃ x, x = bl := ⟨_, rfl⟩; replace hM := hM.addFact (Has.lit (enc := Value.int .u8) (hM.facts _ List.mem_cons_self) ([sx] : Dat).flatten rfl)
      refine hK _ _ (fun _ => (hM.sm.sub (fun x hx => by repeat (first | exact hx | refine List.mem_cons_of_mem _ ?_)) (fun _ h => by repeat (first | exact h | refine List.mem_cons_of_mem _ ?_)))) ?_; clear hK
      refine t_three (i := 3) (j := 6) (k := 12) hF rfl rfl rfl (by kernel_rfl) rfl rfl rfl ?_ ?_ ?_
      ·
        intro K hK
        (apply x_call hF hM; exact rfl; exact rfl; exact rfl; exact rfl; exact (e2 bl2 _ _ hM.lt (hM.facts (RdF (Value.int .u8) (some ⟨bl2, 0, none⟩) ([sx] : Dat).flatten) (by (repeat (first | with_reducible exact List.mem_cons_self | refine List.mem_cons_of_mem _ ?_))))); clear hF hM a; rintro v w a ⟨a3, c3, rfl, qs, q1, q2, q3, q4, q5⟩ - hM hF)
        replace hM := (hM.addFact q4).addFact q3
        refine hK _ _ (fun _ => (hM.sm.sub (fun x hx => by repeat (first | exact hx | refine List.mem_cons_of_mem _ ?_)) (fun _ h => by repeat (first | exact h | refine List.mem_cons_of_mem _ ?_)))) ?_; clear hK
        refine t_two (i := 6) (j := 12) hF rfl rfl (by kernel_rfl) rfl rfl ?_ ?_
        ·
          intro K hK
          (refine x_lit hF hM rfl rfl rfl ?_; clear hF hM a; intro bl w a hM hF; replace hM := Mm.freeze hM)
          obtain ⟨bl6, rfl⟩ : ∃ x, x = bl := ⟨_, rfl⟩; replace hM := hM.addFact (Has.lit (enc := Value.int .u8) (hM.facts _ List.mem_cons_self) ([sx, sx] : Dat).flatten rfl)
          refine hK _ _ (fun _ => (hM.sm.sub (fun x hx => by repeat (first | exact hx | refine List.mem_cons_of_mem _ ?_)) (fun _ h => by repeat (first | exact h | refine List.mem_cons_of_mem _ ?_)))) ?_; clear hK
          refine t_two (i := 7) (j := 12) hF rfl rfl (by kernel_rfl) rfl rfl ?_ ?_
          ·
            intro K hK
            (apply x_call hF hM; exact rfl; exact rfl; exact rfl; exact rfl; exact (e3 bl6 qs a3 c3 _ _ hM.lt q1 q2 (hM.facts (RdF id a3 (cellsP qs)) (by (repeat (first | with_reducible exact List.mem_cons_self | refine List.mem_cons_of_mem _ ?_)))) (hM.facts (DatF qs) (by (repeat (first | with_reducible exact List.mem_cons_self | refine List.mem_cons_of_mem _ ?_)))) (hM.facts (RdF (Value.int .u8) (some ⟨bl6, 0, none⟩) ([sx, sx] : Dat).flatten) (by (repeat (first | with_reducible exact List.mem_cons_self | refine List.mem_cons_of_mem _ ?_))))); clear hF hM a; rintro v w a ⟨a4, c4, at2, ct2, rfl, -, us, u1, u2, u3, u4, u5⟩ - hM hF)
            replace hM := (hM.addFact u4).addFact u3
            refine hK _ _ (fun _ => (hM.sm.sub (fun x hx => by repeat (first | exact hx | refine List.mem_cons_of_mem _ ?_)) (fun _ h => by repeat (first | exact h | refine List.mem_cons_of_mem _ ?_)))) ?_; clear hK
            (first | (refine t_pure (i := 8) hF rfl rfl rfl rfl (by kernel_rfl) (hM.sm.sub (fun x hx => by repeat (first | exact hx | refine List.mem_cons_of_mem _ ?_)) (fun _ h => by repeat (first | exact h | refine List.mem_cons_of_mem _ ?_))) (fun _ _ _ h => h) ?_ ?_; (first | exact trivial | omega | decide); clear hF a; intro a hF))
            (first | (refine t_pure (i := 9) hF rfl rfl rfl rfl (by kernel_rfl) (hM.sm.sub (fun x hx => by repeat (first | exact hx | refine List.mem_cons_of_mem _ ?_)) (fun _ h => by repeat (first | exact h | refine List.mem_cons_of_mem _ ?_))) (fun _ _ _ h => h) ?_ ?_; (first | exact trivial | omega | decide); clear hF a; intro a hF))
            (first | (refine t_pure (i := 10) hF rfl rfl rfl rfl (by kernel_rfl) (hM.sm.sub (fun x hx => by repeat (first | exact hx | refine List.mem_cons_of_mem _ ?_)) (fun _ h => by repeat (first | exact h | refine List.mem_cons_of_mem _ ?_))) (fun _ _ _ h => h) ?_ ?_; (first | exact trivial | omega | decide); clear hF a; intro a hF))
            (first | (refine t_pure (i := 11) hF rfl rfl rfl rfl (by kernel_rfl) (hM.sm.sub (fun x hx => by repeat (first | exact hx | refine List.mem_cons_of_mem _ ?_)) (fun _ h => by repeat (first | exact h | refine List.mem_cons_of_mem _ ?_))) (fun _ _ _ h => h) ?_ ?_; (first | exact trivial | omega | decide); clear hF a; intro a hF))
            refine t_one (i := 12) hF rfl (by kernel_rfl) rfl ?_
            intro K hK
            (refine x_alloc hF hM rfl rfl ?_; clear hF hM a; intro b w a hM hF)
            refine hK _ _ (fun _ => (hM.sm.sub (fun x hx => by repeat (first | exact hx | refine List.mem_cons_of_mem _ ?_)) (fun _ h => by repeat (first | exact h | refine List.mem_cons_of_mem _ ?_)))) ?_; clear hK
            refine t_one (i := 13) hF rfl (by kernel_rfl) rfl ?_
            intro K hK
            (apply x_store hF hM rfl rfl rfl; (repeat (first | exact Upd.z | apply Upd.s)); exact rfl; exact rfl; exact rfl; clear hF hM a; intro w a hM hF)
            refine hK _ _ (fun _ => (hM.sm.sub (fun x hx => by repeat (first | exact hx | refine List.mem_cons_of_mem _ ?_)) (fun _ h => by repeat (first | exact h | refine List.mem_cons_of_mem _ ?_)))) ?_; clear hK
            (first | (refine t_pure (i := 14) hF rfl rfl rfl rfl (by kernel_rfl) (hM.sm.sub (fun x hx => by repeat (first | exact hx | refine List.mem_cons_of_mem _ ?_)) (fun _ h => by repeat (first | exact h | refine List.mem_cons_of_mem _ ?_))) (fun _ _ _ h => h) ?_ ?_; (first | exact trivial | omega | decide); clear hF a; intro a hF))
            (first | (refine t_pure (i := 15) hF rfl rfl rfl rfl (by kernel_rfl) (hM.sm.sub (fun x hx => by repeat (first | exact hx | refine List.mem_cons_of_mem _ ?_)) (fun _ h => by repeat (first | exact h | refine List.mem_cons_of_mem _ ?_))) (fun _ _ _ h => h) ?_ ?_; (first | exact trivial | omega | decide); clear hF a; intro a hF))
            refine t_done (by kernel_rfl) ?_
            (repeat (first | fail))
            refine q_cut ⟨at2, ct2, us, u1, u2, hF.sub (by repeat (first | exact Sub.nil | refine Sub.cons rfl (by first | with_reducible rfl | (refine congrArg (Value.int _) ?_; omega) | exact rfl) ?_)), hM.sub (.cons _ (.cons _ (.refl _))) (.refl _) (fun f hf => ?_)⟩
            simp only [List.mem_cons, List.not_mem_nil, or_false] at hf ⊢
            rcases hf with h | h | h | h <;> simp [h, cellsT]
          ·
            intro K hK
            (refine x_alloc hF hM rfl rfl ?_; clear hF hM a; intro b w a hM hF)
            refine hK _ _ (fun _ => (hM.sm.sub (fun x hx => by repeat (first | exact hx | refine List.mem_cons_of_mem _ ?_)) (fun _ h => by repeat (first | exact h | refine List.mem_cons_of_mem _ ?_)))) ?_; clear hK
            refine t_one (i := 7) hF rfl (by kernel_rfl) rfl ?_
            intro K hK
            (apply x_call hF hM; exact rfl; exact rfl; exact rfl; exact rfl; exact (e3 bl6 qs a3 c3 _ _ hM.lt q1 q2 (hM.facts (RdF id a3 (cellsP qs)) (by (repeat (first | with_reducible exact List.mem_cons_self | refine List.mem_cons_of_mem _ ?_)))) (hM.facts (DatF qs) (by (repeat (first | with_reducible exact List.mem_cons_self | refine List.mem_cons_of_mem _ ?_)))) (hM.facts (RdF (Value.int .u8) (some ⟨bl6, 0, none⟩) ([sx, sx] : Dat).flatten) (by (repeat (first | with_reducible exact List.mem_cons_self | refine List.mem_cons_of_mem _ ?_))))); clear hF hM a; rintro v w a ⟨a4, c4, at2, ct2, rfl, -, us, u1, u2, u3, u4, u5⟩ - hM hF)
            replace hM := (hM.addFact u4).addFact u3
            refine hK _ _ (fun _ => (hM.sm.sub (fun x hx => by repeat (first | exact hx | refine List.mem_cons_of_mem _ ?_)) (fun _ h => by repeat (first | exact h | refine List.mem_cons_of_mem _ ?_)))) ?_; clear hK
            (first | (refine t_pure (i := 8) hF rfl rfl rfl rfl (by kernel_rfl) (hM.sm.sub (fun x hx => by repeat (first | exact hx | refine List.mem_cons_of_mem _ ?_)) (fun _ h => by repeat (first | exact h | refine List.mem_cons_of_mem _ ?_))) (fun _ _ _ h => h) ?_ ?_; (first | exact trivial | omega | decide); clear hF a; intro a hF))
            (first | (refine t_pure (i := 9) hF rfl rfl rfl rfl (by kernel_rfl) (hM.sm.sub (fun x hx => by repeat (first | exact hx | refine List.mem_cons_of_mem _ ?_)) (fun _ h => by repeat (first | exact h | refine List.mem_cons_of_mem _ ?_))) (fun _ _ _ h => h) ?_ ?_; (first | exact trivial | omega | decide); clear hF a; intro a hF))
            (first | (refine t_pure (i := 10) hF rfl rfl rfl rfl (by kernel_rfl) (hM.sm.sub (fun x hx => by repeat (first | exact hx | refine List.mem_cons_of_mem _ ?_)) (fun _ h => by repeat (first | exact h | refine List.mem_cons_of_mem _ ?_))) (fun _ _ _ h => h) ?_ ?_; (first | exact trivial | omega | decide); clear hF a; intro a hF))
            (first | (refine t_pure (i := 11) hF rfl rfl rfl rfl (by kernel_rfl) (hM.sm.sub (fun x hx => by repeat (first | exact hx | refine List.mem_cons_of_mem _ ?_)) (fun _ h => by repeat (first | exact h | refine List.mem_cons_of_mem _ ?_))) (fun _ _ _ h => h) ?_ ?_; (first | exact trivial | omega | decide); clear hF a; intro a hF))
            refine t_one (i := 13) hF rfl (by kernel_rfl) rfl ?_
            intro K hK
            (apply x_store hF hM rfl rfl rfl; (repeat (first | exact Upd.z | apply Upd.s)); exact rfl; exact rfl; exact rfl; clear hF hM a; intro w a hM hF)
            refine hK _ _ (fun _ => (hM.sm.sub (fun x hx => by repeat (first | exact hx | refine List.mem_cons_of_mem _ ?_)) (fun _ h => by repeat (first | exact h | refine List.mem_cons_of_mem _ ?_)))) ?_; clear hK
            (first | (refine t_pure (i := 14) hF rfl rfl rfl rfl (by kernel_rfl) (hM.sm.sub (fun x hx => by repeat (first | exact hx | refine List.mem_cons_of_mem _ ?_)) (fun _ h => by repeat (first | exact h | refine List.mem_cons_of_mem _ ?_))) (fun _ _ _ h => h) ?_ ?_; (first | exact trivial | omega | decide); clear hF a; intro a hF))
            (first | (refine t_pure (i := 15) hF rfl rfl rfl rfl (by kernel_rfl) (hM.sm.sub (fun x hx => by repeat (first | exact hx | refine List.mem_cons_of_mem _ ?_)) (fun _ h => by repeat (first | exact h | refine List.mem_cons_of_mem _ ?_))) (fun _ _ _ h => h) ?_ ?_; (first | exact trivial | omega | decide); clear hF a; intro a hF))
            refine t_done (by kernel_rfl) ?_
            (repeat (first | fail))
            refine q_cut ⟨at2, ct2, us, u1, u2, hF.sub (by repeat (first | exact Sub.nil | refine Sub.cons rfl (by first | with_reducible rfl | (refine congrArg (Value.int _) ?_; omega) | exact rfl) ?_)), hM.sub (.cons _ (.cons _ (.refl _))) (.refl _) (fun f hf => ?_)⟩
            simp only [List.mem_cons, List.not_mem_nil, or_false] at hf ⊢
            rcases hf with h | h | h | h <;> simp [h, cellsT]
        ·
          intro K hK
          (refine x_alloc hF hM rfl rfl ?_; clear hF hM a; intro b w a hM hF)
          refine hK _ _ (fun _ => (hM.sm.sub (fun x hx => by repeat (first | exact hx | refine List.mem_cons_of_mem _ ?_)) (fun _ h => by repeat (first | exact h | refine List.mem_cons_of_mem _ ?_)))) ?_; clear hK
          refine t_one (i := 6) hF rfl (by kernel_rfl) rfl ?_
          intro K hK
          (refine x_lit hF hM rfl rfl rfl ?_; clear hF hM a; intro bl w a hM hF; replace hM := Mm.freeze hM)
          obtain ⟨bl6, rfl⟩ : ∃ x, x = bl := ⟨_, rfl⟩; replace hM := hM.addFact (Has.lit (enc := Value.int .u8) (hM.facts _ List.mem_cons_self) ([sx, sx] : Dat).flatten rfl)
          refine hK _ _ (fun _ => (hM.sm.sub (fun x hx => by repeat (first | exact hx | refine List.mem_cons_of_mem _ ?_)) (fun _ h => by repeat (first | exact h | refine List.mem_cons_of_mem _ ?_)))) ?_; clear hK
          refine t_one (i := 7) hF rfl (by kernel_rfl) rfl ?_
          intro K hK
          (apply x_call hF hM; exact rfl; exact rfl; exact rfl; exact rfl; exact (e3 bl6 qs a3 c3 _ _ hM.lt q1 q2 (hM.facts (RdF id a3 (cellsP qs)) (by (repeat (first | with_reducible exact List.mem_cons_self | refine List.mem_cons_of_mem _ ?_)))) (hM.facts (DatF qs) (by (repeat (first | with_reducible exact List.mem_cons_self | refine List.mem_cons_of_mem _ ?_)))) (hM.facts (RdF (Value.int .u8) (some ⟨bl6, 0, none⟩) ([sx, sx] : Dat).flatten) (by (repeat (first | with_reducible exact List.mem_cons_self | refine List.mem_cons_of_mem _ ?_))))); clear hF hM a; rintro v w a ⟨a4, c4, at2, ct2, rfl, -, us, u1, u2, u3, u4, u5⟩ - hM hF)
          replace hM := (hM.addFact u4).addFact u3
          refine hK _ _ (fun _ => (hM.sm.sub (fun x hx => by repeat (first | exact hx | refine List.mem_cons_of_mem _ ?_)) (fun _ h => by repeat (first | exact h | refine List.mem_cons_of_mem _ ?_)))) ?_; clear hK
          (first | (refine t_pure (i := 8) hF rfl rfl rfl rfl (by kernel_rfl) (hM.sm.sub (fun x hx => by repeat (first | exact hx | refine List.mem_cons_of_mem _ ?_)) (fun _ h => by repeat (first | exact h | refine List.mem_cons_of_mem _ ?_))) (fun _ _ _ h => h) ?_ ?_; (first | exact trivial | omega | decide); clear hF a; intro a hF))
          (first | (refine t_pure (i := 9) hF rfl rfl rfl rfl (by kernel_rfl) (hM.sm.sub (fun x hx => by repeat (first | exact hx | refine List.mem_cons_of_mem _ ?_)) (fun _ h => by repeat (first | exact h | refine List.mem_cons_of_mem _ ?_))) (fun _ _ _ h => h) ?_ ?_; (first | exact trivial | omega | decide); clear hF a; intro a hF))
          (first | (refine t_pure (i := 10) hF rfl rfl rfl rfl (by kernel_rfl) (hM.sm.sub (fun x hx => by repeat (first | exact hx | refine List.mem_cons_of_mem _ ?_)) (fun _ h => by repeat (first | exact h | refine List.mem_cons_of_mem _ ?_))) (fun _ _ _ h => h) ?_ ?_; (first | exact trivial | omega | decide); clear hF a; intro a hF))
          (first | (refine t_pure (i := 11) hF rfl rfl rfl rfl (by kernel_rfl) (hM.sm.sub (fun x hx => by repeat (first | exact hx | refine List.mem_cons_of_mem _ ?_)) (fun _ h => by repeat (first | exact h | refine List.mem_cons_of_mem _ ?_))) (fun _ _ _ h => h) ?_ ?_; (first | exact trivial | omega | decide); clear hF a; intro a hF))
          refine t_one (i := 13) hF rfl (by kernel_rfl) rfl ?_
          intro K hK
          (apply x_store hF hM rfl rfl rfl; (repeat (first | exact Upd.z | apply Upd.s)); exact rfl; exact rfl; exact rfl; clear hF hM a; intro w a hM hF)
          refine hK _ _ (fun _ => (hM.sm.sub (fun x hx => by repeat (first | exact hx | refine List.mem_cons_of_mem _ ?_)) (fun _ h => by repeat (first | exact h | refine List.mem_cons_of_mem _ ?_)))) ?_; clear hK
          (first | (refine t_pure (i := 14) hF rfl rfl rfl rfl (by kernel_rfl) (hM.sm.sub (fun x hx => by repeat (first | exact hx | refine List.mem_cons_of_mem _ ?_)) (fun _ h => by repeat (first | exact h | refine List.mem_cons_of_mem _ ?_))) (fun _ _ _ h => h) ?_ ?_; (first | exact trivial | omega | decide); clear hF a; intro a hF))
          (first | (refine t_pure (i := 15) hF rfl rfl rfl rfl (by kernel_rfl) (hM.sm.sub (fun x hx => by repeat (first | exact hx | refine List.mem_cons_of_mem _ ?_)) (fun _ h => by repeat (first | exact h | refine List.mem_cons_of_mem _ ?_))) (fun _ _ _ h => h) ?_ ?_; (first | exact trivial | omega | decide); clear hF a; intro a hF))
          refine t_done (by kernel_rfl) ?_
          (repeat (first | fail))
          refine q_cut ⟨at2, ct2, us, u1, u2, hF.sub (by repeat (first | exact Sub.nil | refine Sub.cons rfl (by first | with_reducible rfl | (refine congrArg (Value.int _) ?_; omega) | exact rfl) ?_)), hM.sub (.cons _ (.cons _ (.refl _))) (.refl _) (fun f hf => ?_)⟩
          simp only [List.mem_cons, List.not_mem_nil, or_false] at hf ⊢
          rcases hf with h | h | h | h <;> simp [h, cellsT]
      ·
        intro K hK
        (refine x_lit hF hM rfl rfl rfl ?_; clear hF hM a; intro bl w a hM hF; replace hM := Mm.freeze hM)
        obtain ⟨bl6, rfl⟩ : ∃ x, x = bl := ⟨_, rfl⟩; replace hM := hM.addFact (Has.lit (enc := Value.int .u8) (hM.facts _ List.mem_cons_self) ([sx, sx] : Dat).flatten rfl)
        refine hK _ _ (fun _ => (hM.sm.sub (fun x hx => by repeat (first | exact hx | refine List.mem_cons_of_mem _ ?_)) (fun _ h => by repeat (first | exact h | refine List.mem_cons_of_mem _ ?_)))) ?_; clear hK
        refine t_two (i := 3) (j := 12) hF rfl rfl (by kernel_rfl) rfl rfl ?_ ?_
        ·
          intro K hK
          (apply x_call hF hM; exact rfl; exact rfl; exact rfl; exact rfl; exact (e2 bl2 _ _ hM.lt (hM.facts (RdF (Value.int .u8) (some ⟨bl2, 0, none⟩) ([sx] : Dat).flatten) (by (repeat (first | with_reducible exact List.mem_cons_self | refine List.mem_cons_of_mem _ ?_))))); clear hF hM a; rintro v w a ⟨a3, c3, rfl, qs, q1, q2, q3, q4, q5⟩ - hM hF)
          replace hM := (hM.addFact q4).addFact q3
          refine hK _ _ (fun _ => (hM.sm.sub (fun x hx => by repeat (first | exact hx | refine List.mem_cons_of_mem _ ?_)) (fun _ h => by repeat (first | exact h | refine List.mem_cons_of_mem _ ?_)))) ?_; clear hK
          refine t_two (i := 7) (j := 12) hF rfl rfl (by kernel_rfl) rfl rfl ?_ ?_
          ·
            intro K hK
            (apply x_call hF hM; exact rfl; exact rfl; exact rfl; exact rfl; exact (e3 bl6 qs a3 c3 _ _ hM.lt q1 q2 (hM.facts (RdF id a3 (cellsP qs)) (by (repeat (first | with_reducible exact List.mem_cons_self | refine List.mem_cons_of_mem _ ?_)))) (hM.facts (DatF qs) (by (repeat (first | with_reducible exact List.mem_cons_self | refine List.mem_cons_of_mem _ ?_)))) (hM.facts (RdF (Value.int .u8) (some ⟨bl6, 0, none⟩) ([sx, sx] : Dat).flatten) (by (repeat (first | with_reducible exact List.mem_cons_self | refine List.mem_cons_of_mem _ ?_))))); clear hF hM a; rintro v w a ⟨a4, c4, at2, ct2, rfl, -, us, u1, u2, u3, u4, u5⟩ - hM hF)
            replace hM := (hM.addFact u4).addFact u3
            refine hK _ _ (fun _ => (hM.sm.sub (fun x hx => by repeat (first | exact hx | refine List.mem_cons_of_mem _ ?_)) (fun _ h => by repeat (first | exact h | refine List.mem_cons_of_mem _ ?_)))) ?_; clear hK
            (first | (refine t_pure (i := 8) hF rfl rfl rfl rfl (by kernel_rfl) (hM.sm.sub (fun x hx => by repeat (first | exact hx | refine List.mem_cons_of_mem _ ?_)) (fun _ h => by repeat (first | exact h | refine List.mem_cons_of_mem _ ?_))) (fun _ _ _ h => h) ?_ ?_; (first | exact trivial | omega | decide); clear hF a; intro a hF))
            (first | (refine t_pure (i := 9) hF rfl rfl rfl rfl (by kernel_rfl) (hM.sm.sub (fun x hx => by repeat (first | exact hx | refine List.mem_cons_of_mem _ ?_)) (fun _ h => by repeat (first | exact h | refine List.mem_cons_of_mem _ ?_))) (fun _ _ _ h => h) ?_ ?_; (first | exact trivial | omega | decide); clear hF a; intro a hF))
            (first | (refine t_pure (i := 10) hF rfl rfl rfl rfl (by kernel_rfl) (hM.sm.sub (fun x hx => by repeat (first | exact hx | refine List.mem_cons_of_mem _ ?_)) (fun _ h => by repeat (first | exact h | refine List.mem_cons_of_mem _ ?_))) (fun _ _ _ h => h) ?_ ?_; (first | exact trivial | omega | decide); clear hF a; intro a hF))
            (first | (refine t_pure (i := 11) hF rfl rfl rfl rfl (by kernel_rfl) (hM.sm.sub (fun x hx => by repeat (first | exact hx | refine List.mem_cons_of_mem _ ?_)) (fun _ h => by repeat (first | exact h | refine List.mem_cons_of_mem _ ?_))) (fun _ _ _ h => h) ?_ ?_; (first | exact trivial | omega | decide); clear hF a; intro a hF))
            refine t_one (i := 12) hF rfl (by kernel_rfl) rfl ?_
            intro K hK
            (refine x_alloc hF hM rfl rfl ?_; clear hF hM a; intro b w a hM hF)
            refine hK _ _ (fun _ => (hM.sm.sub (fun x hx => by repeat (first | exact hx | refine List.mem_cons_of_mem _ ?_)) (fun _ h => by repeat (first | exact h | refine List.mem_cons_of_mem _ ?_)))) ?_; clear hK
            refine t_one (i := 13) hF rfl (by kernel_rfl) rfl ?_
            intro K hK
            (apply x_store hF hM rfl rfl rfl; (repeat (first | exact Upd.z | apply Upd.s)); exact rfl; exact rfl; exact rfl; clear hF hM a; intro w a hM hF)
            refine hK _ _ (fun _ => (hM.sm.sub (fun x hx => by repeat (first | exact hx | refine List.mem_cons_of_mem _ ?_)) (fun _ h => by repeat (first | exact h | refine List.mem_cons_of_mem _ ?_)))) ?_; clear hK
            (first | (refine t_pure (i := 14) hF rfl rfl rfl rfl (by kernel_rfl) (hM.sm.sub (fun x hx => by repeat (first | exact hx | refine List.mem_cons_of_mem _ ?_)) (fun _ h => by repeat (first | exact h | refine List.mem_cons_of_mem _ ?_))) (fun _ _ _ h => h) ?_ ?_; (first | exact trivial | omega | decide); clear hF a; intro a hF))
            (first | (refine t_pure (i := 15) hF rfl rfl rfl rfl (by kernel_rfl) (hM.sm.sub (fun x hx => by repeat (first | exact hx | refine List.mem_cons_of_mem _ ?_)) (fun _ h => by repeat (first | exact h | refine List.mem_cons_of_mem _ ?_))) (fun _ _ _ h => h) ?_ ?_; (first | exact trivial | omega | decide); clear hF a; intro a hF))
            refine t_done (by kernel_rfl) ?_
            (repeat (first | fail))
            refine q_cut ⟨at2, ct2, us, u1, u2, hF.sub (by repeat (first | exact Sub.nil | refine Sub.cons rfl (by first | with_reducible rfl | (refine congrArg (Value.int _) ?_; omega) | exact rfl) ?_)), hM.sub (.cons _ (.cons _ (.refl _))) (.refl _) (fun f hf => ?_)⟩
            simp only [List.mem_cons, List.not_mem_nil, or_false] at hf ⊢
            rcases hf with h | h | h | h <;> simp [h, cellsT]
          ·
            intro K hK
            (refine x_alloc hF hM rfl rfl ?_; clear hF hM a; intro b w a hM hF)
            refine hK _ _ (fun _ => (hM.sm.sub (fun x hx => by repeat (first | exact hx | refine List.mem_cons_of_mem _ ?_)) (fun _ h => by repeat (first | exact h | refine List.mem_cons_of_mem _ ?_)))) ?_; clear hK
            refine t_one (i := 7) hF rfl (by kernel_rfl) rfl ?_
            intro K hK
            (apply x_call hF hM; exact rfl; exact rfl; exact rfl; exact rfl; exact (e3 bl6 qs a3 c3 _ _ hM.lt q1 q2 (hM.facts (RdF id a3 (cellsP qs)) (by (repeat (first | with_reducible exact List.mem_cons_self | refine List.mem_cons_of_mem _ ?_)))) (hM.facts (DatF qs) (by (repeat (first | with_reducible exact List.mem_cons_self | refine List.mem_cons_of_mem _ ?_)))) (hM.facts (RdF (Value.int .u8) (some ⟨bl6, 0, none⟩) ([sx, sx] : Dat).flatten) (by (repeat (first | with_reducible exact List.mem_cons_self | refine List.mem_cons_of_mem _ ?_))))); clear hF hM a; rintro v w a ⟨a4, c4, at2, ct2, rfl, -, us, u1, u2, u3, u4, u5⟩ - hM hF)
            replace hM := (hM.addFact u4).addFact u3
            refine hK _ _ (fun _ => (hM.sm.sub (fun x hx => by repeat (first | exact hx | refine List.mem_cons_of_mem _ ?_)) (fun _ h => by repeat (first | exact h | refine List.mem_cons_of_mem _ ?_)))) ?_; clear hK
            (first | (refine t_pure (i := 8) hF rfl rfl rfl rfl (by kernel_rfl) (hM.sm.sub (fun x hx => by repeat (first | exact hx | refine List.mem_cons_of_mem _ ?_)) (fun _ h => by repeat (first | exact h | refine List.mem_cons_of_mem _ ?_))) (fun _ _ _ h => h) ?_ ?_; (first | exact trivial | omega | decide); clear hF a; intro a hF))
            (first | (refine t_pure (i := 9) hF rfl rfl rfl rfl (by kernel_rfl) (hM.sm.sub (fun x hx => by repeat (first | exact hx | refine List.mem_cons_of_mem _ ?_)) (fun _ h => by repeat (first | exact h | refine List.mem_cons_of_mem _ ?_))) (fun _ _ _ h => h) ?_ ?_; (first | exact trivial | omega | decide); clear hF a; intro a hF))
            (first | (refine t_pure (i := 10) hF rfl rfl rfl rfl (by kernel_rfl) (hM.sm.sub (fun x hx => by repeat (first | exact hx | refine List.mem_cons_of_mem _ ?_)) (fun _ h => by repeat (first | exact h | refine List.mem_cons_of_mem _ ?_))) (fun _ _ _ h => h) ?_ ?_; (first | exact trivial | omega | decide); clear hF a; intro a hF))
            (first | (refine t_pure (i := 11) hF rfl rfl rfl rfl (by kernel_rfl) (hM.sm.sub (fun x hx => by repeat (first | exact hx | refine List.mem_cons_of_mem _ ?_)) (fun _ h => by repeat (first | exact h | refine List.mem_cons_of_mem _ ?_))) (fun _ _ _ h => h) ?_ ?_; (first | exact trivial | omega | decide); clear hF a; intro a hF))
            refine t_one (i := 13) hF rfl (by kernel_rfl) rfl ?_
            intro K hK
            (apply x_store hF hM rfl rfl rfl; (repeat (first | exact Upd.z | apply Upd.s)); exact rfl; exact rfl; exact rfl; clear hF hM a; intro w a hM hF)
            refine hK _ _ (fun _ => (hM.sm.sub (fun x hx => by repeat (first | exact hx | refine List.mem_cons_of_mem _ ?_)) (fun _ h => by repeat (first | exact h | refine List.mem_cons_of_mem _ ?_)))) ?_; clear hK
            (first | (refine t_pure (i := 14) hF rfl rfl rfl rfl (by kernel_rfl) (hM.sm.sub (fun x hx => by repeat (first | exact hx | refine List.mem_cons_of_mem _ ?_)) (fun _ h => by repeat (first | exact h | refine List.mem_cons_of_mem _ ?_))) (fun _ _ _ h => h) ?_ ?_; (first | exact trivial | omega | decide); clear hF a; intro a hF))
            (first | (refine t_pure (i := 15) hF rfl rfl rfl rfl (by kernel_rfl) (hM.sm.sub (fun x hx => by repeat (first | exact hx | refine List.mem_cons_of_mem _ ?_)) (fun _ h => by repeat (first | exact h | refine List.mem_cons_of_mem _ ?_))) (fun _ _ _ h => h) ?_ ?_; (first | exact trivial | omega | decide); clear hF a; intro a hF))
            refine t_done (by kernel_rfl) ?_
            (repeat (first | fail))
            refine q_cut ⟨at2, ct2, us, u1, u2, hF.sub (by repeat (first | exact Sub.nil | refine Sub.cons rfl (by first | with_reducible rfl | (refine congrArg (Value.int _) ?_; omega) | exact rfl) ?_)), hM.sub (.cons _ (.cons _ (.refl _))) (.refl _) (fun f hf => ?_)⟩
            simp only [List.mem_cons, List.not_mem_nil, or_false] at hf ⊢
            rcases hf with h | h | h | h <;> simp [h, cellsT]
        ·
          intro K hK
          (refine x_alloc hF hM rfl rfl ?_; clear hF hM a; intro b w a hM hF)
          refine hK _ _ (fun _ => (hM.sm.sub (fun x hx => by repeat (first | exact hx | refine List.mem_cons_of_mem _ ?_)) (fun _ h => by repeat (first | exact h | refine List.mem_cons_of_mem _ ?_)))) ?_; clear hK
          refine t_one (i := 3) hF rfl (by kernel_rfl) rfl ?_
          intro K hK
          (apply x_call hF hM; exact rfl; exact rfl; exact rfl; exact rfl; exact (e2 bl2 _ _ hM.lt (hM.facts (RdF (Value.int .u8) (some ⟨bl2, 0, none⟩) ([sx] : Dat).flatten) (by (repeat (first | with_reducible exact List.mem_cons_self | refine List.mem_cons_of_mem _ ?_))))); clear hF hM a; rintro v w a ⟨a3, c3, rfl, qs, q1, q2, q3, q4, q5⟩ - hM hF)
          replace hM := (hM.addFact q4).addFact q3
          refine hK _ _ (fun _ => (hM.sm.sub (fun x hx => by repeat (first | exact hx | refine List.mem_cons_of_mem _ ?_)) (fun _ h => by repeat (first | exact h | refine List.mem_cons_of_mem _ ?_)))) ?_; clear hK
          refine t_one (i := 7) hF rfl (by kernel_rfl) rfl ?_
          intro K hK
          (apply x_call hF hM; exact rfl; exact rfl; exact rfl; exact rfl; exact (e3 bl6 qs a3 c3 _ _ hM.lt q1 q2 (hM.facts (RdF id a3 (cellsP qs)) (by (repeat (first | with_reducible exact List.mem_cons_self | refine List.mem_cons_of_mem _ ?_)))) (hM.facts (DatF qs) (by (repeat (first | with_reducible exact List.mem_cons_self | refine List.mem_cons_of_mem _ ?_)))) (hM.facts (RdF (Value.int .u8) (some ⟨bl6, 0, none⟩) ([sx, sx] : Dat).flatten) (by (repeat (first | with_reducible exact List.mem_cons_self | refine List.mem_cons_of_mem _ ?_))))); clear hF hM a; rintro v w a ⟨a4, c4, at2, ct2, rfl, -, us, u1, u2, u3, u4, u5⟩ - hM hF)
          replace hM := (hM.addFact u4).addFact u3
          refine hK _ _ (fun _ => (hM.sm.sub (fun x hx => by repeat (first | exact hx | refine List.mem_cons_of_mem _ ?_)) (fun _ h => by repeat (first | exact h | refine List.mem_cons_of_mem _ ?_)))) ?_; clear hK
          (first | (refine t_pure (i := 8) hF rfl rfl rfl rfl (by kernel_rfl) (hM.sm.sub (fun x hx => by repeat (first | exact hx | refine List.mem_cons_of_mem _ ?_)) (fun _ h => by repeat (first | exact h | refine List.mem_cons_of_mem _ ?_))) (fun _ _ _ h => h) ?_ ?_; (first | exact trivial | omega | decide); clear hF a; intro a hF))
          (first | (refine t_pure (i := 9) hF rfl rfl rfl rfl (by kernel_rfl) (hM.sm.sub (fun x hx => by repeat (first | exact hx | refine List.mem_cons_of_mem _ ?_)) (fun _ h => by repeat (first | exact h | refine List.mem_cons_of_mem _ ?_))) (fun _ _ _ h => h) ?_ ?_; (first | exact trivial | omega | decide); clear hF a; intro a hF))
          (first | (refine t_pure (i := 10) hF rfl rfl rfl rfl (by kernel_rfl) (hM.sm.sub (fun x hx => by repeat (first | exact hx | refine List.mem_cons_of_mem _ ?_)) (fun _ h => by repeat (first | exact h | refine List.mem_cons_of_mem _ ?_))) (fun _ _ _ h => h) ?_ ?_; (first | exact trivial | omega | decide); clear hF a; intro a hF))
          (first | (refine t_pure (i := 11) hF rfl rfl rfl rfl (by kernel_rfl) (hM.sm.sub (fun x hx => by repeat (first | exact hx | refine List.mem_cons_of_mem _ ?_)) (fun _ h => by repeat (first | exact h | refine List.mem_cons_of_mem _ ?_))) (fun _ _ _ h => h) ?_ ?_; (first | exact trivial | omega | decide); clear hF a; intro a hF))
          refine t_one (i := 13) hF rfl (by kernel_rfl) rfl ?_
          intro K hK
          (apply x_store hF hM rfl rfl rfl; (repeat (first | exact Upd.z | apply Upd.s)); exact rfl; exact rfl; exact rfl; clear hF hM a; intro w a hM hF)
          refine hK _ _ (fun _ => (hM.sm.sub (fun x hx => by repeat (first | exact hx | refine List.mem_cons_of_mem _ ?_)) (fun _ h => by repeat (first | exact h | refine List.mem_cons_of_mem _ ?_)))) ?_; clear hK
          (first | (refine t_pure (i := 14) hF rfl rfl rfl rfl (by kernel_rfl) (hM.sm.sub (fun x hx => by repeat (first | exact hx | refine List.mem_cons_of_mem _ ?_)) (fun _ h => by repeat (first | exact h | refine List.mem_cons_of_mem _ ?_))) (fun _ _ _ h => h) ?_ ?_; (first | exact trivial | omega | decide); clear hF a; intro a hF))
          (first | (refine t_pure (i := 15) hF rfl rfl rfl rfl (by kernel_rfl) (hM.sm.sub (fun x hx => by repeat (first | exact hx | refine List.mem_cons_of_mem _ ?_)) (fun _ h => by repeat (first | exact h | refine List.mem_cons_of_mem _ ?_))) (fun _ _ _ h => h) ?_ ?_; (first | exact trivial | omega | decide); clear hF a; intro a hF))
          refine t_done (by kernel_rfl) ?_
          (repeat (first | fail))
          refine q_cut ⟨at2, ct2, us, u1, u2, hF.sub (by repeat (first | exact Sub.nil | refine Sub.cons rfl (by first | with_reducible rfl | (refine congrArg (Value.int _) ?_; omega) | exact rfl) ?_)), hM.sub (.cons _ (.cons _ (.refl _))) (.refl _) (fun f hf => ?_)⟩
          simp only [List.mem_cons, List.not_mem_nil, or_false] at hf ⊢
          rcases hf with h | h | h | h <;> simp [h, cellsT]
      ·
        intro K hK
        (refine x_alloc hF hM rfl rfl ?_; clear hF hM a; intro b w a hM hF)
        refine hK _ _ (fun _ => (hM.sm.sub (fun x hx => by repeat (first | exact hx | refine List.mem_cons_of_mem _ ?_)) (fun _ h => by repeat (first | exact h | refine List.mem_cons_of_mem _ ?_)))) ?_; clear hK
        refine t_two (i := 3) (j := 6) hF rfl rfl (by kernel_rfl) rfl rfl ?_ ?_
        ·
          intro K hK
          (apply x_call hF hM; exact rfl; exact rfl; exact rfl; exact rfl; exact (e2 bl2 _ _ hM.lt (hM.facts (RdF (Value.int .u8) (some ⟨bl2, 0, none⟩) ([sx] : Dat).flatten) (by (repeat (first | with_reducible exact List.mem_cons_self | refine List.mem_cons_of_mem _ ?_))))); clear hF hM a; rintro v w a ⟨a3, c3, rfl, qs, q1, q2, q3, q4, q5⟩ - hM hF)
          replace hM := (hM.addFact q4).addFact q3
          refine hK _ _ (fun _ => (hM.sm.sub (fun x hx => by repeat (first | exact hx | refine List.mem_cons_of_mem _ ?_)) (fun _ h => by repeat (first | exact h | refine List.mem_cons_of_mem _ ?_)))) ?_; clear hK
          refine t_one (i := 6) hF rfl (by kernel_rfl) rfl ?_
          intro K hK
          (refine x_lit hF hM rfl rfl rfl ?_; clear hF hM a; intro bl w a hM hF; replace hM := Mm.freeze hM)
          obtain ⟨bl6, rfl⟩ : ∃ x, x = bl := ⟨_, rfl⟩; replace hM := hM.addFact (Has.lit (enc := Value.int .u8) (hM.facts _ List.mem_cons_self) ([sx, sx] : Dat).flatten rfl)
          refine hK _ _ (fun _ => (hM.sm.sub (fun x hx => by repeat (first | exact hx | refine List.mem_cons_of_mem _ ?_)) (fun _ h => by repeat (first | exact h | refine List.mem_cons_of_mem _ ?_)))) ?_; clear hK
          refine t_one (i := 7) hF rfl (by kernel_rfl) rfl ?_
          intro K hK
          (apply x_call hF hM; exact rfl; exact rfl; exact rfl; exact rfl; exact (e3 bl6 qs a3 c3 _ _ hM.lt q1 q2 (hM.facts (RdF id a3 (cellsP qs)) (by (repeat (first | with_reducible exact List.mem_cons_self | refine List.mem_cons_of_mem _ ?_)))) (hM.facts (DatF qs) (by (repeat (first | with_reducible exact List.mem_cons_self | refine List.mem_cons_of_mem _ ?_)))) (hM.facts (RdF (Value.int .u8) (some ⟨bl6, 0, none⟩) ([sx, sx] : Dat).flatten) (by (repeat (first | with_reducible exact List.mem_cons_self | refine List.mem_cons_of_mem _ ?_))))); clear hF hM a; rintro v w a ⟨a4, c4, at2, ct2, rfl, -, us, u1, u2, u3, u4, u5⟩ - hM hF)
          replace hM := (hM.addFact u4).addFact u3
          refine hK _ _ (fun _ => (hM.sm.sub (fun x hx => by repeat (first | exact hx | refine List.mem_cons_of_mem _ ?_)) (fun _ h => by repeat (first | exact h | refine List.mem_cons_of_mem _ ?_)))) ?_; clear hK
          (first | (refine t_pure (i := 8) hF rfl rfl rfl rfl (by kernel_rfl) (hM.sm.sub (fun x hx => by repeat (first | exact hx | refine List.mem_cons_of_mem _ ?_)) (fun _ h => by repeat (first | exact h | refine List.mem_cons_of_mem _ ?_))) (fun _ _ _ h => h) ?_ ?_; (first | exact trivial | omega | decide); clear hF a; intro a hF))
          (first | (refine t_pure (i := 9) hF rfl rfl rfl rfl (by kernel_rfl) (hM.sm.sub (fun x hx => by repeat (first | exact hx | refine List.mem_cons_of_mem _ ?_)) (fun _ h => by repeat (first | exact h | refine List.mem_cons_of_mem _ ?_))) (fun _ _ _ h => h) ?_ ?_; (first | exact trivial | omega | decide); clear hF a; intro a hF))
          (first | (refine t_pure (i := 10) hF rfl rfl rfl rfl (by kernel_rfl) (hM.sm.sub (fun x hx => by repeat (first | exact hx | refine List.mem_cons_of_mem _ ?_)) (fun _ h => by repeat (first | exact h | refine List.mem_cons_of_mem _ ?_))) (fun _ _ _ h => h) ?_ ?_; (first | exact trivial | omega | decide); clear hF a; intro a hF))
          (first | (refine t_pure (i := 11) hF rfl rfl rfl rfl (by kernel_rfl) (hM.sm.sub (fun x hx => by repeat (first | exact hx | refine List.mem_cons_of_mem _ ?_)) (fun _ h => by repeat (first | exact h | refine List.mem_cons_of_mem _ ?_))) (fun _ _ _ h => h) ?_ ?_; (first | exact trivial | omega | decide); clear hF a; intro a hF))
          refine t_one (i := 13) hF rfl (by kernel_rfl) rfl ?_
          intro K hK
          (apply x_store hF hM rfl rfl rfl; (repeat (first | exact Upd.z | apply Upd.s)); exact rfl; exact rfl; exact rfl; clear hF hM a; intro w a hM hF)
          refine hK _ _ (fun _ => (hM.sm.sub (fun x hx => by repeat (first | exact hx | refine List.mem_cons_of_mem _ ?_)) (fun _ h => by repeat (first | exact h | refine List.mem_cons_of_mem _ ?_)))) ?_; clear hK
          (first | (refine t_pure (i := 14) hF rfl rfl rfl rfl (by kernel_rfl) (hM.sm.sub (fun x hx => by repeat (first | exact hx | refine List.mem_cons_of_mem _ ?_)) (fun _ h => by repeat (first | exact h | refine List.mem_cons_of_mem _ ?_))) (fun _ _ _ h => h) ?_ ?_; (first | exact trivial | omega | decide); clear hF a; intro a hF))
          (first | (refine t_pure (i := 15) hF rfl rfl rfl rfl (by kernel_rfl) (hM.sm.sub (fun x hx => by repeat (first | exact hx | refine List.mem_cons_of_mem _ ?_)) (fun _ h => by repeat (first | exact h | refine List.mem_cons_of_mem _ ?_))) (fun _ _ _ h => h) ?_ ?_; (first | exact trivial | omega | decide); clear hF a; intro a hF))
          refine t_done (by kernel_rfl) ?_
          (repeat (first | fail))
          refine q_cut ⟨at2, ct2, us, u1, u2, hF.sub (by repeat (first | exact Sub.nil | refine Sub.cons rfl (by first | with_reducible rfl | (refine congrArg (Value.int _) ?_; omega) | exact rfl) ?_)), hM.sub (.cons _ (.cons _ (.refl _))) (.refl _) (fun f hf => ?_)⟩
          simp only [List.mem_cons, List.not_mem_nil, or_false] at hf ⊢
          rcases hf with h | h | h | h <;> simp [h, cellsT]
        ·
          intro K hK
          (refine x_lit hF hM rfl rfl rfl ?_; clear hF hM a; intro bl w a hM hF; replace hM := Mm.freeze hM)
          obtain ⟨bl6, rfl⟩ : ∃ x, x = bl := ⟨_, rfl⟩; replace hM := hM.addFact (Has.lit (enc := Value.int .u8) (hM.facts _ List.mem_cons_self) ([sx, sx] : Dat).flatten rfl)
          refine hK _ _ (fun _ => (hM.sm.sub (fun x hx => by repeat (first | exact hx | refine List.mem_cons_of_mem _ ?_)) (fun _ h => by repeat (first | exact h | refine List.mem_cons_of_mem _ ?_)))) ?_; clear hK
          refine t_one (i := 3) hF rfl (by kernel_rfl) rfl ?_
          intro K hK
          (apply x_call hF hM; exact rfl; exact rfl; exact rfl; exact rfl; exact (e2 bl2 _ _ hM.lt (hM.facts (RdF (Value.int .u8) (some ⟨bl2, 0, none⟩) ([sx] : Dat).flatten) (by (repeat (first | with_reducible exact List.mem_cons_self | refine List.mem_cons_of_mem _ ?_))))); clear hF hM a; rintro v w a ⟨a3, c3, rfl, qs, q1, q2, q3, q4, q5⟩ - hM hF)
          replace hM := (hM.addFact q4).addFact q3
          refine hK _ _ (fun _ => (hM.sm.sub (fun x hx => by repeat (first | exact hx | refine List.mem_cons_of_mem _ ?_)) (fun _ h => by repeat (first | exact h | refine List.mem_cons_of_mem _ ?_)))) ?_; clear hK
          refine t_one (i := 7) hF rfl (by kernel_rfl) rfl ?_
          intro K hK
          (apply x_call hF hM; exact rfl; exact rfl; exact rfl; exact rfl; exact (e3 bl6 qs a3 c3 _ _ hM.lt q1 q2 (hM.facts (RdF id a3 (cellsP qs)) (by (repeat (first | with_reducible exact List.mem_cons_self | refine List.mem_cons_of_mem _ ?_)))) (hM.facts (DatF qs) (by (repeat (first | with_reducible exact List.mem_cons_self | refine List.mem_cons_of_mem _ ?_)))) (hM.facts (RdF (Value.int .u8) (some ⟨bl6, 0, none⟩) ([sx, sx] : Dat).flatten) (by (repeat (first | with_reducible exact List.mem_cons_self | refine List.mem_cons_of_mem _ ?_))))); clear hF hM a; rintro v w a ⟨a4, c4, at2, ct2, rfl, -, us, u1, u2, u3, u4, u5⟩ - hM hF)
          replace hM := (hM.addFact u4).addFact u3
          refine hK _ _ (fun _ => (hM.sm.sub (fun x hx => by repeat (first | exact hx | refine List.mem_cons_of_mem _ ?_)) (fun _ h => by repeat (first | exact h | refine List.mem_cons_of_mem _ ?_)))) ?_; clear hK
          (first | (refine t_pure (i := 8) hF rfl rfl rfl rfl (by kernel_rfl) (hM.sm.sub (fun x hx => by repeat (first | exact hx | refine List.mem_cons_of_mem _ ?_)) (fun _ h => by repeat (first | exact h | refine List.mem_cons_of_mem _ ?_))) (fun _ _ _ h => h) ?_ ?_; (first | exact trivial | omega | decide); clear hF a; intro a hF))
          (first | (refine t_pure (i := 9) hF rfl rfl rfl rfl (by kernel_rfl) (hM.sm.sub (fun x hx => by repeat (first | exact hx | refine List.mem_cons_of_mem _ ?_)) (fun _ h => by repeat (first | exact h | refine List.mem_cons_of_mem _ ?_))) (fun _ _ _ h => h) ?_ ?_; (first | exact trivial | omega | decide); clear hF a; intro a hF))
          (first | (refine t_pure (i := 10) hF rfl rfl rfl rfl (by kernel_rfl) (hM.sm.sub (fun x hx => by repeat (first | exact hx | refine List.mem_cons_of_mem _ ?_)) (fun _ h => by repeat (first | exact h | refine List.mem_cons_of_mem _ ?_))) (fun _ _ _ h => h) ?_ ?_; (first | exact trivial | omega | decide); clear hF a; intro a hF))
          (first | (refine t_pure (i := 11) hF rfl rfl rfl rfl (by kernel_rfl) (hM.sm.sub (fun x hx => by repeat (first | exact hx | refine List.mem_cons_of_mem _ ?_)) (fun _ h => by repeat (first | exact h | refine List.mem_cons_of_mem _ ?_))) (fun _ _ _ h => h) ?_ ?_; (first | exact trivial | omega | decide); clear hF a; intro a hF))
          refine t_one (i := 13) hF rfl (by kernel_rfl) rfl ?_
          intro K hK
          (apply x_store hF hM rfl rfl rfl; (repeat (first | exact Upd.z | apply Upd.s)); exact rfl; exact rfl; exact rfl; clear hF hM a; intro w a hM hF)
          refine hK _ _ (fun _ => (hM.sm.sub (fun x hx => by repeat (first | exact hx | refine List.mem_cons_of_mem _ ?_)) (fun _ h => by repeat (first | exact h | refine List.mem_cons_of_mem _ ?_)))) ?_; clear hK
          (first | (refine t_pure (i := 14) hF rfl rfl rfl rfl (by kernel_rfl) (hM.sm.sub (fun x hx => by repeat (first | exact hx | refine List.mem_cons_of_mem _ ?_)) (fun _ h => by repeat (first | exact h | refine List.mem_cons_of_mem _ ?_))) (fun _ _ _ h => h) ?_ ?_; (first | exact trivial | omega | decide); clear hF a; intro a hF))
          (first | (refine t_pure (i := 15) hF rfl rfl rfl rfl (by kernel_rfl) (hM.sm.sub (fun x hx => by repeat (first | exact hx | refine List.mem_cons_of_mem _ ?_)) (fun _ h => by repeat (first | exact h | refine List.mem_cons_of_mem _ ?_))) (fun _ _ _ h => h) ?_ ?_; (first | exact trivial | omega | decide); clear hF a; intro a hF))
          refine t_done (by kernel_rfl) ?_
          (repeat (first | fail))
          refine q_cut ⟨at2, ct2, us, u1, u2, hF.sub (by repeat (first | exact Sub.nil | refine Sub.cons rfl (by first | with_reducible rfl | (refine congrArg (Value.int _) ?_; omega) | exact rfl) ?_)), hM.sub (.cons _ (.cons _ (.refl _))) (.refl _) (fun f hf => ?_)⟩
          simp only [List.mem_cons, List.not_mem_nil, or_false] at hf ⊢
          rcases hf with h | h | h | h <;> simp [h, cellsT]
    ·
      intro K hK
      (refine x_lit hF hM rfl rfl rfl ?_; clear hF hM a; intro bl w a hM hF; replace hM := Mm.freeze hM)
      obtain ⟨bl6, rfl⟩ : ∃ x, x = bl := ⟨_, rfl⟩; replace hM := hM.addFact (Has.lit (enc := Value.int .u8) (hM.facts _ List.mem_cons_self) ([sx, sx] : Dat).flatten rfl)
      refine hK _ _ (fun _ => (hM.sm.sub (fun x hx => by repeat (first | exact hx | refine List.mem_cons_of_mem _ ?_)) (fun _ h => by repeat (first | exact h | refine List.mem_cons_of_mem _ ?_)))) ?_; clear hK
      refine t_two (i := 2) (j := 12) hF rfl rfl (by kernel_rfl) rfl rfl ?_ ?_
      ·
        intro K hK
        (refine x_lit hF hM rfl rfl rfl ?_; clear hF hM a; intro bl w a hM hF; replace hM := Mm.freeze hM)
        obtain ⟨bl2, rfl⟩ : ∃ x, x = bl := ⟨_, rfl⟩; replace hM := hM.addFact (Has.lit (enc := Value.int .u8) (hM.facts _ List.mem_cons_self) ([sx] : Dat).flatten rfl)
        refine hK _ _ (fun _ => (hM.sm.sub (fun x hx => by repeat (first | exact hx | refine List.mem_cons_of_mem _ ?_)) (fun _ h => by repeat (first | exact h | refine List.mem_cons_of_mem _ ?_)))) ?_; clear hK
        refine t_two (i := 3) (j := 12) hF rfl rfl (by kernel_rfl) rfl rfl ?_ ?_
        ·
          intro K hK
          (apply x_call hF hM; exact rfl; exact rfl; exact rfl; exact rfl; exact (e2 bl2 _ _ hM.lt (hM.facts (RdF (Value.int .u8) (some ⟨bl2, 0, none⟩) ([sx] : Dat).flatten) (by (repeat (first | with_reducible exact List.mem_cons_self | refine List.mem_cons_of_mem _ ?_))))); clear hF hM a; rintro v w a ⟨a3, c3, rfl, qs, q1, q2, q3, q4, q5⟩ - hM hF)
          replace hM := (hM.addFact q4).addFact q3
          refine hK _ _ (fun _ => (hM.sm.sub (fun x hx => by repeat (first | exact hx | refine List.mem_cons_of_mem _ ?_)) (fun _ h => by repeat (first | exact h | refine List.mem_cons_of_mem _ ?_)))) ?_; clear hK
          refine t_two (i := 7) (j := 12) hF rfl rfl (by kernel_rfl) rfl rfl ?_ ?_
          ·
            intro K hK
            (apply x_call hF hM; exact rfl; exact rfl; exact rfl; exact rfl; exact (e3 bl6 qs a3 c3 _ _ hM.lt q1 q2 (hM.facts (RdF id a3 (cellsP qs)) (by (repeat (first | with_reducible exact List.mem_cons_self | refine List.mem_cons_of_mem _ ?_)))) (hM.facts (DatF qs) (by (repeat (first | with_reducible exact List.mem_cons_self | refine List.mem_cons_of_mem _ ?_)))) (hM.facts (RdF (Value.int .u8) (some ⟨bl6, 0, none⟩) ([sx, sx] : Dat).flatten) (by (repeat (first | with_reducible exact List.mem_cons_self | refine List.mem_cons_of_mem _ ?_))))); clear hF hM a; rintro v w a ⟨a4, c4, at2, ct2, rfl, -, us, u1, u2, u3, u4, u5⟩ - hM hF)
            replace hM := (hM.addFact u4).addFact u3
            refine hK _ _ (fun _ => (hM.sm.sub (fun x hx => by repeat (first | exact hx | refine List.mem_cons_of_mem _ ?_)) (fun _ h => by repeat (first | exact h | refine List.mem_cons_of_mem _ ?_)))) ?_; clear hK
            (first | (refine t_pure (i := 8) hF rfl rfl rfl rfl (by kernel_rfl) (hM.sm.sub (fun x hx => by repeat (first | exact hx | refine List.mem_cons_of_mem _ ?_)) (fun _ h => by repeat (first | exact h | refine List.mem_cons_of_mem _ ?_))) (fun _ _ _ h => h) ?_ ?_; (first | exact trivial | omega | decide); clear hF a; intro a hF))
            (first | (refine t_pure (i := 9) hF rfl rfl rfl rfl (by kernel_rfl) (hM.sm.sub (fun x hx => by repeat (first | exact hx | refine List.mem_cons_of_mem _ ?_)) (fun _ h => by repeat (first | exact h | refine List.mem_cons_of_mem _ ?_))) (fun _ _ _ h => h) ?_ ?_; (first | exact trivial | omega | decide); clear hF a; intro a hF))
            (first | (refine t_pure (i := 10) hF rfl rfl rfl rfl (by kernel_rfl) (hM.sm.sub (fun x hx => by repeat (first | exact hx | refine List.mem_cons_of_mem _ ?_)) (fun _ h => by repeat (first | exact h | refine List.mem_cons_of_mem _ ?_))) (fun _ _ _ h => h) ?_ ?_; (first | exact trivial | omega | decide); clear hF a; intro a hF))
            (first | (refine t_pure (i := 11) hF rfl rfl rfl rfl (by kernel_rfl) (hM.sm.sub (fun x hx => by repeat (first | exact hx | refine List.mem_cons_of_mem _ ?_)) (fun _ h => by repeat (first | exact h | refine List.mem_cons_of_mem _ ?_))) (fun _ _ _ h => h) ?_ ?_; (first | exact trivial | omega | decide); clear hF a; intro a hF))
            refine t_one (i := 12) hF rfl (by kernel_rfl) rfl ?_
            intro K hK
            (refine x_alloc hF hM rfl rfl ?_; clear hF hM a; intro b w a hM hF)
            refine hK _ _ (fun _ => (hM.sm.sub (fun x hx => by repeat (first | exact hx | refine List.mem_cons_of_mem _ ?_)) (fun _ h => by repeat (first | exact h | refine List.mem_cons_of_mem _ ?_)))) ?_; clear hK
            refine t_one (i := 13) hF rfl (by kernel_rfl) rfl ?_
            intro K hK
            (apply x_store hF hM rfl rfl rfl; (repeat (first | exact Upd.z | apply Upd.s)); exact rfl; exact rfl; exact rfl; clear hF hM a; intro w a hM hF)
            refine hK _ _ (fun _ => (hM.sm.sub (fun x hx => by repeat (first | exact hx | refine List.mem_cons_of_mem _ ?_)) (fun _ h => by repeat (first | exact h | refine List.mem_cons_of_mem _ ?_)))) ?_; clear hK
            (first | (refine t_pure (i := 14) hF rfl rfl rfl rfl (by kernel_rfl) (hM.sm.sub (fun x hx => by repeat (first | exact hx | refine List.mem_cons_of_mem _ ?_)) (fun _ h => by repeat (first | exact h | refine List.mem_cons_of_mem _ ?_))) (fun _ _ _ h => h) ?_ ?_; (first | exact trivial | omega | decide); clear hF a; intro a hF))
            (first | (refine t_pure (i := 15) hF rfl rfl rfl rfl (by kernel_rfl) (hM.sm.sub (fun x hx => by repeat (first | exact hx | refine List.mem_cons_of_mem _ ?_)) (fun _ h => by repeat (first | exact h | refine List.mem_cons_of_mem _ ?_))) (fun _ _ _ h => h) ?_ ?_; (first | exact trivial | omega | decide); clear hF a; intro a hF))
            refine t_done (by kernel_rfl) ?_
            (repeat (first | fail))
            refine q_cut ⟨at2, ct2, us, u1, u2, hF.sub (by repeat (first | exact Sub.nil | refine Sub.cons rfl (by first | with_reducible rfl | (refine congrArg (Value.int _) ?_; omega) | exact rfl) ?_)), hM.sub (.cons _ (.cons _ (.refl _))) (.refl _) (fun f hf => ?_)⟩
            simp only [List.mem_cons, List.not_mem_nil, or_false] at hf ⊢
            rcases hf with h | h | h | h <;> simp [h, cellsT]
          ·
            intro K hK
            (refine x_alloc hF hM rfl rfl ?_; clear hF hM a; intro b w a hM hF)
            refine hK _ _ (fun _ => (hM.sm.sub (fun x hx => by repeat (first | exact hx | refine List.mem_cons_of_mem _ ?_)) (fun _ h => by repeat (first | exact h | refine List.mem_cons_of_mem _ ?_)))) ?_; clear hK
            refine t_one (i := 7) hF rfl (by kernel_rfl) rfl ?_
            intro K hK
            (apply x_call hF hM; exact rfl; exact rfl; exact rfl; exact rfl; exact (e3 bl6 qs a3 c3 _ _ hM.lt q1 q2 (hM.facts (RdF id a3 (cellsP qs)) (by (repeat (first | with_reducible exact List.mem_cons_self | refine List.mem_cons_of_mem _ ?_)))) (hM.facts (DatF qs) (by (repeat (first | with_reducible exact List.mem_cons_self | refine List.mem_cons_of_mem _ ?_)))) (hM.facts (RdF (Value.int .u8) (some ⟨bl6, 0, none⟩) ([sx, sx] : Dat).flatten) (by (repeat (first | with_reducible exact List.mem_cons_self | refine List.mem_cons_of_mem _ ?_))))); clear hF hM a; rintro v w a ⟨a4, c4, at2, ct2, rfl, -, us, u1, u2, u3, u4, u5⟩ - hM hF)
            replace hM := (hM.addFact u4).addFact u3
            refine hK _ _ (fun _ => (hM.sm.sub (fun x hx => by repeat (first | exact hx | refine List.mem_cons_of_mem _ ?_)) (fun _ h => by repeat (first | exact h | refine List.mem_cons_of_mem _ ?_)))) ?_; clear hK
            (first | (refine t_pure (i := 8) hF rfl rfl rfl rfl (by kernel_rfl) (hM.sm.sub (fun x hx => by repeat (first | exact hx | refine List.mem_cons_of_mem _ ?_)) (fun _ h => by repeat (first | exact h | refine List.mem_cons_of_mem _ ?_))) (fun _ _ _ h => h) ?_ ?_; (first | exact trivial | omega | decide); clear hF a; intro a hF))
            (first | (refine t_pure (i := 9) hF rfl rfl rfl rfl (by kernel_rfl) (hM.sm.sub (fun x hx => by repeat (first | exact hx | refine List.mem_cons_of_mem _ ?_)) (fun _ h => by repeat (first | exact h | refine List.mem_cons_of_mem _ ?_))) (fun _ _ _ h => h) ?_ ?_; (first | exact trivial | omega | decide); clear hF a; intro a hF))
            (first | (refine t_pure (i := 10) hF rfl rfl rfl rfl (by kernel_rfl) (hM.sm.sub (fun x hx => by repeat (first | exact hx | refine List.mem_cons_of_mem _ ?_)) (fun _ h => by repeat (first | exact h | refine List.mem_cons_of_mem _ ?_))) (fun _ _ _ h => h) ?_ ?_; (first | exact trivial | omega | decide); clear hF a; intro a hF))
            (first | (refine t_pure (i := 11) hF rfl rfl rfl rfl (by kernel_rfl) (hM.sm.sub (fun x hx => by repeat (first | exact hx | refine List.mem_cons_of_mem _ ?_)) (fun _ h => by repeat (first | exact h | refine List.mem_cons_of_mem _ ?_))) (fun _ _ _ h => h) ?_ ?_; (first | exact trivial | omega | decide); clear hF a; intro a hF))
            refine t_one (i := 13) hF rfl (by kernel_rfl) rfl ?_
            intro K hK
            (apply x_store hF hM rfl rfl rfl; (repeat (first | exact Upd.z | apply Upd.s)); exact rfl; exact rfl; exact rfl; clear hF hM a; intro w a hM hF)
            refine hK _ _ (fun _ => (hM.sm.sub (fun x hx => by repeat (first | exact hx | refine List.mem_cons_of_mem _ ?_)) (fun _ h => by repeat (first | exact h | refine List.mem_cons_of_mem _ ?_)))) ?_; clear hK
            (first | (refine t_pure (i := 14) hF rfl rfl rfl rfl (by kernel_rfl) (hM.sm.sub (fun x hx => by repeat (first | exact hx | refine List.mem_cons_of_mem _ ?_)) (fun _ h => by repeat (first | exact h | refine List.mem_cons_of_mem _ ?_))) (fun _ _ _ h => h) ?_ ?_; (first | exact trivial | omega | decide); clear hF a; intro a hF))
            (first | (refine t_pure (i := 15) hF rfl rfl rfl rfl (by kernel_rfl) (hM.sm.sub (fun x hx => by repeat (first | exact hx | refine List.mem_cons_of_mem _ ?_)) (fun _ h => by repeat (first | exact h | refine List.mem_cons_of_mem _ ?_))) (fun _ _ _ h => h) ?_ ?_; (first | exact trivial | omega | decide); clear hF a; intro a hF))
            refine t_done (by kernel_rfl) ?_
            (repeat (first | fail))
            refine q_cut ⟨at2, ct2, us, u1, u2, hF.sub (by repeat (first | exact Sub.nil | refine Sub.cons rfl (by first | with_reducible rfl | (refine congrArg (Value.int _) ?_; omega) | exact rfl) ?_)), hM.sub (.cons _ (.cons _ (.refl _))) (.refl _) (fun f hf => ?_)⟩
            simp only [List.mem_cons, List.not_mem_nil, or_false] at hf ⊢
            rcases hf with h | h | h | h <;> simp [h, cellsT]
        ·
          intro K hK
          (refine x_alloc hF hM rfl rfl ?_; clear hF hM a; intro b w a hM hF)
          refine hK _ _ (fun _ => (hM.sm.sub (fun x hx => by repeat (first | exact hx | refine List.mem_cons_of_mem _ ?_)) (fun _ h => by repeat (first | exact h | refine List.mem_cons_of_mem _ ?_)))) ?_; clear hK
          refine t_one (i := 3) hF rfl (by kernel_rfl) rfl ?_
          intro K hK
          (apply x_call hF hM; exact rfl; exact rfl; exact rfl; exact rfl; exact (e2 bl2 _ _ hM.lt (hM.facts (RdF (Value.int .u8) (some ⟨bl2, 0, none⟩) ([sx] : Dat).flatten) (by (repeat (first | with_reducible exact List.mem_cons_self | refine List.mem_cons_of_mem _ ?_))))); clear hF hM a; rintro v w a ⟨a3, c3, rfl, qs, q1, q2, q3, q4, q5⟩ - hM hF)
          replace hM := (hM.addFact q4).addFact q3
          refine hK _ _ (fun _ => (hM.sm.sub (fun x hx => by repeat (first | exact hx | refine List.mem_cons_of_mem _ ?_)) (fun _ h => by repeat (first | exact h | refine List.mem_cons_of_mem _ ?_)))) ?_; clear hK
          refine t_one (i := 7) hF rfl (by kernel_rfl) rfl ?_
          intro K hK
          (apply x_call hF hM; exact rfl; exact rfl; exact rfl; exact rfl; exact (e3 bl6 qs a3 c3 _ _ hM.lt q1 q2 (hM.facts (RdF id a3 (cellsP qs)) (by (repeat (first | with_reducible exact List.mem_cons_self | refine List.mem_cons_of_mem _ ?_)))) (hM.facts (DatF qs) (by (repeat (first | with_reducible exact List.mem_cons_self | refine List.mem_cons_of_mem _ ?_)))) (hM.facts (RdF (Value.int .u8) (some ⟨bl6, 0, none⟩) ([sx, sx] : Dat).flatten) (by (repeat (first | with_reducible exact List.mem_cons_self | refine List.mem_cons_of_mem _ ?_))))); clear hF hM a; rintro v w a ⟨a4, c4, at2, ct2, rfl, -, us, u1, u2, u3, u4, u5⟩ - hM hF)
          replace hM := (hM.addFact u4).addFact u3
          refine hK _ _ (fun _ => (hM.sm.sub (fun x hx => by repeat (first | exact hx | refine List.mem_cons_of_mem _ ?_)) (fun _ h => by repeat (first | exact h | refine List.mem_cons_of_mem _ ?_)))) ?_; clear hK
          (first | (refine t_pure (i := 8) hF rfl rfl rfl rfl (by kernel_rfl) (hM.sm.sub (fun x hx => by repeat (first | exact hx | refine List.mem_cons_of_mem _ ?_)) (fun _ h => by repeat (first | exact h | refine List.mem_cons_of_mem _ ?_))) (fun _ _ _ h => h) ?_ ?_; (first | exact trivial | omega | decide); clear hF a; intro a hF))
          (first | (refine t_pure (i := 9) hF rfl rfl rfl rfl (by kernel_rfl) (hM.sm.sub (fun x hx => by repeat (first | exact hx | refine List.mem_cons_of_mem _ ?_)) (fun _ h => by repeat (first | exact h | refine List.mem_cons_of_mem _ ?_))) (fun _ _ _ h => h) ?_ ?_; (first | exact trivial | omega | decide); clear hF a; intro a hF))
          (first | (refine t_pure (i := 10) hF rfl rfl rfl rfl (by kernel_rfl) (hM.sm.sub (fun x hx => by repeat (first | exact hx | refine List.mem_cons_of_mem _ ?_)) (fun _ h => by repeat (first | exact h | refine List.mem_cons_of_mem _ ?_))) (fun _ _ _ h => h) ?_ ?_; (first | exact trivial | omega | decide); clear hF a; intro a hF))
          (first | (refine t_pure (i := 11) hF rfl rfl rfl rfl (by kernel_rfl) (hM.sm.sub (fun x hx => by repeat (first | exact hx | refine List.mem_cons_of_mem _ ?_)) (fun _ h => by repeat (first | exact h | refine List.mem_cons_of_mem _ ?_))) (fun _ _ _ h => h) ?_ ?_; (first | exact trivial | omega | decide); clear hF a; intro a hF))
          refine t_one (i := 13) hF rfl (by kernel_rfl) rfl ?_
          intro K hK
          (apply x_store hF hM rfl rfl rfl; (repeat (first | exact Upd.z | apply Upd.s)); exact rfl; exact rfl; exact rfl; clear hF hM a; intro w a hM hF)
          refine hK _ _ (fun _ => (hM.sm.sub (fun x hx => by repeat (first | exact hx | refine List.mem_cons_of_mem _ ?_)) (fun _ h => by repeat (first | exact h | refine List.mem_cons_of_mem _ ?_)))) ?_; clear hK
          (first | (refine t_pure (i := 14) hF rfl rfl rfl rfl (by kernel_rfl) (hM.sm.sub (fun x hx => by repeat (first | exact hx | refine List.mem_cons_of_mem _ ?_)) (fun _ h => by repeat (first | exact h | refine List.mem_cons_of_mem _ ?_))) (fun _ _ _ h => h) ?_ ?_; (first | exact trivial | omega | decide); clear hF a; intro a hF))
          (first | (refine t_pure (i := 15) hF rfl rfl rfl rfl (by kernel_rfl) (hM.sm.sub (fun x hx => by repeat (first | exact hx | refine List.mem_cons_of_mem _ ?_)) (fun _ h => by repeat (first | exact h | refine List.mem_cons_of_mem _ ?_))) (fun _ _ _ h => h) ?_ ?_; (first | exact trivial | omega | decide); clear hF a; intro a hF))
          refine t_done (by kernel_rfl) ?_
          (repeat (first | fail))
          refine q_cut ⟨at2, ct2, us, u1, u2, hF.sub (by repeat (first | exact Sub.nil | refine Sub.cons rfl (by first | with_reducible rfl | (refine congrArg (Value.int _) ?_; omega) | exact rfl) ?_)), hM.sub (.cons _ (.cons _ (.refl _))) (.refl _) (fun f hf => ?_)⟩
          simp only [List.mem_cons, List.not_mem_nil, or_false] at hf ⊢
          rcases hf with h | h | h | h <;> simp [h, cellsT]
      ·
        intro K hK
        (refine x_alloc hF hM rfl rfl ?_; clear hF hM a; intro b w a hM hF)
        refine hK _ _ (fun _ => (hM.sm.sub (fun x hx => by repeat (first | exact hx | refine List.mem_cons_of_mem _ ?_)) (fun _ h => by repeat (first | exact h | refine List.mem_cons_of_mem _ ?_)))) ?_; clear hK
        refine t_one (i := 2) hF rfl (by kernel_rfl) rfl ?_
        intro K hK
        (refine x_lit hF hM rfl rfl rfl ?_; clear hF hM a; intro bl w a hM hF; replace hM := Mm.freeze hM)
        obtain ⟨bl2, rfl⟩ : ∃ x, x = bl := ⟨_, rfl⟩; replace hM := hM.addFact (Has.lit (enc := Value.int .u8) (hM.facts _ List.mem_cons_self) ([sx] : Dat).flatten rfl)
        refine hK _ _ (fun _ => (hM.sm.sub (fun x hx => by repeat (first | exact hx | refine List.mem_cons_of_mem _ ?_)) (fun _ h => by repeat (first | exact h | refine List.mem_cons_of_mem _ ?_)))) ?_; clear hK
        refine t_one (i := 3) hF rfl (by kernel_rfl) rfl ?_
        intro K hK
        (apply x_call hF hM; exact rfl; exact rfl; exact rfl; exact rfl; exact (e2 bl2 _ _ hM.lt (hM.facts (RdF (Value.int .u8) (some ⟨bl2, 0, none⟩) ([sx] : Dat).flatten) (by (repeat (first | with_reducible exact List.mem_cons_self | refine List.mem_cons_of_mem _ ?_))))); clear hF hM a; rintro v w a ⟨a3, c3, rfl, qs, q1, q2, q3, q4, q5⟩ - hM hF)
        replace hM := (hM.addFact q4).addFact q3
        refine hK _ _ (fun _ => (hM.sm.sub (fun x hx => by repeat (first | exact hx | refine List.mem_cons_of_mem _ ?_)) (fun _ h => by repeat (first | exact h | refine List.mem_cons_of_mem _ ?_)))) ?_; clear hK
        refine t_one (i := 7) hF rfl (by kernel_rfl) rfl ?_
        intro K hK
        (apply x_call hF hM; exact rfl; exact rfl; exact rfl; exact rfl; exact (e3 bl6 qs a3 c3 _ _ hM.lt q1 q2 (hM.facts (RdF id a3 (cellsP qs)) (by (repeat (first | with_reducible exact List.mem_cons_self | refine List.mem_cons_of_mem _ ?_)))) (hM.facts (DatF qs) (by (repeat (first | with_reducible exact List.mem_cons_self | refine List.mem_cons_of_mem _ ?_)))) (hM.facts (RdF (Value.int .u8) (some ⟨bl6, 0, none⟩) ([sx, sx] : Dat).flatten) (by (repeat (first | with_reducible exact List.mem_cons_self | refine List.mem_cons_of_mem _ ?_))))); clear hF hM a; rintro v w a ⟨a4, c4, at2, ct2, rfl, -, us, u1, u2, u3, u4, u5⟩ - hM hF)
        replace hM := (hM.addFact u4).addFact u3
        refine hK _ _ (fun _ => (hM.sm.sub (fun x hx => by repeat (first | exact hx | refine List.mem_cons_of_mem _ ?_)) (fun _ h => by repeat (first | exact h | refine List.mem_cons_of_mem _ ?_)))) ?_; clear hK
        (first | (refine t_pure (i := 8) hF rfl rfl rfl rfl (by kernel_rfl) (hM.sm.sub (fun x hx => by repeat (first | exact hx | refine List.mem_cons_of_mem _ ?_)) (fun _ h => by repeat (first | exact h | refine List.mem_cons_of_mem _ ?_))) (fun _ _ _ h => h) ?_ ?_; (first | exact trivial | omega | decide); clear hF a; intro a hF))
        (first | (refine t_pure (i := 9) hF rfl rfl rfl rfl (by kernel_rfl) (hM.sm.sub (fun x hx => by repeat (first | exact hx | refine List.mem_cons_of_mem _ ?_)) (fun _ h => by repeat (first | exact h | refine List.mem_cons_of_mem _ ?_))) (fun _ _ _ h => h) ?_ ?_; (first | exact trivial | omega | decide); clear hF a; intro a hF))
        (first | (refine t_pure (i := 10) hF rfl rfl rfl rfl (by kernel_rfl) (hM.sm.sub (fun x hx => by repeat (first | exact hx | refine List.mem_cons_of_mem _ ?_)) (fun _ h => by repeat (first | exact h | refine List.mem_cons_of_mem _ ?_))) (fun _ _ _ h => h) ?_ ?_; (first | exact trivial | omega | decide); clear hF a; intro a hF))
        (first | (refine t_pure (i := 11) hF rfl rfl rfl rfl (by kernel_rfl) (hM.sm.sub (fun x hx => by repeat (first | exact hx | refine List.mem_cons_of_mem _ ?_)) (fun _ h => by repeat (first | exact h | refine List.mem_cons_of_mem _ ?_))) (fun _ _ _ h => h) ?_ ?_; (first | exact trivial | omega | decide); clear hF a; intro a hF))
        refine t_one (i := 13) hF rfl (by kernel_rfl) rfl ?_
        intro K hK
        (apply x_store hF hM rfl rfl rfl; (repeat (first | exact Upd.z | apply Upd.s)); exact rfl; exact rfl; exact rfl; clear hF hM a; intro w a hM hF)
        refine hK _ _ (fun _ => (hM.sm.sub (fun x hx => by repeat (first | exact hx | refine List.mem_cons_of_mem _ ?_)) (fun _ h => by repeat (first | exact h | refine List.mem_cons_of_mem _ ?_)))) ?_; clear hK
        (first | (refine t_pure (i := 14) hF rfl rfl rfl rfl (by kernel_rfl) (hM.sm.sub (fun x hx => by repeat (first | exact hx | refine List.mem_cons_of_mem _ ?_)) (fun _ h => by repeat (first | exact h | refine List.mem_cons_of_mem _ ?_))) (fun _ _ _ h => h) ?_ ?_; (first | exact trivial | omega | decide); clear hF a; intro a hF))
        (first | (refine t_pure (i := 15) hF rfl rfl rfl rfl (by kernel_rfl) (hM.sm.sub (fun x hx => by repeat (first | exact hx | refine List.mem_cons_of_mem _ ?_)) (fun _ h => by repeat (first | exact h | refine List.mem_cons_of_mem _ ?_))) (fun _ _ _ h => h) ?_ ?_; (first | exact trivial | omega | decide); clear hF a; intro a hF))
        refine t_done (by kernel_rfl) ?_
        (repeat (first | fail))
        refine q_cut ⟨at2, ct2, us, u1, u2, hF.sub (by repeat (first | exact Sub.nil | refine Sub.cons rfl (by first | with_reducible rfl | (refine congrArg (Value.int _) ?_; omega) | exact rfl) ?_)), hM.sub (.cons _ (.cons _ (.refl _))) (.refl _) (fun f hf => ?_)⟩
        simp only [List.mem_cons, List.not_mem_nil, or_false] at hf ⊢
        rcases hf with h | h | h | h <;> simp [h, cellsT]
    ·
      intro K hK
      (refine x_alloc hF hM rfl rfl ?_; clear hF hM a; intro b w a hM hF)
      refine hK _ _ (fun _ => (hM.sm.sub (fun x hx => by repeat (first | exact hx | refine List.mem_cons_of_mem _ ?_)) (fun _ h => by repeat (first | exact h | refine List.mem_cons_of_mem _ ?_)))) ?_; clear hK
      refine t_two (i := 2) (j := 6) hF rfl rfl (by kernel_rfl) rfl rfl ?_ ?_
      ·
        intro K hK
        (refine x_lit hF hM rfl rfl rfl ?_; clear hF hM a; intro bl w a hM hF; replace hM := Mm.freeze hM)
        obtain ⟨bl2, rfl⟩ : ∃ x, x = bl := ⟨_, rfl⟩; replace hM := hM.addFact (Has.lit (enc := Value.int .u8) (hM.facts _ List.mem_cons_self) ([sx] : Dat).flatten rfl)
        refine hK _ _ (fun _ => (hM.sm.sub (fun x hx => by repeat (first | exact hx | refine List.mem_cons_of_mem _ ?_)) (fun _ h => by repeat (first | exact h | refine List.mem_cons_of_mem _ ?_)))) ?_; clear hK
        refine t_two (i := 3) (j := 6) hF rfl rfl (by kernel_rfl) rfl rfl ?_ ?_
        ·
          intro K hK
          (apply x_call hF hM; exact rfl; exact rfl; exact rfl; exact rfl; exact (e2 bl2 _ _ hM.lt (hM.facts (RdF (Value.int .u8) (some ⟨bl2, 0, none⟩) ([sx] : Dat).flatten) (by (repeat (first | with_reducible exact List.mem_cons_self | refine List.mem_cons_of_mem _ ?_))))); clear hF hM a; rintro v w a ⟨a3, c3, rfl, qs, q1, q2, q3, q4, q5⟩ - hM hF)
          replace hM := (hM.addFact q4).addFact q3
          refine hK _ _ (fun _ => (hM.sm.sub (fun x hx => by repeat (first | exact hx | refine List.mem_cons_of_mem _ ?_)) (fun _ h => by repeat (first | exact h | refine List.mem_cons_of_mem _ ?_)))) ?_; clear hK
          refine t_one (i := 6) hF rfl (by kernel_rfl) rfl ?_
          intro K hK
          (refine x_lit hF hM rfl rfl rfl ?_; clear hF hM a; intro bl w a hM hF; replace hM := Mm.freeze hM)
          obtain ⟨bl6, rfl⟩ : ∃ x, x = bl := ⟨_, rfl⟩; replace hM := hM.addFact (Has.lit (enc := Value.int .u8) (hM.facts _ List.mem_cons_self) ([sx, sx] : Dat).flatten rfl)
          refine hK _ _ (fun _ => (hM.sm.sub (fun x hx => by repeat (first | exact hx | refine List.mem_cons_of_mem _ ?_)) (fun _ h => by repeat (first | exact h | refine List.mem_cons_of_mem _ ?_)))) ?_; clear hK
          refine t_one (i := 7) hF rfl (by kernel_rfl) rfl ?_
          intro K hK
          (apply x_call hF hM; exact rfl; exact rfl; exact rfl; exact rfl; exact (e3 bl6 qs a3 c3 _ _ hM.lt q1 q2 (hM.facts (RdF id a3 (cellsP qs)) (by (repeat (first | with_reducible exact List.mem_cons_self | refine List.mem_cons_of_mem _ ?_)))) (hM.facts (DatF qs) (by (repeat (first | with_reducible exact List.mem_cons_self | refine List.mem_cons_of_mem _ ?_)))) (hM.facts (RdF (Value.int .u8) (some ⟨bl6, 0, none⟩) ([sx, sx] : Dat).flatten) (by (repeat (first | with_reducible exact List.mem_cons_self | refine List.mem_cons_of_mem _ ?_))))); clear hF hM a; rintro v w a ⟨a4, c4, at2, ct2, rfl, -, us, u1, u2, u3, u4, u5⟩ - hM hF)
          replace hM := (hM.addFact u4).addFact u3
          refine hK _ _ (fun _ => (hM.sm.sub (fun x hx => by repeat (first | exact hx | refine List.mem_cons_of_mem _ ?_)) (fun _ h => by repeat (first | exact h | refine List.mem_cons_of_mem _ ?_)))) ?_; clear hK
          (first | (refine t_pure (i := 8) hF rfl rfl rfl rfl (by kernel_rfl) (hM.sm.sub (fun x hx => by repeat (first | exact hx | refine List.mem_cons_of_mem _ ?_)) (fun _ h => by repeat (first | exact h | refine List.mem_cons_of_mem _ ?_))) (fun _ _ _ h => h) ?_ ?_; (first | exact trivial | omega | decide); clear hF a; intro a hF))
          (first | (refine t_pure (i := 9) hF rfl rfl rfl rfl (by kernel_rfl) (hM.sm.sub (fun x hx => by repeat (first | exact hx | refine List.mem_cons_of_mem _ ?_)) (fun _ h => by repeat (first | exact h | refine List.mem_cons_of_mem _ ?_))) (fun _ _ _ h => h) ?_ ?_; (first | exact trivial | omega | decide); clear hF a; intro a hF))
          (first | (refine t_pure (i := 10) hF rfl rfl rfl rfl (by kernel_rfl) (hM.sm.sub (fun x hx => by repeat (first | exact hx | refine List.mem_cons_of_mem _ ?_)) (fun _ h => by repeat (first | exact h | refine List.mem_cons_of_mem _ ?_))) (fun _ _ _ h => h) ?_ ?_; (first | exact trivial | omega | decide); clear hF a; intro a hF))
          (first | (refine t_pure (i := 11) hF rfl rfl rfl rfl (by kernel_rfl) (hM.sm.sub (fun x hx => by repeat (first | exact hx | refine List.mem_cons_of_mem _ ?_)) (fun _ h => by repeat (first | exact h | refine List.mem_cons_of_mem _ ?_))) (fun _ _ _ h => h) ?_ ?_; (first | exact trivial | omega | decide); clear hF a; intro a hF))
          refine t_one (i := 13) hF rfl (by kernel_rfl) rfl ?_
          intro K hK
          (apply x_store hF hM rfl rfl rfl; (repeat (first | exact Upd.z | apply Upd.s)); exact rfl; exact rfl; exact rfl; clear hF hM a; intro w a hM hF)
          refine hK _ _ (fun _ => (hM.sm.sub (fun x hx => by repeat (first | exact hx | refine List.mem_cons_of_mem _ ?_)) (fun _ h => by repeat (first | exact h | refine List.mem_cons_of_mem _ ?_)))) ?_; clear hK
          (first | (refine t_pure (i := 14) hF rfl rfl rfl rfl (by kernel_rfl) (hM.sm.sub (fun x hx => by repeat (first | exact hx | refine List.mem_cons_of_mem _ ?_)) (fun _ h => by repeat (first | exact h | refine List.mem_cons_of_mem _ ?_))) (fun _ _ _ h => h) ?_ ?_; (first | exact trivial | omega | decide); clear hF a; intro a hF))
          (first | (refine t_pure (i := 15) hF rfl rfl rfl rfl (by kernel_rfl) (hM.sm.sub (fun x hx => by repeat (first | exact hx | refine List.mem_cons_of_mem _ ?_)) (fun _ h => by repeat (first | exact h | refine List.mem_cons_of_mem _ ?_))) (fun _ _ _ h => h) ?_ ?_; (first | exact trivial | omega | decide); clear hF a; intro a hF))
          refine t_done (by kernel_rfl) ?_
          (repeat (first | fail))
          refine q_cut ⟨at2, ct2, us, u1, u2, hF.sub (by repeat (first | exact Sub.nil | refine Sub.cons rfl (by first | with_reducible rfl | (refine congrArg (Value.int _) ?_; omega) | exact rfl) ?_)), hM.sub (.cons _ (.cons _ (.refl _))) (.refl _) (fun f hf => ?_)⟩
          simp only [List.mem_cons, List.not_mem_nil, or_false] at hf ⊢
          rcases hf with h | h | h | h <;> simp [h, cellsT]
        ·
          intro K hK
          (refine x_lit hF hM rfl rfl rfl ?_; clear hF hM a; intro bl w a hM hF; replace hM := Mm.freeze hM)
          obtain ⟨bl6, rfl⟩ : ∃ x, x = bl := ⟨_, rfl⟩; replace hM := hM.addFact (Has.lit (enc := Value.int .u8) (hM.facts _ List.mem_cons_self) ([sx, sx] : Dat).flatten rfl)
          refine hK _ _ (fun _ => (hM.sm.sub (fun x hx => by repeat (first | exact hx | refine List.mem_cons_of_mem _ ?_)) (fun _ h => by repeat (first | exact h | refine List.mem_cons_of_mem _ ?_)))) ?_; clear hK
          refine t_one (i := 3) hF rfl (by kernel_rfl) rfl ?_
          intro K hK
          (apply x_call hF hM; exact rfl; exact rfl; exact rfl; exact rfl; exact (e2 bl2 _ _ hM.lt (hM.facts (RdF (Value.int .u8) (some ⟨bl2, 0, none⟩) ([sx] : Dat).flatten) (by (repeat (first | with_reducible exact List.mem_cons_self | refine List.mem_cons_of_mem _ ?_))))); clear hF hM a; rintro v w a ⟨a3, c3, rfl, qs, q1, q2, q3, q4, q5⟩ - hM hF)
          replace hM := (hM.addFact q4).addFact q3
          refine hK _ _ (fun _ => (hM.sm.sub (fun x hx => by repeat (first | exact hx | refine List.mem_cons_of_mem _ ?_)) (fun _ h => by repeat (first | exact h | refine List.mem_cons_of_mem _ ?_)))) ?_; clear hK
          refine t_one (i := 7) hF rfl (by kernel_rfl) rfl ?_
          intro K hK
          (apply x_call hF hM; exact rfl; exact rfl; exact rfl; exact rfl; exact (e3 bl6 qs a3 c3 _ _ hM.lt q1 q2 (hM.facts (RdF id a3 (cellsP qs)) (by (repeat (first | with_reducible exact List.mem_cons_self | refine List.mem_cons_of_mem _ ?_)))) (hM.facts (DatF qs) (by (repeat (first | with_reducible exact List.mem_cons_self | refine List.mem_cons_of_mem _ ?_)))) (hM.facts (RdF (Value.int .u8) (some ⟨bl6, 0, none⟩) ([sx, sx] : Dat).flatten) (by (repeat (first | with_reducible exact List.mem_cons_self | refine List.mem_cons_of_mem _ ?_))))); clear hF hM a; rintro v w a ⟨a4, c4, at2, ct2, rfl, -, us, u1, u2, u3, u4, u5⟩ - hM hF)
          replace hM := (hM.addFact u4).addFact u3
          refine hK _ _ (fun _ => (hM.sm.sub (fun x hx => by repeat (first | exact hx | refine List.mem_cons_of_mem _ ?_)) (fun _ h => by repeat (first | exact h | refine List.mem_cons_of_mem _ ?_)))) ?_; clear hK
          (first | (refine t_pure (i := 8) hF rfl rfl rfl rfl (by kernel_rfl) (hM.sm.sub (fun x hx => by repeat (first | exact hx | refine List.mem_cons_of_mem _ ?_)) (fun _ h => by repeat (first | exact h | refine List.mem_cons_of_mem _ ?_))) (fun _ _ _ h => h) ?_ ?_; (first | exact trivial | omega | decide); clear hF a; intro a hF))
          (first | (refine t_pure (i := 9) hF rfl rfl rfl rfl (by kernel_rfl) (hM.sm.sub (fun x hx => by repeat (first | exact hx | refine List.mem_cons_of_mem _ ?_)) (fun _ h => by repeat (first | exact h | refine List.mem_cons_of_mem _ ?_))) (fun _ _ _ h => h) ?_ ?_; (first | exact trivial | omega | decide); clear hF a; intro a hF))
          (first | (refine t_pure (i := 10) hF rfl rfl rfl rfl (by kernel_rfl) (hM.sm.sub (fun x hx => by repeat (first | exact hx | refine List.mem_cons_of_mem _ ?_)) (fun _ h => by repeat (first | exact h | refine List.mem_cons_of_mem _ ?_))) (fun _ _ _ h => h) ?_ ?_; (first | exact trivial | omega | decide); clear hF a; intro a hF))
          (first | (refine t_pure (i := 11) hF rfl rfl rfl rfl (by kernel_rfl) (hM.sm.sub (fun x hx => by repeat (first | exact hx | refine List.mem_cons_of_mem _ ?_)) (fun _ h => by repeat (first | exact h | refine List.mem_cons_of_mem _ ?_))) (fun _ _ _ h => h) ?_ ?_; (first | exact trivial | omega | decide); clear hF a; intro a hF))
          refine t_one (i := 13) hF rfl (by kernel_rfl) rfl ?_
          intro K hK
          (apply x_store hF hM rfl rfl rfl; (repeat (first | exact Upd.z | apply Upd.s)); exact rfl; exact rfl; exact rfl; clear hF hM a; intro w a hM hF)
          refine hK _ _ (fun _ => (hM.sm.sub (fun x hx => by repeat (first | exact hx | refine List.mem_cons_of_mem _ ?_)) (fun _ h => by repeat (first | exact h | refine List.mem_cons_of_mem _ ?_)))) ?_; clear hK
          (first | (refine t_pure (i := 14) hF rfl rfl rfl rfl (by kernel_rfl) (hM.sm.sub (fun x hx => by repeat (first | exact hx | refine List.mem_cons_of_mem _ ?_)) (fun _ h => by repeat (first | exact h | refine List.mem_cons_of_mem _ ?_))) (fun _ _ _ h => h) ?_ ?_; (first | exact trivial | omega | decide); clear hF a; intro a hF))
          (first | (refine t_pure (i := 15) hF rfl rfl rfl rfl (by kernel_rfl) (hM.sm.sub (fun x hx => by repeat (first | exact hx | refine List.mem_cons_of_mem _ ?_)) (fun _ h => by repeat (first | exact h | refine List.mem_cons_of_mem _ ?_))) (fun _ _ _ h => h) ?_ ?_; (first | exact trivial | omega | decide); clear hF a; intro a hF))
          refine t_done (by kernel_rfl) ?_
          (repeat (first | fail))
          refine q_cut ⟨at2, ct2, us, u1, u2, hF.sub (by repeat (first | exact Sub.nil | refine Sub.cons rfl (by first | with_reducible rfl | (refine congrArg (Value.int _) ?_; omega) | exact rfl) ?_)), hM.sub (.cons _ (.cons _ (.refl _))) (.refl _) (fun f hf => ?_)⟩
          simp only [List.mem_cons, List.not_mem_nil, or_false] at hf ⊢
          rcases hf with h | h | h | h <;> simp [h, cellsT]
      ·
        intro K hK
        (refine x_lit hF hM rfl rfl rfl ?_; clear hF hM a; intro bl w a hM hF; replace hM := Mm.freeze hM)
        obtain ⟨bl6, rfl⟩ : ∃ x, x = bl := ⟨_, rfl⟩; replace hM := hM.addFact (Has.lit (enc := Value.int .u8) (hM.facts _ List.mem_cons_self) ([sx, sx] : Dat).flatten rfl)
        refine hK _ _ (fun _ => (hM.sm.sub (fun x hx => by repeat (first | exact hx | refine List.mem_cons_of_mem _ ?_)) (fun _ h => by repeat (first | exact h | refine List.mem_cons_of_mem _ ?_)))) ?_; clear hK
        refine t_one (i := 2) hF rfl (by kernel_rfl) rfl ?_
        intro K hK
        (refine x_lit hF hM rfl rfl rfl ?_; clear hF hM a; intro bl w a hM hF; replace hM := Mm.freeze hM)
        obtain ⟨bl2, rfl⟩ : ∃ x, x = bl := ⟨_, rfl⟩; replace hM := hM.addFact (Has.lit (enc := Value.int .u8) (hM.facts _ List.mem_cons_self) ([sx] : Dat).flatten rfl)
        refine hK _ _ (fun _ => (hM.sm.sub (fun x hx => by repeat (first | exact hx | refine List.mem_cons_of_mem _ ?_)) (fun _ h => by repeat (first | exact h | refine List.mem_cons_of_mem _ ?_)))) ?_; clear hK
        refine t_one (i := 3) hF rfl (by kernel_rfl) rfl ?_
        intro K hK
        (apply x_call hF hM; exact rfl; exact rfl; exact rfl; exact rfl; exact (e2 bl2 _ _ hM.lt (hM.facts (RdF (Value.int .u8) (some ⟨bl2, 0, none⟩) ([sx] : Dat).flatten) (by (repeat (first | with_reducible exact List.mem_cons_self | refine List.mem_cons_of_mem _ ?_))))); clear hF hM a; rintro v w a ⟨a3, c3, rfl, qs, q1, q2, q3, q4, q5⟩ - hM hF)
        replace hM := (hM.addFact q4).addFact q3
        refine hK _ _ (fun _ => (hM.sm.sub (fun x hx => by repeat (first | exact hx | refine List.mem_cons_of_mem _ ?_)) (fun _ h => by repeat (first | exact h | refine List.mem_cons_of_mem _ ?_)))) ?_; clear hK
        refine t_one (i := 7) hF rfl (by kernel_rfl) rfl ?_
        intro K hK
        (apply x_call hF hM; exact rfl; exact rfl; exact rfl; exact rfl; exact (e3 bl6 qs a3 c3 _ _ hM.lt q1 q2 (hM.facts (RdF id a3 (cellsP qs)) (by (repeat (first | with_reducible exact List.mem_cons_self | refine List.mem_cons_of_mem _ ?_)))) (hM.facts (DatF qs) (by (repeat (first | with_reducible exact List.mem_cons_self | refine List.mem_cons_of_mem _ ?_)))) (hM.facts (RdF (Value.int .u8) (some ⟨bl6, 0, none⟩) ([sx, sx] : Dat).flatten) (by (repeat (first | with_reducible exact List.mem_cons_self | refine List.mem_cons_of_mem _ ?_))))); clear hF hM a; rintro v w a ⟨a4, c4, at2, ct2, rfl, -, us, u1, u2, u3, u4, u5⟩ - hM hF)
        replace hM := (hM.addFact u4).addFact u3
        refine hK _ _ (fun _ => (hM.sm.sub (fun x hx => by repeat (first | exact hx | refine List.mem_cons_of_mem _ ?_)) (fun _ h => by repeat (first | exact h | refine List.mem_cons_of_mem _ ?_)))) ?_; clear hK
        (first | (refine t_pure (i := 8) hF rfl rfl rfl rfl (by kernel_rfl) (hM.sm.sub (fun x hx => by repeat (first | exact hx | refine List.mem_cons_of_mem _ ?_)) (fun _ h => by repeat (first | exact h | refine List.mem_cons_of_mem _ ?_))) (fun _ _ _ h => h) ?_ ?_; (first | exact trivial | omega | decide); clear hF a; intro a hF))
        (first | (refine t_pure (i := 9) hF rfl rfl rfl rfl (by kernel_rfl) (hM.sm.sub (fun x hx => by repeat (first | exact hx | refine List.mem_cons_of_mem _ ?_)) (fun _ h => by repeat (first | exact h | refine List.mem_cons_of_mem _ ?_))) (fun _ _ _ h => h) ?_ ?_; (first | exact trivial | omega | decide); clear hF a; intro a hF))
        (first | (refine t_pure (i := 10) hF rfl rfl rfl rfl (by kernel_rfl) (hM.sm.sub (fun x hx => by repeat (first | exact hx | refine List.mem_cons_of_mem _ ?_)) (fun _ h => by repeat (first | exact h | refine List.mem_cons_of_mem _ ?_))) (fun _ _ _ h => h) ?_ ?_; (first | exact trivial | omega | decide); clear hF a; intro a hF))
        (first | (refine t_pure (i := 11) hF rfl rfl rfl rfl (by kernel_rfl) (hM.sm.sub (fun x hx => by repeat (first | exact hx | refine List.mem_cons_of_mem _ ?_)) (fun _ h => by repeat (first | exact h | refine List.mem_cons_of_mem _ ?_))) (fun _ _ _ h => h) ?_ ?_; (first | exact trivial | omega | decide); clear hF a; intro a hF))
        refine t_one (i := 13) hF rfl (by kernel_rfl) rfl ?_
        intro K hK
        (apply x_store hF hM rfl rfl rfl; (repeat (first | exact Upd.z | apply Upd.s)); exact rfl; exact rfl; exact rfl; clear hF hM a; intro w a hM hF)
        refine hK _ _ (fun _ => (hM.sm.sub (fun x hx => by repeat (first | exact hx | refine List.mem_cons_of_mem _ ?_)) (fun _ h => by repeat (first | exact h | refine List.mem_cons_of_mem _ ?_)))) ?_; clear hK
        (first | (refine t_pure (i := 14) hF rfl rfl rfl rfl (by kernel_rfl) (hM.sm.sub (fun x hx => by repeat (first | exact hx | refine List.mem_cons_of_mem _ ?_)) (fun _ h => by repeat (first | exact h | refine List.mem_cons_of_mem _ ?_))) (fun _ _ _ h => h) ?_ ?_; (first | exact trivial | omega | decide); clear hF a; intro a hF))
        (first | (refine t_pure (i := 15) hF rfl rfl rfl rfl (by kernel_rfl) (hM.sm.sub (fun x hx => by repeat (first | exact hx | refine List.mem_cons_of_mem _ ?_)) (fun _ h => by repeat (first | exact h | refine List.mem_cons_of_mem _ ?_))) (fun _ _ _ h => h) ?_ ?_; (first | exact trivial | omega | decide); clear hF a; intro a hF))
        refine t_done (by kernel_rfl) ?_
        (repeat (first | fail))
        refine q_cut ⟨at2, ct2, us, u1, u2, hF.sub (by repeat (first | exact Sub.nil | refine Sub.cons rfl (by first | with_reducible rfl | (refine congrArg (Value.int _) ?_; omega) | exact rfl) ?_)), hM.sub (.cons _ (.cons _ (.refl _))) (.refl _) (fun f hf => ?_)⟩
        simp only [List.mem_cons, List.not_mem_nil, or_false] at hf ⊢
        rcases hf with h | h | h | h <;> simp [h, cellsT]
  clear hF hM a
  rintro a w ⟨at2, ct2, us, u1, u2, hF, hM⟩
  have hul : us.length = 2 := by rw [← tms_len, u1]; rfl
  have t1' : tms ts = awT := t1
  have hT5 := tok_len t1' awT_len
  have hU2 := tok_len u1 awU_len
  clear e2 e3 g0 g1 g2 g3 g4
  have e4 := fun {own W} hl hx1 hx2 => Decode29_c 2 [] none 0 0 rfl (by omega) hW0 hx0 own W hl RdF.nil (Has.pure fun _ p hp => by simp at hp) ts t2 (some adt) ct1 5 htl (by omega) hx1 hx2
  rw [show decR ⟨2, ims []⟩ (tms ts) = .ok (awI, [sx, sy, sx, sz, sx]) by rw [t1']; exact aw_dec] at e4
  have e5 := fun {own W} hl hx1 hx2 => Decode29_c 2 [] none 0 0 rfl (by omega) hW0 hx0 own W hl RdF.nil (Has.pure fun _ p hp => by simp at hp) us u2 at2 ct2 2 hul (by omega) hx1 hx2
  rw [show decR ⟨2, ims []⟩ (tms us) = .error 25 by rw [u1]; exact aw_dec2] at e5
  have e6 := fun {own W} hl hx1 hx2 => Missing29_c 2 [] none 0 0 rfl (by omega) hW0 hx0 own W hl RdF.nil (Has.pure fun _ p hp => by simp at hp) ts t2 hT5 (some adt) ct1 5 htl (by omega) hx1 hx2
  rw [show misR ⟨2, ims []⟩ (tms ts) = [] by rw [t1']; exact aw_mis] at e6
  have e7 := fun {own W} hl hx1 hx2 => Missing29_c 2 [] none 0 0 rfl (by omega) hW0 hx0 own W hl RdF.nil (Has.pure fun _ p hp => by simp at hp) us u2 hU2 at2 ct2 2 hul (by omega) hx1 hx2
  rw [show misR ⟨2, ims []⟩ (tms us) = [D] by rw [u1, ← hD]; exact aw_mis2] at e7
  simp only [List.length_nil, List.length_singleton] at e6 e7
  (repeat (first | (with_reducible refine w_seq ?_) | (with_reducible refine c_region ?_) | ((with_reducible apply s_pure hF); exact rfl; exact rfl; exact rfl; (first | exact trivial | omega | exact ⟨Int.natCast_nonneg _, Int.ofNat_lt.2 (by assumption)⟩ | decide); clear hF a; intro a hF) | ((with_reducible apply s_load hF hM); exact rfl; exact rfl; (repeat (first | exact List.mem_cons_self | refine List.mem_cons_of_mem _ ?_)); exact rfl; exact rfl; clear hF a; intro a hF)))
  (((with_reducible apply s_call (f := 19) hF hM); exact rfl; exact rfl; exact rfl; exact rfl; exact rfl; exact (e4 hM.lt (hM.facts (RdF id (some adt) (cellsT ts)) (by (repeat (first | with_reducible exact List.mem_cons_self | refine List.mem_cons_of_mem _ ?_)))) (hM.facts (DatF (tP ts)) (by (repeat (first | with_reducible exact List.mem_cons_self | refine List.mem_cons_of_mem _ ?_))))); clear hF hM a; rintro v w a ⟨a5, c5, at5, ct5, rfl, -, f5, -, -, -⟩ - hM hF))
  replace hM := hM.addFact f5
  rw [show (awI, [sx, sy, sx, sz, sx]).1.length = 2 from rfl, show (awI, [sx, sy, sx, sz, sx]).2.length = 5 from rfl] at hF
  (repeat (first | (with_reducible refine w_seq ?_) | (with_reducible refine c_region ?_) | (with_reducible refine s_nil ?_) | (with_reducible refine q_then_n ?_) | ((with_reducible apply s_pure hF); exact rfl; exact rfl; exact rfl; (first | exact trivial | omega | exact ⟨Int.natCast_nonneg _, Int.ofNat_lt.2 (by assumption)⟩ | decide); clear hF a; intro a hF) | ((with_reducible apply s_load hF hM); exact rfl; exact rfl; (repeat (first | exact List.mem_cons_self | refine List.mem_cons_of_mem _ ?_)); exact rfl; exact rfl; clear hF a; intro a hF) | ((with_reducible apply s_store hF hM); exact rfl; exact rfl; exact rfl; exact rfl; (repeat (first | exact Upd.z | apply Upd.s)); exact rfl; exact rfl; exact rfl; clear hM; intro w hM) | ((with_reducible apply s_alloc hF hM); exact rfl; exact rfl; exact rfl; clear hF hM a; intro b w a hM hF)))
  generalize b = b12 at *
  (((with_reducible apply s_call (f := 19) hF hM); exact rfl; exact rfl; exact rfl; exact rfl; exact rfl; exact (e5 hM.lt (hM.facts (RdF id at2 (cellsT us)) (by (repeat (first | with_reducible exact List.mem_cons_self | refine List.mem_cons_of_mem _ ?_)))) (hM.facts (DatF (tP us)) (by (repeat (first | with_reducible exact List.mem_cons_self | refine List.mem_cons_of_mem _ ?_))))); clear hF hM a; rintro v w a rfl - hM hF))
  clear e4 e5 f5
  (repeat (first | (with_reducible refine w_seq ?_) | (with_reducible refine s_nil ?_) | (with_reducible refine q_then_n ?_) | ((with_reducible apply s_pure hF); exact rfl; exact rfl; exact rfl; (first | exact trivial | omega | exact ⟨Int.natCast_nonneg _, Int.ofNat_lt.2 (by assumption)⟩ | decide); clear hF a; intro a hF) | ((with_reducible apply s_store hF hM); exact rfl; exact rfl; exact rfl; exact rfl; (repeat (first | exact Upd.z | apply Upd.s)); exact rfl; exact rfl; exact rfl; clear hM; intro w hM) | ((with_reducible apply s_alloc hF hM); exact rfl; exact rfl; exact rfl; clear hF hM a; intro b w a hM hF)))
  generalize b = b15 at *
  refine c_draw (fun i => Nat.ble 38 i) hM ?_; clear hM; intro w hM
  (first | (refine t_pure (i := 0) hF rfl rfl rfl rfl (by kernel_rfl) hM.sm (fun _ _ _ h => h) ?_ ?_; (first | exact trivial | omega | decide); clear hF a; intro a hF))
  (first | (refine t_pure (i := 1) hF rfl rfl rfl rfl (by kernel_rfl) hM.sm (fun _ _ _ h => h) ?_ ?_; (first | exact trivial | omega | decide); clear hF a; intro a hF))
  (first | (refine t_pure (i := 2) hF rfl rfl rfl rfl (by kernel_rfl) hM.sm (fun _ _ _ h => h) ?_ ?_; (first | exact trivial | omega | decide); clear hF a; intro a hF))
  (first | (refine t_pure (i := 3) hF rfl rfl rfl rfl (by kernel_rfl) hM.sm (fun _ _ _ h => h) ?_ ?_; (first | exact trivial | omega | decide); clear hF a; intro a hF))
  (first | (refine t_pure (i := 4) hF rfl rfl rfl rfl (by kernel_rfl) hM.sm (fun _ _ _ h => h) ?_ ?_; (first | exact trivial | omega | decide); clear hF a; intro a hF))
  (first | (refine t_pure (i := 5) hF rfl rfl rfl rfl (by kernel_rfl) hM.sm (fun _ _ _ h => h) ?_ ?_; (first | exact trivial | omega | decide); clear hF a; intro a hF))
  (first | (refine t_pure (i := 6) hF rfl rfl rfl rfl (by kernel_rfl) hM.sm (fun _ _ _ h => h) ?_ ?_; (first | exact trivial | omega | decide); clear hF a; intro a hF))
  (first | (refine t_pure (i := 7) hF rfl rfl rfl rfl (by kernel_rfl) hM.sm (fun _ _ _ h => h) ?_ ?_; (first | exact trivial | omega | decide); clear hF a; intro a hF))
  (first | (apply t_load (i := 8) hF rfl rfl rfl; (repeat (first | exact List.mem_cons_self | refine List.mem_cons_of_mem _ ?_)); exact rfl; exact rfl; kernel_rfl; exact hM.sm; exact (fun _ _ _ h => h); clear hF a; intro a hF))
  (first | (apply t_load (i := 9) hF rfl rfl rfl; (repeat (first | exact List.mem_cons_self | refine List.mem_cons_of_mem _ ?_)); exact rfl; exact rfl; kernel_rfl; exact hM.sm; exact (fun _ _ _ h => h); clear hF a; intro a hF))
  (first | (apply t_load (i := 10) hF rfl rfl rfl; (repeat (first | exact List.mem_cons_self | refine List.mem_cons_of_mem _ ?_)); exact rfl; exact rfl; kernel_rfl; exact hM.sm; exact (fun _ _ _ h => h); clear hF a; intro a hF))
  (first | (apply t_load (i := 11) hF rfl rfl rfl; (repeat (first | exact List.mem_cons_self | refine List.mem_cons_of_mem _ ?_)); exact rfl; exact rfl; kernel_rfl; exact hM.sm; exact (fun _ _ _ h => h); clear hF a; intro a hF))
  (first | (apply t_load (i := 12) hF rfl rfl rfl; (repeat (first | exact List.mem_cons_self | refine List.mem_cons_of_mem _ ?_)); exact rfl; exact rfl; kernel_rfl; exact hM.sm; exact (fun _ _ _ h => h); clear hF a; intro a hF))
  refine t_one (i := 13) hF rfl (by kernel_rfl) rfl ?_
  intro K hK
  (refine x_lit hF hM rfl rfl rfl ?_; clear hF hM a; intro bl w a hM hF; replace hM := Mm.freeze hM)
  obtain ⟨bl13, rfl⟩ : ∃ x, x = bl := ⟨_, rfl⟩; replace hM := hM.addFact (Has.lit (enc := Value.int .u8) (hM.facts _ List.mem_cons_self) ([sx, sy, sx, sz, sx] : Dat).flatten rfl)
  refine hK _ _ (fun _ => (hM.sm.sub (fun x hx => by repeat (first | exact hx | refine List.mem_cons_of_mem _ ?_)) (fun _ h => by repeat (first | exact h | refine List.mem_cons_of_mem _ ?_)))) ?_; clear hK
  refine t_one (i := 14) hF rfl (by kernel_rfl) rfl ?_
  intro K hK
  (apply x_call hF hM; exact rfl; exact rfl; exact rfl; exact rfl; exact (eqS_c [sx, sy, sx, sz, sx] [sx, sy, sx, sz, sx] aw8 aw8 at5 (some ⟨bl13, 0, none⟩) 5 5 ct5 5 rfl rfl (by omega) _ _ hM.lt (hM.facts (RdF (Value.int .u8) at5 ([sx, sy, sx, sz, sx] : Dat).flatten) (by (repeat (first | exact List.mem_cons_self | refine List.mem_cons_of_mem _ ?_)))) (hM.facts (RdF (Value.int .u8) (some ⟨bl13, 0, none⟩) ([sx, sy, sx, sz, sx] : Dat).flatten) (by (repeat (first | exact List.mem_cons_self | refine List.mem_cons_of_mem _ ?_))))); clear hF hM a; rintro v w a rfl - hM hF)
  rw [decide_eq_true rfl] at hF
  refine hK _ _ (fun _ => (hM.sm.sub (fun x hx => by repeat (first | exact hx | refine List.mem_cons_of_mem _ ?_)) (fun _ h => by repeat (first | exact h | refine List.mem_cons_of_mem _ ?_)))) ?_; clear hK
  (first | (refine t_pure (i := 15) hF rfl rfl rfl rfl (by kernel_rfl) (hM.sm.sub (fun x hx => by repeat (first | exact hx | refine List.mem_cons_of_mem _ ?_)) (fun _ h => by repeat (first | exact h | refine List.mem_cons_of_mem _ ?_))) (fun _ _ _ h => h) ?_ ?_; (first | exact trivial | omega | decide); clear hF a; intro a hF))
  (first | (refine t_pure (i := 16) hF rfl rfl rfl rfl (by kernel_rfl) (hM.sm.sub (fun x hx => by repeat (first | exact hx | refine List.mem_cons_of_mem _ ?_)) (fun _ h => by repeat (first | exact h | refine List.mem_cons_of_mem _ ?_))) (fun _ _ _ h => h) ?_ ?_; (first | exact trivial | omega | decide); clear hF a; intro a hF))
  (first | (apply t_load (i := 17) hF rfl rfl rfl; (repeat (first | exact List.mem_cons_self | refine List.mem_cons_of_mem _ ?_)); exact rfl; exact rfl; kernel_rfl; exact (hM.sm.sub (fun x hx => by repeat (first | exact hx | refine List.mem_cons_of_mem _ ?_)) (fun _ h => by repeat (first | exact h | refine List.mem_cons_of_mem _ ?_))); exact (fun _ _ _ h => h); clear hF a; intro a hF))
  (first | (refine t_pure (i := 18) hF rfl rfl rfl rfl (by kernel_rfl) (hM.sm.sub (fun x hx => by repeat (first | exact hx | refine List.mem_cons_of_mem _ ?_)) (fun _ h => by repeat (first | exact h | refine List.mem_cons_of_mem _ ?_))) (fun _ _ _ h => h) ?_ ?_; (first | exact trivial | omega | decide); clear hF a; intro a hF))
  refine t_one (i := 19) hF rfl (by kernel_rfl) rfl ?_
  intro K hK
  (apply x_call hF hM; exact rfl; exact rfl; exact rfl; exact rfl; exact (e6 hM.lt (hM.facts (RdF id (some adt) (cellsT ts)) (by (repeat (first | exact List.mem_cons_self | refine List.mem_cons_of_mem _ ?_)))) (hM.facts (DatF (tP ts)) (by (repeat (first | exact List.mem_cons_self | refine List.mem_cons_of_mem _ ?_))))); clear hF hM a; rintro v w a ⟨a19, c19, rfl, -⟩ - hM hF)
  refine hK _ _ (fun _ => (hM.sm.sub (fun x hx => by repeat (first | exact hx | refine List.mem_cons_of_mem _ ?_)) (fun _ h => by repeat (first | exact h | refine List.mem_cons_of_mem _ ?_)))) ?_; clear hK
  (first | (refine t_pure (i := 20) hF rfl rfl rfl rfl (by kernel_rfl) (hM.sm.sub (fun x hx => by repeat (first | exact hx | refine List.mem_cons_of_mem _ ?_)) (fun _ h => by repeat (first | exact h | refine List.mem_cons_of_mem _ ?_))) (fun _ _ _ h => h) ?_ ?_; (first | exact trivial | omega | decide); clear hF a; intro a hF))
  (first | (refine t_pure (i := 21) hF rfl rfl rfl rfl (by kernel_rfl) (hM.sm.sub (fun x hx => by repeat (first | exact hx | refine List.mem_cons_of_mem _ ?_)) (fun _ h => by repeat (first | exact h | refine List.mem_cons_of_mem _ ?_))) (fun _ _ _ h => h) ?_ ?_; (first | exact trivial | omega | decide); clear hF a; intro a hF))
  (first | (refine t_pure (i := 22) hF rfl rfl rfl rfl (by kernel_rfl) (hM.sm.sub (fun x hx => by repeat (first | exact hx | refine List.mem_cons_of_mem _ ?_)) (fun _ h => by repeat (first | exact h | refine List.mem_cons_of_mem _ ?_))) (fun _ _ _ h => h) ?_ ?_; (first | exact trivial | omega | decide); clear hF a; intro a hF))
  (first | (refine t_pure (i := 23) hF rfl rfl rfl rfl (by kernel_rfl) (hM.sm.sub (fun x hx => by repeat (first | exact hx | refine List.mem_cons_of_mem _ ?_)) (fun _ h => by repeat (first | exact h | refine List.mem_cons_of_mem _ ?_))) (fun _ _ _ h => h) ?_ ?_; (first | exact trivial | omega | decide); clear hF a; intro a hF))
  (first | (apply t_load (i := 24) hF rfl rfl rfl; (repeat (first | exact List.mem_cons_self | refine List.mem_cons_of_mem _ ?_)); exact rfl; exact rfl; kernel_rfl; exact (hM.sm.sub (fun x hx => by repeat (first | exact hx | refine List.mem_cons_of_mem _ ?_)) (fun _ h => by repeat (first | exact h | refine List.mem_cons_of_mem _ ?_))); exact (fun _ _ _ h => h); clear hF a; intro a hF))
  (first | (refine t_pure (i := 25) hF rfl rfl rfl rfl (by kernel_rfl) (hM.sm.sub (fun x hx => by repeat (first | exact hx | refine List.mem_cons_of_mem _ ?_)) (fun _ h => by repeat (first | exact h | refine List.mem_cons_of_mem _ ?_))) (fun _ _ _ h => h) ?_ ?_; (first | exact trivial | omega | decide); clear hF a; intro a hF))
  (first | (apply t_load (i := 27) hF rfl rfl rfl; (repeat (first | exact List.mem_cons_self | refine List.mem_cons_of_mem _ ?_)); exact rfl; exact rfl; kernel_rfl; exact (hM.sm.sub (fun x hx => by repeat (first | exact hx | refine List.mem_cons_of_mem _ ?_)) (fun _ h => by repeat (first | exact h | refine List.mem_cons_of_mem _ ?_))); exact (fun _ _ _ h => h); clear hF a; intro a hF))
  refine t_two (i := 26) (j := 28) hF rfl rfl (by kernel_rfl) rfl rfl ?_ ?_
  ·
    intro K hK
    (apply x_call hF hM; exact rfl; exact rfl; exact rfl; exact rfl; exact (e7 hM.lt (hM.facts (RdF id at2 (cellsT us)) (by (repeat (first | exact List.mem_cons_self | refine List.mem_cons_of_mem _ ?_)))) (hM.facts (DatF (tP us)) (by (repeat (first | exact List.mem_cons_self | refine List.mem_cons_of_mem _ ?_))))); clear hF hM a; rintro v w a ⟨a26, c26, rfl, f26⟩ - hM hF)
    replace hM := hM.addFact f26
    refine hK _ _ (fun _ => (hM.sm.sub (fun x hx => by repeat (first | exact hx | refine List.mem_cons_of_mem _ ?_)) (fun _ h => by repeat (first | exact h | refine List.mem_cons_of_mem _ ?_)))) ?_; clear hK
    refine t_one (i := 28) hF rfl (by kernel_rfl) rfl ?_
    intro K hK
    (refine x_lit hF hM rfl rfl rfl ?_; clear hF hM a; intro bl w a hM hF; replace hM := Mm.freeze hM)
    obtain ⟨bl28, rfl⟩ : ∃ x, x = bl := ⟨_, rfl⟩; replace hM := hM.addFact (Has.lit (enc := Value.int .u8) (hM.facts _ List.mem_cons_self) ([sx] : Dat).flatten rfl)
    refine hK _ _ (fun _ => (hM.sm.sub (fun x hx => by repeat (first | exact hx | refine List.mem_cons_of_mem _ ?_)) (fun _ h => by repeat (first | exact h | refine List.mem_cons_of_mem _ ?_)))) ?_; clear hK
    refine t_one (i := 29) hF rfl (by kernel_rfl) rfl ?_
    intro K hK
    (apply x_call hF hM; exact rfl; exact rfl; exact rfl; exact rfl; exact (Sectors4_c [sx] awx8 (some ⟨bl28, 0, none⟩) 1 1 rfl (by omega) _ _ hM.lt (hM.facts (RdF (Value.int .u8) (some ⟨bl28, 0, none⟩) ([sx] : Dat).flatten) (by (repeat (first | exact List.mem_cons_self | refine List.mem_cons_of_mem _ ?_))))); clear hF hM a; rintro v w a rfl - hM hF)
    rw [hD] at hF
    refine hK _ _ (fun _ => (hM.sm.sub (fun x hx => by repeat (first | exact hx | refine List.mem_cons_of_mem _ ?_)) (fun _ h => by repeat (first | exact h | refine List.mem_cons_of_mem _ ?_)))) ?_; clear hK
    refine t_one (i := 30) hF rfl (by kernel_rfl) rfl ?_
    intro K hK
    (refine x_lit hF hM rfl rfl rfl ?_; clear hF hM a; intro bl w a hM hF; replace hM := Mm.freeze hM)
    obtain ⟨bl30, rfl⟩ : ∃ x, x = bl := ⟨_, rfl⟩; replace hM := hM.addFact (Has.lit (enc := Value.int .u64) (hM.facts _ List.mem_cons_self) [D] rfl)
    refine hK _ _ (fun _ => (hM.sm.sub (fun x hx => by repeat (first | exact hx | refine List.mem_cons_of_mem _ ?_)) (fun _ h => by repeat (first | exact h | refine List.mem_cons_of_mem _ ?_)))) ?_; clear hK
    refine t_one (i := 31) hF rfl (by kernel_rfl) rfl ?_
    intro K hK
    (apply x_call hF hM; exact rfl; exact rfl; exact rfl; exact rfl; exact (equU_c [D] [D] a26 (some ⟨bl30, 0, none⟩) c26 1 1 1 rfl rfl (by omega) _ _ hM.lt (hM.facts (RdF (Value.int .u64) a26 [D]) (by (repeat (first | exact List.mem_cons_self | refine List.mem_cons_of_mem _ ?_)))) (hM.facts (RdF (Value.int .u64) (some ⟨bl30, 0, none⟩) [D]) (by (repeat (first | exact List.mem_cons_self | refine List.mem_cons_of_mem _ ?_))))); clear hF hM a; rintro v w a rfl - hM hF)
    rw [decide_eq_true rfl] at hF
    refine hK _ _ (fun _ => (hM.sm.sub (fun x hx => by repeat (first | exact hx | refine List.mem_cons_of_mem _ ?_)) (fun _ h => by repeat (first | exact h | refine List.mem_cons_of_mem _ ?_)))) ?_; clear hK
    (first | (refine t_pure (i := 32) hF rfl rfl rfl rfl (by kernel_rfl) (hM.sm.sub (fun x hx => by repeat (first | exact hx | refine List.mem_cons_of_mem _ ?_)) (fun _ h => by repeat (first | exact h | refine List.mem_cons_of_mem _ ?_))) (fun _ _ _ h => h) ?_ ?_; (first | exact trivial | omega | decide); clear hF a; intro a hF))
    (first | (refine t_pure (i := 33) hF rfl rfl rfl rfl (by kernel_rfl) (hM.sm.sub (fun x hx => by repeat (first | exact hx | refine List.mem_cons_of_mem _ ?_)) (fun _ h => by repeat (first | exact h | refine List.mem_cons_of_mem _ ?_))) (fun _ _ _ h => h) ?_ ?_; (first | exact trivial | omega | decide); clear hF a; intro a hF))
    (first | (refine t_pure (i := 34) hF rfl rfl rfl rfl (by kernel_rfl) (hM.sm.sub (fun x hx => by repeat (first | exact hx | refine List.mem_cons_of_mem _ ?_)) (fun _ h => by repeat (first | exact h | refine List.mem_cons_of_mem _ ?_))) (fun _ _ _ h => h) ?_ ?_; (first | exact trivial | omega | decide); clear hF a; intro a hF))
    (first | (refine t_pure (i := 35) hF rfl rfl rfl rfl (by kernel_rfl) (hM.sm.sub (fun x hx => by repeat (first | exact hx | refine List.mem_cons_of_mem _ ?_)) (fun _ h => by repeat (first | exact h | refine List.mem_cons_of_mem _ ?_))) (fun _ _ _ h => h) ?_ ?_; (first | exact trivial | omega | decide); clear hF a; intro a hF))
    (first | (refine t_pure (i := 36) hF rfl rfl rfl rfl (by kernel_rfl) (hM.sm.sub (fun x hx => by repeat (first | exact hx | refine List.mem_cons_of_mem _ ?_)) (fun _ h => by repeat (first | exact h | refine List.mem_cons_of_mem _ ?_))) (fun _ _ _ h => h) ?_ ?_; (first | exact trivial | omega | decide); clear hF a; intro a hF))
    (first | (refine t_pure (i := 37) hF rfl rfl rfl rfl (by kernel_rfl) (hM.sm.sub (fun x hx => by repeat (first | exact hx | refine List.mem_cons_of_mem _ ?_)) (fun _ h => by repeat (first | exact h | refine List.mem_cons_of_mem _ ?_))) (fun _ _ _ h => h) ?_ ?_; (first | exact trivial | omega | decide); clear hF a; intro a hF))
    refine t_done (by kernel_rfl) ?_
    (repeat (first | (with_reducible refine q_then_n ?_) | (with_reducible refine w_ret ?_)))
    (apply f_ret Try.results13 hF hM; (repeat (first | exact RL.nil | (apply RL.tmp; exact rfl) | (apply RL.cell; exact rfl; (repeat (first | exact List.mem_cons_self | refine List.mem_cons_of_mem _ ?_)); exact rfl))); refine Ret.mk hM.since ?_; dsimp only [resV])
    rfl
  ·
    intro K hK
    (refine x_lit hF hM rfl rfl rfl ?_; clear hF hM a; intro bl w a hM hF; replace hM := Mm.freeze hM)
    obtain ⟨bl28, rfl⟩ : ∃ x, x = bl := ⟨_, rfl⟩; replace hM := hM.addFact (Has.lit (enc := Value.int .u8) (hM.facts _ List.mem_cons_self) ([sx] : Dat).flatten rfl)
    refine hK _ _ (fun _ => (hM.sm.sub (fun x hx => by repeat (first | exact hx | refine List.mem_cons_of_mem _ ?_)) (fun _ h => by repeat (first | exact h | refine List.mem_cons_of_mem _ ?_)))) ?_; clear hK
    refine t_one (i := 26) hF rfl (by kernel_rfl) rfl ?_
    intro K hK
    (apply x_call hF hM; exact rfl; exact rfl; exact rfl; exact rfl; exact (e7 hM.lt (hM.facts (RdF id at2 (cellsT us)) (by (repeat (first | exact List.mem_cons_self | refine List.mem_cons_of_mem _ ?_)))) (hM.facts (DatF (tP us)) (by (repeat (first | exact List.mem_cons_self | refine List.mem_cons_of_mem _ ?_))))); clear hF hM a; rintro v w a ⟨a26, c26, rfl, f26⟩ - hM hF)
    replace hM := hM.addFact f26
    refine hK _ _ (fun _ => (hM.sm.sub (fun x hx => by repeat (first | exact hx | refine List.mem_cons_of_mem _ ?_)) (fun _ h => by repeat (first | exact h | refine List.mem_cons_of_mem _ ?_)))) ?_; clear hK
    refine t_one (i := 29) hF rfl (by kernel_rfl) rfl ?_
    intro K hK
    (apply x_call hF hM; exact rfl; exact rfl; exact rfl; exact rfl; exact (Sectors4_c [sx] awx8 (some ⟨bl28, 0, none⟩) 1 1 rfl (by omega) _ _ hM.lt (hM.facts (RdF (Value.int .u8) (some ⟨bl28, 0, none⟩) ([sx] : Dat).flatten) (by (repeat (first | exact List.mem_cons_self | refine List.mem_cons_of_mem _ ?_))))); clear hF hM a; rintro v w a rfl - hM hF)
    rw [hD] at hF
    refine hK _ _ (fun _ => (hM.sm.sub (fun x hx => by repeat (first | exact hx | refine List.mem_cons_of_mem _ ?_)) (fun _ h => by repeat (first | exact h | refine List.mem_cons_of_mem _ ?_)))) ?_; clear hK
    refine t_one (i := 30) hF rfl (by kernel_rfl) rfl ?_
    intro K hK
    (refine x_lit hF hM rfl rfl rfl ?_; clear hF hM a; intro bl w a hM hF; replace hM := Mm.freeze hM)
    obtain ⟨bl30, rfl⟩ : ∃ x, x = bl := ⟨_, rfl⟩; replace hM := hM.addFact (Has.lit (enc := Value.int .u64) (hM.facts _ List.mem_cons_self) [D] rfl)
    refine hK _ _ (fun _ => (hM.sm.sub (fun x hx => by repeat (first | exact hx | refine List.mem_cons_of_mem _ ?_)) (fun _ h => by repeat (first | exact h | refine List.mem_cons_of_mem _ ?_)))) ?_; clear hK
    refine t_one (i := 31) hF rfl (by kernel_rfl) rfl ?_
    intro K hK
    (apply x_call hF hM; exact rfl; exact rfl; exact rfl; exact rfl; exact (equU_c [D] [D] a26 (some ⟨bl30, 0, none⟩) c26 1 1 1 rfl rfl (by omega) _ _ hM.lt (hM.facts (RdF (Value.int .u64) a26 [D]) (by (repeat (first | exact List.mem_cons_self | refine List.mem_cons_of_mem _ ?_)))) (hM.facts (RdF (Value.int .u64) (some ⟨bl30, 0, none⟩) [D]) (by (repeat (first | exact List.mem_cons_self | refine List.mem_cons_of_mem _ ?_))))); clear hF hM a; rintro v w a rfl - hM hF)
    rw [decide_eq_true rfl] at hF
    refine hK _ _ (fun _ => (hM.sm.sub (fun x hx => by repeat (first | exact hx | refine List.mem_cons_of_mem _ ?_)) (fun _ h => by repeat (first | exact h | refine List.mem_cons_of_mem _ ?_)))) ?_; clear hK
    (first | (refine t_pure (i := 32) hF rfl rfl rfl rfl (by kernel_rfl) (hM.sm.sub (fun x hx => by repeat (first | exact hx | refine List.mem_cons_of_mem _ ?_)) (fun _ h => by repeat (first | exact h | refine List.mem_cons_of_mem _ ?_))) (fun _ _ _ h => h) ?_ ?_; (first | exact trivial | omega | decide); clear hF a; intro a hF))
    (first | (refine t_pure (i := 33) hF rfl rfl rfl rfl (by kernel_rfl) (hM.sm.sub (fun x hx => by repeat (first | exact hx | refine List.mem_cons_of_mem _ ?_)) (fun _ h => by repeat (first | exact h | refine List.mem_cons_of_mem _ ?_))) (fun _ _ _ h => h) ?_ ?_; (first | exact trivial | omega | decide); clear hF a; intro a hF))
    (first | (refine t_pure (i := 34) hF rfl rfl rfl rfl (by kernel_rfl) (hM.sm.sub (fun x hx => by repeat (first | exact hx | refine List.mem_cons_of_mem _ ?_)) (fun _ h => by repeat (first | exact h | refine List.mem_cons_of_mem _ ?_))) (fun _ _ _ h => h) ?_ ?_; (first | exact trivial | omega | decide); clear hF a; intro a hF))
    (first | (refine t_pure (i := 35) hF rfl rfl rfl rfl (by kernel_rfl) (hM.sm.sub (fun x hx => by repeat (first | exact hx | refine List.mem_cons_of_mem _ ?_)) (fun _ h => by repeat (first | exact h | refine List.mem_cons_of_mem _ ?_))) (fun _ _ _ h => h) ?_ ?_; (first | exact trivial | omega | decide); clear hF a; intro a hF))
    (first | (refine t_pure (i := 36) hF rfl rfl rfl rfl (by kernel_rfl) (hM.sm.sub (fun x hx => by repeat (first | exact hx | refine List.mem_cons_of_mem _ ?_)) (fun _ h => by repeat (first | exact h | refine List.mem_cons_of_mem _ ?_))) (fun _ _ _ h => h) ?_ ?_; (first | exact trivial | omega | decide); clear hF a; intro a hF))
    (first | (refine t_pure (i := 37) hF rfl rfl rfl rfl (by kernel_rfl) (hM.sm.sub (fun x hx => by repeat (first | exact hx | refine List.mem_cons_of_mem _ ?_)) (fun _ h => by repeat (first | exact h | refine List.mem_cons_of_mem _ ?_))) (fun _ _ _ h => h) ?_ ?_; (first | exact trivial | omega | decide); clear hF a; intro a hF))
    refine t_done (by kernel_rfl) ?_
    (repeat (first | (with_reducible refine q_then_n ?_) | (with_reducible refine w_ret ?_)))
    (apply f_ret Try.results13 hF hM; (repeat (first | exact RL.nil | (apply RL.tmp; exact rfl) | (apply RL.cell; exact rfl; (repeat (first | exact List.mem_cons_self | refine List.mem_cons_of_mem _ ?_)); exact rfl))); refine Ret.mk hM.since ?_; dsimp only [resV])
    rfl
end Go.Proofs.Ytonelgecjmpbgaa


/- Layer 29: bounds of what is answered; the laws of Encode and Decode. -/
namespace Go.Proofs.Ytonelgecjmpbgaa
open Go.RowKit Go.Shelf D29
namespace D29
theorem enc_toks {cap : Int} : ∀ {xs : List Dat} {l : List Itm} {t : Tok}, t ∈ (encI cap xs l).2 → t.x = [] ∨ t.x ∈ xs
  | [], _, _, h => by simp [encI] at h
  | x :: r, l, t, h => by
    rw [encI] at h
    rcases List.mem_cons.1 h with rfl | h
    · unfold tokI
      split
      · exact .inl rfl
      · exact .inr List.mem_cons_self
    · rcases enc_toks h with h | h
      · exact .inl h
      · exact .inr (List.mem_cons_of_mem _ h)
theorem ch_len {x : Dat} (h : isCh x = true) : x.length ≤ 4096 := by
  unfold isCh at h
  rw [decide_eq_true_eq] at h
  exact h.2
theorem enc_bd {c : St} {l : Dat} {chunk : Int} {r : List Itm × List Tok} (h : encR c l chunk = .ok r) : SOk ⟨c.cap, r.1⟩ ∧ (∀ t ∈ r.2, t.x.length ≤ 4096) ∧ r.2.length ≤ l.length + 4096 := by
  unfold encR at h
  split at h
  · cases h
  · rename_i hc
    split at h
    · cases h
    · rename_i hk
      injection h with h
      subst h
      have h1 : SOk c := check_ok.1 (by simpa using hc)
      have hch := parts_ch (n := chunk.toNat) (l := l) (by omega) (by omega)
      refine ⟨enc_sok hch h1, ?_, ?_⟩
      · intro t ht
        rcases enc_toks ht with h | h
        · rw [h]; simp
        · exact ch_len (hch _ h)
      · rw [encI_len, parts_num]
        have := Nat.div_le_self (l.length + chunk.toNat - 1) chunk.toNat
        omega
theorem sok_ps {cap : Int} {l : List Itm} {qs : List P} (h : SOk ⟨cap, l⟩) (hq : ims qs = l) : ∀ p ∈ qs, p.1.x.length ≤ 100000 := fun p hp => Nat.le_trans (ch_len (h.its.ch p.1 (by rw [show (⟨cap, l⟩ : St).items = l from rfl, ← hq]; exact List.mem_map.2 ⟨p, hp, rfl⟩))) (by omega)
theorem sok_len {cap : Int} {l : List Itm} (h : SOk ⟨cap, l⟩) : l.length ≤ 4096 := by
  have h1 := h.cap
  have h2 := h.len
  dsimp only at h1 h2
  omega
theorem toks_ps {l : List Tok} {us : List TP} (h : ∀ t ∈ l, t.x.length ≤ 4096) (hq : tms us = l) : ∀ p ∈ us, p.1.x.length ≤ 100000 := fun p hp => Nat.le_trans (h p.1 (by rw [← hq]; exact List.mem_map.2 ⟨p, hp, rfl⟩)) (by omega)
end D29
end Go.Proofs.Ytonelgecjmpbgaa


/- Layer 29: the laws of the stores, and of Missing and Supply. -/
namespace Go.Proofs.Ytonelgecjmpbgaa
open Go.RowKit Go.Shelf D29
namespace D29
theorem ims_x {l : List Itm} {qs : List P} (hq : ims qs = l) {q : Nat} (hl : ∀ i ∈ l, i.x.length ≤ q) : ∀ p ∈ qs, p.1.x.length ≤ q := fun p hp => hl p.1 (by rw [← hq]; exact List.mem_map.2 ⟨p, hp, rfl⟩)
theorem misR_len {c : St} {l : List Tok} : (misR c l).length ≤ l.length := by
  have key : ∀ (ts : List Tok) (k o : List Int), (misI c.cap ts k o).length ≤ o.length + ts.length := by
    intro ts
    induction ts with
    | nil => intro k o; exact Nat.le_refl _
    | cons t r ih =>
      intro k o
      rw [misI]
      split
      · have := ih k o
        simp only [List.length_cons]
        omega
      · have := ih (knw c.cap k (tokD t)) (if t.r = true ∧ tokD t ∉ o then o ++ [tokD t] else o)
        simp only [List.length_cons]
        have hif : (if t.r = true ∧ tokD t ∉ o then o ++ [tokD t] else o).length ≤ o.length + 1 := by
          split
          · rw [List.length_append, List.length_singleton]; exact Nat.le_refl _
          · omega
        omega
  unfold misR
  split
  · have := key l (c.items.map (·.d)) []
    simpa using this
  · simp
end D29
end Go.Proofs.Ytonelgecjmpbgaa


/- Layer 29: the law of mirrors. -/
namespace Go.Proofs.Ytonelgecjmpbgaa
open Go.RowKit Go.Shelf D29
namespace D29
theorem enc_ok {c : St} (h : check c = 0) {n : Nat} (h1 : 1 ≤ n) (h2 : n ≤ 4096) (l : Dat) : encR c l n = .ok (encI c.cap (parts n l) c.items) := by
  unfold encR
  rw [h, if_neg (by simp), if_neg (by omega)]
  rfl
end D29
end Go.Proofs.Ytonelgecjmpbgaa

