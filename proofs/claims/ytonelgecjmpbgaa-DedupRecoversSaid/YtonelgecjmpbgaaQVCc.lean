/- Texts of this seat, one behind the other: Jf Jg Jh Ji Jj Jk Aru Jl Jm J3 Jn. -/
import Derived.ChangeSame
import Derived.Test.YtonelgecjmpbgaaQVCb
set_option linter.unusedSimpArgs false
set_option linter.unusedVariables false
set_option linter.unusedSectionVars false
set_option maxRecDepth 3000
/- dedup: the store as a value. -/
namespace Go.Proofs.Ytonelgecjmpbgaa
open Go.RowKit Go.Shelf D29
namespace D29
/-- Items that are returned: new ones with the same digests and data. -/
def ItR (own : Nat → Prop) (l : List Itm) (a : Option Addr) (c : Nat) (w : World) : Prop := ∃ ps : List P, ims ps = l ∧ DatW ps ∧ Has own w (RdF id a (cellsP ps)) ∧ Has own w (DatF ps) ∧ l.length ≤ c
end D29
set_option maxRecDepth 20000 in
set_option maxHeartbeats 4000000 in
theorem chunks_c (sb mb : Nat) (cp : Int) (its : List P) (ai : Option Addr) (ci : Nat) (hlen : its.length ≤ 100000) (hDW : DatW its) (hch : ∀ p ∈ its, p.1.x.length ≤ 4096) (own : Nat → Prop) (W : World) (hl : ∀ b, own b → b < W.heap.size)
    (h1 : Has own W (BxF sb [.map (some mb), .int .i64 cp, .slice ai its.length ci] 99)) (h2 : Has own W (RdF id ai (cellsP its))) (h3 : Has own W (DatF its)) :
    Calls Try.prog 61 ⟨[.pointer (some ⟨sb, 0, none⟩)]⟩ W (Ret W fun v w' => ∃ a' c', v = .agg #[.int .i64 cp, .slice a' its.length c'] ∧ ItR own (ims its) a' c' w') := by
  have hM := ((((Mm.start hl).known h1).known h2).known h3).nilRow 57 2
  have hw := itC_len its
  refine f_start Try.func61 rfl Try.ntmps61 rfl rfl ?_; intro a hF
  (repeat (first | (with_reducible refine w_seq ?_) | (with_reducible refine c_region ?_) | (with_reducible refine s_nil ?_) | (with_reducible refine q_then_n ?_) | ((with_reducible apply s_pure hF); exact rfl; exact rfl; exact rfl; (first | exact trivial | omega | exact ⟨Int.natCast_nonneg _, Int.ofNat_lt.2 (by assumption)⟩ | decide); clear hF a; intro a hF) | ((with_reducible apply s_loadK hF hM); exact rfl; exact rfl; (repeat (first | exact List.mem_cons_self | refine List.mem_cons_of_mem _ ?_)); exact rfl; exact rfl; clear hF a; intro a hF) | ((with_reducible apply s_store hF hM); exact rfl; exact rfl; exact rfl; exact rfl; (repeat (first | exact Upd.z | apply Upd.s)); exact rfl; exact rfl; exact rfl; clear hM; intro w hM) | ((with_reducible apply s_alloc hF hM); exact rfl; exact rfl; exact rfl; clear hF hM a; intro b w a hM hF) | (with_reducible refine w_block ?_)))
  rename_i b2 _ _
  generalize b = b3 at *
  refine c_loop (m := its.length) (fun m a w' => ∃ (k : Nat) (rv : Value) (ps : List P), m + k = its.length ∧ ps.length = k ∧ ims ps = ims (its.take k) ∧ DatW ps ∧
    Fr 33 [] [(16, .int .i64 k), (15, .int .i64 its.length), (14, .slice ai its.length ci), (3, .pointer (some ⟨b3, 0, none⟩)), (2, .pointer (some ⟨b2, 0, none⟩))] a ∧
    Mm own W [⟨b3, ⟨[.int .i64 cp, rv]⟩, 24⟩, ⟨b2, ⟨[.int .i64 0, .slice none 0 0]⟩, 24⟩] [⟨57, 2, rv, k, cellsP ps⟩] [DatF ps, DatF its, RdF id ai (cellsP its)] w')
    ⟨0, _, [], by omega, rfl, rfl, fun p hp => by simp at hp, hF.sub (by repeat (first | exact Sub.nil | refine Sub.cons rfl (by first | with_reducible rfl | (refine congrArg (Value.int _) ?_; omega) | exact rfl) ?_)), (hM.addFact (f := DatF []) (Has.pure fun _ p hp => by simp at hp)).sub (.refl _) (.refl _) (fun f hf => by simp only [List.mem_cons] at hf ⊢; rcases hf with h | h | h | h <;> simp_all)⟩ ?_
  clear hF hM a
  rintro m a w' ⟨k, rv, ps, hm, hpl, hip, hpw, hF, hM⟩
  by_cases hk : k < its.length
  · obtain ⟨p, hp⟩ := get_of_lt hk
    have hpm := List.mem_of_getElem? hp
    obtain ⟨hp8, hpc, hpb⟩ := hDW p hpm
    have hp4 := hch p hpm
    have hpe : (its.map itC)[k]? = some [.int .u64 p.1.d, .slice p.2.1 p.1.x.length p.2.2] := by rw [List.getElem?_map, hp]; rfl
    obtain ⟨ad, rfl⟩ : ∃ ad, ai = some ad := rd_some hM (enc := id) (a := ai) (xs := cellsP its) (by (repeat (first | exact List.mem_cons_self | refine List.mem_cons_of_mem _ ?_))) (flat_get (q := 0) hw hpe rfl)
    have hki : ims (its.take (k + 1)) = ims (its.take k) ++ [p.1] := by
      rw [List.take_add_one, hp]
      simp [ims]
    unfold cellsP at hM
    (repeat' (first | (with_reducible refine w_seq ?_) | (with_reducible refine c_region ?_) | (with_reducible refine s_nil ?_) | ((with_reducible apply s_loadE hF hM); exact rfl; exact rfl; (repeat (first | exact List.mem_cons_self | refine List.mem_cons_of_mem _ ?_)); exact rfl; exact rfl; (first | with_reducible assumption | (simp only [Int.toNat_natCast]; with_reducible assumption)); (with_reducible assumption); clear hF a; intro a hF) | (with_reducible refine q_then_n ?_) | ((with_reducible apply s_pure hF); exact rfl; exact rfl; exact rfl; (first | exact trivial | omega | exact ⟨Int.natCast_nonneg _, Int.ofNat_lt.2 (by assumption)⟩ | decide); clear hF a; intro a hF) | ((with_reducible apply s_store hF hM); exact rfl; exact rfl; exact rfl; exact rfl; (repeat (first | exact Upd.z | apply Upd.s)); exact rfl; exact rfl; exact rfl; clear hM; intro w hM) | ((with_reducible apply s_alloc hF hM); exact rfl; exact rfl; exact rfl; clear hF hM a; intro b w a hM hF) | (with_reducible refine w_skip ?_) | (with_reducible refine w_block ?_) | ((with_reducible apply c_dec hF); exact rfl; all_goals intro hc; all_goals (try (exfalso; omega)))))
    refine c_draw (fun i => Nat.ble 11 i) hM ?_; clear hM; intro w hM
    (first | (refine t_pure (i := 0) hF rfl rfl rfl rfl (by kernel_rfl) hM.sm (fun _ _ _ h => h) ?_ ?_; (first | exact trivial | omega | decide); clear hF a; intro a hF))
    (first | (apply t_load (i := 1) hF rfl rfl rfl; (repeat (first | exact List.mem_cons_self | refine List.mem_cons_of_mem _ ?_)); exact rfl; exact rfl; kernel_rfl; exact hM.sm; exact (fun _ _ _ h => h); clear hF a; intro a hF))
    (first | (refine t_pure (i := 2) hF rfl rfl rfl rfl (by kernel_rfl) hM.sm (fun _ _ _ h => h) ?_ ?_; (first | exact trivial | omega | decide); clear hF a; intro a hF))
    (first | (apply t_load (i := 3) hF rfl rfl rfl; (repeat (first | exact List.mem_cons_self | refine List.mem_cons_of_mem _ ?_)); exact rfl; exact rfl; kernel_rfl; exact hM.sm; exact (fun _ _ _ h => h); clear hF a; intro a hF))
    (first | (refine t_pure (i := 4) hF rfl rfl rfl rfl (by kernel_rfl) hM.sm (fun _ _ _ h => h) ?_ ?_; (first | exact trivial | omega | decide); clear hF a; intro a hF))
    (first | (apply t_load (i := 5) hF rfl rfl rfl; (repeat (first | exact List.mem_cons_self | refine List.mem_cons_of_mem _ ?_)); exact rfl; exact rfl; kernel_rfl; exact hM.sm; exact (fun _ _ _ h => h); clear hF a; intro a hF))
    refine t_one (i := 6) hF rfl (by kernel_rfl) rfl ?_
    intro K hK
    (apply x_callO hF; exact rfl; exact rfl; exact rfl; exact rfl; exact (sclone_c p.1.x hp8 p.2.1 p.2.2 _ rfl (by omega) _ _ hM.lt (dat_one (hM.facts (DatF its) (by (repeat (first | exact List.mem_cons_self | refine List.mem_cons_of_mem _ ?_)))) hpm)); clear hF a; rintro v wn a ⟨a2, c2, rfl, hO⟩ hS hF; replace hM := hM.addRows hS hO; clear hS hO; dsimp only [List.cons_append, List.nil_append] at hM)
    (obtain ⟨ao', c', e0, hcc, -⟩ := OffR.shape hM (k := 0) rfl (OffR.plain hM List.mem_cons_self)); replace hM := hM.freezeN
    refine hK _ _ (fun _ => (hM.sm.sub (fun x hx => by repeat (first | exact hx | refine List.mem_cons_of_mem _ ?_)) (fun _ h => by repeat (first | exact h | refine List.mem_cons_of_mem _ ?_)))) ?_; clear hK
    (first | (refine t_pure (i := 7) hF rfl rfl rfl rfl (by kernel_rfl) (hM.sm.sub (fun x hx => by repeat (first | exact hx | refine List.mem_cons_of_mem _ ?_)) (fun _ h => by repeat (first | exact h | refine List.mem_cons_of_mem _ ?_))) (fun _ _ _ h => h) ?_ ?_; (first | exact trivial | omega | decide); clear hF a; intro a hF))
    refine t_one (i := 8) hF rfl (by kernel_rfl) rfl ?_
    intro K hK
    (refine x_lit hF hM rfl rfl rfl ?_; clear hF hM a; intro bl w a hM hF)
    refine hK _ _ (fun _ => (hM.sm.sub (fun x hx => by repeat (first | exact hx | refine List.mem_cons_of_mem _ ?_)) (fun _ h => by repeat (first | exact h | refine List.mem_cons_of_mem _ ?_)))) ?_; clear hK
    refine t_one (i := 9) hF rfl (by kernel_rfl) rfl ?_
    intro K hK
    (apply x_app hF hM rfl rfl rfl; (repeat (first | exact List.mem_cons_self | refine List.mem_cons_of_mem _ ?_)); (repeat (first | exact Kth.z | apply Kth.s)); exact rfl; exact rfl; exact rfl; exact rfl; omega; clear hF hM a; intro g cap w a hM hF; dsimp only [List.set] at hM)
    refine hK _ _ (fun _ => (hM.sm.sub (fun x hx => by repeat (first | exact hx | refine List.mem_cons_of_mem _ ?_)) (fun _ h => by repeat (first | exact h | refine List.mem_cons_of_mem _ ?_)))) ?_; clear hK
    (first | (refine t_pure (i := 10) hF rfl rfl rfl rfl (by kernel_rfl) (hM.sm.sub (fun x hx => by repeat (first | exact hx | refine List.mem_cons_of_mem _ ?_)) (fun _ h => by repeat (first | exact h | refine List.mem_cons_of_mem _ ?_))) (fun _ _ _ h => h) ?_ ?_; (first | exact trivial | omega | decide); clear hF a; intro a hF))
    refine t_one (i := 11) hF rfl (by kernel_rfl) rfl ?_
    intro K hK
    (apply x_store hF hM rfl rfl rfl; (repeat (first | exact Upd.z | apply Upd.s)); exact rfl; exact rfl; exact rfl; clear hF hM a; intro w a hM hF)
    refine hK _ _ (fun h => by cases h) ?_; clear hK
    refine t_done (by kernel_rfl) ?_
    (repeat' (first | (with_reducible refine c_region ?_) | (with_reducible refine s_nil ?_) | (with_reducible refine q_then_n ?_) | ((with_reducible apply s_pure hF); exact rfl; exact rfl; exact rfl; (first | exact trivial | omega | exact ⟨Int.natCast_nonneg _, Int.ofNat_lt.2 (by assumption)⟩ | decide); clear hF a; intro a hF) | (with_reducible refine q_blk_n ?_)))
    injection e0 with q1 q2 q3
    have hD := ((hM.facts (DatF ps) (by (repeat (first | exact List.mem_cons_self | refine List.mem_cons_of_mem _ ?_)))).and (hM.facts (RdF (Value.int .u8) a2 p.1.x.flatten) (by (repeat (first | exact List.mem_cons_self | refine List.mem_cons_of_mem _ ?_))))).imp (g := DatF (ps ++ [(p.1, a2, c2)])) fun w h q hq => by
      rcases List.mem_append.1 hq with hq | hq
      · exact h.1 q hq
      · rw [List.mem_singleton] at hq
        rw [hq]
        exact h.2
    refine ⟨m - 1, by omega, k + 1, .slice (some ⟨g, 0, none⟩) (k + 1) cap, ps ++ [(p.1, a2, c2)], by omega, by simp; omega, ?_, ?_, hF.sub (by repeat (first | exact Sub.nil | refine Sub.cons rfl (by first | with_reducible rfl | (refine congrArg (Value.int _) ?_; omega) | exact rfl) ?_)), ?_⟩
    · rw [hki, ← hip]
      simp [ims]
    · intro q hq
      rcases List.mem_append.1 hq with hq | hq
      · exact hpw q hq
      · rw [List.mem_singleton] at hq
        rw [hq]
        exact ⟨hp8, by show p.1.x.length ≤ c2; omega, hpb⟩
    · rw [cellsP_app]
      exact (hM.addFact hD).sub (.cons _ (.cons _ (.refl _))) (.refl _) (fun f hf => by simp only [List.mem_cons] at hf ⊢; rcases hf with h | h | h | h <;> simp_all [cellsP])
  · obtain rfl : k = its.length := by omega
    rw [List.take_length] at hip
    have hpl := OffR.plain hM List.mem_cons_self
    obtain ⟨a', c', rfl, hc', -⟩ := OffR.shape hM (k := 0) rfl hpl
    (repeat' (first | (with_reducible refine w_seq ?_) | (with_reducible refine c_region ?_) | (with_reducible refine s_nil ?_) | (with_reducible refine q_then_n ?_) | ((with_reducible apply s_pure hF); exact rfl; exact rfl; exact rfl; (first | exact trivial | omega | exact ⟨Int.natCast_nonneg _, Int.ofNat_lt.2 (by assumption)⟩ | decide); clear hF a; intro a hF) | ((with_reducible apply s_load hF hM); exact rfl; exact rfl; (repeat (first | exact List.mem_cons_self | refine List.mem_cons_of_mem _ ?_)); exact rfl; exact rfl; clear hF a; intro a hF) | ((with_reducible apply s_store hF hM); exact rfl; exact rfl; exact rfl; exact rfl; (repeat (first | exact Upd.z | apply Upd.s)); exact rfl; exact rfl; exact rfl; clear hM; intro w hM) | (with_reducible refine w_exit ?_) | (with_reducible refine w_ret ?_) | (with_reducible refine q_then_x ?_) | (with_reducible refine q_blk_x ?_) | ((with_reducible apply c_false2 hF); exact rfl; (first | with_reducible rfl | (refine congrArg Value.bool ?_; focus (simp; done))))))
    (apply f_ret Try.results61 hF hM; (repeat (first | exact RL.nil | (apply RL.tmp; exact rfl) | (apply RL.cell; exact rfl; (repeat (first | exact List.mem_cons_self | refine List.mem_cons_of_mem _ ?_)); exact rfl))); refine Ret.mk hM.since ?_; dsimp only [resV])
    exact ⟨a', c', rfl, ps, hip, hpw, OffR.fact (enc := id) hM (k := 0) rfl (by rw [List.map_id]; exact hpl), hM.factOut (by (repeat (first | exact List.mem_cons_self | refine List.mem_cons_of_mem _ ?_))), by rw [ims_len]; exact hc'⟩
end Go.Proofs.Ytonelgecjmpbgaa


/- dedup: a store is opened. -/
namespace Go.Proofs.Ytonelgecjmpbgaa
open Go.RowKit Go.Shelf D29
namespace D29
theorem chkL_step {pre r : List Itm} {i : Itm} (h1 : isCh i.x = true) (h2 : i.d = dg i.x) (h3 : hasD pre i.x = false) : chkL pre (i :: r) = chkL (pre ++ [i]) r := by
  rw [chkL, h1, if_neg (by simp), if_neg (by simp [h2]), h3]
  simp
theorem dat_push {own : Nat → Prop} {w0 w : World} {bs : List BoxE} {L : List Ent} {G : World → Prop} {Fs : List (World → Prop)} {a2 : Option Addr} {c2 n : Nat} {x : Dat} {its : List P} (hM : Mm own w0 bs (⟨44, 8, .slice a2 n c2, n, x.flatten.map (Value.int .u8)⟩ :: L) (G :: DatF its :: Fs) w) (p : P) (h1 : p.1.x = x) (h2 : p.2.1 = a2) : Mm own w0 bs L (G :: DatF (its ++ [p]) :: Fs) w ∧ n ≤ c2 := by
  obtain ⟨ao', c', e0, hcc, -⟩ := OffR.shape hM (k := 0) rfl (OffR.plain hM List.mem_cons_self)
  injection e0 with q1 q2 q3
  have hM2 := hM.freezeN
  have hD := ((hM2.facts (DatF its) (by simp)).and (hM2.facts (RdF (Value.int .u8) a2 x.flatten) List.mem_cons_self)).imp (g := DatF (its ++ [p])) fun w h q hq => by
    rcases List.mem_append.1 hq with hq | hq
    · exact h.1 q hq
    · rw [List.mem_singleton] at hq
      rw [hq, h1, h2]
      exact h.2
  exact ⟨(hM2.addFact hD).sub (.refl _) (.refl _) (fun f hf => by simp only [List.mem_cons] at hf ⊢; rcases hf with h | h | h <;> simp [h]), by omega⟩
end D29
section
variable (cp : Int) (ps : List P) (a0 : Option Addr) (c0 n : Nat) (hn : ps.length = n) (hlen : n ≤ 100000) (hDW : DatW ps) (hpx : ∀ p ∈ ps, p.1.x.length ≤ 100000) {own : Nat → Prop} {w0 W : World} {bs : List BoxE} {L1 : List Ent} {Fs : List (World → Prop)} (hcf : ∀ f ∈ Fs, ∀ b, Nb b f)
  (hM : Mm own w0 bs L1 (RdF id a0 (cellsP ps) :: DatF ps :: Fs) W)
include hn hlen hDW hpx hcf hM
set_option maxRecDepth 20000 in
set_option maxHeartbeats 4000000 in
theorem open_bad (he : cp < 1 ∨ 4096 < cp ∨ cp < n) : Calls Try.prog 55 ⟨[.agg #[.int .i64 cp, .slice a0 n c0]]⟩ W (Rtn fun v w' => v = .tuple #[.pointer none, .int .i64 (check ⟨cp, ims ps⟩)] ∧ Mm own w0 bs L1 (RdF id a0 (cellsP ps) :: DatF ps :: Fs) w') := by
  refine f_start Try.func55 rfl Try.ntmps55 rfl rfl ?_; intro a hF
  unfold check
  dsimp only
  rw [ims_len, hn]
  by_cases h1 : cp < 1 ∨ 4096 < cp
  · rw [if_pos h1]
    (repeat' (first | (with_reducible refine w_seq ?_) | (with_reducible refine c_region ?_) | (with_reducible refine s_nil ?_) | (with_reducible refine q_then_n ?_) | ((with_reducible apply s_pure hF); exact rfl; exact rfl; exact rfl; (first | exact trivial | omega | exact ⟨Int.natCast_nonneg _, Int.ofNat_lt.2 (by assumption)⟩ | decide); clear hF a; intro a hF) | ((with_reducible apply s_load hF hM); exact rfl; exact rfl; (repeat (first | exact List.mem_cons_self | refine List.mem_cons_of_mem _ ?_)); exact rfl; exact rfl; clear hF a; intro a hF) | ((with_reducible apply s_box hF hM); exact rfl; exact rfl; exact rfl; exact rfl; clear hF hM a; intro b w a hM hF) | (with_reducible refine w_block ?_) | (with_reducible refine w_ret ?_) | (with_reducible refine q_then_r ?_) | (with_reducible refine q_blk_r ?_) | ((with_reducible apply c_true2 hF); exact rfl; (first | with_reducible rfl | (refine congrArg Value.bool ?_; focus (simp; done)))) | ((with_reducible apply s_skip hF); exact rfl; exact rfl; clear hF a; intro a hF) | ((fail_if_success ((with_reducible refine g_known true hF ?_ ?_); focus exact rfl)); (fail_if_success ((with_reducible refine g_known false hF ?_ ?_); focus exact rfl)); (with_reducible apply g_dec hF); exact rfl; exact rfl; all_goals (clear hF; intro hc hF); all_goals (try (exfalso; omega))) | ((with_reducible apply c_dec hF); exact rfl; all_goals intro hc; all_goals (try (exfalso; omega)))))
    all_goals (apply f_ret Try.results55 hF hM; (repeat (first | exact RL.nil | (apply RL.tmp; exact rfl) | (apply RL.cell; exact rfl; (repeat (first | exact List.mem_cons_self | refine List.mem_cons_of_mem _ ?_)); exact rfl))); refine Both.mk ?_; try dsimp only [resV])
    all_goals exact ⟨rfl, hM.sub (.cons _ (.refl _)) (.refl _) (fun _ h => h)⟩
  · rw [if_neg h1, if_pos (by omega)]
    (repeat' (first | (with_reducible refine w_seq ?_) | (with_reducible refine c_region ?_) | (with_reducible refine s_nil ?_) | (with_reducible refine q_then_n ?_) | ((with_reducible apply s_pure hF); exact rfl; exact rfl; exact rfl; (first | exact trivial | omega | exact ⟨Int.natCast_nonneg _, Int.ofNat_lt.2 (by assumption)⟩ | decide); clear hF a; intro a hF) | ((with_reducible apply s_load hF hM); exact rfl; exact rfl; (repeat (first | exact List.mem_cons_self | refine List.mem_cons_of_mem _ ?_)); exact rfl; exact rfl; clear hF a; intro a hF) | ((with_reducible apply s_box hF hM); exact rfl; exact rfl; exact rfl; exact rfl; clear hF hM a; intro b w a hM hF) | (with_reducible refine w_block ?_) | (with_reducible refine w_ret ?_) | (with_reducible refine q_then_r ?_) | (with_reducible refine q_blk_r ?_) | ((fail_if_success ((with_reducible refine g_known true hF ?_ ?_); focus exact rfl)); (fail_if_success ((with_reducible refine g_known false hF ?_ ?_); focus exact rfl)); (with_reducible apply g_dec hF); exact rfl; exact rfl; all_goals (clear hF; intro hc hF); all_goals (try (exfalso; omega))) | ((with_reducible apply c_dec hF); exact rfl; all_goals intro hc; all_goals (try (exfalso; omega)))))
    all_goals (apply f_ret Try.results55 hF hM; (repeat (first | exact RL.nil | (apply RL.tmp; exact rfl) | (apply RL.cell; exact rfl; (repeat (first | exact List.mem_cons_self | refine List.mem_cons_of_mem _ ?_)); exact rfl))); refine Both.mk ?_; try dsimp only [resV])
    all_goals exact ⟨rfl, hM.sub (.cons _ (.refl _)) (.refl _) (fun _ h => h)⟩
set_option maxRecDepth 20000 in
set_option maxHeartbeats 8000000 in
theorem open_c (h1 : 1 ≤ cp ∧ cp ≤ 4096) (h2 : (n : Int) ≤ cp) : Calls Try.prog 55 ⟨[.agg #[.int .i64 cp, .slice a0 n c0]]⟩ W (Rtn fun v w' =>
    (chkL [] (ims ps) ≠ 0 ∧ v = .tuple #[.pointer none, .int .i64 (chkL [] (ims ps))] ∧ Mm own w0 bs L1 (RdF id a0 (cellsP ps) :: DatF ps :: Fs) w') ∨
    (chkL [] (ims ps) = 0 ∧ ∃ (sb mb : Nat) (its : List P) (iv : Value) (eI : Ent) (E : List TE), v = .tuple #[.pointer (some ⟨sb, 0, none⟩), .int .i64 0] ∧ ims its = ims ps ∧ StI its iv eI E ∧ w0.heap.size ≤ mb ∧
      Mm own w0 (stB sb mb cp iv :: bs) (eI :: (L1 ++ rowsT E)) (MpE (Value.int .u64) mb (esE E) :: DatF its :: RdF id a0 (cellsP ps) :: DatF ps :: Fs) w')) := by
  have hw := itC_len ps
  refine f_start Try.func55 rfl Try.ntmps55 rfl rfl ?_; intro a hF
  (repeat' (first | (with_reducible refine w_seq ?_) | (with_reducible refine c_region ?_) | (with_reducible refine s_nil ?_) | (with_reducible refine q_then_n ?_) | ((with_reducible apply s_pure hF); exact rfl; exact rfl; exact rfl; (first | exact trivial | omega | exact ⟨Int.natCast_nonneg _, Int.ofNat_lt.2 (by assumption)⟩ | decide); clear hF a; intro a hF) | ((with_reducible apply s_load hF hM); exact rfl; exact rfl; (repeat (first | exact List.mem_cons_self | refine List.mem_cons_of_mem _ ?_)); exact rfl; exact rfl; clear hF a; intro a hF) | ((with_reducible apply s_box hF hM); exact rfl; exact rfl; exact rfl; exact rfl; clear hF hM a; intro b w a hM hF) | (with_reducible refine w_skip ?_) | (with_reducible refine w_block ?_) | (with_reducible refine q_blk_n ?_) | ((fail_if_success ((with_reducible refine g_known true hF ?_ ?_); focus exact rfl)); (fail_if_success ((with_reducible refine g_known false hF ?_ ?_); focus exact rfl)); (with_reducible apply g_dec hF); exact rfl; exact rfl; all_goals (clear hF; intro hc hF); all_goals (try (exfalso; omega))) | ((with_reducible apply c_dec hF); exact rfl; all_goals intro hc; all_goals (try (exfalso; omega)))))
  refine s_makeMapE (α := Int) (ek := Value.int .u64) hF hM rfl rfl ?_
  clear hF hM a
  intro mb w a hmb hM hF
  generalize b = b1 at *
  (repeat (first | (with_reducible refine w_seq ?_) | (with_reducible refine c_region ?_) | (with_reducible refine s_nil ?_) | (with_reducible refine q_then_n ?_) | ((with_reducible apply s_pure hF); exact rfl; exact rfl; exact rfl; (first | exact trivial | omega | exact ⟨Int.natCast_nonneg _, Int.ofNat_lt.2 (by assumption)⟩ | decide); clear hF a; intro a hF) | ((with_reducible apply s_load hF hM); exact rfl; exact rfl; (repeat (first | exact List.mem_cons_self | refine List.mem_cons_of_mem _ ?_)); exact rfl; exact rfl; clear hF a; intro a hF) | ((with_reducible apply s_box hF hM); exact rfl; exact rfl; exact rfl; exact rfl; clear hF hM a; intro b w a hM hF) | (with_reducible refine w_block ?_)))
  generalize b = sb at *
  have hcfa : ∀ (l : List P), ∀ f ∈ DatF l :: RdF id a0 (cellsP ps) :: DatF ps :: Fs, Nb mb f := by
    intro l f hf
    simp only [List.mem_cons] at hf
    rcases hf with rfl | rfl | rfl | hf
    · exact Nb.dat
    · exact Nb.rd
    · exact Nb.dat
    · exact hcf f hf mb
  have eL : L1 ++ rowsT [] = L1 := by simp [rowsT]
  refine c_loop (m := n) (fun m a w' => ∃ (k : Nat) (its : List P) (iv : Value) (eI : Ent) (E : List TE), m + k = n ∧ its.length = k ∧ ims its = ims (ps.take k) ∧ StI its iv eI E ∧ chkL [] (ims ps) = chkL (ims its) (ims (ps.drop k)) ∧
    Fr 64 [] [(31, .int .i64 k), (30, .int .i64 n), (29, .slice a0 n c0), (4, .pointer (some ⟨sb, 0, none⟩))] a ∧
    Mm own w0 (stB sb mb cp iv :: ⟨b1, ⟨[.int .i64 cp, .slice a0 n c0]⟩, 24⟩ :: bs) (eI :: (L1 ++ rowsT E)) (MpE (Value.int .u64) mb (esE E) :: DatF its :: RdF id a0 (cellsP ps) :: DatF ps :: Fs) w')
    ⟨0, [], .slice none 0 0, ⟨57, 2, .slice none 0 0, 0, []⟩, [], by omega, rfl, rfl, ⟨OffR.nil, fun t ht => by simp at ht, tab_nil, fun p hp => by simp at hp, fun p hp => by simp at hp⟩, rfl, hF.sub (by repeat (first | exact Sub.nil | refine Sub.cons rfl (by first | with_reducible rfl | (refine congrArg (Value.int _) ?_; omega) | exact rfl) ?_)), by
      rw [eL]
      exact ((hM.nilRow 57 2).addFact (f := DatF []) (Has.pure fun _ p hp => by simp at hp)).sub (.refl _) (.refl _) (fun f hf => by simp only [List.mem_cons] at hf ⊢; rcases hf with h | h | h | h | h <;> simp_all [esE])⟩ ?_
  clear hF hM a
  rintro m a w' ⟨k, its, iv, eI, E, hm, hil, him, hS, hck, hF, hM⟩
  by_cases hk : k < n
  · obtain ⟨p, hp⟩ := get_of_lt (l := ps) (i := k) (by omega)
    have hpm := List.mem_of_getElem? hp
    obtain ⟨hp8, hpc, hpb⟩ := hDW p hpm
    have hp4 := hpx p hpm
    have hpe : (ps.map itC)[k]? = some [.int .u64 p.1.d, .slice p.2.1 p.1.x.length p.2.2] := by rw [List.getElem?_map, hp]; rfl
    obtain ⟨ad, rfl⟩ : ∃ ad, a0 = some ad := rd_some hM (enc := id) (a := a0) (xs := cellsP ps) (by (repeat (first | exact List.mem_cons_self | refine List.mem_cons_of_mem _ ?_))) (flat_get (q := 0) hw hpe rfl)
    have hdr : ims (ps.drop k) = p.1 :: ims (ps.drop (k + 1)) := by
      obtain ⟨hlt, e⟩ := List.getElem?_eq_some_iff.1 hp
      rw [List.drop_eq_getElem_cons hlt, e]
      rfl
    rw [hdr] at hck
    have hcp : cellsP ps = (ps.map itC).flatten := rfl
    rw [hcp] at hM
    (repeat' (first | (with_reducible refine w_seq ?_) | (with_reducible refine c_region ?_) | (with_reducible refine s_nil ?_) | ((with_reducible apply s_loadE hF hM); exact rfl; exact rfl; (repeat (first | exact List.mem_cons_self | refine List.mem_cons_of_mem _ ?_)); exact rfl; exact rfl; (first | with_reducible assumption | (simp only [Int.toNat_natCast]; with_reducible assumption)); (with_reducible assumption); clear hF a; intro a hF) | (with_reducible refine q_then_n ?_) | ((with_reducible apply s_pure hF); exact rfl; exact rfl; exact rfl; (first | exact trivial | omega | exact ⟨Int.natCast_nonneg _, Int.ofNat_lt.2 (by assumption)⟩ | decide); clear hF a; intro a hF) | ((with_reducible apply s_load hF hM); exact rfl; exact rfl; (repeat (first | exact List.mem_cons_self | refine List.mem_cons_of_mem _ ?_)); exact rfl; exact rfl; clear hF a; intro a hF) | ((with_reducible apply s_store hF hM); exact rfl; exact rfl; exact rfl; exact rfl; (repeat (first | exact Upd.z | apply Upd.s)); exact rfl; exact rfl; exact rfl; clear hM; intro w hM) | ((with_reducible apply s_alloc hF hM); exact rfl; exact rfl; exact rfl; clear hF hM a; intro b w a hM hF) | (with_reducible refine w_skip ?_) | (with_reducible refine w_block ?_) | ((with_reducible apply c_dec hF); exact rfl; all_goals intro hc; all_goals (try (exfalso; omega)))))
    generalize b = b6 at *
    (((with_reducible apply s_call (f := 73) hF hM); exact rfl; exact rfl; exact rfl; exact rfl; exact rfl; exact (isChunk_c p.1.x p.2.1 p.2.2 _ rfl _ _ hM.lt); clear hF hM a; rintro v w a rfl - hM hF))
    by_cases hch : isCh p.1.x = true
    case neg =>
      rw [Bool.not_eq_true] at hch
      rw [hch] at hF
      have he : chkL [] (ims ps) = 3 := by rw [hck, chkL, hch]; rfl
      (repeat' (first | (with_reducible refine w_seq ?_) | (with_reducible refine c_region ?_) | (with_reducible refine s_nil ?_) | (with_reducible refine q_then_n ?_) | ((with_reducible apply s_pure hF); exact rfl; exact rfl; exact rfl; (first | exact trivial | omega | exact ⟨Int.natCast_nonneg _, Int.ofNat_lt.2 (by assumption)⟩ | decide); clear hF a; intro a hF) | (with_reducible refine w_ret ?_) | (with_reducible refine q_then_r ?_) | (with_reducible refine q_blk_r ?_) | ((with_reducible apply c_true2 hF); exact rfl; (first | with_reducible rfl | (refine congrArg Value.bool ?_; focus (simp; done))))))
      (apply f_ret Try.results55 hF hM; (repeat (first | exact RL.nil | (apply RL.tmp; exact rfl) | (apply RL.cell; exact rfl; (repeat (first | exact List.mem_cons_self | refine List.mem_cons_of_mem _ ?_)); exact rfl))); refine Both.mk ?_; try dsimp only [resV])
      rw [he]
      exact .inl ⟨by decide, rfl, hM.sub (.cons _ (.cons _ (.cons _ (.refl _)))) (.cons _ (List.sublist_append_left _ _)) (fun f hf => List.mem_cons_of_mem _ (List.mem_cons_of_mem _ hf))⟩
    rw [hch] at hF
    (repeat' (first | (with_reducible refine w_seq ?_) | (with_reducible refine s_nil ?_) | (with_reducible refine q_then_n ?_) | ((with_reducible apply s_pure hF); exact rfl; exact rfl; exact rfl; (first | exact trivial | omega | exact ⟨Int.natCast_nonneg _, Int.ofNat_lt.2 (by assumption)⟩ | decide); clear hF a; intro a hF) | ((with_reducible apply c_false2 hF); exact rfl; (first | with_reducible rfl | (refine congrArg Value.bool ?_; focus (simp; done))))))
    refine c_draw (fun i => Nat.ble 7 i) hM ?_; clear hM; intro w hM
    (first | (refine t_pure (i := 0) hF rfl rfl rfl rfl (by kernel_rfl) hM.sm (fun _ _ _ h => h) ?_ ?_; (first | exact trivial | omega | decide); clear hF a; intro a hF))
    (first | (apply t_load (i := 1) hF rfl rfl rfl; (repeat (first | exact List.mem_cons_self | refine List.mem_cons_of_mem _ ?_)); exact rfl; exact rfl; kernel_rfl; exact hM.sm; exact (fun _ _ _ h => h); clear hF a; intro a hF))
    (first | (refine t_pure (i := 2) hF rfl rfl rfl rfl (by kernel_rfl) hM.sm (fun _ _ _ h => h) ?_ ?_; (first | exact trivial | omega | decide); clear hF a; intro a hF))
    (first | (apply t_load (i := 3) hF rfl rfl rfl; (repeat (first | exact List.mem_cons_self | refine List.mem_cons_of_mem _ ?_)); exact rfl; exact rfl; kernel_rfl; exact hM.sm; exact (fun _ _ _ h => h); clear hF a; intro a hF))
    refine t_one (i := 4) hF rfl (by kernel_rfl) rfl ?_
    intro K hK
    (apply x_call hF hM; exact rfl; exact rfl; exact rfl; exact rfl; exact (sectors_c p.1.x hp8 (by omega) p.2.1 p.2.2 _ rfl _ _ hM.lt (dat_one (hM.facts (DatF ps) (by (repeat (first | exact List.mem_cons_self | refine List.mem_cons_of_mem _ ?_)))) hpm)); clear hF hM a; rintro v w a rfl - hM hF)
    refine hK _ _ (fun _ => hM.sm) ?_; clear hK
    (first | (refine t_pure (i := 5) hF rfl rfl rfl rfl (by kernel_rfl) hM.sm (fun _ _ _ h => h) ?_ ?_; (first | exact trivial | omega | decide); clear hF a; intro a hF))
    (first | (refine t_pure (i := 6) hF rfl rfl rfl rfl (by kernel_rfl) hM.sm (fun _ _ _ h => h) ?_ ?_; (first | exact trivial | omega | decide); clear hF a; intro a hF))
    refine t_done (by kernel_rfl) ?_
    by_cases hdg : p.1.d = dg p.1.x
    case neg =>
      have he : chkL [] (ims ps) = 22 := by rw [hck, chkL, hch, if_neg (by simp), if_pos hdg]
      rw [decide_eq_true hdg] at hF
      (repeat' (first | (with_reducible refine w_seq ?_) | (with_reducible refine c_region ?_) | (with_reducible refine s_nil ?_) | (with_reducible refine q_then_n ?_) | ((with_reducible apply s_pure hF); exact rfl; exact rfl; exact rfl; (first | exact trivial | omega | exact ⟨Int.natCast_nonneg _, Int.ofNat_lt.2 (by assumption)⟩ | decide); clear hF a; intro a hF) | (with_reducible refine w_ret ?_) | (with_reducible refine q_then_r ?_) | (with_reducible refine q_blk_r ?_) | ((with_reducible apply c_true2 hF); exact rfl; (first | with_reducible rfl | (refine congrArg Value.bool ?_; focus (simp; done))))))
      (apply f_ret Try.results55 hF hM; (repeat (first | exact RL.nil | (apply RL.tmp; exact rfl) | (apply RL.cell; exact rfl; (repeat (first | exact List.mem_cons_self | refine List.mem_cons_of_mem _ ?_)); exact rfl))); refine Both.mk ?_; try dsimp only [resV])
      rw [he]
      exact .inl ⟨by decide, rfl, hM.sub (.cons _ (.cons _ (.cons _ (.refl _)))) (.cons _ (List.sublist_append_left _ _)) (fun f hf => List.mem_cons_of_mem _ (List.mem_cons_of_mem _ hf))⟩
    rw [decide_eq_false (fun h => h hdg)] at hF
    have hlk := look_sub hS.tab p.1.d
    have hlk2 : (lookE p.1.d E).length ≤ 100000 := by
      rw [hS.tab]
      exact Nat.le_trans (List.length_filter_le _ _) (by omega)
    have hhas := tab_has hS.tab hS.dg p.1.x
    rw [← hdg] at hhas
    (repeat' (first | (with_reducible refine w_seq ?_) | (with_reducible refine q_then_n ?_) | ((with_reducible apply c_false2 hF); exact rfl; (first | with_reducible rfl | (refine congrArg Value.bool ?_; focus (simp; done))))))
    refine c_draw (fun i => Nat.ble 7 i) hM ?_; clear hM; intro w hM
    (first | (refine t_pure (i := 0) hF rfl rfl rfl rfl (by kernel_rfl) hM.sm (fun _ _ _ h => h) ?_ ?_; (first | exact trivial | omega | decide); clear hF a; intro a hF))
    (first | (refine t_pure (i := 1) hF rfl rfl rfl rfl (by kernel_rfl) hM.sm (fun _ _ _ h => h) ?_ ?_; (first | exact trivial | omega | decide); clear hF a; intro a hF))
    (first | (refine t_pure (i := 2) hF rfl rfl rfl rfl (by kernel_rfl) hM.sm (fun _ _ _ h => h) ?_ ?_; (first | exact trivial | omega | decide); clear hF a; intro a hF))
    (first | (apply t_load (i := 3) hF rfl rfl rfl; (repeat (first | exact List.mem_cons_self | refine List.mem_cons_of_mem _ ?_)); exact rfl; exact rfl; kernel_rfl; exact hM.sm; exact (fun _ _ _ h => h); clear hF a; intro a hF))
    (first | (apply t_load (i := 4) hF rfl rfl rfl; (repeat (first | exact List.mem_cons_self | refine List.mem_cons_of_mem _ ?_)); exact rfl; exact rfl; kernel_rfl; exact hM.sm; exact (fun _ _ _ h => h); clear hF a; intro a hF))
    refine t_one (i := 5) hF rfl (by kernel_rfl) rfl ?_
    intro K hK
    (apply x_call hF hM; exact rfl; exact rfl; exact rfl; exact rfl; exact (has_c p E mb hp8 (by omega) (hS.dw.sub hlk) hlk2 own _ (fun b h => hM.lt b (.inl h)) (hM.factOut (by (repeat (first | with_reducible exact List.mem_cons_self | refine List.mem_cons_of_mem _ ?_)))) (tabR_of hM hS.tE) (dat_one (hM.factOut (f := DatF ps) (by (repeat (first | with_reducible exact List.mem_cons_self | refine List.mem_cons_of_mem _ ?_)))) hpm) (dat_sub (hM.factOut (f := DatF its) (by (repeat (first | with_reducible exact List.mem_cons_self | refine List.mem_cons_of_mem _ ?_)))) hlk)); clear hF hM a; rintro v w a rfl - hM hF)
    rw [← hhas] at hF
    refine hK _ _ (fun _ => (hM.sm.sub (fun x hx => by repeat (first | exact hx | refine List.mem_cons_of_mem _ ?_)) (fun _ h => by repeat (first | exact h | refine List.mem_cons_of_mem _ ?_)))) ?_; clear hK
    (first | (refine t_pure (i := 6) hF rfl rfl rfl rfl (by kernel_rfl) (hM.sm.sub (fun x hx => by repeat (first | exact hx | refine List.mem_cons_of_mem _ ?_)) (fun _ h => by repeat (first | exact h | refine List.mem_cons_of_mem _ ?_))) (fun _ _ _ h => h) ?_ ?_; (first | exact trivial | omega | decide); clear hF a; intro a hF))
    refine t_done (by kernel_rfl) ?_
    by_cases hh : hasD (ims its) p.1.x = true
    · have he : chkL [] (ims ps) = 8 := by rw [hck, chkL, hch, if_neg (by simp), if_neg (by simp [hdg]), if_pos hh]
      rw [hh] at hF
      (repeat' (first | (with_reducible refine w_seq ?_) | (with_reducible refine c_region ?_) | (with_reducible refine s_nil ?_) | (with_reducible refine q_then_n ?_) | ((with_reducible apply s_pure hF); exact rfl; exact rfl; exact rfl; (first | exact trivial | omega | exact ⟨Int.natCast_nonneg _, Int.ofNat_lt.2 (by assumption)⟩ | decide); clear hF a; intro a hF) | (with_reducible refine w_ret ?_) | (with_reducible refine q_then_r ?_) | (with_reducible refine q_blk_r ?_) | ((with_reducible apply c_true2 hF); exact rfl; (first | with_reducible rfl | (refine congrArg Value.bool ?_; focus (simp; done))))))
      (apply f_ret Try.results55 hF hM; (repeat (first | exact RL.nil | (apply RL.tmp; exact rfl) | (apply RL.cell; exact rfl; (repeat (first | exact List.mem_cons_self | refine List.mem_cons_of_mem _ ?_)); exact rfl))); refine Both.mk ?_; try dsimp only [resV])
      rw [he]
      exact .inl ⟨by decide, rfl, hM.sub (.cons _ (.cons _ (.cons _ (.refl _)))) (.cons _ (List.sublist_append_left _ _)) (fun f hf => List.mem_cons_of_mem _ (List.mem_cons_of_mem _ hf))⟩
    rw [Bool.not_eq_true] at hh
    rw [hh] at hF
    rw [chkL_step hch hdg hh] at hck
    (repeat' (first | (with_reducible refine q_then_n ?_) | (with_reducible refine w_skip ?_) | (with_reducible refine q_blk_n ?_) | ((with_reducible apply c_false2 hF); exact rfl; (first | with_reducible rfl | (refine congrArg Value.bool ?_; focus (simp; done))))))
    replace hM := hM.perm (List.Perm.swap _ _ _)
    refine c_drawF (fun i => Nat.ble 8 i) (fun x hx => List.mem_cons_of_mem _ (hx)) (fun f hf => List.mem_cons_of_mem _ (List.mem_cons_of_mem _ (hf))) hM ?_; clear hM; intro w hM
    (first | (refine t_pure (i := 0) hF rfl rfl rfl rfl (by kernel_rfl) (hM.sm.sub (fun x hx => by repeat (first | exact hx | refine List.mem_cons_of_mem _ ?_)) (fun _ h => by repeat (first | exact h | refine List.mem_cons_of_mem _ ?_))) (fun _ _ _ h => h) ?_ ?_; (first | exact trivial | omega | decide); clear hF a; intro a hF))
    (first | (refine t_pure (i := 1) hF rfl rfl rfl rfl (by kernel_rfl) (hM.sm.sub (fun x hx => by repeat (first | exact hx | refine List.mem_cons_of_mem _ ?_)) (fun _ h => by repeat (first | exact h | refine List.mem_cons_of_mem _ ?_))) (fun _ _ _ h => h) ?_ ?_; (first | exact trivial | omega | decide); clear hF a; intro a hF))
    (first | (apply t_load (i := 2) hF rfl rfl rfl; (repeat (first | exact List.mem_cons_self | refine List.mem_cons_of_mem _ ?_)); exact rfl; exact rfl; kernel_rfl; exact (hM.sm.sub (fun x hx => by repeat (first | exact hx | refine List.mem_cons_of_mem _ ?_)) (fun _ h => by repeat (first | exact h | refine List.mem_cons_of_mem _ ?_))); exact (fun _ _ _ h => h); clear hF a; intro a hF))
    (first | (refine t_pure (i := 3) hF rfl rfl rfl rfl (by kernel_rfl) (hM.sm.sub (fun x hx => by repeat (first | exact hx | refine List.mem_cons_of_mem _ ?_)) (fun _ h => by repeat (first | exact h | refine List.mem_cons_of_mem _ ?_))) (fun _ _ _ h => h) ?_ ?_; (first | exact trivial | omega | decide); clear hF a; intro a hF))
    (first | (apply t_load (i := 4) hF rfl rfl rfl; (repeat (first | exact List.mem_cons_self | refine List.mem_cons_of_mem _ ?_)); exact rfl; exact rfl; kernel_rfl; exact (hM.sm.sub (fun x hx => by repeat (first | exact hx | refine List.mem_cons_of_mem _ ?_)) (fun _ h => by repeat (first | exact h | refine List.mem_cons_of_mem _ ?_))); exact (fun _ _ _ h => h); clear hF a; intro a hF))
    refine t_one (i := 5) hF rfl (by kernel_rfl) rfl ?_
    intro K hK
    (apply x_callO hF; exact rfl; exact rfl; exact rfl; exact rfl; exact (sclone_c p.1.x hp8 p.2.1 p.2.2 _ rfl (by omega) _ _ hM.lt (dat_one (hM.facts (DatF ps) (by (repeat (first | exact List.mem_cons_self | refine List.mem_cons_of_mem _ ?_)))) hpm)); clear hF a; rintro v wn a ⟨a2, c2, rfl, hO⟩ hS hF; replace hM := hM.addRows hS hO; clear hS hO; dsimp only [List.cons_append, List.nil_append] at hM)
    obtain ⟨hM, hc2⟩ := dat_push hM (p.1, a2, c2) rfl rfl
    refine hK _ _ (fun _ => (hM.sm.sub (fun x hx => by repeat (first | exact hx | refine List.mem_cons_of_mem _ ?_)) (fun _ h => by repeat (first | exact h | refine List.mem_cons_of_mem _ ?_)))) ?_; clear hK
    (first | (refine t_pure (i := 6) hF rfl rfl rfl rfl (by kernel_rfl) (hM.sm.sub (fun x hx => by repeat (first | exact hx | refine List.mem_cons_of_mem _ ?_)) (fun _ h => by repeat (first | exact h | refine List.mem_cons_of_mem _ ?_))) (fun _ _ _ h => h) ?_ ?_; (first | exact trivial | omega | decide); clear hF a; intro a hF))
    refine t_one (i := 7) hF rfl (by kernel_rfl) rfl ?_
    intro K hK
    (apply x_callB (f := 88) hF; exact rfl; exact rfl; exact rfl; exact rfl; exact (put_c sb mb cp its iv eI E (p.1, a2, c2) (by omega) hS.row hS.tE hS.tab hmb (hcfa _) hM); (intro _ _ _ h; exact h.elim); clear hF hM a; rintro v w a ⟨E2, iv2, eI2, hE2, hT2, hI2, hM⟩ hF)
    refine hK _ _ (fun _ => (hM.sm.sub (fun x hx => by repeat (first | exact hx | refine List.mem_cons_of_mem _ ?_)) (fun _ h => by repeat (first | exact h | refine List.mem_cons_of_mem _ ?_)))) ?_; clear hK
    refine t_done (by kernel_rfl) ?_
    (repeat' (first | (with_reducible refine c_region ?_) | (with_reducible refine s_nil ?_) | (with_reducible refine q_then_n ?_) | ((with_reducible apply s_pure hF); exact rfl; exact rfl; exact rfl; (first | exact trivial | omega | exact ⟨Int.natCast_nonneg _, Int.ofNat_lt.2 (by assumption)⟩ | decide); clear hF a; intro a hF) | (with_reducible refine q_blk_n ?_)))
    refine ⟨m - 1, by omega, k + 1, its ++ [(p.1, a2, c2)], iv2, eI2, E2, by omega, by simp; omega, ?_, ⟨?_, hE2, hT2, ?_, ?_⟩, ?_, hF.sub (by repeat (first | exact Sub.nil | refine Sub.cons rfl (by first | with_reducible rfl | (refine congrArg (Value.int _) ?_; omega) | exact rfl) ?_)), hM.sub (.cons_cons _ (.cons _ (.refl _))) (.refl _) (fun _ h => h)⟩
    · rw [List.take_add_one, hp]
      simp only [ims, List.map_append] at him ⊢
      rw [him]
      rfl
    · rw [List.length_append]
      exact hI2
    · intro q hq
      rcases List.mem_append.1 hq with hq | hq
      · exact hS.dw q hq
      · rw [List.mem_singleton] at hq
        rw [hq]
        exact ⟨hp8, hc2, hpb⟩
    · intro q hq
      rcases List.mem_append.1 hq with hq | hq
      · exact hS.dg q hq
      · rw [List.mem_singleton] at hq
        rw [hq]
        exact hdg
    · rw [hck]
      simp [ims]
  · obtain rfl : k = n := by omega
    have hfin : chkL [] (ims ps) = 0 := by
      rw [hck, List.drop_of_length_le (by omega)]
      rfl
    rw [List.take_of_length_le (by omega)] at him
    (repeat' (first | (with_reducible refine w_seq ?_) | (with_reducible refine c_region ?_) | (with_reducible refine s_nil ?_) | (with_reducible refine q_then_n ?_) | ((with_reducible apply s_pure hF); exact rfl; exact rfl; exact rfl; (first | exact trivial | omega | exact ⟨Int.natCast_nonneg _, Int.ofNat_lt.2 (by assumption)⟩ | decide); clear hF a; intro a hF) | (with_reducible refine w_exit ?_) | (with_reducible refine w_ret ?_) | (with_reducible refine q_then_x ?_) | (with_reducible refine q_blk_x ?_) | ((with_reducible apply c_false2 hF); exact rfl; (first | with_reducible rfl | (refine congrArg Value.bool ?_; focus (simp; done))))))
    (apply f_ret Try.results55 hF hM; (repeat (first | exact RL.nil | (apply RL.tmp; exact rfl) | (apply RL.cell; exact rfl; (repeat (first | exact List.mem_cons_self | refine List.mem_cons_of_mem _ ?_)); exact rfl))); refine Both.mk ?_; try dsimp only [resV])
    exact .inr ⟨hfin, sb, mb, its, iv, eI, E, rfl, him, hS, hmb, hM.sub (.cons_cons _ (.cons _ (.refl _))) (.refl _) (fun _ h => h)⟩
end
end Go.Proofs.Ytonelgecjmpbgaa


/- dedup: Check, New, Find, Add. -/
namespace Go.Proofs.Ytonelgecjmpbgaa
open Go.RowKit Go.Shelf D29
set_option maxRecDepth 20000 in
set_option maxHeartbeats 2000000 in
theorem Check29_c (cp : Int) (ps : List P) (a0 : Option Addr) (c0 n : Nat) (hn : ps.length = n) (hlen : n ≤ 100000) (hDW : DatW ps) (hpx : ∀ p ∈ ps, p.1.x.length ≤ 100000) (own : Nat → Prop) (W : World) (hl : ∀ b, own b → b < W.heap.size) (h1 : Has own W (RdF id a0 (cellsP ps))) (h2 : Has own W (DatF ps)) :
    Calls Try.prog 24 ⟨[.agg #[.int .i64 cp, .slice a0 n c0]]⟩ W (Ret W fun v _ => v = .int .i64 (check ⟨cp, ims ps⟩)) := by
  have hM := ((Mm.start hl).known h2).known h1
  refine f_start Try.func24 rfl Try.ntmps24 rfl rfl ?_; intro a hF
  (repeat (first | (with_reducible refine w_seq ?_) | (with_reducible refine c_region ?_) | (with_reducible refine s_nil ?_) | (with_reducible refine q_then_n ?_) | ((with_reducible apply s_pure hF); exact rfl; exact rfl; exact rfl; (first | exact trivial | omega | exact ⟨Int.natCast_nonneg _, Int.ofNat_lt.2 (by assumption)⟩ | decide); clear hF a; intro a hF) | ((with_reducible apply s_load hF hM); exact rfl; exact rfl; (repeat (first | exact List.mem_cons_self | refine List.mem_cons_of_mem _ ?_)); exact rfl; exact rfl; clear hF a; intro a hF) | ((with_reducible apply s_box hF hM); exact rfl; exact rfl; exact rfl; exact rfl; clear hF hM a; intro b w a hM hF)))
  generalize b = b1 at *
  by_cases hb : cp < 1 ∨ 4096 < cp ∨ cp < n
  · (((with_reducible apply s_callM (f := 55) hF); exact rfl; exact rfl; exact rfl; exact rfl; exact rfl; exact (open_bad cp ps a0 c0 n hn hlen hDW hpx (by simp) hM hb); clear hF hM a; rintro v w a ⟨rfl, hM⟩ hF))
    (repeat (first | (with_reducible refine w_seq ?_) | (with_reducible refine c_region ?_) | (with_reducible refine s_nil ?_) | (with_reducible refine q_then_n ?_) | ((with_reducible apply s_pure hF); exact rfl; exact rfl; exact rfl; (first | exact trivial | omega | exact ⟨Int.natCast_nonneg _, Int.ofNat_lt.2 (by assumption)⟩ | decide); clear hF a; intro a hF) | (with_reducible refine w_ret ?_)))
    (apply f_ret Try.results24 hF hM; (repeat (first | exact RL.nil | (apply RL.tmp; exact rfl) | (apply RL.cell; exact rfl; (repeat (first | exact List.mem_cons_self | refine List.mem_cons_of_mem _ ?_)); exact rfl))); refine Ret.mk hM.since ?_; dsimp only [resV])
  · have hc : check ⟨cp, ims ps⟩ = chkL [] (ims ps) := by
      unfold check
      dsimp only
      rw [if_neg (by omega), ims_len, hn, if_neg (by omega)]
    rw [hc]
    (((with_reducible apply s_callM (f := 55) hF); exact rfl; exact rfl; exact rfl; exact rfl; exact rfl; exact (open_c cp ps a0 c0 n hn hlen hDW hpx (by simp) hM (by omega) (by omega)); clear hF hM a; rintro v w a (⟨h0, rfl, hM⟩ | ⟨h0, sb, mb, its, iv, eI, E, rfl, him, hS, hmb, hM⟩) hF))
    · (repeat (first | (with_reducible refine w_seq ?_) | (with_reducible refine c_region ?_) | (with_reducible refine s_nil ?_) | (with_reducible refine q_then_n ?_) | ((with_reducible apply s_pure hF); exact rfl; exact rfl; exact rfl; (first | exact trivial | omega | exact ⟨Int.natCast_nonneg _, Int.ofNat_lt.2 (by assumption)⟩ | decide); clear hF a; intro a hF) | (with_reducible refine w_ret ?_)))
      (apply f_ret Try.results24 hF hM; (repeat (first | exact RL.nil | (apply RL.tmp; exact rfl) | (apply RL.cell; exact rfl; (repeat (first | exact List.mem_cons_self | refine List.mem_cons_of_mem _ ?_)); exact rfl))); refine Ret.mk hM.since ?_; dsimp only [resV])
    · rw [h0]
      (repeat (first | (with_reducible refine w_seq ?_) | (with_reducible refine c_region ?_) | (with_reducible refine s_nil ?_) | (with_reducible refine q_then_n ?_) | ((with_reducible apply s_pure hF); exact rfl; exact rfl; exact rfl; (first | exact trivial | omega | exact ⟨Int.natCast_nonneg _, Int.ofNat_lt.2 (by assumption)⟩ | decide); clear hF a; intro a hF) | (with_reducible refine w_ret ?_)))
      (apply f_ret Try.results24 hF hM; (repeat (first | exact RL.nil | (apply RL.tmp; exact rfl) | (apply RL.cell; exact rfl; (repeat (first | exact List.mem_cons_self | refine List.mem_cons_of_mem _ ?_)); exact rfl))); refine Ret.mk hM.since ?_; dsimp only [resV])
theorem New29_c (cp : Int) (own : Nat → Prop) (W : World) (hl : ∀ b, own b → b < W.heap.size) :
    Calls Try.prog 23 ⟨[.int .i64 cp]⟩ W (Ret W fun v _ => v = .tuple #[.agg #[.int .i64 (if 1 ≤ cp ∧ cp ≤ 4096 then cp else 0), .slice none 0 0], .int .i64 (if 1 ≤ cp ∧ cp ≤ 4096 then 0 else 2)]) := by
  have hM := Mm.start hl
  have e1 := fun {own W} hl => Check29_c cp [] none 0 0 rfl (by omega) (fun p hp => by simp at hp) (fun p hp => by simp at hp) own W hl RdF.nil (Has.pure fun _ p hp => by simp at hp)
  by_cases h : 1 ≤ cp ∧ cp ≤ 4096
  · rw [if_pos h, if_pos h]
    rw [show check ⟨cp, ims []⟩ = 0 by unfold check; dsimp only; rw [if_neg (by omega), if_neg (by simp [ims]; omega)]; rfl] at e1
    refine f_start Try.func23 rfl Try.ntmps23 rfl rfl ?_; intro a hF
    (repeat' (first | (with_reducible refine w_seq ?_) | (with_reducible refine c_region ?_) | (with_reducible refine s_nil ?_) | ((with_reducible apply s_call (f := 24) hF hM); exact rfl; exact rfl; exact rfl; exact rfl; exact rfl; exact (e1 hM.lt); clear hF hM a; rintro v w a rfl - hM hF) | (with_reducible refine q_then_n ?_) | ((with_reducible apply s_pure hF); exact rfl; exact rfl; exact rfl; (first | exact trivial | omega | exact ⟨Int.natCast_nonneg _, Int.ofNat_lt.2 (by assumption)⟩ | decide); clear hF a; intro a hF) | ((with_reducible apply s_load hF hM); exact rfl; exact rfl; (repeat (first | exact List.mem_cons_self | refine List.mem_cons_of_mem _ ?_)); exact rfl; exact rfl; clear hF a; intro a hF) | ((with_reducible apply s_store hF hM); exact rfl; exact rfl; exact rfl; exact rfl; (repeat (first | exact Upd.z | apply Upd.s)); exact rfl; exact rfl; exact rfl; clear hM; intro w hM) | ((with_reducible apply s_alloc hF hM); exact rfl; exact rfl; exact rfl; clear hF hM a; intro b w a hM hF) | (with_reducible refine w_skip ?_) | (with_reducible refine w_ret ?_) | ((with_reducible apply c_false2 hF); exact rfl; (first | with_reducible rfl | (refine congrArg Value.bool ?_; focus (simp; done))))))
    (apply f_ret Try.results23 hF hM; (repeat (first | exact RL.nil | (apply RL.tmp; exact rfl) | (apply RL.cell; exact rfl; (repeat (first | exact List.mem_cons_self | refine List.mem_cons_of_mem _ ?_)); exact rfl))); refine Ret.mk hM.since ?_; dsimp only [resV])
  · rw [if_neg h, if_neg h]
    rw [show check ⟨cp, ims []⟩ = 2 by unfold check; dsimp only; rw [if_pos (by omega)]] at e1
    refine f_start Try.func23 rfl Try.ntmps23 rfl rfl ?_; intro a hF
    (repeat' (first | (with_reducible refine w_seq ?_) | (with_reducible refine c_region ?_) | (with_reducible refine s_nil ?_) | ((with_reducible apply s_call (f := 24) hF hM); exact rfl; exact rfl; exact rfl; exact rfl; exact rfl; exact (e1 hM.lt); clear hF hM a; rintro v w a rfl - hM hF) | (with_reducible refine q_then_n ?_) | ((with_reducible apply s_pure hF); exact rfl; exact rfl; exact rfl; (first | exact trivial | omega | exact ⟨Int.natCast_nonneg _, Int.ofNat_lt.2 (by assumption)⟩ | decide); clear hF a; intro a hF) | ((with_reducible apply s_load hF hM); exact rfl; exact rfl; (repeat (first | exact List.mem_cons_self | refine List.mem_cons_of_mem _ ?_)); exact rfl; exact rfl; clear hF a; intro a hF) | ((with_reducible apply s_store hF hM); exact rfl; exact rfl; exact rfl; exact rfl; (repeat (first | exact Upd.z | apply Upd.s)); exact rfl; exact rfl; exact rfl; clear hM; intro w hM) | ((with_reducible apply s_alloc hF hM); exact rfl; exact rfl; exact rfl; clear hF hM a; intro b w a hM hF) | (with_reducible refine w_ret ?_) | (with_reducible refine q_then_r ?_) | ((with_reducible apply c_true2 hF); exact rfl; (first | with_reducible rfl | (refine congrArg Value.bool ?_; focus (simp; done))))))
    (apply f_ret Try.results23 hF hM; (repeat (first | exact RL.nil | (apply RL.tmp; exact rfl) | (apply RL.cell; exact rfl; (repeat (first | exact List.mem_cons_self | refine List.mem_cons_of_mem _ ?_)); exact rfl))); refine Ret.mk hM.since ?_; dsimp only [resV])
end Go.Proofs.Ytonelgecjmpbgaa


/- dedup: Find, Add. -/
namespace Go.Proofs.Ytonelgecjmpbgaa
open Go.RowKit Go.Shelf D29
namespace D29
theorem chk_big {cp : Int} {l : List Itm} (h : ¬ (cp < 1 ∨ 4096 < cp ∨ cp < (l.length : Int))) : check ⟨cp, l⟩ = chkL [] l := by
  unfold check
  dsimp only
  rw [if_neg (by omega), if_neg (by omega)]
theorem chk_bad {cp : Int} {l : List Itm} (h : cp < 1 ∨ 4096 < cp ∨ cp < (l.length : Int)) : check ⟨cp, l⟩ ≠ 0 := by
  unfold check
  dsimp only
  split
  · decide
  · rw [if_pos (by omega)]
    decide
end D29
namespace D29
theorem OffR.freeze {α : Type} {enc : α → Value} {own : Nat → Prop} {w w0 : World} {bs : List BoxE} {L : List Ent} {Fs : List (World → Prop)} {e : TypeId} {size : Nat} {ao : Option Addr} {m c : Nat} {xs : List α} {E : Ent} (m0 : Mm own w0 bs (E :: L) Fs w) (h : OffR e size (.slice ao m c) m (xs.map enc) E) : Mm own w0 bs L (RdF enc ao xs :: Fs) w := by
  have hcell := fun ad => OffR.cells (k := 0) (ad := ad) m0 rfl h
  have m1 : Mm own w0 bs L Fs w := m0.sub (.refl _) (List.sublist_cons_self _ _) (fun _ h => h)
  obtain ⟨h1, h2, h3, h4⟩ := h
  rcases h4 with ⟨h, h0, _⟩ | ⟨ad', h, h0⟩ | ⟨g, off, cap, pre, h5, h6, h7, h8, h9⟩
  · rw [h0, Nat.zero_mul, List.length_map] at h3
    rw [List.eq_nil_of_length_eq_zero h3]
    exact m1.addFact RdF.nil
  · rw [h0, Nat.zero_mul, List.length_map] at h3
    rw [List.eq_nil_of_length_eq_zero h3]
    exact m1.addFact RdF.nil
  · injection h5 with h5
    subst h5
    have hob : E.v.ownBlock = some g := by rw [h7]; rfl
    have hown := m0.mem.own.lt List.mem_cons_self g hob
    refine m1.addFact (RdF.has ?_ ?_)
    · intro i x hx
      refine ⟨g, off * size, rfl, hown.2, ?_⟩
      have := hcell _ rfl i (enc x) (by rw [List.getElem?_map, hx]; rfl)
      rw [add_lit] at this
      exact this
    · intro ad e
      injection e with e
      subst e
      rintro (h | ⟨x, hx, hx2⟩ | ⟨y, hy, hy2⟩)
      · have h2 : g < w0.heap.size := m0.low _ h
        omega
      · exact m0.mem.far x hx _ List.mem_cons_self (by rw [hob, hx2])
      · have hp := m0.mem.own.apart
        rw [List.pairwise_cons] at hp
        rcases hp.1 y hy with h | h
        · rw [show E.v.ownBlock = none from h] at hob; cases hob
        · exact h (hob.trans hy2.symm)
theorem itR_mk {own : Nat → Prop} {w w0 : World} {bs : List BoxE} {L : List Ent} {Fs : List (World → Prop)} {l : List Itm} {a : Option Addr} {c : Nat} {ps : List P} (hM : Mm own w0 bs L Fs w) (h1 : ims ps = l) (h2 : DatW ps) (h3 : RdF id a (cellsP ps) ∈ Fs) (h4 : DatF ps ∈ Fs) (h5 : l.length ≤ c) : ItR own l a c w := ⟨ps, h1, h2, hM.factOut h3, hM.factOut h4, h5⟩
end D29
theorem chunksM_c (sb mb : Nat) (cp : Int) (its : List P) (iv : Value) (eI : Ent) (E : List TE) (hlen : its.length ≤ 100000) (hS : StI its iv eI E) (hch : ∀ p ∈ its, p.1.x.length ≤ 4096) {own : Nat → Prop} {w0 W : World} {bs : List BoxE} {L : List Ent} {Fs : List (World → Prop)}
    (hM : Mm own w0 (stB sb mb cp iv :: bs) (eI :: L) Fs W) (hd : DatF its ∈ Fs) :
    Calls Try.prog 61 ⟨[.pointer (some ⟨sb, 0, none⟩)]⟩ W (Rtn fun v w' => ∃ (a' : Option Addr) (c' : Nat) (ps : List P), v = .agg #[.int .i64 cp, .slice a' its.length c'] ∧ ims ps = ims its ∧ DatW ps ∧ its.length ≤ c' ∧
      Mm own w0 bs L (RdF id a' (cellsP ps) :: DatF ps :: Fs) w') := by
  obtain ⟨ai, ci, rfl, -, -⟩ := OffR.shape hM (k := 0) rfl hS.row
  have hM1 := OffR.freeze (enc := id) hM.freeze (by rw [List.map_id]; exact hS.row)
  have hM0 := hM1.sub (.refl _) (.refl _) (fun f (hf : f ∈ Fs) => by simp [hf])
  refine (chunks_c sb mb cp its ai ci hlen hS.dw hch (ownOf own bs L) W hM1.lt (hM1.facts _ (by simp)) (hM1.facts _ (by simp)) (hM1.facts _ (by simp [hd]))).mono ?_
  rintro en w' ⟨v, rfl, hs, a', c', rfl, ps, q1, q2, q3, q4, q5⟩
  refine ⟨a', c', ps, rfl, q1, q2, by rwa [ims_len] at q5, ?_⟩
  exact ((hM0.keep hs).addFact q4).addFact q3
section
variable (cp : Int) (ps : List P) (a0 : Option Addr) (c0 n : Nat) (hn : ps.length = n) (hlen : n ≤ 100000) (hDW : DatW ps) (hpx : ∀ p ∈ ps, p.1.x.length ≤ 100000) (own : Nat → Prop) (W : World) (hl : ∀ b, own b → b < W.heap.size) (h1 : Has own W (RdF id a0 (cellsP ps))) (h2 : Has own W (DatF ps))
include hn hlen hDW hpx hl h1 h2
/-- The items that Add returns. -/
def D29.addR (cp : Int) (l : List Itm) (x : Dat) : List Itm := if check ⟨cp, l⟩ = 0 ∧ isCh x = true then addI cp l x else l
set_option maxRecDepth 20000 in
set_option maxHeartbeats 4000000 in
theorem Add29_c (hc0 : n ≤ c0) (x : Dat) (hx8 : W8 x) (hxb : ∀ s ∈ x, ∀ b ∈ s, 0 ≤ b ∧ b < 256) (ax : Option Addr) (cx nx : Nat) (hnx : x.length = nx) (hx : Has own W (RdF (Value.int .u8) ax x.flatten)) :
    Calls Try.prog 30 ⟨[.agg #[.int .i64 cp, .slice a0 n c0], .slice ax nx cx]⟩ W (Ret W fun v w' => ∃ (a : Option Addr) (c : Nat), v = .agg #[.int .i64 cp, .slice a (addR cp (ims ps) x).length c] ∧ ItR own (addR cp (ims ps) x) a c w') := by
  have hM := (((Mm.start hl).known hx).known h2).known h1
  have hold : ∀ (w' : World), addR cp (ims ps) x = ims ps → Has own w' (RdF id a0 (cellsP ps)) → Has own w' (DatF ps) → ∃ (a : Option Addr) (c : Nat), Value.agg #[.int .i64 cp, .slice a0 n c0] = .agg #[.int .i64 cp, .slice a (addR cp (ims ps) x).length c] ∧ ItR own (addR cp (ims ps) x) a c w' := by
    intro w' he k1 k2
    rw [he]
    exact ⟨a0, c0, by rw [ims_len, hn], ps, rfl, hDW, k1, k2, by rw [ims_len, hn]; exact hc0⟩
  refine f_start Try.func30 rfl Try.ntmps30 rfl rfl ?_; intro a hF
  (repeat (first | (with_reducible refine w_seq ?_) | (with_reducible refine c_region ?_) | (with_reducible refine s_nil ?_) | (with_reducible refine q_then_n ?_) | ((with_reducible apply s_load hF hM); exact rfl; exact rfl; (repeat (first | exact List.mem_cons_self | refine List.mem_cons_of_mem _ ?_)); exact rfl; exact rfl; clear hF a; intro a hF) | ((with_reducible apply s_alloc hF hM); exact rfl; exact rfl; exact rfl; clear hF hM a; intro b w a hM hF) | ((with_reducible apply s_box hF hM); exact rfl; exact rfl; exact rfl; exact rfl; clear hF hM a; intro b w a hM hF)))
  rename_i b2 _
  generalize b = b4 at *
  have hnb : ∀ f ∈ [RdF (Value.int .u8) ax x.flatten], ∀ b, Nb b f := by
    intro f hf b
    rw [List.mem_singleton] at hf
    rw [hf]
    exact Nb.rd
  by_cases hb : cp < 1 ∨ 4096 < cp ∨ cp < n
  · have hck := chk_bad (l := ims ps) (by rw [ims_len, hn]; exact hb)
    have he : addR cp (ims ps) x = ims ps := if_neg fun h => hck h.1
    (((with_reducible apply s_callM (f := 55) hF); exact rfl; exact rfl; exact rfl; exact rfl; exact rfl; exact (open_bad cp ps a0 c0 n hn hlen hDW hpx hnb hM hb); clear hF hM a; rintro v w a ⟨rfl, hM⟩ hF))
    (repeat' (first | (with_reducible refine w_seq ?_) | (with_reducible refine c_region ?_) | (with_reducible refine s_nil ?_) | (with_reducible refine q_then_n ?_) | ((with_reducible apply s_pure hF); exact rfl; exact rfl; exact rfl; (first | exact trivial | omega | exact ⟨Int.natCast_nonneg _, Int.ofNat_lt.2 (by assumption)⟩ | decide); clear hF a; intro a hF) | ((with_reducible apply s_load hF hM); exact rfl; exact rfl; (repeat (first | exact List.mem_cons_self | refine List.mem_cons_of_mem _ ?_)); exact rfl; exact rfl; clear hF a; intro a hF) | ((with_reducible apply s_store hF hM); exact rfl; exact rfl; exact rfl; exact rfl; (repeat (first | exact Upd.z | apply Upd.s)); exact rfl; exact rfl; exact rfl; clear hM; intro w hM) | (with_reducible refine w_ret ?_) | (with_reducible refine q_then_r ?_) | ((with_reducible apply c_true2 hF); exact rfl; (first | with_reducible rfl | (refine congrArg Value.bool ?_; focus (simp; done)))) | ((with_reducible apply s_skip hF); exact rfl; exact rfl; clear hF a; intro a hF) | ((fail_if_success ((with_reducible refine g_known true hF ?_ ?_); focus exact rfl)); (fail_if_success ((with_reducible refine g_known false hF ?_ ?_); focus exact rfl)); (with_reducible apply g_dec hF); exact rfl; exact rfl; all_goals (clear hF; intro hc hF); all_goals (try (exfalso; omega)))))
    all_goals first | (exfalso; omega) | (apply f_ret Try.results30 hF hM; (repeat (first | exact RL.nil | (apply RL.tmp; exact rfl) | (apply RL.cell; exact rfl; (repeat (first | exact List.mem_cons_self | refine List.mem_cons_of_mem _ ?_)); exact rfl))); refine Ret.mk hM.since ?_; dsimp only [resV])
    all_goals exact hold _ he (hM.factOut (by (repeat (first | with_reducible exact List.mem_cons_self | refine List.mem_cons_of_mem _ ?_)))) (hM.factOut (by (repeat (first | with_reducible exact List.mem_cons_self | refine List.mem_cons_of_mem _ ?_))))
  · have hck := chk_big (l := ims ps) (by rw [ims_len, hn]; exact hb)
    (((with_reducible apply s_callM (f := 55) hF); exact rfl; exact rfl; exact rfl; exact rfl; exact rfl; exact (open_c cp ps a0 c0 n hn hlen hDW hpx hnb hM (by omega) (by omega)); clear hF hM a; rintro v w a (⟨h0, rfl, hM⟩ | ⟨h0, sb, mb, its, iv, eI, E, rfl, him, hS, hmb, hM⟩) hF))
    · have he : addR cp (ims ps) x = ims ps := if_neg fun h => h0 (by rw [← hck]; exact h.1)
      (repeat' (first | (with_reducible refine w_seq ?_) | (with_reducible refine c_region ?_) | (with_reducible refine s_nil ?_) | (with_reducible refine q_then_n ?_) | ((with_reducible apply s_pure hF); exact rfl; exact rfl; exact rfl; (first | exact trivial | omega | exact ⟨Int.natCast_nonneg _, Int.ofNat_lt.2 (by assumption)⟩ | decide); clear hF a; intro a hF) | ((with_reducible apply s_load hF hM); exact rfl; exact rfl; (repeat (first | exact List.mem_cons_self | refine List.mem_cons_of_mem _ ?_)); exact rfl; exact rfl; clear hF a; intro a hF) | ((with_reducible apply s_store hF hM); exact rfl; exact rfl; exact rfl; exact rfl; (repeat (first | exact Upd.z | apply Upd.s)); exact rfl; exact rfl; exact rfl; clear hM; intro w hM) | (with_reducible refine w_ret ?_) | (with_reducible refine q_then_r ?_) | ((with_reducible apply c_true2 hF); exact rfl; (first | with_reducible rfl | (refine congrArg Value.bool ?_; focus (simp; done)))) | ((with_reducible apply s_skip hF); exact rfl; exact rfl; clear hF a; intro a hF) | ((fail_if_success ((with_reducible refine g_known true hF ?_ ?_); focus exact rfl)); (fail_if_success ((with_reducible refine g_known false hF ?_ ?_); focus exact rfl)); (with_reducible apply g_dec hF); exact rfl; exact rfl; all_goals (clear hF; intro hc hF); all_goals (try (exfalso; omega)))))
      all_goals first | (exfalso; omega) | (apply f_ret Try.results30 hF hM; (repeat (first | exact RL.nil | (apply RL.tmp; exact rfl) | (apply RL.cell; exact rfl; (repeat (first | exact List.mem_cons_self | refine List.mem_cons_of_mem _ ?_)); exact rfl))); refine Ret.mk hM.since ?_; dsimp only [resV])
      all_goals exact hold _ he (hM.factOut (by (repeat (first | with_reducible exact List.mem_cons_self | refine List.mem_cons_of_mem _ ?_)))) (hM.factOut (by (repeat (first | with_reducible exact List.mem_cons_self | refine List.mem_cons_of_mem _ ?_))))
    · have hil : its.length = n := by
        have := congrArg List.length him
        rw [ims_len, ims_len] at this
        omega
      cases hch : isCh x with
      | false =>
        have he : addR cp (ims ps) x = ims ps := if_neg fun h => by rw [hch] at h; exact absurd h.2 (by decide)
        (repeat' (first | (with_reducible refine w_seq ?_) | (with_reducible refine c_region ?_) | (with_reducible refine s_nil ?_) | ((with_reducible apply s_call (f := 73) hF hM); exact rfl; exact rfl; exact rfl; exact rfl; exact rfl; exact (isChunk_c x ax cx nx hnx _ _ hM.lt); clear hF hM a; rintro v w a rfl - hM hF; rw [hch] at hF) | (with_reducible refine q_then_n ?_) | ((with_reducible apply s_pure hF); exact rfl; exact rfl; exact rfl; (first | exact trivial | omega | exact ⟨Int.natCast_nonneg _, Int.ofNat_lt.2 (by assumption)⟩ | decide); clear hF a; intro a hF) | ((with_reducible apply s_load hF hM); exact rfl; exact rfl; (repeat (first | exact List.mem_cons_self | refine List.mem_cons_of_mem _ ?_)); exact rfl; exact rfl; clear hF a; intro a hF) | ((with_reducible apply s_store hF hM); exact rfl; exact rfl; exact rfl; exact rfl; (repeat (first | exact Upd.z | apply Upd.s)); exact rfl; exact rfl; exact rfl; clear hM; intro w hM) | (with_reducible refine w_ret ?_) | (with_reducible refine q_then_r ?_) | ((with_reducible apply c_true2 hF); exact rfl; (first | with_reducible rfl | (refine congrArg Value.bool ?_; focus (simp; done))))))
        all_goals first | (exfalso; omega) | (apply f_ret Try.results30 hF hM; (repeat (first | exact RL.nil | (apply RL.tmp; exact rfl) | (apply RL.cell; exact rfl; (repeat (first | exact List.mem_cons_self | refine List.mem_cons_of_mem _ ?_)); exact rfl))); refine Ret.mk hM.since ?_; dsimp only [resV])
        all_goals exact hold _ he (hM.factOut (by (repeat (first | with_reducible exact List.mem_cons_self | refine List.mem_cons_of_mem _ ?_)))) (hM.factOut (by (repeat (first | with_reducible exact List.mem_cons_self | refine List.mem_cons_of_mem _ ?_))))
      | true =>
        have he : addR cp (ims ps) x = addI cp (ims ps) x := if_pos ⟨by rw [hck]; exact h0, hch⟩
        have hx4 : x.length ≤ 4096 := by
          unfold isCh at hch
          rw [decide_eq_true_eq] at hch
          exact hch.2
        obtain ⟨k1, k2, k3, -⟩ := chkL_ok.1 h0
        have hIts : Its (addI cp (ims ps) x) := Its.add ⟨k1, k2, k3⟩ hch cp
        have hal := add_len (cap := cp) (l := ims ps) (by rw [ims_len, hn]; omega) x
        (repeat' (first | (with_reducible refine w_seq ?_) | (with_reducible refine c_region ?_) | (with_reducible refine s_nil ?_) | ((with_reducible apply s_call (f := 73) hF hM); exact rfl; exact rfl; exact rfl; exact rfl; exact rfl; exact (isChunk_c x ax cx nx hnx _ _ hM.lt); clear hF hM a; rintro v w a rfl - hM hF; rw [hch] at hF) | (with_reducible refine q_then_n ?_) | ((with_reducible apply s_pure hF); exact rfl; exact rfl; exact rfl; (first | exact trivial | omega | exact ⟨Int.natCast_nonneg _, Int.ofNat_lt.2 (by assumption)⟩ | decide); clear hF a; intro a hF) | (with_reducible refine w_skip ?_) | ((with_reducible apply c_false2 hF); exact rfl; (first | with_reducible rfl | (refine congrArg Value.bool ?_; focus (simp; done))))))
        replace hM : Mm own W _ _ (MpE (Value.int .u64) mb (esE E) :: RdF (Value.int .u8) ax x.flatten :: DatF its :: [RdF id a0 (cellsP ps), DatF ps]) _ := hM.sub (.refl _) (.refl _) (fun f hf => by simp only [List.mem_cons, List.not_mem_nil, or_false] at hf ⊢; rcases hf with h | h | h | h | h <;> simp [h])
        have hcf2 : ∀ f ∈ [RdF id a0 (cellsP ps), DatF ps], Nb mb f := by
          intro f hf
          simp only [List.mem_cons, List.not_mem_nil, or_false] at hf
          rcases hf with rfl | rfl
          · exact Nb.rd
          · exact Nb.dat
        (((with_reducible apply s_callM (f := 60) hF); exact rfl; exact rfl; exact rfl; exact rfl; exact rfl; exact (add_c sb mb cp its iv eI E (by omega) (by omega) hS hmb hcf2 x hx8 hxb hx4 ax cx nx hnx hM); clear hF hM a; rintro v w a ⟨its2, E2, iv2, eI2, him2, hS2, hM⟩ hF))
        rw [him] at him2
        rw [he, ← him2, ims_len]
        rw [← him2, ims_len] at hal
        have hc4 : ∀ p ∈ its2, p.1.x.length ≤ 4096 := by
          intro p hp
          have := hIts.ch p.1 (by rw [← him2]; exact List.mem_map.2 ⟨p, hp, rfl⟩)
          unfold isCh at this
          rw [decide_eq_true_eq] at this
          exact this.2
        (repeat' (first | (with_reducible refine w_seq ?_) | (with_reducible refine c_region ?_) | (with_reducible refine s_nil ?_) | (with_reducible refine q_then_n ?_) | ((with_reducible apply s_pure hF); exact rfl; exact rfl; exact rfl; (first | exact trivial | omega | exact ⟨Int.natCast_nonneg _, Int.ofNat_lt.2 (by assumption)⟩ | decide); clear hF a; intro a hF)))
        (((with_reducible apply s_callM (f := 61) hF); exact rfl; exact rfl; exact rfl; exact rfl; exact rfl; exact (chunksM_c sb mb cp its2 iv2 eI2 E2 (by omega) hS2 hc4 hM (by (repeat (first | with_reducible exact List.mem_cons_self | refine List.mem_cons_of_mem _ ?_)))); clear hF hM a; rintro v w a ⟨a', c', ps', rfl, k4, k5, k6, hM⟩ hF))
        (repeat' (first | (with_reducible refine s_nil ?_) | (with_reducible refine q_then_n ?_) | ((with_reducible apply s_store hF hM); exact rfl; exact rfl; exact rfl; exact rfl; (repeat (first | exact Upd.z | apply Upd.s)); exact rfl; exact rfl; exact rfl; clear hM; intro w hM) | (with_reducible refine w_ret ?_)))
        (apply f_ret Try.results30 hF hM; (repeat (first | exact RL.nil | (apply RL.tmp; exact rfl) | (apply RL.cell; exact rfl; (repeat (first | exact List.mem_cons_self | refine List.mem_cons_of_mem _ ?_)); exact rfl))); refine Ret.mk hM.since ?_; dsimp only [resV])
        exact ⟨a', c', rfl, itR_mk hM k4 k5 (by (repeat (first | with_reducible exact List.mem_cons_self | refine List.mem_cons_of_mem _ ?_))) (by (repeat (first | with_reducible exact List.mem_cons_self | refine List.mem_cons_of_mem _ ?_))) (by rw [ims_len]; exact k6)⟩
end
end Go.Proofs.Ytonelgecjmpbgaa


/- slices.Chunk at sectors: the function that it returns calls yield with one part after another. -/
namespace Go.Proofs.Ytonelgecjmpbgaa
open Go.RowKit Go.Shelf D29
section
variable {n : Nat} {ds : List Deferred} {l : List (Nat × Value)} {a : Act} {w : World} {os rest : List Oper} {Q : Exit → Act → World → Prop} {d : Nat} {ty : TypeId} {pos : String} {af : Array Edge} {g : Option (Nat × Bool)}
/-- A part of a slice with a bound for its capacity. -/
theorem s_slice3 {t e : TypeId} {nn : Nat} {X LO HI MX : Operand} {a0 : Option Addr} {len cap : Nat} {k1 k2 k3 : IntKind} {lo hi mx : Int} (hF : Fr n ds l a) (hg : wantO os l g = some true) (hX : ev l X = some (.slice a0 len cap)) (h1 : ev l LO = some (.int k1 lo)) (h2 : ev l HI = some (.int k2 hi)) (h3 : ev l MX = some (.int k3 mx)) (ht : tyD t = some (.slice e)) (hs : tyS e = some nn) (hd : Nat.blt d n = true) (hb : 0 ≤ lo ∧ lo ≤ hi ∧ hi ≤ mx ∧ mx ≤ (cap : Int))
    (kk : ∀ a, Fr n ds ((d, .slice (sadr a0 lo.toNat mx.toNat nn) (hi.toNat - lo.toNat) (mx.toNat - lo.toNat)) :: l) a → wl ⟨os⟩ Q rest a w) : wl ⟨os⟩ Q (⟨some d, .slice t X (some LO) (some HI) (some MX), ty, pos, af, g⟩ :: rest) a w :=
  s_op hF hg fun _ hK => upon_value (v := .slice (sadr a0 lo.toNat mx.toNat nn) (hi.toNat - lo.toNat) (mx.toNat - lo.toNat)) (by
    obtain ⟨p1, p2, p3, p4⟩ := hb
    have e1 : lo ≤ max hi 0 := by omega
    have e2 : hi ≤ max mx 0 := by omega
    have e3 : 0 ≤ hi := by omega
    have e4 : 0 ≤ mx := by omega
    simp only [execOp, Option.map_some, hF.eval hX, hF.eval h1, hF.eval h2, hF.eval h3]
    simp [Instr.sliceAt, Instr.slice, Instr.sliceBounds, Instr.sliceBound, Sem.run_bind, tyD_run ht, tyS_run hs, Result.andThen, asIntOf, sadr, p1, p2, p3, p4, e1, e2, e3, e4]) (hK _ _ (kk _ (hF.put hd _)))
end
namespace D29
theorem flat_drop : ∀ {l : Dat} (_ : W8 l) (i : Nat), (l.drop i).flatten = l.flatten.drop (i * 8)
  | [], _, i => by simp
  | s :: l, h, 0 => by simp
  | s :: l, h, i + 1 => by
    have hs : s.length = 8 := h s (by simp)
    rw [List.drop_succ_cons, flat_drop (l := l) (fun y hy => h y (List.mem_cons_of_mem _ hy)) i, List.flatten_cons, List.drop_append, show s.drop ((i + 1) * 8) = [] from List.drop_eq_nil_of_le (by omega), List.nil_append, hs, show (i + 1) * 8 - 8 = i * 8 by omega]
/-- The value of a part. -/
def partV (a0 : Option Addr) (len p k : Nat) : Value := .slice (sadr a0 (k * p) (k * p + min p (len - k * p)) 8) (min p (len - k * p)) (min p (len - k * p))
theorem part_rd {own : Nat → Prop} {w : World} {a0 : Option Addr} {l : Dat} (hw : W8 l) (h : Has own w (RdF (Value.int .u8) a0 l.flatten)) (p k : Nat) : Has own w (RdF (Value.int .u8) (sadr a0 (k * p) (k * p + min p (l.length - k * p)) 8) (part p l k).flatten) := by
  by_cases hq : k * p = k * p + min p (l.length - k * p)
  · have : (part p l k).length = 0 := by rw [part_len]; omega
    rw [List.eq_nil_of_length_eq_zero this]
    exact RdF.nil
  refine h.imp fun w h j x hx => ?_
  have hx2 : (l.drop (k * p)).flatten[j]? = some x := by
    rw [← List.take_append_drop p (l.drop (k * p)), List.flatten_append]
    exact (List.getElem?_append_left (List.getElem?_eq_some_iff.1 hx).1).trans hx
  rw [flat_drop hw, List.getElem?_drop] at hx2
  obtain ⟨b, off, rfl, hb, hc2⟩ := h (k * p * 8 + j) x hx2
  refine ⟨b, off + k * p * 8, ?_, hb, ?_⟩
  · unfold sadr
    rw [if_neg (by omega)]
    simp [add_lit]
  · rw [Nat.add_assoc]
    exact hc2
/-- What a round keeps for the sequence of parts. -/
def Kc (W0 A B : World) : Prop := Below W0.heap.size A B ∧ KT W0.heap.size 3 A B ∧ KT W0.heap.size 25 A B
theorem Kc.refl {W0 A : World} : Kc W0 A A := ⟨Below.refl _ _, KT.refl _ _ _, KT.refl _ _ _⟩
theorem Kc.trans {W0 A B C : World} (h : Kc W0 A B) (k : Kc W0 B C) : Kc W0 A C := ⟨h.1.trans k.1, h.2.1.trans k.2.1, h.2.2.trans k.2.2⟩
end D29
theorem Chunk29_c (a0 : Option Addr) (n c0 p : Nat) (hp : 1 ≤ p) (B : Nat) (own : Nat → Prop) (W : World) (hl : ∀ b, own b → b < W.heap.size) (hB : B ≤ W.heap.size) :
    Calls Try.prog 56 ⟨[.slice a0 n c0, .int .i64 p]⟩ W (Ret W fun v w' => ∃ b1 b2, B ≤ b1 ∧ B ≤ b2 ∧ v = .func (.func 89) #[] #[.pointer (some ⟨b1, 0, none⟩), .pointer (some ⟨b2, 0, none⟩)] ∧ Box w' b1 ⟨[.slice a0 n c0]⟩ 25 ∧ Box w' b2 ⟨[.int .i64 p]⟩ 3) := by
  have hM := Mm.start hl
  refine f_start Try.func56 rfl Try.ntmps56 rfl rfl ?_; intro a hF
  (repeat' (first | (with_reducible refine w_seq ?_) | (with_reducible refine c_region ?_) | (with_reducible refine s_nil ?_) | (with_reducible refine q_then_n ?_) | ((with_reducible apply s_pure hF); exact rfl; exact rfl; exact rfl; (first | exact trivial | omega | exact ⟨Int.natCast_nonneg _, Int.ofNat_lt.2 (by assumption)⟩ | decide); clear hF a; intro a hF) | ((with_reducible apply s_load hF hM); exact rfl; exact rfl; (repeat (first | exact List.mem_cons_self | refine List.mem_cons_of_mem _ ?_)); exact rfl; exact rfl; clear hF a; intro a hF) | ((with_reducible apply s_box hF hM); exact rfl; exact rfl; exact rfl; exact rfl; clear hF hM a; intro b w a hM hF) | (with_reducible refine w_skip ?_) | (with_reducible refine w_ret ?_) | ((with_reducible apply c_dec hF); exact rfl; all_goals intro hc; all_goals (try (exfalso; omega)))))
  (apply f_ret Try.results56 hF hM; (repeat (first | exact RL.nil | (apply RL.tmp; exact rfl) | (apply RL.cell; exact rfl; (repeat (first | exact List.mem_cons_self | refine List.mem_cons_of_mem _ ?_)); exact rfl))); refine Ret.mk hM.since ?_; dsimp only [resV])
  exact ⟨_, _, Nat.le_trans hB (hM.mem.new _ (List.mem_cons_of_mem _ List.mem_cons_self)), Nat.le_trans hB (hM.mem.new _ List.mem_cons_self), rfl, hM.bx (List.mem_cons_of_mem _ List.mem_cons_self), hM.bx List.mem_cons_self⟩
set_option maxRecDepth 20000 in
set_option maxHeartbeats 1000000 in
theorem parts_stops (l : Dat) (hlen : l.length ≤ 100000) (p : Nat) (hp : 1 ≤ p ∧ p ≤ 4096) (a0 : Option Addr) (c0 b1 b2 : Nat) (hc0 : l.length ≤ c0) (W0 w : World) (hs : Since W0 w) (h1 : W0.heap.size ≤ b1) (h2 : W0.heap.size ≤ b2) (hb1 : Box w b1 ⟨[.slice a0 l.length c0]⟩ 25) (hb2 : Box w b2 ⟨[.int .i64 p]⟩ 3) :
    SeqStopsK Fence.wide 8 Try.prog 89 #[.pointer (some ⟨b1, 0, none⟩), .pointer (some ⟨b2, 0, none⟩)] (fun k : Nat => #[partV a0 l.length p k]) (Kc W0) (fun ys => ys = List.range ((l.length + p - 1) / p)) (fun pre => ∃ k, pre = List.range k) ((l.length + p - 1) / p) w := by
  intro lp J Jx W hW hJ hJx hY h0
  refine callsIn_wide.2 ?_
  show Calls Try.prog _ ⟨[.func (.yield lp) #[] #[], .pointer (some ⟨b1, 0, none⟩), .pointer (some ⟨b2, 0, none⟩)]⟩ W _
  have hM : Mm (fun _ => False) W [] [] [] W := Mm.start (fun _ h => h.elim)
  refine f_start Try.func89 rfl Try.ntmps89 rfl rfl ?_; intro a hF
  (repeat' (first | (with_reducible refine w_seq ?_) | (with_reducible refine c_region ?_) | (with_reducible refine s_nil ?_) | (with_reducible refine q_then_n ?_) | ((with_reducible apply s_pure hF); exact rfl; exact rfl; exact rfl; (first | exact trivial | omega | exact ⟨Int.natCast_nonneg _, Int.ofNat_lt.2 (by assumption)⟩ | decide); clear hF a; intro a hF) | (with_reducible refine w_block ?_)))
  have hsW : Since W0 W := hs.trans hW
  refine c_loop (m := (l.length + p - 1) / p) (fun m a w' => ∃ (k : Nat), m + k = (l.length + p - 1) / p ∧ J (List.range k) w' ∧ Since W0 w' ∧ Box w' b1 ⟨[.slice a0 l.length c0]⟩ 25 ∧ Box w' b2 ⟨[.int .i64 p]⟩ 3 ∧
    Fr 31 [] [(4, .int .i64 (k * p : Nat)), (0, .func (.yield lp) #[] #[]), (1, .pointer (some ⟨b1, 0, none⟩)), (2, .pointer (some ⟨b2, 0, none⟩))] a) ⟨0, by omega, h0, hsW, hb1.of_block (hW.block _ hb1.lt), hb2.of_block (hW.block _ hb2.lt), hF.sub (by repeat (first | exact Sub.nil | refine Sub.cons rfl (by first | with_reducible rfl | (refine congrArg (Value.int _) ?_; omega) | (exact (by rw [Nat.zero_mul]; rfl)) | exact rfl) ?_))⟩ ?_
  clear hF hM a
  rintro m a w' ⟨k, hm, hJp, hsp, hp1, hp2, hF⟩
  have hM : Mm (fun _ => False) w' [] [] [BxF b1 [.slice a0 l.length c0] 25, BxF b2 [.int .i64 p] 3] w' :=
    ((Mm.start (fun _ h => h.elim)).known (BxF.has hp2)).known (BxF.has hp1)
  have hlt2 := parts_lt (l := l) hp.1 (k := k)
  have hsucc : (k + 1) * p = k * p + p := Nat.succ_mul _ _
  have hpv : partV a0 l.length p k = .slice (sadr a0 (k * p) (k * p + min p (l.length - k * p)) 8) (min p (l.length - k * p)) (min p (l.length - k * p)) := rfl
  by_cases hlt : k < (l.length + p - 1) / p
  · have hql := hlt2.1 hlt
    have hYk := hY (List.range k) k
    dsimp only at hYk
    rw [hpv] at hYk
    obtain ⟨q, hq⟩ : ∃ q, k * p = q := ⟨_, rfl⟩
    rw [hq] at hF hql hYk hsucc
    obtain ⟨e, he⟩ : ∃ e, min p (l.length - q) = e := ⟨_, rfl⟩
    rw [he] at hYk
    have hmin : min (p : Int) ((l.length - q : Nat) : Int) = (e : Int) := by omega
    have heq : q + e ≤ l.length := by omega
    with_reducible refine w_seq ?_
    refine c_cut (fun a' w1 => w1 = w' ∧ Fr 31 [] [(4, .int .i64 q), (0, .func (.yield lp) #[] #[]), (1, .pointer (some ⟨b1, 0, none⟩)), (2, .pointer (some ⟨b2, 0, none⟩))] a') ?_ ?_
    · (repeat' (first | (with_reducible refine w_seq ?_) | (with_reducible refine c_region ?_) | (with_reducible refine s_nil ?_) | (with_reducible refine q_then_n ?_) | ((with_reducible apply s_pure hF); exact rfl; exact rfl; exact rfl; (first | exact trivial | omega | exact ⟨Int.natCast_nonneg _, Int.ofNat_lt.2 (by assumption)⟩ | decide); clear hF a; intro a hF) | ((with_reducible apply s_loadK hF hM); exact rfl; exact rfl; (repeat (first | exact List.mem_cons_self | refine List.mem_cons_of_mem _ ?_)); exact rfl; exact rfl; clear hF a; intro a hF) | (with_reducible refine w_skip ?_) | ((with_reducible apply c_dec hF); exact rfl; all_goals intro hc; all_goals (try (exfalso; omega)))))
      exact q_cut ⟨rfl, hF.sub (by repeat (first | exact Sub.nil | refine Sub.cons rfl (by first | with_reducible rfl | (refine congrArg (Value.int _) ?_; omega) | exact rfl) ?_))⟩
    clear hF a
    rintro a w1 ⟨rfl, hF⟩
    (repeat (first | (with_reducible refine w_seq ?_) | (with_reducible refine w_block ?_)))
    have hmin3 : min (p : Int) (((l.length : Int).toNat - (q : Int).toNat : Nat) : Int) = (e : Int) := by omega
    refine c_cut (fun a' w2 => Fr 31 [] [(5, .int .i64 e), (4, .int .i64 q), (0, .func (.yield lp) #[] #[]), (1, .pointer (some ⟨b1, 0, none⟩)), (2, .pointer (some ⟨b2, 0, none⟩))] a' ∧
      Mm (fun _ => False) w1 [] [] [BxF b1 [.slice a0 l.length c0] 25, BxF b2 [.int .i64 p] 3] w2) ?_ ?_
    · refine c_draw (fun i => Nat.ble 7 i) hM ?_; clear hM; intro w hM
      (first | (apply t_loadK (i := 0) hF rfl rfl rfl; (repeat (first | exact List.mem_cons_self | refine List.mem_cons_of_mem _ ?_)); exact rfl; exact rfl; kernel_rfl; exact hM.sm; exact (fun _ _ _ h => h); clear hF a; intro a hF))
      (first | (apply t_loadK (i := 1) hF rfl rfl rfl; (repeat (first | exact List.mem_cons_self | refine List.mem_cons_of_mem _ ?_)); exact rfl; exact rfl; kernel_rfl; exact hM.sm; exact (fun _ _ _ h => h); clear hF a; intro a hF))
      (first | (refine t_pure (i := 2) hF rfl rfl rfl rfl (by kernel_rfl) hM.sm (fun _ _ _ h => h) ?_ ?_; (first | exact trivial | omega | decide); clear hF a; intro a hF))
      (first | (refine t_pure (i := 3) hF rfl rfl rfl rfl (by kernel_rfl) hM.sm (fun _ _ _ h => h) ?_ ?_; (first | exact trivial | omega | decide); clear hF a; intro a hF))
      (first | (refine t_pure (i := 4) hF rfl rfl rfl rfl (by kernel_rfl) hM.sm (fun _ _ _ h => h) ?_ ?_; (first | exact trivial | omega | decide); clear hF a; intro a hF))
      (first | (refine t_pure (i := 5) hF rfl rfl rfl rfl (by kernel_rfl) hM.sm (fun _ _ _ h => h) ?_ ?_; (first | exact trivial | omega | decide); clear hF a; intro a hF))
      (first | (refine t_pure (i := 6) hF rfl rfl rfl rfl (by kernel_rfl) hM.sm (fun _ _ _ h => h) ?_ ?_; (first | exact trivial | omega | decide); clear hF a; intro a hF))
      refine t_done (by kernel_rfl) ?_
      (repeat (first | fail))
      rw [hmin3] at hF
      exact q_cut ⟨hF.sub (by repeat (first | exact Sub.nil | refine Sub.cons rfl (by first | with_reducible rfl | (refine congrArg (Value.int _) ?_; omega) | exact rfl) ?_)), hM⟩
    clear hF hM a
    rintro a w ⟨hF, hM⟩
    have hJ2 : J (List.range k) w := hJ _ w1 w none hJp hM.since.grows (fun r e => by cases e)
    have hs2 : Since W0 w := hsp.trans hM.since
    have hBa : Box w b1 _ _ := hM.fact (f := BxF b1 [.slice a0 l.length c0] 25) (by (repeat (first | exact List.mem_cons_self | refine List.mem_cons_of_mem _ ?_)))
    have hBb : Box w b2 _ _ := hM.fact (f := BxF b2 [.int .i64 p] 3) (by (repeat (first | exact List.mem_cons_self | refine List.mem_cons_of_mem _ ?_)))
    with_reducible refine w_seq ?_
    apply c_yield (n := 31) (ds := []) 10 7
    · exact rfl
    · exact rfl
    show wl _ _ [_, _, _, _, _, _, _, _, _, _] _ _
    (repeat (first | (with_reducible refine s_nil ?_) | ((with_reducible apply s_slice3 hF); exact rfl; exact rfl; exact rfl; exact rfl; exact rfl; exact rfl; exact rfl; exact rfl; omega; clear hF a; intro a hF) | (with_reducible refine q_then_n ?_) | ((with_reducible apply s_pure hF); exact rfl; exact rfl; exact rfl; (first | exact trivial | omega | exact ⟨Int.natCast_nonneg _, Int.ofNat_lt.2 (by assumption)⟩ | decide); clear hF a; intro a hF) | ((with_reducible apply s_loadK hF hM); exact rfl; exact rfl; (repeat (first | exact List.mem_cons_self | refine List.mem_cons_of_mem _ ?_)); exact rfl; exact rfl; clear hF a; intro a hF)))
    rw [show ((q : Int) + (e : Int)).toNat - (q : Int).toNat = e by omega, show ((q : Int) + (e : Int)).toNat = q + e by omega, Int.toNat_natCast] at hF
    refine ⟨_, [.slice (sadr a0 q (q + e) 8) e e], lp, _, hF, rfl, rfl, hYk w hJ2 (by rw [List.length_range]; exact hlt), ?_⟩
    rintro r w3 (⟨rfl, hJ3, k1, k2, k3⟩ | ⟨rfl, hJx3⟩)
    · refine ⟨_, rfl, fun a hF => ?_⟩
      have hp3 : Box w3 b1 _ _ := k3 b1 _ h1 hBa
      have hp4 : Box w3 b2 _ _ := k2 b2 _ h2 hBb
      have hs3 : Since W0 w3 := since_below hs2 k1
      clear hM
      have hM : Mm (fun _ => False) w3 [] [] [BxF b1 [.slice a0 l.length c0] 25, BxF b2 [.int .i64 p] 3] w3 :=
        ((Mm.start (fun _ h => h.elim)).known (BxF.has hp4)).known (BxF.has hp3)
      (repeat' (first | (with_reducible refine c_region ?_) | (with_reducible refine s_nil ?_) | (with_reducible refine q_then_n ?_) | ((with_reducible apply s_pure hF); exact rfl; exact rfl; exact rfl; (first | exact trivial | omega | exact ⟨Int.natCast_nonneg _, Int.ofNat_lt.2 (by assumption)⟩ | decide); clear hF a; intro a hF) | ((with_reducible apply s_loadK hF hM); exact rfl; exact rfl; (repeat (first | exact List.mem_cons_self | refine List.mem_cons_of_mem _ ?_)); exact rfl; exact rfl; clear hF a; intro a hF) | (with_reducible refine w_skip ?_) | (with_reducible refine q_blk_n ?_) | ((with_reducible apply c_false2 hF); exact rfl; (first | with_reducible rfl | (refine congrArg Value.bool ?_; focus (simp; done))))))
      exact ⟨m - 1, by omega, k + 1, by omega, by rw [List.range_succ]; exact hJ3, hs3, hp3, hp4, hF.sub (by repeat (first | exact Sub.nil | refine Sub.cons rfl (by first | with_reducible rfl | (refine congrArg (Value.int _) ?_; omega) | (exact congrArg _ (by omega)) | exact rfl) ?_))⟩
    · refine ⟨_, rfl, fun a hF => ?_⟩
      clear hM
      have hM : Mm (fun _ => False) w3 [] [] [] w3 := Mm.start (fun _ h => h.elim)
      (repeat' (first | (with_reducible refine s_nil ?_) | (with_reducible refine q_then_n ?_) | ((with_reducible apply s_pure hF); exact rfl; exact rfl; exact rfl; (first | exact trivial | omega | exact ⟨Int.natCast_nonneg _, Int.ofNat_lt.2 (by assumption)⟩ | decide); clear hF a; intro a hF) | (with_reducible refine w_ret ?_) | (with_reducible refine q_then_r ?_) | (with_reducible refine q_blk_r ?_) | ((with_reducible apply c_true2 hF); exact rfl; (first | with_reducible rfl | (refine congrArg Value.bool ?_; focus (simp; done))))))
      (apply f_ret Try.results89 hF hM; (repeat (first | exact RL.nil | (apply RL.tmp; exact rfl) | (apply RL.cell; exact rfl; (repeat (first | exact List.mem_cons_self | refine List.mem_cons_of_mem _ ?_)); exact rfl))); try dsimp only [resV])
      exact ⟨⟨_, rfl⟩, .inr ⟨_, ⟨k + 1, List.range_succ.symm⟩, hJx3⟩⟩
  · obtain rfl : k = (l.length + p - 1) / p := by omega
    have hql : ¬ (l.length + p - 1) / p * p < l.length := fun h => hlt (hlt2.2 h)
    have hqu : (l.length + p - 1) / p * p ≤ 1000000 := by
      have := Nat.div_mul_le_self (l.length + p - 1) p
      omega
    generalize hN : (l.length + p - 1) / p = N at *
    generalize N * p = q at *
    (repeat' (first | (with_reducible refine w_seq ?_) | (with_reducible refine c_region ?_) | (with_reducible refine s_nil ?_) | (with_reducible refine q_then_n ?_) | ((with_reducible apply s_pure hF); exact rfl; exact rfl; exact rfl; (first | exact trivial | omega | exact ⟨Int.natCast_nonneg _, Int.ofNat_lt.2 (by assumption)⟩ | decide); clear hF a; intro a hF) | ((with_reducible apply s_loadK hF hM); exact rfl; exact rfl; (repeat (first | exact List.mem_cons_self | refine List.mem_cons_of_mem _ ?_)); exact rfl; exact rfl; clear hF a; intro a hF) | (with_reducible refine w_exit ?_) | (with_reducible refine q_then_x ?_) | (with_reducible refine q_blk_x ?_) | ((with_reducible apply c_dec hF); exact rfl; all_goals intro hc; all_goals (try (exfalso; omega)))))
    (apply f_end Try.results89 hF hM; (repeat (first | exact RL.nil | (apply RL.tmp; exact rfl) | (apply RL.cell; exact rfl; (repeat (first | exact List.mem_cons_self | refine List.mem_cons_of_mem _ ?_)); exact rfl))); try dsimp only [resV])
    exact ⟨⟨_, rfl⟩, .inl ⟨_, rfl, hJp⟩⟩
end Go.Proofs.Ytonelgecjmpbgaa


/- dedup: Encode. -/
namespace Go.Proofs.Ytonelgecjmpbgaa
open Go.RowKit Go.Shelf D29
namespace D29
/-- A token, where its data lie, and how many places these have. -/
abbrev TP := Tok × Option Addr × Nat
abbrev tkC (t : TP) : List Value := [.bool t.1.r, .int .u64 t.1.d, .slice t.2.1 t.1.x.length t.2.2]
def cellsT (l : List TP) : List Value := (l.map tkC).flatten
theorem tkC_len (l : List TP) : ∀ y ∈ l.map tkC, y.length = 3 := by
  intro y hy
  obtain ⟨p, -, rfl⟩ := List.mem_map.1 hy
  rfl
theorem cellsT_app (l m : List TP) : cellsT (l ++ m) = cellsT l ++ cellsT m := by simp [cellsT]
def tP (l : List TP) : List P := l.map fun t => (⟨t.1.d, t.1.x⟩, t.2)
def tms (l : List TP) : List Tok := l.map (·.1)
theorem tP_app (l m : List TP) : tP (l ++ m) = tP l ++ tP m := by simp [tP]
theorem tms_app (l m : List TP) : tms (l ++ m) = tms l ++ tms m := by simp [tms]
theorem tms_len (l : List TP) : (tms l).length = l.length := by simp [tms]
/-- Tokens that are returned. -/
def TkR (own : Nat → Prop) (l : List Tok) (a : Option Addr) (c : Nat) (w : World) : Prop := ∃ ts : List TP, tms ts = l ∧ DatW (tP ts) ∧ Has own w (RdF id a (cellsT ts)) ∧ Has own w (DatF (tP ts)) ∧ l.length ≤ c
theorem encI_snoc (cap : Int) : ∀ (xs : List Dat) (x : Dat) (l : List Itm), encI cap (xs ++ [x]) l = (addI cap (encI cap xs l).1 x, (encI cap xs l).2 ++ [tokI (encI cap xs l).1 x])
  | [], x, l => by simp [encI]
  | y :: r, x, l => by
    rw [List.cons_append, encI, encI_snoc cap r x, encI]
    rfl
/-- What Encode answers. -/
def encR (c : St) (l : Dat) (chunk : Int) : Except Int (List Itm × List Tok) := if check c ≠ 0 then .error (check c) else if chunk < 1 ∨ 4096 < chunk then .error 1 else .ok (encI c.cap (parts chunk.toNat l) c.items)
def encP (own : Nat → Prop) (cp : Int) (r : Except Int (List Itm × List Tok)) (v : Value) (w' : World) : Prop := match r with
  | .error e => v = .tuple #[.agg #[.int .i64 0, .slice none 0 0], .slice none 0 0, .int .i64 e]
  | .ok r => ∃ (a : Option Addr) (c : Nat) (a2 : Option Addr) (c2 : Nat), v = .tuple #[.agg #[.int .i64 cp, .slice a r.1.length c], .slice a2 r.2.length c2, .int .i64 0] ∧ ItR own r.1 a c w' ∧ TkR own r.2 a2 c2 w'
theorem DatF.snoc {own : Nat → Prop} {w : World} {l : List P} {p : P} (h : Has own w (DatF l)) (k : Has own w (RdF (Value.int .u8) p.2.1 p.1.x.flatten)) : Has own w (DatF (l ++ [p])) :=
  (h.and k).imp fun w h q hq => by
    rcases List.mem_append.1 hq with hq | hq
    · exact h.1 q hq
    · rw [List.mem_singleton] at hq
      rw [hq]
      exact h.2
theorem DatW.snoc {l : List P} {p : P} (h : DatW l) (k : W8 p.1.x ∧ p.1.x.length ≤ p.2.2 ∧ ∀ s ∈ p.1.x, ∀ b ∈ s, 0 ≤ b ∧ b < 256) : DatW (l ++ [p]) := fun q hq => by
  rcases List.mem_append.1 hq with hq | hq
  · exact h q hq
  · rw [List.mem_singleton] at hq
    rw [hq]
    exact k
theorem addI_mem {cap : Int} {l : List Itm} {x : Dat} {i : Itm} (h : i ∈ addI cap l x) : i ∈ l ∨ i = ⟨dg x, x⟩ := by
  unfold addI at h
  split at h
  · exact .inl h
  · have : i ∈ l ++ [(⟨dg x, x⟩ : Itm)] := by
      split at h
      · exact List.mem_of_mem_drop h
      · exact h
    simpa using this
theorem kt_types {E : List TE} {eI tk : Ent} {its : List P} {iv : Value} (hS : StI its iv eI E) {T : TypeId} (h1 : 57 ≠ T) (h2 : tk.e ≠ T) : ∀ y ∈ eI :: ([tk] ++ rowsT E), y.e ≠ T := by
  intro y hy
  rcases List.mem_cons.1 hy with rfl | hy
  · rw [hS.row.1]; exact h1
  · rcases List.mem_cons.1 hy with rfl | hy
    · exact h2
    · obtain ⟨e, he, rfl⟩ := List.mem_map.1 hy
      rw [(hS.tE e he).1]
      exact h1
/-- What Encode keeps. -/
structure EncS (cp : Int) (l0 : List Itm) (xs : List Dat) (its : List P) (iv : Value) (eI : Ent) (E : List TE) (ts : List TP) : Prop where
  im : ims its = (encI cp xs l0).1
  tm : tms ts = (encI cp xs l0).2
  tw : DatW (tP ts)
  st : StI its iv eI E
  ln : (its.length : Int) ≤ cp
  ch : ∀ q ∈ its, q.1.x.length ≤ 4096
/-- The memory of Encode within a round. -/
abbrev EncM (own : Nat → Prop) (W : World) (sb mb : Nat) (cp : Int) (b4 b9 b11 : Nat) (Fx : List (World → Prop)) (its : List P) (iv : Value) (eI : Ent) (E : List TE) (ts : List TP) (tv : Value) (k : Nat) (w' : World) : Prop :=
  Mm own W [stB sb mb cp iv, ⟨b11, ⟨[tv]⟩, 28⟩, ⟨b9, ⟨[.pointer (some ⟨sb, 0, none⟩)]⟩, 89⟩, ⟨b4, ⟨[.int .i64 0, .slice none 0 0]⟩, 24⟩] (eI :: ([⟨68, 3, tv, k, cellsT ts⟩] ++ rowsT E)) (MpE (Value.int .u64) mb (esE E) :: DatF its :: DatF (tP ts) :: Fx) w'
theorem below_mm {own own' : Nat → Prop} {w0 w w' : World} {bs bs' : List BoxE} {L L' : List Ent} {Fs Fs' : List (World → Prop)} (h : Mm own w0 bs L Fs w) (h' : Mm own' w0 bs' L' Fs' w') (hs : w.heap.size ≤ w'.heap.size) : Below w0.heap.size w w' :=
  ⟨h'.since.os.trans h.since.os.symm, h'.since.tape.trans h.since.tape.symm, h'.since.output.trans h.since.output.symm, hs, fun k hk => (h'.since.block k hk).trans (h.since.block k hk).symm⟩
theorem f_retMN {n : Nat} {l : List (Nat × Value)} {a : Act} {w w0 : World} {own : Nat → Prop} {bs : List BoxE} {L : List Ent} {Fs : List (World → Prop)} {fn : Func} {rs : List ResultVar} {vs : List Value} {R : Ending → World → Prop} {D : Nat} (Fs' : List (World → Prop)) (hr : fn.results = ⟨rs⟩) (hF : Fr n (markL D) l a) (hM : Mm own w0 bs L Fs w) (hD : DefF D ∈ Fs) (hD0 : w0.heap.size ≤ D) (hs : ∀ f ∈ Fs', f ∈ Fs) (hn : ∀ f ∈ Fs', Nb D f) (hv : RL l bs rs vs) (hR : ∀ w', Mm own w0 bs L Fs' w' → R (.returned (resV vs)) w') : bodyPostM Fence.wide 9 Try.prog fn R .ret a w := by
  have hK := hM.fact hD
  have hM' : Mm own w0 bs L Fs' (w.putObj D (.deferred none)) := (hM.sub (.refl _) (.refl _) hs).turnN (grownBy_putObj' w D (.deferred none)) (fun r e => by cases e; exact ⟨hD0, _, hK, rfl⟩) (fun r e f hf => by cases e; exact hn f hf)
  have hres := f_res (fn := fn) hr hF hM' hv
  show LeavesInM _ _ _ _ _ _ a.defers _ _
  rw [hF.defs]
  refine ⟨by simp, .inl ⟨D, _, rfl, run_takeDeferred hK, ?_⟩⟩
  exact ⟨_, hres, hR _ hM'⟩
end D29
section
variable (cp : Int) (ps : List P) (a0 : Option Addr) (c0 n : Nat) (hn : ps.length = n) (hlen : n ≤ 100000) (hDW : DatW ps) (hpx : ∀ p ∈ ps, p.1.x.length ≤ 100000) (own : Nat → Prop) (W : World) (hl : ∀ b, own b → b < W.heap.size) (h1 : Has own W (RdF id a0 (cellsP ps))) (h2 : Has own W (DatF ps))
include hn hlen hDW hpx hl h1 h2
set_option maxRecDepth 20000 in
set_option maxHeartbeats 4000000 in
theorem Encode29_c (l : Dat) (hl8 : W8 l) (hlb : ∀ s ∈ l, ∀ b ∈ s, 0 ≤ b ∧ b < 256) (al : Option Addr) (cl nl : Nat) (hnl : l.length = nl) (hnl4 : nl ≤ 4096) (hcl : nl ≤ cl) (hx : Has own W (RdF (Value.int .u8) al l.flatten)) (chunk : Int) :
    Calls Try.prog 14 ⟨[.agg #[.int .i64 cp, .slice a0 n c0], .slice al nl cl, .int .i64 chunk]⟩ W (Ret W (encP own cp (encR ⟨cp, ims ps⟩ l chunk))) := by
  have hM := (((Mm.start hl).known hx).known h2).known h1
  subst hnl
  refine f_startM Try.func14 rfl Try.ntmps14 rfl rfl ?_; intro a hF
  (repeat (first | (with_reducible refine w_seq ?_) | (with_reducible refine c_region ?_) | (with_reducible refine s_nil ?_) | (with_reducible refine q_then_n ?_) | ((with_reducible apply s_pure hF); exact rfl; exact rfl; exact rfl; (first | exact trivial | omega | exact ⟨Int.natCast_nonneg _, Int.ofNat_lt.2 (by assumption)⟩ | decide); clear hF a; intro a hF) | ((with_reducible apply s_load hF hM); exact rfl; exact rfl; (repeat (first | exact List.mem_cons_self | refine List.mem_cons_of_mem _ ?_)); exact rfl; exact rfl; clear hF a; intro a hF) | ((with_reducible apply s_alloc hF hM); exact rfl; exact rfl; exact rfl; clear hF hM a; intro b w a hM hF) | ((with_reducible apply s_box hF hM); exact rfl; exact rfl; exact rfl; exact rfl; clear hF hM a; intro b w a hM hF)))
  rename_i b2 _
  generalize b = b4 at *
  have hnb : ∀ f ∈ [RdF (Value.int .u8) al l.flatten], ∀ b, Nb b f := by
    intro f hf b
    rw [List.mem_singleton] at hf
    rw [hf]
    exact Nb.rd
  by_cases hb : cp < 1 ∨ 4096 < cp ∨ cp < n
  · have hck := chk_bad (l := ims ps) (by rw [ims_len, hn]; exact hb)
    have he : encR ⟨cp, ims ps⟩ l chunk = .error (check ⟨cp, ims ps⟩) := if_pos hck
    rw [he]
    (((with_reducible apply s_callM (f := 55) hF); exact rfl; exact rfl; exact rfl; exact rfl; exact rfl; exact (open_bad cp ps a0 c0 n hn hlen hDW hpx hnb hM hb); clear hF hM a; rintro v w a ⟨rfl, hM⟩ hF))
    generalize check ⟨cp, ims ps⟩ = e at *
    (repeat' (first | (with_reducible refine w_seq ?_) | (with_reducible refine c_region ?_) | (with_reducible refine s_nil ?_) | (with_reducible refine q_then_n ?_) | ((with_reducible apply s_pure hF); exact rfl; exact rfl; exact rfl; (first | exact trivial | omega | exact ⟨Int.natCast_nonneg _, Int.ofNat_lt.2 (by assumption)⟩ | decide); clear hF a; intro a hF) | ((with_reducible apply s_store hF hM); exact rfl; exact rfl; exact rfl; exact rfl; (repeat (first | exact Upd.z | apply Upd.s)); exact rfl; exact rfl; exact rfl; clear hM; intro w hM) | ((with_reducible apply s_alloc hF hM); exact rfl; exact rfl; exact rfl; clear hF hM a; intro b w a hM hF) | (with_reducible refine w_block ?_) | (with_reducible refine w_ret ?_) | (with_reducible refine q_then_r ?_) | (with_reducible refine q_blk_r ?_) | ((with_reducible apply c_dec hF); exact rfl; all_goals intro hc; all_goals (try (exfalso; omega)))))
    all_goals first | (exfalso; omega) | (apply f_ret0 Try.results14 hF hM (by (repeat (first | exact RL.nil | (apply RL.tmp; exact rfl) | (apply RL.cell; exact rfl; (repeat (first | exact List.mem_cons_self | refine List.mem_cons_of_mem _ ?_)); exact rfl)))); refine Ret.mk hM.since ?_; dsimp only [resV])
    all_goals exact rfl
  · have hck := chk_big (l := ims ps) (by rw [ims_len, hn]; exact hb)
    (((with_reducible apply s_callM (f := 55) hF); exact rfl; exact rfl; exact rfl; exact rfl; exact rfl; exact (open_c cp ps a0 c0 n hn hlen hDW hpx hnb hM (by omega) (by omega)); clear hF hM a; rintro v w a (⟨h0, rfl, hM⟩ | ⟨h0, sb, mb, its, iv, eI, E, rfl, him, hS, hmb, hM⟩) hF))
    · have he : encR ⟨cp, ims ps⟩ l chunk = .error (chkL [] (ims ps)) := by
        unfold encR
        rw [hck, if_pos h0]
      rw [he]
      generalize chkL [] (ims ps) = e at *
      (repeat' (first | (with_reducible refine w_seq ?_) | (with_reducible refine c_region ?_) | (with_reducible refine s_nil ?_) | (with_reducible refine q_then_n ?_) | ((with_reducible apply s_pure hF); exact rfl; exact rfl; exact rfl; (first | exact trivial | omega | exact ⟨Int.natCast_nonneg _, Int.ofNat_lt.2 (by assumption)⟩ | decide); clear hF a; intro a hF) | ((with_reducible apply s_store hF hM); exact rfl; exact rfl; exact rfl; exact rfl; (repeat (first | exact Upd.z | apply Upd.s)); exact rfl; exact rfl; exact rfl; clear hM; intro w hM) | ((with_reducible apply s_alloc hF hM); exact rfl; exact rfl; exact rfl; clear hF hM a; intro b w a hM hF) | (with_reducible refine w_block ?_) | (with_reducible refine w_ret ?_) | (with_reducible refine q_then_r ?_) | (with_reducible refine q_blk_r ?_) | ((with_reducible apply c_dec hF); exact rfl; all_goals intro hc; all_goals (try (exfalso; omega)))))
      all_goals first | (exfalso; omega) | (apply f_ret0 Try.results14 hF hM (by (repeat (first | exact RL.nil | (apply RL.tmp; exact rfl) | (apply RL.cell; exact rfl; (repeat (first | exact List.mem_cons_self | refine List.mem_cons_of_mem _ ?_)); exact rfl)))); refine Ret.mk hM.since ?_; dsimp only [resV])
      all_goals exact rfl
    · by_cases hc : chunk < 1 ∨ 4096 < chunk
      · have he : encR ⟨cp, ims ps⟩ l chunk = .error 1 := by
          unfold encR
          rw [hck, if_neg (by simp [h0]), if_pos hc]
        rw [he]
        (repeat' (first | (with_reducible refine w_seq ?_) | (with_reducible refine c_region ?_) | (with_reducible refine s_nil ?_) | (with_reducible refine q_then_n ?_) | ((with_reducible apply s_pure hF); exact rfl; exact rfl; exact rfl; (first | exact trivial | omega | exact ⟨Int.natCast_nonneg _, Int.ofNat_lt.2 (by assumption)⟩ | decide); clear hF a; intro a hF) | ((with_reducible apply s_store hF hM); exact rfl; exact rfl; exact rfl; exact rfl; (repeat (first | exact Upd.z | apply Upd.s)); exact rfl; exact rfl; exact rfl; clear hM; intro w hM) | ((with_reducible apply s_alloc hF hM); exact rfl; exact rfl; exact rfl; clear hF hM a; intro b w a hM hF) | (with_reducible refine w_block ?_) | (with_reducible refine w_ret ?_) | (with_reducible refine q_then_r ?_) | (with_reducible refine q_blk_r ?_) | ((with_reducible apply c_true2 hF); exact rfl; (first | with_reducible rfl | (refine congrArg Value.bool ?_; focus (simp; done)))) | ((with_reducible apply c_false2 hF); exact rfl; (first | with_reducible rfl | (refine congrArg Value.bool ?_; focus (simp; done)))) | ((with_reducible apply s_skip hF); exact rfl; exact rfl; clear hF a; intro a hF) | ((fail_if_success ((with_reducible refine g_known true hF ?_ ?_); focus exact rfl)); (fail_if_success ((with_reducible refine g_known false hF ?_ ?_); focus exact rfl)); (with_reducible apply g_dec hF); exact rfl; exact rfl; all_goals (clear hF; intro hc hF); all_goals (try (exfalso; omega))) | ((with_reducible apply c_dec hF); exact rfl; all_goals intro hc; all_goals (try (exfalso; omega)))))
        all_goals first | (exfalso; omega) | (apply f_ret0 Try.results14 hF hM (by (repeat (first | exact RL.nil | (apply RL.tmp; exact rfl) | (apply RL.cell; exact rfl; (repeat (first | exact List.mem_cons_self | refine List.mem_cons_of_mem _ ?_)); exact rfl)))); refine Ret.mk hM.since ?_; dsimp only [resV])
        all_goals exact rfl
      · obtain ⟨p, rfl⟩ : ∃ p : Nat, chunk = p := ⟨chunk.toNat, by omega⟩
        have he : encR ⟨cp, ims ps⟩ l (p : Int) = .ok (encI cp (parts p l) (ims ps)) := by
          unfold encR
          rw [hck, if_neg (by simp [h0]), if_neg hc]
          rfl
        rw [he]
        (repeat' (first | (with_reducible refine w_seq ?_) | (with_reducible refine c_region ?_) | (with_reducible refine s_nil ?_) | ((with_reducible apply s_call (f := 56) hF hM); exact rfl; exact rfl; exact rfl; exact rfl; exact rfl; exact (Chunk29_c al l.length cl p (by omega) W.heap.size _ _ hM.lt hM.since.size); clear hF hM a; rintro v w a ⟨q1, q2, hq1, hq2, rfl, hB1, hB2⟩ - hM hF) | (with_reducible refine q_then_n ?_) | ((with_reducible apply s_pure hF); exact rfl; exact rfl; exact rfl; (first | exact trivial | omega | exact ⟨Int.natCast_nonneg _, Int.ofNat_lt.2 (by assumption)⟩ | decide); clear hF a; intro a hF) | ((with_reducible apply s_store hF hM); exact rfl; exact rfl; exact rfl; exact rfl; (repeat (first | exact Upd.z | apply Upd.s)); exact rfl; exact rfl; exact rfl; clear hM; intro w hM) | ((with_reducible apply s_alloc hF hM); exact rfl; exact rfl; exact rfl; clear hF hM a; intro b w a hM hF) | (with_reducible refine w_skip ?_) | (with_reducible refine w_block ?_) | (with_reducible refine q_blk_n ?_) | ((with_reducible apply c_false2 hF); exact rfl; (first | with_reducible rfl | (refine congrArg Value.bool ?_; focus (simp; done)))) | ((fail_if_success ((with_reducible refine g_known true hF ?_ ?_); focus exact rfl)); (fail_if_success ((with_reducible refine g_known false hF ?_ ?_); focus exact rfl)); (with_reducible apply g_dec hF); exact rfl; exact rfl; all_goals (clear hF; intro hc hF); all_goals (try (exfalso; omega))) | ((with_reducible apply c_dec hF); exact rfl; all_goals intro hc; all_goals (try (exfalso; omega)))))
        rename_i b9 _ _ _ _ _
        obtain ⟨b11, rfl⟩ : ∃ x, x = b := ⟨_, rfl⟩
        obtain ⟨w2, rfl⟩ : ∃ x, x = w := ⟨_, rfl⟩
        have hsz : W.heap.size ≤ w2.heap.size := hM.since.size
        have hmbF := hM.fact (f := MpE (Value.int .u64) mb (esE E)) (by (repeat (first | with_reducible exact List.mem_cons_self | refine List.mem_cons_of_mem _ ?_)))
        have hmb2 : mb < w2.heap.size := (Array.getElem?_eq_some_iff.1 hmbF).1
        have hrow := (((hM.nilRow 68 3).permL (.swap _ _ _)).perm (bs' := [stB sb mb cp iv, ⟨b11, ⟨[.slice none 0 0]⟩, 28⟩, ⟨b9, ⟨[.pointer (some ⟨sb, 0, none⟩)]⟩, 89⟩, ⟨b4, ⟨[.int .i64 0, .slice none 0 0]⟩, 24⟩, ⟨b2, ⟨[.int .i64 cp, .slice a0 n c0]⟩, 24⟩]) ((List.perm_append_comm (l₁ := [_, _]) (l₂ := [_])).append_right _)).addFact (f := DatF (tP [])) (Has.pure fun _ p hp => by simp [tP] at hp)
        have hch0 : ∀ q ∈ its, q.1.x.length ≤ 4096 := by
          intro q hq
          obtain ⟨k1, -⟩ := chkL_ok.1 h0
          have := k1 q.1 (by rw [← him]; exact List.mem_map.2 ⟨q, hq, rfl⟩)
          unfold isCh at this
          rw [decide_eq_true_eq] at this
          exact this.2
        have hil : its.length = n := by
          have := congrArg List.length him
          rw [ims_len, ims_len] at this
          omega
        have hS0 : EncS cp (ims ps) [] its iv eI E [] := ⟨him, rfl, fun q hq => by simp [tP] at hq, hS, by omega, hch0⟩
        refine c_range1 hF rfl rfl rfl (va := fun x : Nat => partV al l.length p x) (la := fun x => [(12, partV al l.length p x), (11, .pointer (some ⟨b11, 0, none⟩)), (9, .pointer (some ⟨b9, 0, none⟩))]) (parts_stops l (by omega) p (by omega) al cl q1 q2 hcl W w2 hM.since hq1 hq2 hB1 hB2) (by omega) (fun _ => Kc.refl) (fun h k => h.trans k) ?kb (Below.refl _ _)
          (fun pre W' => ∃ (its : List P) (iv : Value) (eI : Ent) (E : List TE) (ts : List TP) (tv : Value), EncS cp (ims ps) (pre.map (D29.part p l)) its iv eI E ts ∧
            Mm own W [stB sb mb cp iv, ⟨b11, ⟨[tv]⟩, 28⟩, ⟨b9, ⟨[.pointer (some ⟨sb, 0, none⟩)]⟩, 89⟩, ⟨b4, ⟨[.int .i64 0, .slice none 0 0]⟩, 24⟩] (eI :: ([⟨68, 3, tv, pre.length, cellsT ts⟩] ++ rowsT E)) [MpE (Value.int .u64) mb (esE E), DatF its, DatF (tP ts), RdF (Value.int .u8) al l.flatten] W') ?hI ?h0 ?assign ?body ?done
        case kb =>
          intro W' lb o o' h1 h2 h3 h4
          exact ⟨belowK_b hsz W' lb o o' h1 h2 h3 h4, KT.putObj o' h2 h3, KT.putObj o' h2 h3⟩
        case hI =>
          rintro pre W1 W2 row ⟨its, iv, eI, E, ts, tv, hES, hm⟩ hg hr
          refine ⟨its, iv, eI, E, ts, tv, hES, hm.turnN hg (fun r e => ⟨by have := (hr r e).1; omega, (hr r e).2⟩) ?_⟩
          intro r e f hf
          have hr1 := (hr r e).1
          simp only [List.mem_cons, List.not_mem_nil, or_false] at hf
          rcases hf with rfl | rfl | rfl | rfl
          · exact Nb.mp (by omega)
          · exact Nb.dat
          · exact Nb.dat
          · exact Nb.rd
        case h0 => exact ⟨its, iv, eI, E, [], _, hS0, hrow.sub (.cons_cons _ (.cons_cons _ (.cons_cons _ (.cons_cons _ (.cons _ .slnil))))) (.refl _) (fun f hf => by simp only [List.mem_cons, List.not_mem_nil, or_false] at hf ⊢; rcases hf with h | h | h | h <;> simp [h])⟩
        case assign =>
          intro l0 k x a W' hF
          (repeat (first | ((with_reducible refine c_regionR ?_ ?_); rotate_left; exact rfl) | (with_reducible refine s_nil ?_) | ((with_reducible apply s_pure hF); exact rfl; exact rfl; exact rfl; (first | exact trivial | omega | exact ⟨Int.natCast_nonneg _, Int.ofNat_lt.2 (by assumption)⟩ | decide); clear hF a; intro a hF)))
          exact q_cut ⟨rfl, hF.sub (by repeat (first | exact Sub.nil | refine Sub.cons rfl (by first | with_reducible rfl | (refine congrArg (Value.int _) ?_; omega) | exact rfl) ?_))⟩
        case done =>
          rintro D xs a W' hD rfl ⟨its, iv, eI, E, ts, tv, hES, hM⟩ hK hF
          have htl := congrArg List.length hES.tm
          rw [tms_len, encI_len, List.length_map] at htl
          replace hM := hM.addDef hK (by omega)
          obtain ⟨ai, ci, rfl, -, -⟩ := OffR.shape hM (k := 0) rfl hES.st.row
          replace hM := OffR.freeze (enc := id) hM.freeze (by rw [List.map_id]; exact hES.st.row)
          replace hM := ((hM.perm (bs' := [⟨b4, ⟨[.int .i64 0, .slice none 0 0]⟩, 24⟩, ⟨b11, ⟨[tv]⟩, 28⟩, ⟨b9, ⟨[.pointer (some ⟨sb, 0, none⟩)]⟩, 89⟩]) (List.perm_append_comm (l₁ := [_, _]) (l₂ := [_]))).sub (L' := [⟨68, 3, tv, (List.range ((l.length + p - 1) / p)).length, cellsT ts⟩]) (.refl _) (List.sublist_append_left _ _) (fun _ h => h))
          (repeat (first | (with_reducible refine w_seq ?_) | (with_reducible refine q_then_n ?_) | (with_reducible refine q_blk_n ?_)))
          refine c_cut (fun a2 w2 => ∃ (a' : Option Addr) (c' : Nat) (ps2 : List P), ims ps2 = ims its ∧ DatW ps2 ∧ (ims its).length ≤ c' ∧ Fr 77 (markL D) [(8, .int .i64 0), (7, tv), (6, .pointer (some ⟨b4, 0, none⟩))] a2 ∧
            Mm own W [⟨b4, ⟨[.int .i64 cp, .slice a' its.length c']⟩, 24⟩] [⟨68, 3, tv, (List.range ((l.length + p - 1) / p)).length, cellsT ts⟩] [RdF id a' (cellsP ps2), DatF ps2, DatF (tP ts), DefF D] w2) ?_ ?_
          · refine c_drawS (fun i => Nat.ble 4 i) (fun x hx => List.mem_cons_of_mem _ (hx)) hM ?_; clear hM; intro w hM
            (first | (apply t_load (i := 0) hF rfl rfl rfl; (repeat (first | exact List.mem_cons_self | refine List.mem_cons_of_mem _ ?_)); exact rfl; exact rfl; kernel_rfl; exact (hM.sm.sub (fun x hx => by repeat (first | exact hx | refine List.mem_cons_of_mem _ ?_)) (fun _ h => by repeat (first | exact h | refine List.mem_cons_of_mem _ ?_))); exact (fun _ _ _ h => h); clear hF a; intro a hF))
            (first | (apply t_load (i := 2) hF rfl rfl rfl; (repeat (first | exact List.mem_cons_self | refine List.mem_cons_of_mem _ ?_)); exact rfl; exact rfl; kernel_rfl; exact (hM.sm.sub (fun x hx => by repeat (first | exact hx | refine List.mem_cons_of_mem _ ?_)) (fun _ h => by repeat (first | exact h | refine List.mem_cons_of_mem _ ?_))); exact (fun _ _ _ h => h); clear hF a; intro a hF))
            refine t_one (i := 1) hF rfl (by kernel_rfl) rfl ?_
            intro K hK
            (apply x_call hF hM; exact rfl; exact rfl; exact rfl; exact rfl; exact (chunks_c sb mb cp its ai ci (by have := hES.ln; omega) hES.st.dw hES.ch _ _ hM.lt (hM.facts (BxF sb [.map (some mb), .int .i64 cp, .slice ai its.length ci] 99) (by (repeat (first | with_reducible exact List.mem_cons_self | refine List.mem_cons_of_mem _ ?_)))) (hM.facts (RdF id ai (cellsP its)) (by (repeat (first | with_reducible exact List.mem_cons_self | refine List.mem_cons_of_mem _ ?_)))) (hM.facts (DatF its) (by (repeat (first | with_reducible exact List.mem_cons_self | refine List.mem_cons_of_mem _ ?_))))); clear hF hM a; rintro v w a ⟨a', c', rfl, ps2, k1, k2, k3, k4, k5⟩ - hM hF)
            replace hM := (hM.addFact k4).addFact k3
            refine hK _ _ (fun _ => (hM.sm.sub (fun x hx => by repeat (first | exact hx | refine List.mem_cons_of_mem _ ?_)) (fun _ h => by repeat (first | exact h | refine List.mem_cons_of_mem _ ?_)))) ?_; clear hK
            refine t_one (i := 3) hF rfl (by kernel_rfl) rfl ?_
            intro K hK
            (apply x_store hF hM rfl rfl rfl; (repeat (first | exact Upd.z | apply Upd.s)); exact rfl; exact rfl; exact rfl; clear hF hM a; intro w a hM hF)
            refine hK _ _ (fun _ => (hM.sm.sub (fun x hx => by repeat (first | exact hx | refine List.mem_cons_of_mem _ ?_)) (fun _ h => by repeat (first | exact h | refine List.mem_cons_of_mem _ ?_)))) ?_; clear hK
            refine t_one (i := 4) hF rfl (by kernel_rfl) rfl ?_
            intro K hK
            (first | (refine x_pure hF hM rfl rfl ?_ ?_; (first | exact trivial | omega | decide); clear hF a; intro a hF) | (apply x_load hF hM rfl; (repeat (first | exact List.mem_cons_self | refine List.mem_cons_of_mem _ ?_)); exact rfl; exact rfl; clear hF a; intro a hF))
            refine hK _ _ (fun h => by cases h) ?_; clear hK
            refine t_one (i := 5) hF rfl (by kernel_rfl) rfl ?_
            intro K hK
            (first | (refine x_pure hF hM rfl rfl ?_ ?_; (first | exact trivial | omega | decide); clear hF a; intro a hF) | (apply x_load hF hM rfl; (repeat (first | exact List.mem_cons_self | refine List.mem_cons_of_mem _ ?_)); exact rfl; exact rfl; clear hF a; intro a hF))
            refine hK _ _ (fun h => by cases h) ?_; clear hK
            refine t_done (by kernel_rfl) ?_
            (repeat (first | fail))
            exact q_cut ⟨a', c', ps2, k1, k2, k5, hF.sub (by repeat (first | exact Sub.nil | refine Sub.cons rfl (by first | with_reducible rfl | (refine congrArg (Value.int _) ?_; omega) | exact rfl) ?_)), hM.sub (.cons_cons _ (.cons _ (.cons _ .slnil))) (.refl _) (fun f hf => by simp only [List.mem_cons, List.not_mem_nil, or_false] at hf ⊢; rcases hf with h | h | h | h <;> simp [h])⟩
          clear hF hM a
          rintro a w ⟨a', c', ps2, k1, k2, k5, hF, hM⟩
          (repeat (first | (with_reducible refine w_ret ?_)))
          obtain ⟨av, cv, rfl, hcv, -⟩ := OffR.shape hM (k := 0) rfl (OffR.plain hM List.mem_cons_self)
          replace hM := Mm.freezeN (enc := id) (xs := cellsT ts) (by rw [List.map_id]; exact hM)
          apply f_retMN [RdF id av (cellsT ts), RdF id a' (cellsP ps2), DatF ps2, DatF (tP ts)] Try.results14 hF hM (by (repeat (first | with_reducible exact List.mem_cons_self | refine List.mem_cons_of_mem _ ?_))) (by omega)
          · intro f hf
            simp only [List.mem_cons, List.not_mem_nil, or_false] at hf ⊢
            rcases hf with h | h | h | h <;> simp [h]
          · intro f hf
            simp only [List.mem_cons, List.not_mem_nil, or_false] at hf
            rcases hf with rfl | rfl | rfl | rfl
            · exact Nb.rd
            · exact Nb.rd
            · exact Nb.dat
            · exact Nb.dat
          · (repeat (first | exact RL.nil | (apply RL.tmp; exact rfl) | (apply RL.cell; exact rfl; (repeat (first | exact List.mem_cons_self | refine List.mem_cons_of_mem _ ?_)); exact rfl)))
          intro w' hM'
          have hpe : (List.range ((l.length + p - 1) / p)).map (D29.part p l) = parts p l := rfl
          rw [hpe] at hES
          have him := hES.im
          have htm := hES.tm
          refine Ret.mk hM'.since ⟨a', c', av, cv, ?_, ?_, ?_⟩
          · rw [← him, ← htm, ims_len, tms_len, htl]
            rfl
          · exact itR_mk hM' (k1.trans him) k2 (by (repeat (first | with_reducible exact List.mem_cons_self | refine List.mem_cons_of_mem _ ?_))) (by (repeat (first | with_reducible exact List.mem_cons_self | refine List.mem_cons_of_mem _ ?_))) (by rw [← him]; exact k5)
          · exact ⟨ts, htm, hES.tw, hM'.factOut (by (repeat (first | with_reducible exact List.mem_cons_self | refine List.mem_cons_of_mem _ ?_))), hM'.factOut (by (repeat (first | with_reducible exact List.mem_cons_self | refine List.mem_cons_of_mem _ ?_))), by rw [← htm, tms_len, htl]; exact hcv⟩
        case body =>
          clear hM hF hS hS0 hrow hch0 hil him hmbF
          rintro l0 k pre x a W' ⟨its, iv, eI, E, ts, tv, hES, hM⟩ hF hlt
          have hM0 := hM
          have hD8 : W8 (D29.part p l x) := fun s hs => hl8 s (part_sub s hs)
          have hDb : ∀ s ∈ D29.part p l x, ∀ b ∈ s, 0 ≤ b ∧ b < 256 := fun s hs => hlb s (part_sub s hs)
          have hDl : (D29.part p l x).length = min p (l.length - x * p) := part_len
          have hDr := part_rd hl8 (hM.facts (RdF (Value.int .u8) al l.flatten) (by (repeat (first | with_reducible exact List.mem_cons_self | refine List.mem_cons_of_mem _ ?_)))) p x
          have htl : ts.length = pre.length := by
            have := congrArg List.length hES.tm
            rw [tms_len, encI_len, List.length_map] at this
            exact this
          have hpl : pre.length ≤ 100000 := by
            have := Nat.div_le_self (l.length + p - 1) p
            omega
          unfold partV at hF
          have hsn := encI_snoc cp (pre.map (D29.part p l)) (D29.part p l x) (ims ps)
          have hmap : (pre ++ [x]).map (D29.part p l) = pre.map (D29.part p l) ++ [D29.part p l x] := by simp
          rw [← hmap] at hsn
          obtain ⟨aq, haq⟩ : ∃ aq, sadr al (x * p) (x * p + min p (l.length - x * p)) 8 = aq := ⟨_, rfl⟩
          rw [haq] at hF hDr
          rw [← hDl] at hF
          obtain ⟨e, he⟩ : ∃ e, (D29.part p l x).length = e := ⟨_, rfl⟩
          have he4 : e ≤ 4096 := by omega
          rw [he] at hF
          generalize D29.part p l x = D at *
          replace hM := ((((hM.addFact (hM0.ko hsz)).addFact (hM0.kt 3 (by simp) (kt_types hES.st (by decide) (show (68 : Nat) ≠ 3 by decide)))).addFact (hM0.kt 25 (by simp) (kt_types hES.st (by decide) (show (68 : Nat) ≠ 25 by decide)))).addFact hDr)
          replace hM : EncM own W sb mb cp b4 b9 b11 [RdF (Value.int .u8) al l.flatten, RdF (Value.int .u8) aq D.flatten, KeepsFrom w2.heap.size W', KT W.heap.size 3 W', KT W.heap.size 25 W'] its iv eI E ts tv pre.length W' := hM.sub (.refl _) (.refl _) (fun f hf => by simp only [List.mem_cons, List.not_mem_nil, or_false] at hf ⊢; rcases hf with h | h | h | h | h | h | h | h <;> simp [h])
          generalize hFx : [RdF (Value.int .u8) al l.flatten, RdF (Value.int .u8) aq D.flatten, KeepsFrom w2.heap.size W', KT W.heap.size 3 W', KT W.heap.size 25 W'] = Fx at hM
          have hDm : RdF (Value.int .u8) aq D.flatten ∈ Fx := by rw [← hFx]; simp
          have hx1 : KeepsFrom w2.heap.size W' ∈ Fx := by rw [← hFx]; simp
          have hx2 : KT W.heap.size 3 W' ∈ Fx := by rw [← hFx]; simp
          have hx3 : KT W.heap.size 25 W' ∈ Fx := by rw [← hFx]; simp
          have hx4 : RdF (Value.int .u8) al l.flatten ∈ Fx := by rw [← hFx]; simp
          have hFn : ∀ f ∈ Fx, Nb mb f := by
            intro f hf
            rw [← hFx] at hf
            simp only [List.mem_cons, List.not_mem_nil, or_false] at hf
            rcases hf with rfl | rfl | rfl | rfl | rfl
            · exact Nb.rd
            · exact Nb.rd
            · exact Nb.keeps hmb2
            · exact Nb.kt
            · exact Nb.kt
          clear hFx
          with_reducible refine w_block ?_
          with_reducible refine w_seq ?_
          refine c_cut (fun a' w1 => Fr 77 [] [(13, .int .u64 (dg D)), (12, .slice aq e e), (11, .pointer (some ⟨b11, 0, none⟩)), (9, .pointer (some ⟨b9, 0, none⟩))] a' ∧ EncM own W sb mb cp b4 b9 b11 Fx its iv eI E ts tv pre.length w1) ?_ ?_
          · (repeat (first | ((with_reducible refine c_regionR ?_ ?_); rotate_left; exact rfl) | (with_reducible refine s_nil ?_) | ((with_reducible apply s_call (f := 57) hF hM); exact rfl; exact rfl; exact rfl; exact rfl; exact rfl; exact (sectors_c D hD8 (by omega) aq e _ he _ _ hM.lt (hM.facts (RdF (Value.int .u8) aq D.flatten) (by simp [hDm]))); clear hF hM a; rintro v w a rfl - hM hF) | ((with_reducible apply s_pure hF); exact rfl; exact rfl; exact rfl; (first | exact trivial | omega | exact ⟨Int.natCast_nonneg _, Int.ofNat_lt.2 (by assumption)⟩ | decide); clear hF a; intro a hF)))
            exact q_cut ⟨hF.sub (by repeat (first | exact Sub.nil | refine Sub.cons rfl (by first | with_reducible rfl | (refine congrArg (Value.int _) ?_; omega) | exact rfl) ?_)), hM⟩
          clear hF hM a
          rintro a w1 ⟨hF, hM⟩
          with_reducible refine w_seq ?_
          refine c_cut (fun a' w1 => ∃ (ts' : List TP) (tv' : Value), tms ts' = tms ts ++ [tokI (ims its) D] ∧ DatW (tP ts') ∧ Fr 77 [] [(12, .slice aq e e), (11, .pointer (some ⟨b11, 0, none⟩)), (9, .pointer (some ⟨b9, 0, none⟩))] a' ∧ EncM own W sb mb cp b4 b9 b11 Fx its iv eI E ts' tv' (pre.length + 1) w1) ?_ ?_
          · have hfd := tab_find hES.st.tab (dg D)
            have e1 := find_c E mb (dg D) own
            cases hh : (lookE (dg D) E).head? with
            | none =>
              rw [hh] at hfd e1
              have htk : tokI (ims its) D = ⟨false, 0, D⟩ := by unfold tokI; rw [hfd]; rfl
              rw [htk]
              (repeat' (first | (with_reducible refine w_seq ?_) | ((with_reducible refine c_regionR ?_ ?_); rotate_left; exact rfl) | (with_reducible refine s_nil ?_) | ((with_reducible apply s_call (f := 58) hF hM); exact rfl; exact rfl; exact rfl; exact rfl; exact rfl; exact (e1 _ (fun b h => hM.lt b (.inl h)) (hM.factOut (by (repeat (first | with_reducible exact List.mem_cons_self | refine List.mem_cons_of_mem _ ?_)))) (tabR_of (L1 := [_]) hM hES.st.tE)); clear hF hM a; rintro v w a rfl - hM hF) | (with_reducible refine q_then_n ?_) | ((with_reducible apply s_pure hF); exact rfl; exact rfl; exact rfl; (first | exact trivial | omega | exact ⟨Int.natCast_nonneg _, Int.ofNat_lt.2 (by assumption)⟩ | decide); clear hF a; intro a hF) | ((with_reducible apply s_load hF hM); exact rfl; exact rfl; (repeat (first | exact List.mem_cons_self | refine List.mem_cons_of_mem _ ?_)); exact rfl; exact rfl; clear hF a; intro a hF) | ((with_reducible apply c_false2 hF); exact rfl; (first | with_reducible rfl | (refine congrArg Value.bool ?_; focus (simp; done)))) | ((with_reducible apply s_skip hF); exact rfl; exact rfl; clear hF a; intro a hF)))
              refine c_drawR (fun i => Nat.ble 6 i) rfl (fun ⟨_, _, h⟩ => h) (fun x hx => hx) hM ?_; clear hM; intro w hM
              (first | (apply t_load (i := 0) hF rfl rfl rfl; (repeat (first | exact List.mem_cons_self | refine List.mem_cons_of_mem _ ?_)); exact rfl; exact rfl; kernel_rfl; exact hM.sm; exact (fun _ _ _ h => h); clear hF a; intro a hF))
              (first | (refine t_pure (i := 1) hF rfl rfl rfl rfl (by kernel_rfl) hM.sm (fun _ _ _ h => h) ?_ ?_; (first | exact trivial | omega | decide); clear hF a; intro a hF))
              refine t_one (i := 2) hF rfl (by kernel_rfl) rfl ?_
              intro K hK
              (apply x_callO hF; exact rfl; exact rfl; exact rfl; exact rfl; exact (sclone_c D hD8 aq e _ he (by omega) _ _ hM.lt (hM.facts (RdF (Value.int .u8) aq D.flatten) (by simp [hDm]))); clear hF a; rintro v wn a ⟨a2, c2, rfl, hO⟩ hS hF; replace hM := hM.addRows hS hO; clear hS hO; dsimp only [List.cons_append, List.nil_append] at hM)
              (obtain ⟨ao', c', e0, hcc, -⟩ := OffR.shape hM (k := 0) rfl (OffR.plain hM List.mem_cons_self)); replace hM := hM.freezeN
              refine hK _ _ (fun _ => (hM.sm.sub (fun x hx => by repeat (first | exact hx | refine List.mem_cons_of_mem _ ?_)) (fun _ h => by repeat (first | exact h | refine List.mem_cons_of_mem _ ?_)))) ?_; clear hK
              (first | (refine t_pure (i := 3) hF rfl rfl rfl rfl (by kernel_rfl) (hM.sm.sub (fun x hx => by repeat (first | exact hx | refine List.mem_cons_of_mem _ ?_)) (fun _ h => by repeat (first | exact h | refine List.mem_cons_of_mem _ ?_))) (fun _ _ _ h => h) ?_ ?_; (first | exact trivial | omega | decide); clear hF a; intro a hF))
              refine t_one (i := 4) hF rfl (by kernel_rfl) rfl ?_
              intro K hK
              (refine x_lit hF hM rfl rfl rfl ?_; clear hF hM a; intro bl w a hM hF)
              refine hK _ _ (fun _ => (hM.sm.sub (fun x hx => by repeat (first | exact hx | refine List.mem_cons_of_mem _ ?_)) (fun _ h => by repeat (first | exact h | refine List.mem_cons_of_mem _ ?_)))) ?_; clear hK
              refine t_one (i := 5) hF rfl (by kernel_rfl) rfl ?_
              intro K hK
              (apply x_app hF hM rfl rfl rfl; (repeat (first | exact List.mem_cons_self | refine List.mem_cons_of_mem _ ?_)); (repeat (first | exact Kth.z | apply Kth.s)); exact rfl; exact rfl; exact rfl; exact rfl; omega; clear hF hM a; intro g cap w a hM hF; dsimp only [List.set] at hM)
              refine hK _ _ (fun _ => (hM.sm.sub (fun x hx => by repeat (first | exact hx | refine List.mem_cons_of_mem _ ?_)) (fun _ h => by repeat (first | exact h | refine List.mem_cons_of_mem _ ?_)))) ?_; clear hK
              refine t_one (i := 6) hF rfl (by kernel_rfl) rfl ?_
              intro K hK
              (apply x_store hF hM rfl rfl rfl; (repeat (first | exact Upd.z | apply Upd.s)); exact rfl; exact rfl; exact rfl; clear hF hM a; intro w a hM hF)
              refine hK _ _ (fun h => by cases h) ?_; clear hK
              refine t_done (by kernel_rfl) ?_
              (repeat (first | fail))
              injection e0 with q1 q2 q3
              have hD := DatF.snoc (p := ((⟨0, D⟩ : Itm), a2, c2)) (hM.facts (DatF (tP ts)) (by (repeat (first | with_reducible exact List.mem_cons_self | refine List.mem_cons_of_mem _ ?_)))) (hM.facts (RdF (Value.int .u8) a2 D.flatten) (by (repeat (first | with_reducible exact List.mem_cons_self | refine List.mem_cons_of_mem _ ?_))))
              refine q_cut ⟨ts ++ [((⟨false, 0, D⟩ : Tok), a2, c2)], .slice (some ⟨g, 0, none⟩) (pre.length + 1) cap, by rw [tms_app]; rfl, ?_, hF.sub (by repeat (first | exact Sub.nil | refine Sub.cons rfl (by first | with_reducible rfl | (refine congrArg (Value.int _) ?_; omega) | exact rfl) ?_)), ?_⟩
              · rw [tP_app]
                exact hES.tw.snoc ⟨hD8, by show D.length ≤ c2; omega, hDb⟩
              · have hce : cellsT (ts ++ [((⟨false, 0, D⟩ : Tok), a2, c2)]) = cellsT ts ++ [.bool false, .int .u64 0, .slice a2 e c2] := by rw [cellsT_app, ← he]; rfl
                rw [EncM, hce, tP_app]
                exact (hM.addFact hD).sub (.cons _ (.refl _)) (.refl _) (fun f hf => by simp only [List.mem_cons] at hf ⊢; rcases hf with h | h | h | h <;> simp [h, tP])
            | some it =>
              rw [hh] at hfd e1
              have hpi : it ∈ its := look_sub hES.st.tab (dg D) it (List.mem_of_mem_head? hh)
              have hp8 := (hES.st.dw it hpi).1
              have hp4 := hES.ch it hpi
              by_cases hpe : it.1.x = D
              · have htk : tokI (ims its) D = ⟨true, dg D, []⟩ := by
                  unfold tokI
                  rw [hfd, if_pos (by rw [← hpe]; rfl)]
                rw [htk]
                (repeat' (first | (with_reducible refine w_seq ?_) | ((with_reducible refine c_regionR ?_ ?_); rotate_left; exact rfl) | (with_reducible refine s_nil ?_) | ((with_reducible apply s_call (f := 58) hF hM); exact rfl; exact rfl; exact rfl; exact rfl; exact rfl; exact (e1 _ (fun b h => hM.lt b (.inl h)) (hM.factOut (by (repeat (first | with_reducible exact List.mem_cons_self | refine List.mem_cons_of_mem _ ?_)))) (tabR_of (L1 := [_]) hM hES.st.tE)); clear hF hM a; rintro v w a rfl - hM hF) | ((with_reducible apply s_call (f := 21) hF hM); exact rfl; exact rfl; exact rfl; exact rfl; exact rfl; exact (eqS_c it.1.x D hp8 hD8 it.2.1 aq _ _ it.2.2 e rfl he (by omega) _ _ hM.lt (dat_one (hM.facts (DatF its) (by (repeat (first | with_reducible exact List.mem_cons_self | refine List.mem_cons_of_mem _ ?_)))) hpi) (hM.facts (RdF (Value.int .u8) aq D.flatten) (by simp [hDm]))); clear hF hM a; rintro v w a rfl - hM hF; rw [decide_eq_true hpe] at hF) | (with_reducible refine q_then_n ?_) | ((with_reducible apply s_pure hF); exact rfl; exact rfl; exact rfl; (first | exact trivial | omega | exact ⟨Int.natCast_nonneg _, Int.ofNat_lt.2 (by assumption)⟩ | decide); clear hF a; intro a hF) | ((with_reducible apply s_load hF hM); exact rfl; exact rfl; (repeat (first | exact List.mem_cons_self | refine List.mem_cons_of_mem _ ?_)); exact rfl; exact rfl; clear hF a; intro a hF) | ((with_reducible apply s_store hF hM); exact rfl; exact rfl; exact rfl; exact rfl; (repeat (first | exact Upd.z | apply Upd.s)); exact rfl; exact rfl; exact rfl; clear hM; intro w hM) | ((with_reducible apply s_lit hF hM); exact rfl; exact rfl; exact rfl; exact rfl; clear hF hM a; intro bl w a hM hF) | ((with_reducible apply s_app hF hM); exact rfl; exact rfl; exact rfl; exact rfl; (repeat (first | exact Kth.z | apply Kth.s)); exact rfl; exact rfl; exact rfl; exact rfl; omega; clear hF hM a; intro g cap w a hM hF; dsimp only [List.set] at hM) | ((with_reducible apply c_true2 hF); exact rfl; (first | with_reducible rfl | (refine congrArg Value.bool ?_; focus (simp; done))))))
                have hD : Has _ _ (DatF (tP ts ++ [((⟨dg D, []⟩ : Itm), none, 0)])) := DatF.snoc (p := ((⟨dg D, []⟩ : Itm), none, 0)) (hM.facts (DatF (tP ts)) (by (repeat (first | with_reducible exact List.mem_cons_self | refine List.mem_cons_of_mem _ ?_)))) RdF.nil
                refine q_cut ⟨ts ++ [((⟨true, dg D, []⟩ : Tok), none, 0)], .slice (some ⟨g, 0, none⟩) (pre.length + 1) cap, by rw [tms_app]; rfl, ?_, hF.sub (by repeat (first | exact Sub.nil | refine Sub.cons rfl (by first | with_reducible rfl | (refine congrArg (Value.int _) ?_; omega) | exact rfl) ?_)), ?_⟩
                · rw [tP_app]
                  exact hES.tw.snoc ⟨(fun y hy => by simp at hy), Nat.le_refl _, fun s hs => by simp at hs⟩
                · have hce : cellsT (ts ++ [((⟨true, dg D, []⟩ : Tok), none, 0)]) = cellsT ts ++ [.bool true, .int .u64 (dg D), .slice none 0 0] := by rw [cellsT_app]; rfl
                  rw [EncM, hce, tP_app]
                  exact (hM.addFact hD).sub (.refl _) (.refl _) (fun f hf => by simp only [List.mem_cons] at hf ⊢; rcases hf with h | h | h | h <;> simp [h, tP])
              · have htk : tokI (ims its) D = ⟨false, 0, D⟩ := by
                  unfold tokI
                  rw [hfd, if_neg (by intro h; injection h with h; exact hpe h)]
                rw [htk]
                (repeat' (first | (with_reducible refine w_seq ?_) | ((with_reducible refine c_regionR ?_ ?_); rotate_left; exact rfl) | (with_reducible refine s_nil ?_) | ((with_reducible apply s_call (f := 58) hF hM); exact rfl; exact rfl; exact rfl; exact rfl; exact rfl; exact (e1 _ (fun b h => hM.lt b (.inl h)) (hM.factOut (by (repeat (first | with_reducible exact List.mem_cons_self | refine List.mem_cons_of_mem _ ?_)))) (tabR_of (L1 := [_]) hM hES.st.tE)); clear hF hM a; rintro v w a rfl - hM hF) | ((with_reducible apply s_call (f := 21) hF hM); exact rfl; exact rfl; exact rfl; exact rfl; exact rfl; exact (eqS_c it.1.x D hp8 hD8 it.2.1 aq _ _ it.2.2 e rfl he (by omega) _ _ hM.lt (dat_one (hM.facts (DatF its) (by (repeat (first | with_reducible exact List.mem_cons_self | refine List.mem_cons_of_mem _ ?_)))) hpi) (hM.facts (RdF (Value.int .u8) aq D.flatten) (by simp [hDm]))); clear hF hM a; rintro v w a rfl - hM hF; rw [decide_eq_false hpe] at hF) | (with_reducible refine q_then_n ?_) | ((with_reducible apply s_pure hF); exact rfl; exact rfl; exact rfl; (first | exact trivial | omega | exact ⟨Int.natCast_nonneg _, Int.ofNat_lt.2 (by assumption)⟩ | decide); clear hF a; intro a hF) | ((with_reducible apply s_load hF hM); exact rfl; exact rfl; (repeat (first | exact List.mem_cons_self | refine List.mem_cons_of_mem _ ?_)); exact rfl; exact rfl; clear hF a; intro a hF) | ((with_reducible apply c_false2 hF); exact rfl; (first | with_reducible rfl | (refine congrArg Value.bool ?_; focus (simp; done))))))
                refine c_drawR (fun i => Nat.ble 6 i) rfl (fun ⟨_, _, h⟩ => h) (fun x hx => hx) hM ?_; clear hM; intro w hM
                (first | (apply t_load (i := 0) hF rfl rfl rfl; (repeat (first | exact List.mem_cons_self | refine List.mem_cons_of_mem _ ?_)); exact rfl; exact rfl; kernel_rfl; exact hM.sm; exact (fun _ _ _ h => h); clear hF a; intro a hF))
                (first | (refine t_pure (i := 1) hF rfl rfl rfl rfl (by kernel_rfl) hM.sm (fun _ _ _ h => h) ?_ ?_; (first | exact trivial | omega | decide); clear hF a; intro a hF))
                refine t_one (i := 2) hF rfl (by kernel_rfl) rfl ?_
                intro K hK
                (apply x_callO hF; exact rfl; exact rfl; exact rfl; exact rfl; exact (sclone_c D hD8 aq e _ he (by omega) _ _ hM.lt (hM.facts (RdF (Value.int .u8) aq D.flatten) (by simp [hDm]))); clear hF a; rintro v wn a ⟨a2, c2, rfl, hO⟩ hS hF; replace hM := hM.addRows hS hO; clear hS hO; dsimp only [List.cons_append, List.nil_append] at hM)
                (obtain ⟨ao', c', e0, hcc, -⟩ := OffR.shape hM (k := 0) rfl (OffR.plain hM List.mem_cons_self)); replace hM := hM.freezeN
                refine hK _ _ (fun _ => (hM.sm.sub (fun x hx => by repeat (first | exact hx | refine List.mem_cons_of_mem _ ?_)) (fun _ h => by repeat (first | exact h | refine List.mem_cons_of_mem _ ?_)))) ?_; clear hK
                (first | (refine t_pure (i := 3) hF rfl rfl rfl rfl (by kernel_rfl) (hM.sm.sub (fun x hx => by repeat (first | exact hx | refine List.mem_cons_of_mem _ ?_)) (fun _ h => by repeat (first | exact h | refine List.mem_cons_of_mem _ ?_))) (fun _ _ _ h => h) ?_ ?_; (first | exact trivial | omega | decide); clear hF a; intro a hF))
                refine t_one (i := 4) hF rfl (by kernel_rfl) rfl ?_
                intro K hK
                (refine x_lit hF hM rfl rfl rfl ?_; clear hF hM a; intro bl w a hM hF)
                refine hK _ _ (fun _ => (hM.sm.sub (fun x hx => by repeat (first | exact hx | refine List.mem_cons_of_mem _ ?_)) (fun _ h => by repeat (first | exact h | refine List.mem_cons_of_mem _ ?_)))) ?_; clear hK
                refine t_one (i := 5) hF rfl (by kernel_rfl) rfl ?_
                intro K hK
                (apply x_app hF hM rfl rfl rfl; (repeat (first | exact List.mem_cons_self | refine List.mem_cons_of_mem _ ?_)); (repeat (first | exact Kth.z | apply Kth.s)); exact rfl; exact rfl; exact rfl; exact rfl; omega; clear hF hM a; intro g cap w a hM hF; dsimp only [List.set] at hM)
                refine hK _ _ (fun _ => (hM.sm.sub (fun x hx => by repeat (first | exact hx | refine List.mem_cons_of_mem _ ?_)) (fun _ h => by repeat (first | exact h | refine List.mem_cons_of_mem _ ?_)))) ?_; clear hK
                refine t_one (i := 6) hF rfl (by kernel_rfl) rfl ?_
                intro K hK
                (apply x_store hF hM rfl rfl rfl; (repeat (first | exact Upd.z | apply Upd.s)); exact rfl; exact rfl; exact rfl; clear hF hM a; intro w a hM hF)
                refine hK _ _ (fun h => by cases h) ?_; clear hK
                refine t_done (by kernel_rfl) ?_
                (repeat (first | fail))
                injection e0 with q1 q2 q3
                have hD := DatF.snoc (p := ((⟨0, D⟩ : Itm), a2, c2)) (hM.facts (DatF (tP ts)) (by (repeat (first | with_reducible exact List.mem_cons_self | refine List.mem_cons_of_mem _ ?_)))) (hM.facts (RdF (Value.int .u8) a2 D.flatten) (by (repeat (first | with_reducible exact List.mem_cons_self | refine List.mem_cons_of_mem _ ?_))))
                refine q_cut ⟨ts ++ [((⟨false, 0, D⟩ : Tok), a2, c2)], .slice (some ⟨g, 0, none⟩) (pre.length + 1) cap, by rw [tms_app]; rfl, ?_, hF.sub (by repeat (first | exact Sub.nil | refine Sub.cons rfl (by first | with_reducible rfl | (refine congrArg (Value.int _) ?_; omega) | exact rfl) ?_)), ?_⟩
                · rw [tP_app]
                  exact hES.tw.snoc ⟨hD8, by show D.length ≤ c2; omega, hDb⟩
                · have hce : cellsT (ts ++ [((⟨false, 0, D⟩ : Tok), a2, c2)]) = cellsT ts ++ [.bool false, .int .u64 0, .slice a2 e c2] := by rw [cellsT_app, ← he]; rfl
                  rw [EncM, hce, tP_app]
                  exact (hM.addFact hD).sub (.cons _ (.refl _)) (.refl _) (fun f hf => by simp only [List.mem_cons] at hf ⊢; rcases hf with h | h | h | h <;> simp [h, tP])
          · clear hF hM a
            rintro a w3 ⟨ts', tv', htm, htw, hF, hM⟩
            have hcf2 : ∀ f ∈ DatF (tP ts') :: Fx, Nb mb f := by
              intro f hf
              rcases List.mem_cons.1 hf with rfl | hf
              · exact Nb.dat
              · exact hFn f hf
            (repeat (first | ((with_reducible refine c_regionR ?_ ?_); rotate_left; exact rfl) | ((with_reducible apply s_pure hF); exact rfl; exact rfl; exact rfl; (first | exact trivial | omega | exact ⟨Int.natCast_nonneg _, Int.ofNat_lt.2 (by assumption)⟩ | decide); clear hF a; intro a hF) | ((with_reducible apply s_load hF hM); exact rfl; exact rfl; (repeat (first | exact List.mem_cons_self | refine List.mem_cons_of_mem _ ?_)); exact rfl; exact rfl; clear hF a; intro a hF)))
            replace hM : Mm own W _ (eI :: ([⟨68, 3, tv', pre.length + 1, cellsT ts'⟩] ++ rowsT E)) (MpE (Value.int .u64) mb (esE E) :: RdF (Value.int .u8) aq D.flatten :: DatF its :: DatF (tP ts') :: Fx) _ := hM.sub (.refl _) (.refl _) (fun f hf => by simp only [List.mem_cons] at hf ⊢; rcases hf with h | h | h | h | h <;> simp [h, hDm])
            (((with_reducible apply s_callM (f := 60) hF); exact rfl; exact rfl; exact rfl; exact rfl; exact rfl; exact (add_c sb mb cp its iv eI E ⟨by omega, by omega⟩ hES.ln hES.st hmb hcf2 D hD8 hDb (by omega) aq e e he hM); clear hF hM a; rintro v w a ⟨its2, E2, iv2, eI2, him2, hS2, hM⟩ hF))
            (repeat (first | (with_reducible refine s_nil ?_) | (with_reducible refine q_blk_n ?_)))
            have hko := hM.fact (f := KeepsFrom w2.heap.size W') (by simp [hx1])
            refine ⟨hko, ⟨below_mm hM0 hM hko.size, hM.fact (f := KT _ 3 W') (by simp [hx2]), hM.fact (f := KT _ 25 W') (by simp [hx3])⟩, its2, iv2, eI2, E2, ts', tv', ⟨?_, ?_, htw, hS2, ?_, ?_⟩, ?_⟩
            · rw [hsn, him2, hES.im]
            · rw [hsn, htm, hES.tm, hES.im]
            · have := add_len (cap := cp) (l := ims its) (by rw [ims_len]; exact hES.ln) D
              rw [← him2, ims_len] at this
              exact this
            · intro q hq
              have hq2 : q.1 ∈ addI cp (ims its) D := by rw [← him2]; exact List.mem_map.2 ⟨q, hq, rfl⟩
              rcases addI_mem hq2 with h | h
              · obtain ⟨q', hq', e'⟩ := List.mem_map.1 h
                rw [← e']
                exact hES.ch q' hq'
              · rw [h]
                show D.length ≤ 4096
                omega
            · rw [List.length_append]
              exact hM.sub (.refl _) (.refl _) (fun f hf => by simp only [List.mem_cons, List.not_mem_nil, or_false] at hf ⊢; rcases hf with h | h | h | h <;> simp [h, hx4])
end
end Go.Proofs.Ytonelgecjmpbgaa


/- Arguments of the rows of layer 29: sectors, stores, tokens, streams. -/
namespace Go.Proofs.Ytonelgecjmpbgaa
open Go.RowKit Go.Shelf Go.ChangeShapes Go.WideShapes Go.ChangeAt D29
namespace D29
theorem DatF.all {own : Nat → Prop} {w : World} : ∀ {l : List P}, (∀ p ∈ l, Has own w (RdF (Value.int .u8) p.2.1 p.1.x.flatten)) → Has own w (DatF l)
  | [], _ => Has.pure fun _ p hp => by simp at hp
  | p :: l, h => ((h p List.mem_cons_self).and (DatF.all fun q hq => h q (List.mem_cons_of_mem _ hq))).imp fun w h q hq => by
    rcases List.mem_cons.1 hq with rfl | hq
    · exact h.1
    · exact h.2 q hq
/-- Bytes of data. -/
def By8 (x : Dat) : Prop := ∀ s ∈ x, ∀ b ∈ s, 0 ≤ b ∧ b < 256
/-- Sectors, where they lie, and how many places they have. -/
abbrev SP := Dat × Option Addr × Nat
def encSP (p : SP) : Value := .slice p.2.1 p.1.length p.2.2
/-- Digests are words. -/
def DgW (l : List P) : Prop := ∀ p ∈ l, 0 ≤ p.1.d ∧ p.1.d < 18446744073709551616
end D29
section
variable {H : Type} {enc : TypeId × Value → H} {w : World} {r : Reach} {b0 base : Nat} {spare : Nat → Bool} {held : Bool}
theorem u8_wf {x : Int} (h : (Lit.int .u8 x).wf = true) : 0 ≤ x ∧ x < 256 := by have := Go.bounds_u8 h; omega
theorem u64_wf {x : Int} (h : (Lit.int .u64 x).wf = true) : 0 ≤ x ∧ x < 18446744073709551616 := by
  have h2 : (decide (IntKind.u64.min ≤ x) && decide (x ≤ IntKind.u64.max)) = true := h
  simp only [Bool.and_eq_true, decide_eq_true_eq] at h2
  have e1 : IntKind.u64.min = 0 := rfl
  have e2 : IntKind.u64.max = 18446744073709551615 := rfl
  rw [e1, e2] at h2
  omega
theorem of_secs {n : Nat} {c : Value} {y : DataW H × List MemPlace} (h : DataW.trod enc Try.prog w 0 (fun _ => true) held n 25 [c] = some y) :
    ∃ q : SP, c = encSP q ∧ (W8 q.1 ∧ q.1.length ≤ q.2.2 ∧ By8 q.1) ∧ q.2.2 ≤ maxLen ∧ Has (fun _ => False) w (RdF (Value.int .u8) q.2.1 q.1.flatten) := by
  obtain ⟨a, cap, ls, h1, h2, h3, h4, h5⟩ := of_arrs Try.underlying25 Try.underlying44 Try.underlying5 (by kernel_rfl) (by kernel_rfl) h
  exact ⟨(ls, a, cap), h1, ⟨fun s hs => (h4 s hs).1, h2, fun s hs x hx => u8_wf ((h4 s hs).2 x hx)⟩, h3, Has.reads h5⟩
theorem secs_arg {v : Value} {d : DataW H} {p : List MemPlace} (hv : Value.okWide Try.prog w r b0 25 v) (h : DataW.Trod enc Try.prog w 0 (fun _ => true) held 25 v d p) :
    ∃ (a : Option Addr) (cap : Nat) (ls : Dat), v = .slice a ls.length cap ∧ ls.length ≤ cap ∧ cap ≤ maxLen ∧ W8 ls ∧ By8 ls ∧ Has (fun _ => False) w (RdF (Value.int .u8) a ls.flatten) := by
  obtain ⟨a1, n1, c1, rfl⟩ := okWide_slice Try.underlying25 hv
  obtain ⟨fuel, hf⟩ := h
  obtain ⟨⟨ls, a, cap⟩, h1, ⟨h2, h3, h4⟩, h5, h6⟩ := of_secs hf
  exact ⟨a, cap, ls, h1, h3, h5, h2, h4, h6⟩
theorem of_chunk {n : Nat} {cs : List Value} {y : DataW H × List MemPlace} (h : DataW.trod enc Try.prog w 0 (fun _ => true) held n 57 cs = some y) :
    ∃ q : P, cs = itC q ∧ (W8 q.1.x ∧ q.1.x.length ≤ q.2.2 ∧ By8 q.1.x) ∧ (0 ≤ q.1.d ∧ q.1.d < 18446744073709551616) ∧ Has (fun _ => False) w (RdF (Value.int .u8) q.2.1 q.1.x.flatten) := by
  obtain ⟨xs, m, _, _, hl, hlen, hx⟩ := DataW.trod_struct Try.underlying57 h
  have hl2 : cs.length = 2 := hl.trans (by kernel_rfl)
  have q0 := hx 0 _ rfl
  have q1 := hx 1 _ rfl
  match cs, hl2, xs, hlen with
  | [u, v], _, [y0, y1], _ =>
    rw [show Try.prog.cellsOf _ = 1 from (by kernel_rfl)] at q0
    rw [show Try.prog.cellsOf _ = 1 from (by kernel_rfl)] at q1
    obtain ⟨x0, rfl, hw⟩ := of_intK Try.underlying54 (c := u) q0
    obtain ⟨q, rfl, h2, h3, h4⟩ := of_secs (c := v) q1
    exact ⟨(⟨x0, q.1⟩, q.2), rfl, h2, u64_wf hw, h4⟩
theorem of_chunks {n : Nat} {c : Value} {y : DataW H × List MemPlace} (h : DataW.trod enc Try.prog w 0 (fun _ => true) held n 22 [c] = some y) :
    ∃ (a : Option Addr) (cap : Nat) (ps : List P), c = .slice a ps.length cap ∧ ps.length ≤ cap ∧ cap ≤ maxLen ∧ DatW ps ∧ DgW ps ∧ Has (fun _ => False) w (RdF id a (cellsP ps)) ∧ Has (fun _ => False) w (DatF ps) := by
  obtain ⟨a, cap, rows, h1, h2, h3, h4, h5⟩ := of_sliceG Try.underlying22 h
  obtain ⟨ps, rfl, h6⟩ := list_of (f := itC) (Q := fun q => (W8 q.1.x ∧ q.1.x.length ≤ q.2.2 ∧ By8 q.1.x) ∧ (0 ≤ q.1.d ∧ q.1.d < 18446744073709551616) ∧ Has (fun _ => False) w (RdF (Value.int .u8) q.2.1 q.1.x.flatten)) (l := rows) (by
    intro r hr
    obtain ⟨_, n', y', hy⟩ := h4 r hr
    exact of_chunk hy)
  rw [List.length_map] at h1 h2
  exact ⟨a, cap, ps, h1, h2, h3, fun p hp => (h6 p hp).1, fun p hp => (h6 p hp).2.1, Has.reads h5, DatF.all fun p hp => (h6 p hp).2.2⟩
theorem store_arg {v : Value} {d : DataW H} {p : List MemPlace} (hv : Value.okWide Try.prog w r b0 24 v) (h : DataW.Trod enc Try.prog w 0 (fun _ => true) held 24 v d p) :
    ∃ (cp : Int) (a : Option Addr) (cap : Nat) (ps : List P), v = .agg #[.int .i64 cp, .slice a ps.length cap] ∧ (-9223372036854775808 ≤ cp ∧ cp ≤ 9223372036854775807) ∧ ps.length ≤ cap ∧ cap ≤ maxLen ∧ DatW ps ∧ DgW ps ∧ Has (fun _ => False) w (RdF id a (cellsP ps)) ∧ Has (fun _ => False) w (DatF ps) := by
  obtain ⟨cs, rfl, hsz⟩ := okWide_struct Try.underlying24 hv
  obtain ⟨fuel, hf⟩ := h
  obtain ⟨xs, m, _, _, hl, hlen, hx⟩ := DataW.trod_struct Try.underlying24 hf
  obtain ⟨cs⟩ := cs
  have hl2 : cs.length = 2 := hl.trans (by kernel_rfl)
  have q0 := hx 0 _ rfl
  have q1 := hx 1 _ rfl
  match cs, hl2, xs, hlen with
  | [u, v], _, [y0, y1], _ =>
    rw [show Try.prog.cellsOf _ = 1 from (by kernel_rfl)] at q0
    rw [show Try.prog.cellsOf _ = 1 from (by kernel_rfl)] at q1
    obtain ⟨x0, rfl, hw⟩ := of_int Try.underlying3 (c := u) q0
    obtain ⟨a, cap, ps, rfl, h2⟩ := of_chunks (c := v) q1
    exact ⟨x0, a, cap, ps, rfl, hw, h2⟩
end
end Go.Proofs.Ytonelgecjmpbgaa


/- dedup: correct, Decode. -/
namespace Go.Proofs.Ytonelgecjmpbgaa
open Go.RowKit Go.Shelf D29
theorem correct1_c (r : Bool) (d : Int) (x : Dat) (ax : Option Addr) (cx q : Nat) (hq : x.length = q) (own : Nat → Prop) (W : World) (hl : ∀ b, own b → b < W.heap.size) :
    Calls Try.prog 66 ⟨[.agg ⟨[.bool r, .int .u64 d, .slice ax q cx]⟩]⟩ W (Ret W fun v _ => v = .bool (corT ⟨r, d, x⟩)) := by
  have hM := Mm.start hl
  unfold corT
  dsimp only
  have h0 : (x = []) ↔ (q : Int) = 0 := by rw [← List.length_eq_zero_iff, hq]; omega
  rw [show decide (x = []) = decide ((q : Int) = 0) from decide_eq_decide.2 h0]
  refine f_start Try.func66 rfl Try.ntmps66 rfl rfl ?_; intro a hF
  cases r with
  | true =>
    (repeat' (first | (with_reducible refine w_seq ?_) | (with_reducible refine c_region ?_) | (with_reducible refine s_nil ?_) | (with_reducible refine q_then_n ?_) | ((with_reducible apply s_pure hF); exact rfl; exact rfl; exact rfl; (first | exact trivial | omega | exact ⟨Int.natCast_nonneg _, Int.ofNat_lt.2 (by assumption)⟩ | decide); clear hF a; intro a hF) | ((with_reducible apply s_load hF hM); exact rfl; exact rfl; (repeat (first | exact List.mem_cons_self | refine List.mem_cons_of_mem _ ?_)); exact rfl; exact rfl; clear hF a; intro a hF) | ((with_reducible apply s_box hF hM); exact rfl; exact rfl; exact rfl; exact rfl; clear hF hM a; intro b w a hM hF) | (with_reducible refine w_ret ?_) | (with_reducible refine q_then_r ?_) | ((with_reducible apply c_true2 hF); exact rfl; (first | with_reducible rfl | (refine congrArg Value.bool ?_; focus (simp; done))))))
    all_goals (apply f_ret Try.results66 hF hM; (repeat (first | exact RL.nil | (apply RL.tmp; exact rfl) | (apply RL.cell; exact rfl; (repeat (first | exact List.mem_cons_self | refine List.mem_cons_of_mem _ ?_)); exact rfl))); refine Ret.mk hM.since ?_; dsimp only [resV])
    all_goals rfl
  | false =>
    by_cases hd : d = 0
    · rw [decide_eq_true hd]
      (repeat' (first | (with_reducible refine w_seq ?_) | (with_reducible refine c_region ?_) | (with_reducible refine s_nil ?_) | ((with_reducible apply s_call (f := 73) hF hM); exact rfl; exact rfl; exact rfl; exact rfl; exact rfl; exact (isChunk_c x ax cx q hq _ _ hM.lt); clear hF hM a; rintro v w a rfl - hM hF) | (with_reducible refine q_then_n ?_) | ((with_reducible apply s_pure hF); exact rfl; exact rfl; exact rfl; (first | exact trivial | omega | exact ⟨Int.natCast_nonneg _, Int.ofNat_lt.2 (by assumption)⟩ | decide); clear hF a; intro a hF) | ((with_reducible apply s_load hF hM); exact rfl; exact rfl; (repeat (first | exact List.mem_cons_self | refine List.mem_cons_of_mem _ ?_)); exact rfl; exact rfl; clear hF a; intro a hF) | ((with_reducible apply s_box hF hM); exact rfl; exact rfl; exact rfl; exact rfl; clear hF hM a; intro b w a hM hF) | (with_reducible refine w_skip ?_) | (with_reducible refine w_ret ?_) | ((with_reducible apply c_false2 hF); exact rfl; (first | with_reducible rfl | (refine congrArg Value.bool ?_; focus (simp; done)))) | ((fail_if_success ((with_reducible refine g_known true hF ?_ ?_); focus exact rfl)); (fail_if_success ((with_reducible refine g_known false hF ?_ ?_); focus exact rfl)); (with_reducible apply g_dec hF); exact rfl; exact rfl; all_goals (clear hF; intro hc hF); all_goals (try (exfalso; omega)))))
      all_goals (apply f_ret Try.results66 hF hM; (repeat (first | exact RL.nil | (apply RL.tmp; exact rfl) | (apply RL.cell; exact rfl; (repeat (first | exact List.mem_cons_self | refine List.mem_cons_of_mem _ ?_)); exact rfl))); refine Ret.mk hM.since ?_; dsimp only [resV])
      all_goals rfl
    · rw [decide_eq_false hd]
      (repeat' (first | (with_reducible refine w_seq ?_) | (with_reducible refine c_region ?_) | (with_reducible refine s_nil ?_) | (with_reducible refine q_then_n ?_) | ((with_reducible apply s_pure hF); exact rfl; exact rfl; exact rfl; (first | exact trivial | omega | exact ⟨Int.natCast_nonneg _, Int.ofNat_lt.2 (by assumption)⟩ | decide); clear hF a; intro a hF) | ((with_reducible apply s_load hF hM); exact rfl; exact rfl; (repeat (first | exact List.mem_cons_self | refine List.mem_cons_of_mem _ ?_)); exact rfl; exact rfl; clear hF a; intro a hF) | ((with_reducible apply s_box hF hM); exact rfl; exact rfl; exact rfl; exact rfl; clear hF hM a; intro b w a hM hF) | (with_reducible refine w_skip ?_) | (with_reducible refine w_ret ?_) | ((with_reducible apply c_false2 hF); exact rfl; (first | with_reducible rfl | (refine congrArg Value.bool ?_; focus (simp; done)))) | ((with_reducible apply s_skip hF); exact rfl; exact rfl; clear hF a; intro a hF) | ((fail_if_success ((with_reducible refine g_known true hF ?_ ?_); focus exact rfl)); (fail_if_success ((with_reducible refine g_known false hF ?_ ?_); focus exact rfl)); (with_reducible apply g_dec hF); exact rfl; exact rfl; all_goals (clear hF; intro hc hF); all_goals (try (exfalso; omega)))))
      all_goals (apply f_ret Try.results66 hF hM; (repeat (first | exact RL.nil | (apply RL.tmp; exact rfl) | (apply RL.cell; exact rfl; (repeat (first | exact List.mem_cons_self | refine List.mem_cons_of_mem _ ?_)); exact rfl))); refine Ret.mk hM.since ?_; dsimp only [resV])
      all_goals rfl
theorem correct_c (t : TP) (own : Nat → Prop) (W : World) (hl : ∀ b, own b → b < W.heap.size) :
    Calls Try.prog 66 ⟨[.agg ⟨tkC t⟩]⟩ W (Ret W fun v _ => v = .bool (corT t.1)) := correct1_c t.1.r t.1.d t.1.x t.2.1 t.2.2 _ rfl own W hl
namespace D29
/-- What Decode answers. -/
def decR (c : St) (l : List Tok) : Except Int (List Itm × Dat) := if check c ≠ 0 then .error (check c) else decI c.cap l c.items []
def decP (own : Nat → Prop) (cp : Int) (r : Except Int (List Itm × Dat)) (v : Value) (w' : World) : Prop := match r with
  | .error e => v = .tuple #[.agg #[.int .i64 0, .slice none 0 0], .slice none 0 0, .int .i64 e]
  | .ok r => ∃ (a : Option Addr) (c : Nat) (a2 : Option Addr) (c2 : Nat), v = .tuple #[.agg #[.int .i64 cp, .slice a r.1.length c], .slice a2 r.2.length c2, .int .i64 0] ∧ ItR own r.1 a c w' ∧ Has own w' (RdF (Value.int .u8) a2 r.2.flatten) ∧ r.2.length ≤ c2 ∧ W8 r.2 ∧ ∀ s ∈ r.2, ∀ b ∈ s, 0 ≤ b ∧ b < 256
theorem decI_cons (cap : Int) (t : Tok) (r : List Tok) (l : List Itm) (o : Dat) : decI cap (t :: r) l o = if !corT t then .error 3 else match (if t.r then findI l t.d else some t.x) with
    | none => .error 25
    | some x => decI cap r (addI cap l x) (o ++ x) := rfl
/-- What Decode keeps. -/
structure DecS (cp : Int) (its : List P) (iv : Value) (eI : Ent) (E : List TE) (o : Dat) (k : Nat) : Prop where
  it : Its (ims its)
  st : StI its iv eI E
  ln : (its.length : Int) ≤ cp
  o8 : W8 o
  ob : ∀ s ∈ o, ∀ b ∈ s, 0 ≤ b ∧ b < 256
  ol : o.length ≤ k * 4096
theorem Its.ch4 {its : List P} (h : Its (ims its)) : ∀ q ∈ its, q.1.x.length ≤ 4096 := by
  intro q hq
  have := h.ch q.1 (List.mem_map.2 ⟨q, hq, rfl⟩)
  unfold isCh at this
  rw [decide_eq_true_eq] at this
  exact this.2
end D29
section
variable (cp : Int) (ps : List P) (a0 : Option Addr) (c0 n : Nat) (hn : ps.length = n) (hlen : n ≤ 100000) (hDW : DatW ps) (hpx : ∀ p ∈ ps, p.1.x.length ≤ 100000) (own : Nat → Prop) (W : World) (hl : ∀ b, own b → b < W.heap.size) (h1 : Has own W (RdF id a0 (cellsP ps))) (h2 : Has own W (DatF ps))
include hn hlen hDW hpx hl h1 h2
set_option maxRecDepth 20000 in
set_option maxHeartbeats 4000000 in
theorem Decode29_c (ts : List TP) (hts : DatW (tP ts)) (al : Option Addr) (cl nl : Nat) (hnl : ts.length = nl) (hnl4 : nl ≤ 100000) (hx1 : Has own W (RdF id al (cellsT ts))) (hx2 : Has own W (DatF (tP ts))) :
    Calls Try.prog 19 ⟨[.agg #[.int .i64 cp, .slice a0 n c0], .slice al nl cl]⟩ W (Ret W (decP own cp (decR ⟨cp, ims ps⟩ (tms ts)))) := by
  have hM := ((((Mm.start hl).known hx2).known hx1).known h2).known h1
  subst hnl
  refine f_start Try.func19 rfl Try.ntmps19 rfl rfl ?_; intro a hF
  (repeat (first | (with_reducible refine w_seq ?_) | (with_reducible refine c_region ?_) | (with_reducible refine s_nil ?_) | (with_reducible refine q_then_n ?_) | ((with_reducible apply s_pure hF); exact rfl; exact rfl; exact rfl; (first | exact trivial | omega | exact ⟨Int.natCast_nonneg _, Int.ofNat_lt.2 (by assumption)⟩ | decide); clear hF a; intro a hF) | ((with_reducible apply s_load hF hM); exact rfl; exact rfl; (repeat (first | exact List.mem_cons_self | refine List.mem_cons_of_mem _ ?_)); exact rfl; exact rfl; clear hF a; intro a hF) | ((with_reducible apply s_alloc hF hM); exact rfl; exact rfl; exact rfl; clear hF hM a; intro b w a hM hF) | ((with_reducible apply s_box hF hM); exact rfl; exact rfl; exact rfl; exact rfl; clear hF hM a; intro b w a hM hF)))
  rename_i b2 _
  generalize b = b4 at *
  have hnb : ∀ f ∈ [RdF id al (cellsT ts), DatF (tP ts)], ∀ b, Nb b f := by
    intro f hf b
    simp only [List.mem_cons, List.not_mem_nil, or_false] at hf
    rcases hf with rfl | rfl
    · exact Nb.rd
    · exact Nb.dat
  by_cases hb : cp < 1 ∨ 4096 < cp ∨ cp < n
  · have hck := chk_bad (l := ims ps) (by rw [ims_len, hn]; exact hb)
    have he : decR ⟨cp, ims ps⟩ (tms ts) = .error (check ⟨cp, ims ps⟩) := if_pos hck
    rw [he]
    (((with_reducible apply s_callM (f := 55) hF); exact rfl; exact rfl; exact rfl; exact rfl; exact rfl; exact (open_bad cp ps a0 c0 n hn hlen hDW hpx hnb hM hb); clear hF hM a; rintro v w a ⟨rfl, hM⟩ hF))
    generalize check ⟨cp, ims ps⟩ = e at *
    (repeat' (first | (with_reducible refine w_seq ?_) | (with_reducible refine c_region ?_) | (with_reducible refine s_nil ?_) | (with_reducible refine q_then_n ?_) | ((with_reducible apply s_pure hF); exact rfl; exact rfl; exact rfl; (first | exact trivial | omega | exact ⟨Int.natCast_nonneg _, Int.ofNat_lt.2 (by assumption)⟩ | decide); clear hF a; intro a hF) | ((with_reducible apply s_store hF hM); exact rfl; exact rfl; exact rfl; exact rfl; (repeat (first | exact Upd.z | apply Upd.s)); exact rfl; exact rfl; exact rfl; clear hM; intro w hM) | (with_reducible refine w_ret ?_) | (with_reducible refine q_then_r ?_) | ((with_reducible apply c_dec hF); exact rfl; all_goals intro hc; all_goals (try (exfalso; omega)))))
    all_goals first | (exfalso; omega) | (apply f_ret Try.results19 hF hM; (repeat (first | exact RL.nil | (apply RL.tmp; exact rfl) | (apply RL.cell; exact rfl; (repeat (first | exact List.mem_cons_self | refine List.mem_cons_of_mem _ ?_)); exact rfl))); refine Ret.mk hM.since ?_; dsimp only [resV])
    all_goals exact rfl
  · have hck := chk_big (l := ims ps) (by rw [ims_len, hn]; exact hb)
    (((with_reducible apply s_callM (f := 55) hF); exact rfl; exact rfl; exact rfl; exact rfl; exact rfl; exact (open_c cp ps a0 c0 n hn hlen hDW hpx hnb hM (by omega) (by omega)); clear hF hM a; rintro v w a (⟨h0, rfl, hM⟩ | ⟨h0, sb, mb, its, iv, eI, E, rfl, him, hS, hmb, hM⟩) hF))
    · have he : decR ⟨cp, ims ps⟩ (tms ts) = .error (chkL [] (ims ps)) := by
        unfold decR
        rw [hck, if_pos h0]
      rw [he]
      generalize chkL [] (ims ps) = e at *
      (repeat' (first | (with_reducible refine w_seq ?_) | (with_reducible refine c_region ?_) | (with_reducible refine s_nil ?_) | (with_reducible refine q_then_n ?_) | ((with_reducible apply s_pure hF); exact rfl; exact rfl; exact rfl; (first | exact trivial | omega | exact ⟨Int.natCast_nonneg _, Int.ofNat_lt.2 (by assumption)⟩ | decide); clear hF a; intro a hF) | ((with_reducible apply s_store hF hM); exact rfl; exact rfl; exact rfl; exact rfl; (repeat (first | exact Upd.z | apply Upd.s)); exact rfl; exact rfl; exact rfl; clear hM; intro w hM) | (with_reducible refine w_ret ?_) | (with_reducible refine q_then_r ?_) | ((with_reducible apply c_dec hF); exact rfl; all_goals intro hc; all_goals (try (exfalso; omega)))))
      all_goals first | (exfalso; omega) | (apply f_ret Try.results19 hF hM; (repeat (first | exact RL.nil | (apply RL.tmp; exact rfl) | (apply RL.cell; exact rfl; (repeat (first | exact List.mem_cons_self | refine List.mem_cons_of_mem _ ?_)); exact rfl))); refine Ret.mk hM.since ?_; dsimp only [resV])
      all_goals exact rfl
    · have he : decR ⟨cp, ims ps⟩ (tms ts) = decI cp (tms ts) (ims ps) [] := by
        unfold decR
        rw [hck, if_neg (by simp [h0])]
      rw [he]
      (repeat' (first | (with_reducible refine w_seq ?_) | (with_reducible refine c_region ?_) | (with_reducible refine s_nil ?_) | (with_reducible refine q_then_n ?_) | ((with_reducible apply s_pure hF); exact rfl; exact rfl; exact rfl; (first | exact trivial | omega | exact ⟨Int.natCast_nonneg _, Int.ofNat_lt.2 (by assumption)⟩ | decide); clear hF a; intro a hF) | (with_reducible refine w_skip ?_) | (with_reducible refine w_block ?_) | ((with_reducible apply c_false2 hF); exact rfl; (first | with_reducible rfl | (refine congrArg Value.bool ?_; focus (simp; done))))))
      all_goals first | (exfalso; omega) | skip
      have hIt : Its (ims its) := by
        rw [him]
        obtain ⟨k1, k2, k3, -⟩ := chkL_ok.1 h0
        exact ⟨k1, k2, k3⟩
      have hil : its.length = n := by
        have := congrArg List.length him
        rw [ims_len, ims_len] at this
        omega
      have hrow := ((((hM.nilRow 44 8).permL (L' := eI :: ([⟨44, 8, .slice none 0 0, 0, []⟩] ++ rowsT E)) (.swap _ _ _))).sub (bs' := [stB sb mb cp iv, ⟨b4, ⟨[.int .i64 0, .slice none 0 0]⟩, 24⟩]) (Fs' := [MpE (Value.int .u64) mb (esE E), DatF its, RdF id al (cellsT ts), DatF (tP ts)]) (.cons_cons _ (.cons_cons _ (.cons _ .slnil))) (.refl _) (fun f hf => by simp only [List.mem_cons, List.not_mem_nil, or_false] at hf ⊢; rcases hf with h | h | h | h <;> simp [h]))
      refine c_loop (m := ts.length) (fun m a w' => ∃ (k : Nat) (its : List P) (E : List TE) (iv : Value) (eI : Ent) (o : Dat) (ov : Value), m + k = ts.length ∧ decI cp (tms ts) (ims ps) [] = decI cp ((tms ts).drop k) (ims its) o ∧ DecS cp its iv eI E o k ∧
        Fr 60 [] [(25, .int .i64 k), (24, .int .i64 ts.length), (23, .slice al ts.length cl), (9, ov), (7, .pointer (some ⟨sb, 0, none⟩)), (4, .pointer (some ⟨b4, 0, none⟩))] a ∧
        Mm own W [stB sb mb cp iv, ⟨b4, ⟨[.int .i64 0, .slice none 0 0]⟩, 24⟩] (eI :: ([⟨44, 8, ov, o.length, o.flatten.map (Value.int .u8)⟩] ++ rowsT E)) [MpE (Value.int .u64) mb (esE E), DatF its, RdF id al (cellsT ts), DatF (tP ts)] w')
        ⟨0, its, E, iv, eI, [], _, by omega, by rw [him]; rfl, ⟨hIt, hS, by omega, fun y hy => by simp at hy, fun y hy => by simp at hy, by simp⟩, hF.sub (by repeat (first | exact Sub.nil | refine Sub.cons rfl (by first | with_reducible rfl | (refine congrArg (Value.int _) ?_; omega) | exact rfl) ?_)), hrow⟩ ?_
      clear hF hM hrow a hS hIt him hil he
      rintro m a w' ⟨k, its, E, iv, eI, o, ov, hm, hdec, hDS, hF, hM⟩
      have hol := hDS.ol
      by_cases hk : k < ts.length
      · obtain ⟨t, ht⟩ := get_of_lt hk
        have htm := List.mem_of_getElem? ht
        have htd : (tms ts).drop k = t.1 :: (tms ts).drop (k + 1) := by
          rw [List.drop_eq_getElem_cons (by rw [tms_len]; exact hk)]
          congr 1
          unfold tms
          rw [List.getElem_map]
          congr 1
          exact (List.getElem?_eq_some_iff.1 ht).2
        rw [htd, decI_cons] at hdec
        have htw := hts ((⟨t.1.d, t.1.x⟩ : Itm), t.2) (List.mem_map.2 ⟨t, htm, rfl⟩)
        have htr := dat_one (hM.facts (DatF (tP ts)) (by (repeat (first | with_reducible exact List.mem_cons_self | refine List.mem_cons_of_mem _ ?_)))) (p := ((⟨t.1.d, t.1.x⟩ : Itm), t.2)) (List.mem_map.2 ⟨t, htm, rfl⟩)
        have hpe : (ts.map tkC)[k]? = some (tkC t) := by rw [List.getElem?_map, ht]; rfl
        obtain ⟨⟨r, d, x⟩, ax, cx⟩ := t
        obtain ⟨q, hxq⟩ : ∃ q, x.length = q := ⟨_, rfl⟩
        obtain ⟨hx8, hxc2, hxb⟩ := htw
        replace hx8 : W8 x := hx8
        replace hxb : ∀ s ∈ x, ∀ b ∈ s, 0 ≤ b ∧ b < 256 := hxb
        replace htr : Has _ _ (RdF (Value.int .u8) ax x.flatten) := htr
        replace hpe : (ts.map tkC)[k]? = some [.bool r, .int .u64 d, .slice ax q cx] := by rw [hpe, ← hxq]
        have hw3 := tkC_len ts
        obtain ⟨ad, rfl⟩ : ∃ ad, al = some ad := rd_some hM (enc := id) (a := al) (xs := cellsT ts) (by (repeat (first | exact List.mem_cons_self | refine List.mem_cons_of_mem _ ?_))) (flat_get (q := 0) hw3 hpe rfl)
        have hcf2 : ∀ f ∈ [RdF id (some ad) (cellsT ts), DatF (tP ts)], Nb mb f := by
          intro f hf
          simp only [List.mem_cons, List.not_mem_nil, or_false] at hf
          rcases hf with rfl | rfl
          · exact Nb.rd
          · exact Nb.dat
        unfold cellsT at hM hcf2
        cases hcor : corT ⟨r, d, x⟩ with
        | false =>
          rw [hcor] at hdec
          (repeat' (first | (with_reducible refine w_seq ?_) | (with_reducible refine c_region ?_) | (with_reducible refine s_nil ?_) | ((with_reducible apply s_call (f := 66) hF hM); exact rfl; exact rfl; exact rfl; exact rfl; exact rfl; exact (correct1_c r d x ax cx q hxq _ _ hM.lt); clear hF hM a; rintro v w a rfl - hM hF; rw [hcor] at hF) | ((with_reducible apply s_loadE hF hM); exact rfl; exact rfl; (repeat (first | exact List.mem_cons_self | refine List.mem_cons_of_mem _ ?_)); exact rfl; exact rfl; (first | with_reducible assumption | (simp only [Int.toNat_natCast]; with_reducible assumption)); (with_reducible assumption); clear hF a; intro a hF) | (with_reducible refine q_then_n ?_) | ((with_reducible apply s_pure hF); exact rfl; exact rfl; exact rfl; (first | exact trivial | omega | exact ⟨Int.natCast_nonneg _, Int.ofNat_lt.2 (by assumption)⟩ | decide); clear hF a; intro a hF) | ((with_reducible apply s_load hF hM); exact rfl; exact rfl; (repeat (first | exact List.mem_cons_self | refine List.mem_cons_of_mem _ ?_)); exact rfl; exact rfl; clear hF a; intro a hF) | ((with_reducible apply s_store hF hM); exact rfl; exact rfl; exact rfl; exact rfl; (repeat (first | exact Upd.z | apply Upd.s)); exact rfl; exact rfl; exact rfl; clear hM; intro w hM) | ((with_reducible apply s_alloc hF hM); exact rfl; exact rfl; exact rfl; clear hF hM a; intro b w a hM hF) | (with_reducible refine w_skip ?_) | (with_reducible refine w_block ?_) | (with_reducible refine w_ret ?_) | (with_reducible refine q_then_r ?_) | (with_reducible refine q_blk_r ?_) | ((with_reducible apply c_true2 hF); exact rfl; (first | with_reducible rfl | (refine congrArg Value.bool ?_; focus (simp; done)))) | ((with_reducible apply c_dec hF); exact rfl; all_goals intro hc; all_goals (try (exfalso; omega)))))
          (apply f_ret Try.results19 hF hM; (repeat (first | exact RL.nil | (apply RL.tmp; exact rfl) | (apply RL.cell; exact rfl; (repeat (first | exact List.mem_cons_self | refine List.mem_cons_of_mem _ ?_)); exact rfl))); refine Ret.mk hM.since ?_; dsimp only [resV])
          rw [hdec]
          rfl
        | true =>
          rw [hcor] at hdec
          have hbd : o.length + 4096 ≤ 500000000 := by omega
          have hdrop : (tms ts).drop (k + 1) = (tms ts).drop (k + 1) := rfl
          cases r with
          | false =>
            have hxc : isCh x = true := by
              unfold corT at hcor
              simp only [Bool.false_eq_true, if_false, Bool.and_eq_true] at hcor
              exact hcor.2
            have hx4 : x.length ≤ 4096 := by
              unfold isCh at hxc
              rw [decide_eq_true_eq] at hxc
              exact hxc.2
            simp only [Bool.not_true, Bool.false_eq_true, if_false] at hdec
            replace hM := hM.addFact htr
            (repeat' (first | (with_reducible refine w_seq ?_) | (with_reducible refine c_region ?_) | (with_reducible refine s_nil ?_) | ((with_reducible apply s_call (f := 66) hF hM); exact rfl; exact rfl; exact rfl; exact rfl; exact rfl; exact (correct1_c false d x ax cx q hxq _ _ hM.lt); clear hF hM a; rintro v w a rfl - hM hF; rw [hcor] at hF) | ((with_reducible apply s_loadE hF hM); exact rfl; exact rfl; (repeat (first | exact List.mem_cons_self | refine List.mem_cons_of_mem _ ?_)); exact rfl; exact rfl; (first | with_reducible assumption | (simp only [Int.toNat_natCast]; with_reducible assumption)); (with_reducible assumption); clear hF a; intro a hF) | (with_reducible refine q_then_n ?_) | ((with_reducible apply s_pure hF); exact rfl; exact rfl; exact rfl; (first | exact trivial | omega | exact ⟨Int.natCast_nonneg _, Int.ofNat_lt.2 (by assumption)⟩ | decide); clear hF a; intro a hF) | ((with_reducible apply s_load hF hM); exact rfl; exact rfl; (repeat (first | exact List.mem_cons_self | refine List.mem_cons_of_mem _ ?_)); exact rfl; exact rfl; clear hF a; intro a hF) | ((with_reducible apply s_store hF hM); exact rfl; exact rfl; exact rfl; exact rfl; (repeat (first | exact Upd.z | apply Upd.s)); exact rfl; exact rfl; exact rfl; clear hM; intro w hM) | ((with_reducible apply s_alloc hF hM); exact rfl; exact rfl; exact rfl; clear hF hM a; intro b w a hM hF) | (with_reducible refine w_skip ?_) | (with_reducible refine w_block ?_) | ((with_reducible apply c_false2 hF); exact rfl; (first | with_reducible rfl | (refine congrArg Value.bool ?_; focus (simp; done)))) | ((with_reducible apply c_dec hF); exact rfl; all_goals intro hc; all_goals (try (exfalso; omega)))))
            have hfl := flat_len hx8
            rw [hxq] at hfl
            (repeat' (first | (with_reducible refine c_region ?_) | (with_reducible refine s_nil ?_) | ((with_reducible apply s_appN hF hM); exact rfl; exact rfl; (repeat (first | exact List.mem_cons_self | refine List.mem_cons_of_mem _ ?_)); exact rfl; exact rfl; (with_reducible assumption); (repeat (first | exact Kth.z | apply Kth.s)); (intro _; exact rfl); exact rfl; omega; clear hF hM a; intro g cap w a hM hF; dsimp only [List.set] at hM) | (with_reducible refine q_then_n ?_) | ((with_reducible apply s_pure hF); exact rfl; exact rfl; exact rfl; (first | exact trivial | omega | exact ⟨Int.natCast_nonneg _, Int.ofNat_lt.2 (by assumption)⟩ | decide); clear hF a; intro a hF)))
            replace hM : Mm own W (stB sb mb cp iv :: _) (eI :: ([⟨44, 8, .slice g (o.length + q) cap, o.length + q, o.flatten.map (Value.int .u8) ++ x.flatten.map (Value.int .u8)⟩] ++ rowsT E)) (MpE (Value.int .u64) mb (esE E) :: RdF (Value.int .u8) ax x.flatten :: DatF its :: [RdF id (some ad) (ts.map tkC).flatten, DatF (tP ts)]) _ := (hM.perm (List.Perm.swap _ _ _)).sub (.refl _) (.refl _) (fun f hf => by simp only [List.mem_cons, List.not_mem_nil, or_false] at hf ⊢; rcases hf with h | h | h | h | h <;> simp [h])
            (((with_reducible apply s_callM (f := 60) hF); exact rfl; exact rfl; exact rfl; exact rfl; exact rfl; exact (add_c sb mb cp its iv eI E ⟨by omega, by omega⟩ hDS.ln hDS.st hmb hcf2 x hx8 hxb hx4 ax cx q hxq hM); clear hF hM a; rintro v w a ⟨its2, E2, iv2, eI2, him2, hS2, hM⟩ hF))
            (repeat' (first | (with_reducible refine c_region ?_) | (with_reducible refine s_nil ?_) | (with_reducible refine q_then_n ?_) | ((with_reducible apply s_pure hF); exact rfl; exact rfl; exact rfl; (first | exact trivial | omega | exact ⟨Int.natCast_nonneg _, Int.ofNat_lt.2 (by assumption)⟩ | decide); clear hF a; intro a hF) | (with_reducible refine q_blk_n ?_)))
            refine ⟨m - 1, by omega, k + 1, its2, E2, iv2, eI2, o ++ x, .slice g (o.length + q) cap, by omega, ?_, ⟨?_, hS2, ?_, ?_, ?_, ?_⟩, hF.sub (by repeat (first | exact Sub.nil | refine Sub.cons rfl (by first | with_reducible rfl | (refine congrArg (Value.int _) ?_; omega) | exact rfl) ?_)), ?_⟩
            · rw [hdec, him2]
            · rw [him2]
              exact hDS.it.add hxc cp
            · have := add_len (cap := cp) (l := ims its) (by rw [ims_len]; exact hDS.ln) x
              rw [← him2, ims_len] at this
              exact this
            · intro y hy
              rcases List.mem_append.1 hy with hy | hy
              · exact hDS.o8 y hy
              · exact hx8 y hy
            · intro y hy
              rcases List.mem_append.1 hy with hy | hy
              · exact hDS.ob y hy
              · exact hxb y hy
            · rw [List.length_append]
              omega
            · rw [List.length_append, hxq, List.flatten_append, List.map_append]
              exact hM.sub (.cons_cons _ (.cons _ (.refl _))) (.refl _) (fun f hf => by simp only [List.mem_cons, List.not_mem_nil, or_false] at hf ⊢; rcases hf with h | h | h | h <;> simp [h, cellsT])
          | true =>
            simp only [Bool.not_true, Bool.false_eq_true, if_false, if_true] at hdec
            have hfd := tab_find hDS.st.tab d
            have e1 := find_c E mb d own
            cases hh : (lookE d E).head? with
            | none =>
              rw [hh] at hfd e1
              rw [hfd] at hdec
              (repeat' (first | (with_reducible refine w_seq ?_) | (with_reducible refine c_region ?_) | (with_reducible refine s_nil ?_) | ((with_reducible apply s_call (f := 66) hF hM); exact rfl; exact rfl; exact rfl; exact rfl; exact rfl; exact (correct1_c true d x ax cx q hxq _ _ hM.lt); clear hF hM a; rintro v w a rfl - hM hF; rw [hcor] at hF) | ((with_reducible apply s_loadE hF hM); exact rfl; exact rfl; (repeat (first | exact List.mem_cons_self | refine List.mem_cons_of_mem _ ?_)); exact rfl; exact rfl; (first | with_reducible assumption | (simp only [Int.toNat_natCast]; with_reducible assumption)); (with_reducible assumption); clear hF a; intro a hF) | (with_reducible refine q_then_n ?_) | ((with_reducible apply s_pure hF); exact rfl; exact rfl; exact rfl; (first | exact trivial | omega | exact ⟨Int.natCast_nonneg _, Int.ofNat_lt.2 (by assumption)⟩ | decide); clear hF a; intro a hF) | ((with_reducible apply s_load hF hM); exact rfl; exact rfl; (repeat (first | exact List.mem_cons_self | refine List.mem_cons_of_mem _ ?_)); exact rfl; exact rfl; clear hF a; intro a hF) | ((with_reducible apply s_store hF hM); exact rfl; exact rfl; exact rfl; exact rfl; (repeat (first | exact Upd.z | apply Upd.s)); exact rfl; exact rfl; exact rfl; clear hM; intro w hM) | ((with_reducible apply s_alloc hF hM); exact rfl; exact rfl; exact rfl; clear hF hM a; intro b w a hM hF) | (with_reducible refine w_skip ?_) | (with_reducible refine w_block ?_) | ((with_reducible apply c_true2 hF); exact rfl; (first | with_reducible rfl | (refine congrArg Value.bool ?_; focus (simp; done)))) | ((with_reducible apply c_false2 hF); exact rfl; (first | with_reducible rfl | (refine congrArg Value.bool ?_; focus (simp; done)))) | ((with_reducible apply c_dec hF); exact rfl; all_goals intro hc; all_goals (try (exfalso; omega)))))
              refine c_draw (fun i => Nat.ble 12 i) hM ?_; clear hM; intro w hM
              (first | (refine t_pure (i := 0) hF rfl rfl rfl rfl (by kernel_rfl) hM.sm (fun _ _ _ h => h) ?_ ?_; (first | exact trivial | omega | decide); clear hF a; intro a hF))
              (first | (refine t_pure (i := 1) hF rfl rfl rfl rfl (by kernel_rfl) hM.sm (fun _ _ _ h => h) ?_ ?_; (first | exact trivial | omega | decide); clear hF a; intro a hF))
              (first | (refine t_pure (i := 2) hF rfl rfl rfl rfl (by kernel_rfl) hM.sm (fun _ _ _ h => h) ?_ ?_; (first | exact trivial | omega | decide); clear hF a; intro a hF))
              (first | (apply t_load (i := 3) hF rfl rfl rfl; (repeat (first | exact List.mem_cons_self | refine List.mem_cons_of_mem _ ?_)); exact rfl; exact rfl; kernel_rfl; exact hM.sm; exact (fun _ _ _ h => h); clear hF a; intro a hF))
              (first | (refine t_pure (i := 4) hF rfl rfl rfl rfl (by kernel_rfl) hM.sm (fun _ _ _ h => h) ?_ ?_; (first | exact trivial | omega | decide); clear hF a; intro a hF))
              (first | (apply t_load (i := 5) hF rfl rfl rfl; (repeat (first | exact List.mem_cons_self | refine List.mem_cons_of_mem _ ?_)); exact rfl; exact rfl; kernel_rfl; exact hM.sm; exact (fun _ _ _ h => h); clear hF a; intro a hF))
              refine t_one (i := 6) hF rfl (by kernel_rfl) rfl ?_
              intro K hK
              (apply x_call hF hM; exact rfl; exact rfl; exact rfl; exact rfl; exact (e1 _ (fun b h => hM.lt b (.inl h)) (hM.factOut (by (repeat (first | with_reducible exact List.mem_cons_self | refine List.mem_cons_of_mem _ ?_)))) (tabR_of (L1 := [_]) hM hDS.st.tE)); clear hF hM a; rintro v w a rfl - hM hF)
              refine hK _ _ (fun _ => hM.sm) ?_; clear hK
              (first | (refine t_pure (i := 7) hF rfl rfl rfl rfl (by kernel_rfl) hM.sm (fun _ _ _ h => h) ?_ ?_; (first | exact trivial | omega | decide); clear hF a; intro a hF))
              (first | (refine t_pure (i := 8) hF rfl rfl rfl rfl (by kernel_rfl) hM.sm (fun _ _ _ h => h) ?_ ?_; (first | exact trivial | omega | decide); clear hF a; intro a hF))
              (first | (refine t_pure (i := 9) hF rfl rfl rfl rfl (by kernel_rfl) hM.sm (fun _ _ _ h => h) ?_ ?_; (first | exact trivial | omega | decide); clear hF a; intro a hF))
              (first | (refine t_pure (i := 10) hF rfl rfl rfl rfl (by kernel_rfl) hM.sm (fun _ _ _ h => h) ?_ ?_; (first | exact trivial | omega | decide); clear hF a; intro a hF))
              (first | (refine t_pure (i := 11) hF rfl rfl rfl rfl (by kernel_rfl) hM.sm (fun _ _ _ h => h) ?_ ?_; (first | exact trivial | omega | decide); clear hF a; intro a hF))
              refine t_done (by kernel_rfl) ?_
              (repeat' (first | (with_reducible refine w_seq ?_) | (with_reducible refine c_region ?_) | (with_reducible refine s_nil ?_) | (with_reducible refine q_then_n ?_) | ((with_reducible apply s_pure hF); exact rfl; exact rfl; exact rfl; (first | exact trivial | omega | exact ⟨Int.natCast_nonneg _, Int.ofNat_lt.2 (by assumption)⟩ | decide); clear hF a; intro a hF) | ((with_reducible apply s_store hF hM); exact rfl; exact rfl; exact rfl; exact rfl; (repeat (first | exact Upd.z | apply Upd.s)); exact rfl; exact rfl; exact rfl; clear hM; intro w hM) | (with_reducible refine w_ret ?_) | (with_reducible refine q_then_r ?_) | (with_reducible refine q_blk_r ?_) | ((with_reducible apply c_true2 hF); exact rfl; (first | with_reducible rfl | (refine congrArg Value.bool ?_; focus (simp; done))))))
              (apply f_ret Try.results19 hF hM; (repeat (first | exact RL.nil | (apply RL.tmp; exact rfl) | (apply RL.cell; exact rfl; (repeat (first | exact List.mem_cons_self | refine List.mem_cons_of_mem _ ?_)); exact rfl))); refine Ret.mk hM.since ?_; dsimp only [resV])
              rw [hdec]
              rfl
            | some it =>
              rw [hh] at hfd e1
              rw [hfd] at hdec
              replace hdec : decI cp (tms ts) (ims ps) [] = decI cp ((tms ts).drop (k + 1)) (addI cp (ims its) it.1.x) (o ++ it.1.x) := hdec
              have hpi : it ∈ its := look_sub hDS.st.tab d it (List.mem_of_mem_head? hh)
              obtain ⟨hp8, hpc, hpb⟩ := hDS.st.dw it hpi
              have hp4 := hDS.it.ch4 it hpi
              have hpk : isCh it.1.x = true := hDS.it.ch it.1 (List.mem_map.2 ⟨it, hpi, rfl⟩)
              replace hM := hM.addFact (dat_one (hM.facts (DatF its) (by (repeat (first | with_reducible exact List.mem_cons_self | refine List.mem_cons_of_mem _ ?_)))) hpi)
              obtain ⟨⟨di, xi⟩, ai, ci⟩ := it
              obtain ⟨qi, hqi⟩ : ∃ qi, xi.length = qi := ⟨_, rfl⟩
              dsimp only at hM hp8 hpc hpb hp4 hpk hdec
              (repeat' (first | (with_reducible refine w_seq ?_) | (with_reducible refine c_region ?_) | (with_reducible refine s_nil ?_) | ((with_reducible apply s_call (f := 66) hF hM); exact rfl; exact rfl; exact rfl; exact rfl; exact rfl; exact (correct1_c true d x ax cx q hxq _ _ hM.lt); clear hF hM a; rintro v w a rfl - hM hF; rw [hcor] at hF) | ((with_reducible apply s_loadE hF hM); exact rfl; exact rfl; (repeat (first | exact List.mem_cons_self | refine List.mem_cons_of_mem _ ?_)); exact rfl; exact rfl; (first | with_reducible assumption | (simp only [Int.toNat_natCast]; with_reducible assumption)); (with_reducible assumption); clear hF a; intro a hF) | (with_reducible refine q_then_n ?_) | ((with_reducible apply s_pure hF); exact rfl; exact rfl; exact rfl; (first | exact trivial | omega | exact ⟨Int.natCast_nonneg _, Int.ofNat_lt.2 (by assumption)⟩ | decide); clear hF a; intro a hF) | ((with_reducible apply s_load hF hM); exact rfl; exact rfl; (repeat (first | exact List.mem_cons_self | refine List.mem_cons_of_mem _ ?_)); exact rfl; exact rfl; clear hF a; intro a hF) | ((with_reducible apply s_store hF hM); exact rfl; exact rfl; exact rfl; exact rfl; (repeat (first | exact Upd.z | apply Upd.s)); exact rfl; exact rfl; exact rfl; clear hM; intro w hM) | ((with_reducible apply s_alloc hF hM); exact rfl; exact rfl; exact rfl; clear hF hM a; intro b w a hM hF) | (with_reducible refine w_skip ?_) | (with_reducible refine w_block ?_) | ((with_reducible apply c_true2 hF); exact rfl; (first | with_reducible rfl | (refine congrArg Value.bool ?_; focus (simp; done)))) | ((with_reducible apply c_false2 hF); exact rfl; (first | with_reducible rfl | (refine congrArg Value.bool ?_; focus (simp; done)))) | ((with_reducible apply c_dec hF); exact rfl; all_goals intro hc; all_goals (try (exfalso; omega)))))
              refine c_draw (fun i => Nat.ble 12 i) hM ?_; clear hM; intro w hM
              (first | (refine t_pure (i := 0) hF rfl rfl rfl rfl (by kernel_rfl) hM.sm (fun _ _ _ h => h) ?_ ?_; (first | exact trivial | omega | decide); clear hF a; intro a hF))
              (first | (refine t_pure (i := 1) hF rfl rfl rfl rfl (by kernel_rfl) hM.sm (fun _ _ _ h => h) ?_ ?_; (first | exact trivial | omega | decide); clear hF a; intro a hF))
              (first | (refine t_pure (i := 2) hF rfl rfl rfl rfl (by kernel_rfl) hM.sm (fun _ _ _ h => h) ?_ ?_; (first | exact trivial | omega | decide); clear hF a; intro a hF))
              (first | (apply t_load (i := 3) hF rfl rfl rfl; (repeat (first | exact List.mem_cons_self | refine List.mem_cons_of_mem _ ?_)); exact rfl; exact rfl; kernel_rfl; exact hM.sm; exact (fun _ _ _ h => h); clear hF a; intro a hF))
              (first | (refine t_pure (i := 4) hF rfl rfl rfl rfl (by kernel_rfl) hM.sm (fun _ _ _ h => h) ?_ ?_; (first | exact trivial | omega | decide); clear hF a; intro a hF))
              (first | (apply t_load (i := 5) hF rfl rfl rfl; (repeat (first | exact List.mem_cons_self | refine List.mem_cons_of_mem _ ?_)); exact rfl; exact rfl; kernel_rfl; exact hM.sm; exact (fun _ _ _ h => h); clear hF a; intro a hF))
              refine t_one (i := 6) hF rfl (by kernel_rfl) rfl ?_
              intro K hK
              (apply x_call hF hM; exact rfl; exact rfl; exact rfl; exact rfl; exact (e1 _ (fun b h => hM.lt b (.inl h)) (hM.factOut (by (repeat (first | with_reducible exact List.mem_cons_self | refine List.mem_cons_of_mem _ ?_)))) (tabR_of (L1 := [_]) hM hDS.st.tE)); clear hF hM a; rintro v w a rfl - hM hF)
              dsimp only at hF; rw [hqi] at hF
              refine hK _ _ (fun _ => (hM.sm.sub (fun x hx => by repeat (first | exact hx | refine List.mem_cons_of_mem _ ?_)) (fun _ h => by repeat (first | exact h | refine List.mem_cons_of_mem _ ?_)))) ?_; clear hK
              (first | (refine t_pure (i := 7) hF rfl rfl rfl rfl (by kernel_rfl) (hM.sm.sub (fun x hx => by repeat (first | exact hx | refine List.mem_cons_of_mem _ ?_)) (fun _ h => by repeat (first | exact h | refine List.mem_cons_of_mem _ ?_))) (fun _ _ _ h => h) ?_ ?_; (first | exact trivial | omega | decide); clear hF a; intro a hF))
              (first | (refine t_pure (i := 8) hF rfl rfl rfl rfl (by kernel_rfl) (hM.sm.sub (fun x hx => by repeat (first | exact hx | refine List.mem_cons_of_mem _ ?_)) (fun _ h => by repeat (first | exact h | refine List.mem_cons_of_mem _ ?_))) (fun _ _ _ h => h) ?_ ?_; (first | exact trivial | omega | decide); clear hF a; intro a hF))
              (first | (refine t_pure (i := 9) hF rfl rfl rfl rfl (by kernel_rfl) (hM.sm.sub (fun x hx => by repeat (first | exact hx | refine List.mem_cons_of_mem _ ?_)) (fun _ h => by repeat (first | exact h | refine List.mem_cons_of_mem _ ?_))) (fun _ _ _ h => h) ?_ ?_; (first | exact trivial | omega | decide); clear hF a; intro a hF))
              (first | (refine t_pure (i := 10) hF rfl rfl rfl rfl (by kernel_rfl) (hM.sm.sub (fun x hx => by repeat (first | exact hx | refine List.mem_cons_of_mem _ ?_)) (fun _ h => by repeat (first | exact h | refine List.mem_cons_of_mem _ ?_))) (fun _ _ _ h => h) ?_ ?_; (first | exact trivial | omega | decide); clear hF a; intro a hF))
              (first | (refine t_pure (i := 11) hF rfl rfl rfl rfl (by kernel_rfl) (hM.sm.sub (fun x hx => by repeat (first | exact hx | refine List.mem_cons_of_mem _ ?_)) (fun _ h => by repeat (first | exact h | refine List.mem_cons_of_mem _ ?_))) (fun _ _ _ h => h) ?_ ?_; (first | exact trivial | omega | decide); clear hF a; intro a hF))
              refine t_done (by kernel_rfl) ?_
              have hfl := flat_len hp8
              rw [hqi] at hfl
              (repeat' (first | (with_reducible refine w_seq ?_) | (with_reducible refine c_region ?_) | (with_reducible refine s_nil ?_) | ((with_reducible apply s_appN hF hM); exact rfl; exact rfl; (repeat (first | exact List.mem_cons_self | refine List.mem_cons_of_mem _ ?_)); exact rfl; exact rfl; (with_reducible assumption); (repeat (first | exact Kth.z | apply Kth.s)); (intro _; exact rfl); exact rfl; omega; clear hF hM a; intro g cap w a hM hF; dsimp only [List.set] at hM) | (with_reducible refine q_then_n ?_) | ((with_reducible apply s_pure hF); exact rfl; exact rfl; exact rfl; (first | exact trivial | omega | exact ⟨Int.natCast_nonneg _, Int.ofNat_lt.2 (by assumption)⟩ | decide); clear hF a; intro a hF) | (with_reducible refine w_skip ?_) | ((with_reducible apply c_false2 hF); exact rfl; (first | with_reducible rfl | (refine congrArg Value.bool ?_; focus (simp; done))))))
              replace hM : Mm own W (stB sb mb cp iv :: _) (eI :: ([⟨44, 8, .slice g (o.length + qi) cap, o.length + qi, o.flatten.map (Value.int .u8) ++ xi.flatten.map (Value.int .u8)⟩] ++ rowsT E)) (MpE (Value.int .u64) mb (esE E) :: RdF (Value.int .u8) ai xi.flatten :: DatF its :: [RdF id (some ad) (ts.map tkC).flatten, DatF (tP ts)]) _ := (hM.perm (List.Perm.swap _ _ _)).sub (.refl _) (.refl _) (fun f hf => by simp only [List.mem_cons, List.not_mem_nil, or_false] at hf ⊢; rcases hf with h | h | h | h | h <;> simp [h])
              (((with_reducible apply s_callM (f := 60) hF); exact rfl; exact rfl; exact rfl; exact rfl; exact rfl; exact (add_c sb mb cp its iv eI E ⟨by omega, by omega⟩ hDS.ln hDS.st hmb hcf2 xi hp8 hpb hp4 ai ci qi hqi hM); clear hF hM a; rintro v w a ⟨its2, E2, iv2, eI2, him2, hS2, hM⟩ hF))
              (repeat' (first | (with_reducible refine c_region ?_) | (with_reducible refine s_nil ?_) | (with_reducible refine q_then_n ?_) | ((with_reducible apply s_pure hF); exact rfl; exact rfl; exact rfl; (first | exact trivial | omega | exact ⟨Int.natCast_nonneg _, Int.ofNat_lt.2 (by assumption)⟩ | decide); clear hF a; intro a hF) | (with_reducible refine q_blk_n ?_)))
              refine ⟨m - 1, by omega, k + 1, its2, E2, iv2, eI2, o ++ xi, .slice g (o.length + qi) cap, by omega, ?_, ⟨?_, hS2, ?_, ?_, ?_, ?_⟩, hF.sub (by repeat (first | exact Sub.nil | refine Sub.cons rfl (by first | with_reducible rfl | (refine congrArg (Value.int _) ?_; omega) | exact rfl) ?_)), ?_⟩
              · rw [hdec, him2]
              · rw [him2]
                exact hDS.it.add hpk cp
              · have := add_len (cap := cp) (l := ims its) (by rw [ims_len]; exact hDS.ln) xi
                rw [← him2, ims_len] at this
                exact this
              · intro y hy
                rcases List.mem_append.1 hy with hy | hy
                · exact hDS.o8 y hy
                · exact hp8 y hy
              · intro y hy
                rcases List.mem_append.1 hy with hy | hy
                · exact hDS.ob y hy
                · exact hpb y hy
              · rw [List.length_append]
                omega
              · rw [List.length_append, hqi, List.flatten_append, List.map_append]
                exact hM.sub (.cons_cons _ (.cons _ (.refl _))) (.refl _) (fun f hf => by simp only [List.mem_cons, List.not_mem_nil, or_false] at hf ⊢; rcases hf with h | h | h | h <;> simp [h, cellsT])
      · obtain rfl : k = ts.length := by omega
        have hdn : (tms ts).drop ts.length = [] := List.drop_of_length_le (by rw [tms_len]; exact Nat.le_refl _)
        rw [hdn] at hdec
        rw [hdec]
        (repeat' (first | (with_reducible refine w_seq ?_) | (with_reducible refine c_region ?_) | (with_reducible refine s_nil ?_) | (with_reducible refine q_then_n ?_) | ((with_reducible apply s_pure hF); exact rfl; exact rfl; exact rfl; (first | exact trivial | omega | exact ⟨Int.natCast_nonneg _, Int.ofNat_lt.2 (by assumption)⟩ | decide); clear hF a; intro a hF) | (with_reducible refine w_exit ?_) | (with_reducible refine q_then_x ?_) | (with_reducible refine q_blk_x ?_) | ((with_reducible apply c_false2 hF); exact rfl; (first | with_reducible rfl | (refine congrArg Value.bool ?_; focus (simp; done))))))
        have hch4 := hDS.it.ch4
        have hil2 : its.length ≤ 100000 := by
          have := hDS.ln
          omega
        (((with_reducible apply s_callM (f := 61) hF); exact rfl; exact rfl; exact rfl; exact rfl; exact rfl; exact (chunksM_c sb mb cp its iv eI E hil2 hDS.st hch4 hM (by (repeat (first | with_reducible exact List.mem_cons_self | refine List.mem_cons_of_mem _ ?_)))); clear hF hM a; rintro v w a ⟨a', c', ps', rfl, k4, k5, k6, hM⟩ hF))
        obtain ⟨av, cv, rfl, hcv, -⟩ := OffR.shape hM (k := 0) rfl (OffR.plain hM List.mem_cons_self)
        replace hM := Mm.freezeN hM
        (repeat' (first | (with_reducible refine s_nil ?_) | (with_reducible refine q_then_n ?_) | ((with_reducible apply s_pure hF); exact rfl; exact rfl; exact rfl; (first | exact trivial | omega | exact ⟨Int.natCast_nonneg _, Int.ofNat_lt.2 (by assumption)⟩ | decide); clear hF a; intro a hF) | ((with_reducible apply s_store hF hM); exact rfl; exact rfl; exact rfl; exact rfl; (repeat (first | exact Upd.z | apply Upd.s)); exact rfl; exact rfl; exact rfl; clear hM; intro w hM) | (with_reducible refine w_ret ?_)))
        (apply f_ret Try.results19 hF hM; (repeat (first | exact RL.nil | (apply RL.tmp; exact rfl) | (apply RL.cell; exact rfl; (repeat (first | exact List.mem_cons_self | refine List.mem_cons_of_mem _ ?_)); exact rfl))); refine Ret.mk hM.since ?_; dsimp only [resV])
        refine ⟨a', c', av, cv, ?_, itR_mk hM k4 k5 (by (repeat (first | with_reducible exact List.mem_cons_self | refine List.mem_cons_of_mem _ ?_))) (by (repeat (first | with_reducible exact List.mem_cons_self | refine List.mem_cons_of_mem _ ?_))) (by rw [ims_len]; exact k6), hM.factOut (by (repeat (first | with_reducible exact List.mem_cons_self | refine List.mem_cons_of_mem _ ?_))), hcv, hDS.o8, hDS.ob⟩
        rw [ims_len]
end
end Go.Proofs.Ytonelgecjmpbgaa


/- slices: searches with a function in tokens, chunks and lists of sectors; searches in words. -/
namespace Go.Proofs.Ytonelgecjmpbgaa
open Go.RowKit Go.Shelf D29
namespace D29
/-- The first place at which something holds; -1 if there is none. -/
def IdxOf {α : Type} (q : α → Bool) (l : List α) (i : Int) : Prop := (i = -1 ∧ ∀ x ∈ l, q x = false) ∨ ∃ (k : Nat) (x : α), i = k ∧ l[k]? = some x ∧ q x = true ∧ ∀ y ∈ l.take k, q y = false
theorem IdxOf.any {α : Type} {q : α → Bool} {l : List α} {i : Int} (h : IdxOf q l i) : decide (0 ≤ i) = l.any q := by
  rw [Bool.eq_iff_iff, decide_eq_true_eq, List.any_eq_true]
  rcases h with ⟨rfl, h⟩ | ⟨k, x, rfl, h1, h2, h3⟩
  · constructor
    · intro h; omega
    · rintro ⟨x, hx, e⟩; rw [h x hx] at e; cases e
  · exact ⟨fun _ => ⟨x, List.mem_of_getElem? h1, h2⟩, fun _ => by omega⟩
theorem IdxOf.none {α : Type} {q : α → Bool} {l : List α} (h : ∀ x ∈ l, q x = false) : IdxOf q l (-1) := .inl ⟨rfl, h⟩
theorem IdxOf.some {α : Type} {q : α → Bool} {l : List α} {k : Nat} {x : α} (h1 : l[k]? = some x) (h2 : q x = true) (h3 : ∀ y ∈ l.take k, q y = false) : IdxOf q l k := .inr ⟨k, x, rfl, h1, h2, h3⟩
theorem pre_succ {α : Type} {q : α → Bool} {l : List α} {k : Nat} {x : α} (h : ∀ y ∈ l.take k, q y = false) (h1 : l[k]? = some x) (h2 : q x = false) : ∀ y ∈ l.take (k + 1), q y = false := by
  intro y hy
  rw [List.take_add_one, h1] at hy
  rcases List.mem_append.1 hy with hy | hy
  · exact h y hy
  · simp at hy; rw [hy]; exact h2
theorem tms_get {l : List TP} {k : Nat} {t : TP} (h : l[k]? = some t) : (tms l)[k]? = some t.1 := by unfold tms; rw [List.getElem?_map, h]; rfl
theorem ims_get {l : List P} {k : Nat} {t : P} (h : l[k]? = some t) : (ims l)[k]? = some t.1 := by unfold ims; rw [List.getElem?_map, h]; rfl
end D29
set_option maxRecDepth 20000 in
set_option maxHeartbeats 1000000 in
theorem idxT_c (f : FuncId) (cap : List Value) (q : Tok → Bool) (Kf : World → Prop) (he : memB entL f = true) (ts : List TP) (n : Nat) (hn : ts.length = n) (htl : n ≤ 1000000) (hf : ∀ t ∈ ts, ∀ (own : Nat → Prop) (W : World), (∀ b, own b → b < W.heap.size) → Has own W Kf → Calls Try.prog f ⟨.agg ⟨tkC t⟩ :: cap⟩ W (Ret W fun v _ => v = .bool (q t.1))) (a0 : Option Addr) (c0 : Nat) (own : Nat → Prop) (W : World) (hl : ∀ b, own b → b < W.heap.size) (hk : Has own W Kf) (h3 : Has own W (RdF id a0 (cellsT ts))) :
    Calls Try.prog 74 ⟨[.slice a0 n c0, .func (.func f) #[] ⟨cap⟩]⟩ W (Ret W fun v _ => ∃ i : Int, v = .int .i64 i ∧ IdxOf q (tms ts) i) := by
  subst hn
  have hM := ((Mm.start hl).known hk).known h3
  refine f_start Try.func74 rfl Try.ntmps74 rfl rfl ?_; intro a hF
  (repeat (first | (with_reducible refine w_seq ?_) | (with_reducible refine c_region ?_) | (with_reducible refine s_nil ?_) | (with_reducible refine q_then_n ?_) | ((with_reducible apply s_pure hF); exact rfl; exact rfl; exact rfl; (first | exact trivial | omega | exact ⟨Int.natCast_nonneg _, Int.ofNat_lt.2 (by assumption)⟩ | decide); clear hF a; intro a hF) | (with_reducible refine w_block ?_)))
  refine c_loop (m := ts.length) (fun m a w' => ∃ k : Nat, m + k = ts.length ∧ (∀ y ∈ (tms ts).take k, q y = false) ∧
    Fr 19 [] [(8, .int .i64 k), (7, .int .i64 ts.length), (0, .slice a0 ts.length c0), (1, .func (.func f) #[] ⟨cap⟩)] a ∧
    Mm own W [] [] [RdF id a0 (cellsT ts), Kf] w') ⟨0, by omega, by simp, hF.sub (by repeat (first | exact Sub.nil | refine Sub.cons rfl (by first | with_reducible rfl | (refine congrArg (Value.int _) ?_; omega) | exact rfl) ?_)), hM⟩ ?_
  clear hF hM a
  rintro m a w' ⟨k, hm, hno, hF, hM⟩
  by_cases hk : k < ts.length
  · obtain ⟨t, ht⟩ := get_of_lt hk
    have htm := List.mem_of_getElem? ht
    have hmt := tms_get ht
    have hfc := hf t htm
    have hpc : (ts.map tkC)[k]? = some [.bool t.1.r, .int .u64 t.1.d, .slice t.2.1 t.1.x.length t.2.2] := by rw [List.getElem?_map, ht]; rfl
    have hw := tkC_len ts
    obtain ⟨ad, rfl⟩ : ∃ ad, a0 = some ad := rd_some hM (enc := id) (a := a0) (xs := cellsT ts) (by (repeat (first | exact List.mem_cons_self | refine List.mem_cons_of_mem _ ?_))) (flat_get (q := 0) hw hpc rfl)
    unfold cellsT at hM
    (repeat' (first | (with_reducible refine w_seq ?_) | (with_reducible refine c_region ?_) | (with_reducible refine s_nil ?_) | ((with_reducible apply s_loadE hF hM); exact rfl; exact rfl; (repeat (first | exact List.mem_cons_self | refine List.mem_cons_of_mem _ ?_)); exact rfl; exact rfl; (first | with_reducible assumption | (simp only [Int.toNat_natCast]; with_reducible assumption)); (with_reducible assumption); clear hF a; intro a hF) | (with_reducible refine q_then_n ?_) | ((with_reducible apply s_pure hF); exact rfl; exact rfl; exact rfl; (first | exact trivial | omega | exact ⟨Int.natCast_nonneg _, Int.ofNat_lt.2 (by assumption)⟩ | decide); clear hF a; intro a hF) | (with_reducible refine w_skip ?_) | (with_reducible refine w_block ?_) | ((with_reducible apply c_dec hF); exact rfl; all_goals intro hc; all_goals (try (exfalso; omega)))))
    (((with_reducible apply s_callc (f := f) hF hM); exact rfl; exact rfl; exact rfl; exact rfl; exact rfl; (with_reducible assumption); exact rfl; exact (hfc _ _ hM.lt (hM.facts Kf (by (repeat (first | exact List.mem_cons_self | refine List.mem_cons_of_mem _ ?_))))); clear hF hM a; rintro v w a rfl - hM hF))
    cases hq : q t.1 with
    | true =>
      rw [hq] at hF
      (repeat' (first | (with_reducible refine w_seq ?_) | (with_reducible refine c_region ?_) | (with_reducible refine s_nil ?_) | (with_reducible refine q_then_n ?_) | ((with_reducible apply s_pure hF); exact rfl; exact rfl; exact rfl; (first | exact trivial | omega | exact ⟨Int.natCast_nonneg _, Int.ofNat_lt.2 (by assumption)⟩ | decide); clear hF a; intro a hF) | (with_reducible refine w_ret ?_) | (with_reducible refine q_then_r ?_) | (with_reducible refine q_blk_r ?_) | ((with_reducible apply c_true2 hF); exact rfl; (first | with_reducible rfl | (refine congrArg Value.bool ?_; focus (simp; done))))))
      (apply f_ret Try.results74 hF hM; (repeat (first | exact RL.nil | (apply RL.tmp; exact rfl) | (apply RL.cell; exact rfl; (repeat (first | exact List.mem_cons_self | refine List.mem_cons_of_mem _ ?_)); exact rfl))); refine Ret.mk hM.since ?_; dsimp only [resV])
      exact ⟨_, rfl, IdxOf.some hmt hq hno⟩
    | false =>
      rw [hq] at hF
      (repeat' (first | (with_reducible refine c_region ?_) | (with_reducible refine s_nil ?_) | (with_reducible refine q_then_n ?_) | ((with_reducible apply s_pure hF); exact rfl; exact rfl; exact rfl; (first | exact trivial | omega | exact ⟨Int.natCast_nonneg _, Int.ofNat_lt.2 (by assumption)⟩ | decide); clear hF a; intro a hF) | (with_reducible refine w_skip ?_) | (with_reducible refine q_blk_n ?_) | ((with_reducible apply c_false2 hF); exact rfl; (first | with_reducible rfl | (refine congrArg Value.bool ?_; focus (simp; done))))))
      exact ⟨m - 1, by omega, k + 1, by omega, pre_succ hno hmt hq, hF.sub (by repeat (first | exact Sub.nil | refine Sub.cons rfl (by first | with_reducible rfl | (refine congrArg (Value.int _) ?_; omega) | exact rfl) ?_)), hM⟩
  · rw [List.take_of_length_le (by simp [tms]; omega)] at hno
    (repeat' (first | (with_reducible refine w_seq ?_) | (with_reducible refine c_region ?_) | (with_reducible refine s_nil ?_) | (with_reducible refine q_then_n ?_) | ((with_reducible apply s_pure hF); exact rfl; exact rfl; exact rfl; (first | exact trivial | omega | exact ⟨Int.natCast_nonneg _, Int.ofNat_lt.2 (by assumption)⟩ | decide); clear hF a; intro a hF) | (with_reducible refine w_exit ?_) | (with_reducible refine w_ret ?_) | (with_reducible refine q_then_x ?_) | (with_reducible refine q_blk_x ?_) | ((with_reducible apply c_dec hF); exact rfl; all_goals intro hc; all_goals (try (exfalso; omega)))))
    (apply f_ret Try.results74 hF hM; (repeat (first | exact RL.nil | (apply RL.tmp; exact rfl) | (apply RL.cell; exact rfl; (repeat (first | exact List.mem_cons_self | refine List.mem_cons_of_mem _ ?_)); exact rfl))); refine Ret.mk hM.since ?_; dsimp only [resV])
    exact ⟨_, rfl, IdxOf.none hno⟩
theorem conT_c (f : FuncId) (cap : List Value) (q : Tok → Bool) (Kf : World → Prop) (he : memB entL f = true) (ts : List TP) (n : Nat) (hn : ts.length = n) (htl : n ≤ 1000000) (hf : ∀ t ∈ ts, ∀ (own : Nat → Prop) (W : World), (∀ b, own b → b < W.heap.size) → Has own W Kf → Calls Try.prog f ⟨.agg ⟨tkC t⟩ :: cap⟩ W (Ret W fun v _ => v = .bool (q t.1))) (a0 : Option Addr) (c0 : Nat) (own : Nat → Prop) (W : World) (hl : ∀ b, own b → b < W.heap.size) (hk : Has own W Kf) (h3 : Has own W (RdF id a0 (cellsT ts))) :
    Calls Try.prog 37 ⟨[.slice a0 n c0, .func (.func f) #[] ⟨cap⟩]⟩ W (Ret W fun v _ => v = .bool ((tms ts).any q)) := by
  have hM := ((Mm.start hl).known hk).known h3
  refine f_start Try.func37 rfl Try.ntmps37 rfl rfl ?_; intro a hF
  (repeat (first | (with_reducible refine w_seq ?_) | (with_reducible refine c_region ?_) | (with_reducible refine s_nil ?_) | (with_reducible refine q_then_n ?_) | ((with_reducible apply s_pure hF); exact rfl; exact rfl; exact rfl; (first | exact trivial | omega | exact ⟨Int.natCast_nonneg _, Int.ofNat_lt.2 (by assumption)⟩ | decide); clear hF a; intro a hF)))
  (((with_reducible apply s_call (f := 74) hF hM); exact rfl; exact rfl; exact rfl; exact rfl; exact rfl; exact (idxT_c f cap q Kf he ts n hn htl hf a0 c0 _ _ hM.lt (hM.facts Kf (by (repeat (first | exact List.mem_cons_self | refine List.mem_cons_of_mem _ ?_)))) (hM.facts (RdF id a0 (cellsT ts)) (by (repeat (first | exact List.mem_cons_self | refine List.mem_cons_of_mem _ ?_))))); clear hF hM a; rintro v w a ⟨i, rfl, hi⟩ - hM hF))
  (repeat (first | (with_reducible refine s_nil ?_) | (with_reducible refine q_then_n ?_) | ((with_reducible apply s_pure hF); exact rfl; exact rfl; exact rfl; (first | exact trivial | omega | exact ⟨Int.natCast_nonneg _, Int.ofNat_lt.2 (by assumption)⟩ | decide); clear hF a; intro a hF) | (with_reducible refine w_ret ?_)))
  (apply f_ret Try.results37 hF hM; (repeat (first | exact RL.nil | (apply RL.tmp; exact rfl) | (apply RL.cell; exact rfl; (repeat (first | exact List.mem_cons_self | refine List.mem_cons_of_mem _ ?_)); exact rfl))); refine Ret.mk hM.since ?_; dsimp only [resV])
  rw [← hi.any]
set_option maxRecDepth 20000 in
set_option maxHeartbeats 1000000 in
theorem idxC_c (f : FuncId) (cap : List Value) (q : Itm → Bool) (Kf : World → Prop) (he : memB entL f = true) (ts : List P) (n : Nat) (hn : ts.length = n) (htl : n ≤ 1000000) (hf : ∀ t ∈ ts, ∀ (own : Nat → Prop) (W : World), (∀ b, own b → b < W.heap.size) → Has own W Kf → Calls Try.prog f ⟨.agg ⟨itC t⟩ :: cap⟩ W (Ret W fun v _ => v = .bool (q t.1))) (a0 : Option Addr) (c0 : Nat) (own : Nat → Prop) (W : World) (hl : ∀ b, own b → b < W.heap.size) (hk : Has own W Kf) (h3 : Has own W (RdF id a0 (cellsP ts))) :
    Calls Try.prog 46 ⟨[.slice a0 n c0, .func (.func f) #[] ⟨cap⟩]⟩ W (Ret W fun v _ => ∃ i : Int, v = .int .i64 i ∧ IdxOf q (ims ts) i) := by
  subst hn
  have hM := ((Mm.start hl).known hk).known h3
  refine f_start Try.func46 rfl Try.ntmps46 rfl rfl ?_; intro a hF
  (repeat (first | (with_reducible refine w_seq ?_) | (with_reducible refine c_region ?_) | (with_reducible refine s_nil ?_) | (with_reducible refine q_then_n ?_) | ((with_reducible apply s_pure hF); exact rfl; exact rfl; exact rfl; (first | exact trivial | omega | exact ⟨Int.natCast_nonneg _, Int.ofNat_lt.2 (by assumption)⟩ | decide); clear hF a; intro a hF) | (with_reducible refine w_block ?_)))
  refine c_loop (m := ts.length) (fun m a w' => ∃ k : Nat, m + k = ts.length ∧ (∀ y ∈ (ims ts).take k, q y = false) ∧
    Fr 19 [] [(8, .int .i64 k), (7, .int .i64 ts.length), (0, .slice a0 ts.length c0), (1, .func (.func f) #[] ⟨cap⟩)] a ∧
    Mm own W [] [] [RdF id a0 (cellsP ts), Kf] w') ⟨0, by omega, by simp, hF.sub (by repeat (first | exact Sub.nil | refine Sub.cons rfl (by first | with_reducible rfl | (refine congrArg (Value.int _) ?_; omega) | exact rfl) ?_)), hM⟩ ?_
  clear hF hM a
  rintro m a w' ⟨k, hm, hno, hF, hM⟩
  by_cases hk : k < ts.length
  · obtain ⟨t, ht⟩ := get_of_lt hk
    have htm := List.mem_of_getElem? ht
    have hmt := ims_get ht
    have hfc := hf t htm
    have hpc : (ts.map itC)[k]? = some [.int .u64 t.1.d, .slice t.2.1 t.1.x.length t.2.2] := by rw [List.getElem?_map, ht]; rfl
    have hw := itC_len ts
    obtain ⟨ad, rfl⟩ : ∃ ad, a0 = some ad := rd_some hM (enc := id) (a := a0) (xs := cellsP ts) (by (repeat (first | exact List.mem_cons_self | refine List.mem_cons_of_mem _ ?_))) (flat_get (q := 0) hw hpc rfl)
    unfold cellsP at hM
    (repeat' (first | (with_reducible refine w_seq ?_) | (with_reducible refine c_region ?_) | (with_reducible refine s_nil ?_) | ((with_reducible apply s_loadE hF hM); exact rfl; exact rfl; (repeat (first | exact List.mem_cons_self | refine List.mem_cons_of_mem _ ?_)); exact rfl; exact rfl; (first | with_reducible assumption | (simp only [Int.toNat_natCast]; with_reducible assumption)); (with_reducible assumption); clear hF a; intro a hF) | (with_reducible refine q_then_n ?_) | ((with_reducible apply s_pure hF); exact rfl; exact rfl; exact rfl; (first | exact trivial | omega | exact ⟨Int.natCast_nonneg _, Int.ofNat_lt.2 (by assumption)⟩ | decide); clear hF a; intro a hF) | (with_reducible refine w_skip ?_) | (with_reducible refine w_block ?_) | ((with_reducible apply c_dec hF); exact rfl; all_goals intro hc; all_goals (try (exfalso; omega)))))
    (((with_reducible apply s_callc (f := f) hF hM); exact rfl; exact rfl; exact rfl; exact rfl; exact rfl; (with_reducible assumption); exact rfl; exact (hfc _ _ hM.lt (hM.facts Kf (by (repeat (first | exact List.mem_cons_self | refine List.mem_cons_of_mem _ ?_))))); clear hF hM a; rintro v w a rfl - hM hF))
    cases hq : q t.1 with
    | true =>
      rw [hq] at hF
      (repeat' (first | (with_reducible refine w_seq ?_) | (with_reducible refine c_region ?_) | (with_reducible refine s_nil ?_) | (with_reducible refine q_then_n ?_) | ((with_reducible apply s_pure hF); exact rfl; exact rfl; exact rfl; (first | exact trivial | omega | exact ⟨Int.natCast_nonneg _, Int.ofNat_lt.2 (by assumption)⟩ | decide); clear hF a; intro a hF) | (with_reducible refine w_ret ?_) | (with_reducible refine q_then_r ?_) | (with_reducible refine q_blk_r ?_) | ((with_reducible apply c_true2 hF); exact rfl; (first | with_reducible rfl | (refine congrArg Value.bool ?_; focus (simp; done))))))
      (apply f_ret Try.results46 hF hM; (repeat (first | exact RL.nil | (apply RL.tmp; exact rfl) | (apply RL.cell; exact rfl; (repeat (first | exact List.mem_cons_self | refine List.mem_cons_of_mem _ ?_)); exact rfl))); refine Ret.mk hM.since ?_; dsimp only [resV])
      exact ⟨_, rfl, IdxOf.some hmt hq hno⟩
    | false =>
      rw [hq] at hF
      (repeat' (first | (with_reducible refine c_region ?_) | (with_reducible refine s_nil ?_) | (with_reducible refine q_then_n ?_) | ((with_reducible apply s_pure hF); exact rfl; exact rfl; exact rfl; (first | exact trivial | omega | exact ⟨Int.natCast_nonneg _, Int.ofNat_lt.2 (by assumption)⟩ | decide); clear hF a; intro a hF) | (with_reducible refine w_skip ?_) | (with_reducible refine q_blk_n ?_) | ((with_reducible apply c_false2 hF); exact rfl; (first | with_reducible rfl | (refine congrArg Value.bool ?_; focus (simp; done))))))
      exact ⟨m - 1, by omega, k + 1, by omega, pre_succ hno hmt hq, hF.sub (by repeat (first | exact Sub.nil | refine Sub.cons rfl (by first | with_reducible rfl | (refine congrArg (Value.int _) ?_; omega) | exact rfl) ?_)), hM⟩
  · rw [List.take_of_length_le (by simp [ims]; omega)] at hno
    (repeat' (first | (with_reducible refine w_seq ?_) | (with_reducible refine c_region ?_) | (with_reducible refine s_nil ?_) | (with_reducible refine q_then_n ?_) | ((with_reducible apply s_pure hF); exact rfl; exact rfl; exact rfl; (first | exact trivial | omega | exact ⟨Int.natCast_nonneg _, Int.ofNat_lt.2 (by assumption)⟩ | decide); clear hF a; intro a hF) | (with_reducible refine w_exit ?_) | (with_reducible refine w_ret ?_) | (with_reducible refine q_then_x ?_) | (with_reducible refine q_blk_x ?_) | ((with_reducible apply c_dec hF); exact rfl; all_goals intro hc; all_goals (try (exfalso; omega)))))
    (apply f_ret Try.results46 hF hM; (repeat (first | exact RL.nil | (apply RL.tmp; exact rfl) | (apply RL.cell; exact rfl; (repeat (first | exact List.mem_cons_self | refine List.mem_cons_of_mem _ ?_)); exact rfl))); refine Ret.mk hM.since ?_; dsimp only [resV])
    exact ⟨_, rfl, IdxOf.none hno⟩
theorem conC_c (f : FuncId) (cap : List Value) (q : Itm → Bool) (Kf : World → Prop) (he : memB entL f = true) (ts : List P) (n : Nat) (hn : ts.length = n) (htl : n ≤ 1000000) (hf : ∀ t ∈ ts, ∀ (own : Nat → Prop) (W : World), (∀ b, own b → b < W.heap.size) → Has own W Kf → Calls Try.prog f ⟨.agg ⟨itC t⟩ :: cap⟩ W (Ret W fun v _ => v = .bool (q t.1))) (a0 : Option Addr) (c0 : Nat) (own : Nat → Prop) (W : World) (hl : ∀ b, own b → b < W.heap.size) (hk : Has own W Kf) (h3 : Has own W (RdF id a0 (cellsP ts))) :
    Calls Try.prog 34 ⟨[.slice a0 n c0, .func (.func f) #[] ⟨cap⟩]⟩ W (Ret W fun v _ => v = .bool ((ims ts).any q)) := by
  have hM := ((Mm.start hl).known hk).known h3
  refine f_start Try.func34 rfl Try.ntmps34 rfl rfl ?_; intro a hF
  (repeat (first | (with_reducible refine w_seq ?_) | (with_reducible refine c_region ?_) | (with_reducible refine s_nil ?_) | (with_reducible refine q_then_n ?_) | ((with_reducible apply s_pure hF); exact rfl; exact rfl; exact rfl; (first | exact trivial | omega | exact ⟨Int.natCast_nonneg _, Int.ofNat_lt.2 (by assumption)⟩ | decide); clear hF a; intro a hF)))
  (((with_reducible apply s_call (f := 46) hF hM); exact rfl; exact rfl; exact rfl; exact rfl; exact rfl; exact (idxC_c f cap q Kf he ts n hn htl hf a0 c0 _ _ hM.lt (hM.facts Kf (by (repeat (first | exact List.mem_cons_self | refine List.mem_cons_of_mem _ ?_)))) (hM.facts (RdF id a0 (cellsP ts)) (by (repeat (first | exact List.mem_cons_self | refine List.mem_cons_of_mem _ ?_))))); clear hF hM a; rintro v w a ⟨i, rfl, hi⟩ - hM hF))
  (repeat (first | (with_reducible refine s_nil ?_) | (with_reducible refine q_then_n ?_) | ((with_reducible apply s_pure hF); exact rfl; exact rfl; exact rfl; (first | exact trivial | omega | exact ⟨Int.natCast_nonneg _, Int.ofNat_lt.2 (by assumption)⟩ | decide); clear hF a; intro a hF) | (with_reducible refine w_ret ?_)))
  (apply f_ret Try.results34 hF hM; (repeat (first | exact RL.nil | (apply RL.tmp; exact rfl) | (apply RL.cell; exact rfl; (repeat (first | exact List.mem_cons_self | refine List.mem_cons_of_mem _ ?_)); exact rfl))); refine Ret.mk hM.since ?_; dsimp only [resV])
  rw [← hi.any]
theorem mem_take {l : List Int} {k : Nat} {y x : Int} (h : l[k]? = some y) : (x ∈ l.take (k + 1)) ↔ (x ∈ l.take k ∨ x = y) := by
  rw [List.take_add_one, h]
  simp
set_option maxRecDepth 20000 in
set_option maxHeartbeats 2000000 in
theorem idxU_c (xs : List Int) (d : Int) (a0 : Option Addr) (c0 n : Nat) (hn : xs.length = n) (hb : n ≤ 1000000) (own : Nat → Prop) (W : World) (hl : ∀ b, own b → b < W.heap.size) (hv : Has own W (RdF (Value.int .u64) a0 xs)) :
    Calls Try.prog 94 ⟨[.slice a0 n c0, .int .u64 d]⟩ W (Ret W fun v _ => ∃ i : Int, v = .int .i64 i ∧ (0 ≤ i ↔ d ∈ xs)) := by
  subst hn
  have hM := (Mm.start hl).known hv
  refine f_start Try.func94 rfl Try.ntmps94 rfl rfl ?_; intro a hF
  (repeat (first | (with_reducible refine w_seq ?_) | (with_reducible refine c_region ?_) | (with_reducible refine s_nil ?_) | (with_reducible refine q_then_n ?_) | ((with_reducible apply s_pure hF); exact rfl; exact rfl; exact rfl; (first | exact trivial | omega | exact ⟨Int.natCast_nonneg _, Int.ofNat_lt.2 (by assumption)⟩ | decide); clear hF a; intro a hF) | (with_reducible refine w_block ?_)))
  refine c_loop (m := xs.length) (fun m a w' => ∃ k : Nat, m + k = xs.length ∧ d ∉ xs.take k ∧
    Fr 19 [] [(8, .int .i64 k), (7, .int .i64 xs.length), (0, .slice a0 xs.length c0), (1, .int .u64 d)] a ∧
    Mm own W [] [] [RdF (Value.int .u64) a0 xs] w') ⟨0, by omega, by simp, hF.sub (by repeat (first | exact Sub.nil | refine Sub.cons rfl (by first | with_reducible rfl | (refine congrArg (Value.int _) ?_; omega) | exact rfl) ?_)), hM⟩ ?_
  clear hF hM a
  rintro m a w' ⟨k, hm, hno, hF, hM⟩
  by_cases hk : k < xs.length
  · obtain ⟨y, hy⟩ := get_of_lt hk
    obtain ⟨ad, rfl⟩ : ∃ ad, a0 = some ad := rd_some hM (by (repeat (first | exact List.mem_cons_self | refine List.mem_cons_of_mem _ ?_))) hy
    have hmt := mem_take (x := d) hy
    by_cases hd : d = y
    · (repeat' (first | (with_reducible refine w_seq ?_) | (with_reducible refine c_region ?_) | (with_reducible refine s_nil ?_) | (with_reducible refine q_then_n ?_) | ((with_reducible apply s_pure hF); exact rfl; exact rfl; exact rfl; (first | exact trivial | omega | exact ⟨Int.natCast_nonneg _, Int.ofNat_lt.2 (by assumption)⟩ | decide); clear hF a; intro a hF) | ((with_reducible apply s_loadF hF hM); exact rfl; exact rfl; (repeat (first | exact List.mem_cons_self | refine List.mem_cons_of_mem _ ?_)); exact rfl; exact rfl; (first | with_reducible assumption | (simp only [Int.toNat_natCast]; with_reducible assumption)); clear hF a; intro a hF) | (with_reducible refine w_skip ?_) | (with_reducible refine w_block ?_) | (with_reducible refine w_ret ?_) | (with_reducible refine q_then_r ?_) | (with_reducible refine q_blk_r ?_) | ((with_reducible apply c_dec hF); exact rfl; all_goals intro hc; all_goals (try (exfalso; omega)))))
      · (apply f_ret Try.results94 hF hM; (repeat (first | exact RL.nil | (apply RL.tmp; exact rfl) | (apply RL.cell; exact rfl; (repeat (first | exact List.mem_cons_self | refine List.mem_cons_of_mem _ ?_)); exact rfl))); refine Ret.mk hM.since ?_; dsimp only [resV])
        exact ⟨_, rfl, fun _ => by rw [hd]; exact List.mem_of_getElem? hy, fun _ => by omega⟩
    · (repeat' (first | (with_reducible refine w_seq ?_) | (with_reducible refine c_region ?_) | (with_reducible refine s_nil ?_) | (with_reducible refine q_then_n ?_) | ((with_reducible apply s_pure hF); exact rfl; exact rfl; exact rfl; (first | exact trivial | omega | exact ⟨Int.natCast_nonneg _, Int.ofNat_lt.2 (by assumption)⟩ | decide); clear hF a; intro a hF) | ((with_reducible apply s_loadF hF hM); exact rfl; exact rfl; (repeat (first | exact List.mem_cons_self | refine List.mem_cons_of_mem _ ?_)); exact rfl; exact rfl; (first | with_reducible assumption | (simp only [Int.toNat_natCast]; with_reducible assumption)); clear hF a; intro a hF) | (with_reducible refine w_skip ?_) | (with_reducible refine w_block ?_) | (with_reducible refine q_blk_n ?_) | ((with_reducible apply c_dec hF); exact rfl; all_goals intro hc; all_goals (try (exfalso; omega)))))
      · exact ⟨m - 1, by omega, k + 1, by omega, fun h => (hmt.1 h).elim hno hd, hF.sub (by repeat (first | exact Sub.nil | refine Sub.cons rfl (by first | with_reducible rfl | (refine congrArg (Value.int _) ?_; omega) | exact rfl) ?_)), hM⟩
  · rw [List.take_of_length_le (by omega)] at hno
    (repeat' (first | (with_reducible refine w_seq ?_) | (with_reducible refine c_region ?_) | (with_reducible refine s_nil ?_) | (with_reducible refine q_then_n ?_) | ((with_reducible apply s_pure hF); exact rfl; exact rfl; exact rfl; (first | exact trivial | omega | exact ⟨Int.natCast_nonneg _, Int.ofNat_lt.2 (by assumption)⟩ | decide); clear hF a; intro a hF) | (with_reducible refine w_exit ?_) | (with_reducible refine w_ret ?_) | (with_reducible refine q_then_x ?_) | (with_reducible refine q_blk_x ?_) | ((with_reducible apply c_dec hF); exact rfl; all_goals intro hc; all_goals (try (exfalso; omega)))))
    (apply f_ret Try.results94 hF hM; (repeat (first | exact RL.nil | (apply RL.tmp; exact rfl) | (apply RL.cell; exact rfl; (repeat (first | exact List.mem_cons_self | refine List.mem_cons_of_mem _ ?_)); exact rfl))); refine Ret.mk hM.since ?_; dsimp only [resV])
    exact ⟨_, rfl, fun h => by omega, fun h => absurd h hno⟩
set_option maxHeartbeats 1000000 in
theorem conU_c (xs : List Int) (d : Int) (a0 : Option Addr) (c0 n : Nat) (hn : xs.length = n) (hb : n ≤ 1000000) (own : Nat → Prop) (W : World) (hl : ∀ b, own b → b < W.heap.size) (hv : Has own W (RdF (Value.int .u64) a0 xs)) :
    Calls Try.prog 77 ⟨[.slice a0 n c0, .int .u64 d]⟩ W (Ret W fun v _ => v = .bool (decide (d ∈ xs))) := by
  have hM := (Mm.start hl).known hv
  refine f_start Try.func77 rfl Try.ntmps77 rfl rfl ?_; intro a hF
  (repeat (first | (with_reducible refine w_seq ?_) | (with_reducible refine c_region ?_) | (with_reducible refine s_nil ?_) | (with_reducible refine q_then_n ?_) | ((with_reducible apply s_pure hF); exact rfl; exact rfl; exact rfl; (first | exact trivial | omega | exact ⟨Int.natCast_nonneg _, Int.ofNat_lt.2 (by assumption)⟩ | decide); clear hF a; intro a hF)))
  (((with_reducible apply s_call (f := 94) hF hM); exact rfl; exact rfl; exact rfl; exact rfl; exact rfl; exact (idxU_c xs d a0 c0 n hn hb _ _ hM.lt (hM.facts (RdF (Value.int .u64) a0 xs) (by (repeat (first | exact List.mem_cons_self | refine List.mem_cons_of_mem _ ?_))))); clear hF hM a; rintro v w a ⟨i, rfl, hi⟩ - hM hF))
  (repeat (first | (with_reducible refine s_nil ?_) | (with_reducible refine q_then_n ?_) | ((with_reducible apply s_pure hF); exact rfl; exact rfl; exact rfl; (first | exact trivial | omega | exact ⟨Int.natCast_nonneg _, Int.ofNat_lt.2 (by assumption)⟩ | decide); clear hF a; intro a hF) | (with_reducible refine w_ret ?_)))
  (apply f_ret Try.results77 hF hM; (repeat (first | exact RL.nil | (apply RL.tmp; exact rfl) | (apply RL.cell; exact rfl; (repeat (first | exact List.mem_cons_self | refine List.mem_cons_of_mem _ ?_)); exact rfl))); refine Ret.mk hM.since ?_; dsimp only [resV])
  rw [decide_eq_decide.2 hi]
set_option maxRecDepth 20000 in
set_option maxHeartbeats 1000000 in
theorem equU_c (xs ys : List Int) (a0 a1 : Option Addr) (c0 c1 n m : Nat) (hn : xs.length = n) (hm : ys.length = m) (hb : n ≤ 1000000) (own : Nat → Prop) (W : World) (hl : ∀ b, own b → b < W.heap.size) (hv : Has own W (RdF (Value.int .u64) a0 xs)) (hv2 : Has own W (RdF (Value.int .u64) a1 ys)) :
    Calls Try.prog 41 ⟨[.slice a0 n c0, .slice a1 m c1]⟩ W (Ret W fun v _ => v = .bool (decide (xs = ys))) := by
  subst hn hm
  have hM := ((Mm.start hl).known hv).known hv2
  refine f_start Try.func41 rfl Try.ntmps41 rfl rfl ?_; intro a hF
  (repeat' (first | (with_reducible refine w_seq ?_) | (with_reducible refine c_region ?_) | (with_reducible refine s_nil ?_) | (with_reducible refine q_then_n ?_) | ((with_reducible apply s_pure hF); exact rfl; exact rfl; exact rfl; (first | exact trivial | omega | exact ⟨Int.natCast_nonneg _, Int.ofNat_lt.2 (by assumption)⟩ | decide); clear hF a; intro a hF) | (with_reducible refine w_skip ?_) | (with_reducible refine w_block ?_) | (with_reducible refine w_ret ?_) | (with_reducible refine q_then_r ?_) | ((with_reducible apply c_dec hF); exact rfl; all_goals intro hc; all_goals (try (exfalso; omega)))))
  · rw [show decide (xs = ys) = false from decide_eq_false (fun e => by subst e; omega)]
    (apply f_ret Try.results41 hF hM; (repeat (first | exact RL.nil | (apply RL.tmp; exact rfl) | (apply RL.cell; exact rfl; (repeat (first | exact List.mem_cons_self | refine List.mem_cons_of_mem _ ?_)); exact rfl))); refine Ret.mk hM.since ?_; dsimp only [resV])
  have hlm : xs.length = ys.length := by omega
  refine c_loop (m := xs.length) (fun mm a w' => ∃ i : Nat, mm + i = xs.length ∧ xs.take i = ys.take i ∧ Fr 26 [] [(13, .int .i64 i), (12, .int .i64 xs.length), (0, .slice a0 xs.length c0), (1, .slice a1 ys.length c1)] a ∧ Mm own W [] [] [RdF (Value.int .u64) a1 ys, RdF (Value.int .u64) a0 xs] w') ⟨0, by omega, rfl, hF.sub (by repeat (first | exact Sub.nil | refine Sub.cons rfl (by first | with_reducible rfl | (refine congrArg (Value.int _) ?_; omega) | exact rfl) ?_)), hM⟩ ?_
  clear hF hM a
  rintro mm a w' ⟨i, hmi, hlt, hF, hM⟩
  by_cases hi : i < xs.length
  · obtain ⟨s, hs⟩ := get_of_lt hi
    obtain ⟨t, ht⟩ := get_of_lt (l := ys) (i := i) (by omega)
    obtain ⟨ad1, rfl⟩ : ∃ ad, a0 = some ad := rd_some hM (by (repeat (first | exact List.mem_cons_self | refine List.mem_cons_of_mem _ ?_))) hs
    obtain ⟨ad2, rfl⟩ : ∃ ad, a1 = some ad := rd_some hM (enc := Value.int .u64) (a := a1) (xs := ys) (by (repeat (first | exact List.mem_cons_self | refine List.mem_cons_of_mem _ ?_))) ht
    have hst : (xs.take (i + 1) = ys.take (i + 1)) ↔ s = t := by
      rw [List.take_add_one, List.take_add_one, hs, ht, hlt]
      simp
    (repeat' (first | (with_reducible refine w_seq ?_) | (with_reducible refine c_region ?_) | (with_reducible refine s_nil ?_) | (with_reducible refine q_then_n ?_) | ((with_reducible apply s_pure hF); exact rfl; exact rfl; exact rfl; (first | exact trivial | omega | exact ⟨Int.natCast_nonneg _, Int.ofNat_lt.2 (by assumption)⟩ | decide); clear hF a; intro a hF) | (with_reducible refine w_skip ?_) | (with_reducible refine w_block ?_) | ((with_reducible apply c_dec hF); exact rfl; all_goals intro hc; all_goals (try (exfalso; omega)))))
    refine c_draw (fun i => Nat.ble 9 i) hM ?_; clear hM; intro w hM
    (first | (refine t_pure (i := 0) hF rfl rfl rfl rfl (by kernel_rfl) hM.sm (fun _ _ _ h => h) ?_ ?_; (first | exact trivial | omega | decide); clear hF a; intro a hF))
    (first | (refine t_pure (i := 1) hF rfl rfl rfl rfl (by kernel_rfl) hM.sm (fun _ _ _ h => h) ?_ ?_; (first | exact trivial | omega | decide); clear hF a; intro a hF))
    (first | (refine t_pure (i := 2) hF rfl rfl rfl rfl (by kernel_rfl) hM.sm (fun _ _ _ h => h) ?_ ?_; (first | exact trivial | omega | decide); clear hF a; intro a hF))
    (first | (apply t_loadF (i := 3) hF rfl rfl rfl; (repeat (first | exact List.mem_cons_self | refine List.mem_cons_of_mem _ ?_)); (first | with_reducible assumption | (simp only [Int.toNat_natCast]; with_reducible assumption)); exact rfl; exact rfl; kernel_rfl; exact hM.sm; exact (fun _ _ _ h => h); clear hF a; intro a hF))
    (first | (refine t_pure (i := 4) hF rfl rfl rfl rfl (by kernel_rfl) hM.sm (fun _ _ _ h => h) ?_ ?_; (first | exact trivial | omega | decide); clear hF a; intro a hF))
    (first | (refine t_pure (i := 5) hF rfl rfl rfl rfl (by kernel_rfl) hM.sm (fun _ _ _ h => h) ?_ ?_; (first | exact trivial | omega | decide); clear hF a; intro a hF))
    (first | (refine t_pure (i := 6) hF rfl rfl rfl rfl (by kernel_rfl) hM.sm (fun _ _ _ h => h) ?_ ?_; (first | exact trivial | omega | decide); clear hF a; intro a hF))
    (first | (apply t_loadF (i := 7) hF rfl rfl rfl; (repeat (first | exact List.mem_cons_self | refine List.mem_cons_of_mem _ ?_)); (first | with_reducible assumption | (simp only [Int.toNat_natCast]; with_reducible assumption)); exact rfl; exact rfl; kernel_rfl; exact hM.sm; exact (fun _ _ _ h => h); clear hF a; intro a hF))
    (first | (refine t_pure (i := 8) hF rfl rfl rfl rfl (by kernel_rfl) hM.sm (fun _ _ _ h => h) ?_ ?_; (first | exact trivial | omega | decide); clear hF a; intro a hF))
    refine t_done (by kernel_rfl) ?_
    by_cases he : s = t
    · (repeat' (first | (with_reducible refine c_region ?_) | (with_reducible refine s_nil ?_) | (with_reducible refine q_then_n ?_) | ((with_reducible apply s_pure hF); exact rfl; exact rfl; exact rfl; (first | exact trivial | omega | exact ⟨Int.natCast_nonneg _, Int.ofNat_lt.2 (by assumption)⟩ | decide); clear hF a; intro a hF) | (with_reducible refine w_skip ?_) | (with_reducible refine q_blk_n ?_) | ((with_reducible apply c_dec hF); exact rfl; all_goals intro hc; all_goals (try (exfalso; omega)))))
      exact ⟨mm - 1, by omega, i + 1, by omega, hst.2 he, hF.sub (by repeat (first | exact Sub.nil | refine Sub.cons rfl (by first | with_reducible rfl | (refine congrArg (Value.int _) ?_; omega) | exact rfl) ?_)), hM⟩
    · (repeat' (first | (with_reducible refine w_seq ?_) | (with_reducible refine c_region ?_) | (with_reducible refine s_nil ?_) | (with_reducible refine q_then_n ?_) | ((with_reducible apply s_pure hF); exact rfl; exact rfl; exact rfl; (first | exact trivial | omega | exact ⟨Int.natCast_nonneg _, Int.ofNat_lt.2 (by assumption)⟩ | decide); clear hF a; intro a hF) | (with_reducible refine w_ret ?_) | (with_reducible refine q_then_r ?_) | (with_reducible refine q_blk_r ?_) | ((with_reducible apply c_dec hF); exact rfl; all_goals intro hc; all_goals (try (exfalso; omega)))))
      rw [show decide (xs = ys) = false from decide_eq_false (fun e => by subst e; rw [hs] at ht; injection ht with ht; contradiction)]
      (apply f_ret Try.results41 hF hM; (repeat (first | exact RL.nil | (apply RL.tmp; exact rfl) | (apply RL.cell; exact rfl; (repeat (first | exact List.mem_cons_self | refine List.mem_cons_of_mem _ ?_)); exact rfl))); refine Ret.mk hM.since ?_; dsimp only [resV])
  · rw [List.take_of_length_le (by omega), List.take_of_length_le (by omega)] at hlt
    rw [decide_eq_true hlt]
    (repeat' (first | (with_reducible refine w_seq ?_) | (with_reducible refine c_region ?_) | (with_reducible refine s_nil ?_) | (with_reducible refine q_then_n ?_) | ((with_reducible apply s_pure hF); exact rfl; exact rfl; exact rfl; (first | exact trivial | omega | exact ⟨Int.natCast_nonneg _, Int.ofNat_lt.2 (by assumption)⟩ | decide); clear hF a; intro a hF) | (with_reducible refine w_exit ?_) | (with_reducible refine w_ret ?_) | (with_reducible refine q_then_x ?_) | (with_reducible refine q_blk_x ?_) | ((with_reducible apply c_dec hF); exact rfl; all_goals intro hc; all_goals (try (exfalso; omega)))))
    (apply f_ret Try.results41 hF hM; (repeat (first | exact RL.nil | (apply RL.tmp; exact rfl) | (apply RL.cell; exact rfl; (repeat (first | exact List.mem_cons_self | refine List.mem_cons_of_mem _ ?_)); exact rfl))); refine Ret.mk hM.since ?_; dsimp only [resV])
end Go.Proofs.Ytonelgecjmpbgaa


/- Plain law of layer 29: what is missing, when it is supplied, lets the other side decode. -/
namespace Go.Proofs.Ytonelgecjmpbgaa
namespace D29
def tokD (t : Tok) : Int := if t.r then t.d else dg t.x
def knw (cap : Int) (k : List Int) (d : Int) : List Int := if d ∈ k then k else if cap < (k ++ [d]).length then (k ++ [d]).drop 1 else k ++ [d]
/-- The digests that are missing, behind others. -/
def misI (cap : Int) : List Tok → List Int → List Int → List Int
  | [], _, o => o
  | t :: r, k, o => if tokD t ∈ k then misI cap r k o else misI cap r (knw cap k (tokD t)) (if t.r = true ∧ tokD t ∉ o then o ++ [tokD t] else o)
/-- The data that are supplied for a digest: those of the first chunk that is right. -/
def supF (f : List Itm) (d : Int) : Option Dat := (f.find? fun i => decide (i.d = d) && (isCh i.x && decide (dg i.x = i.d))).map (·.x)
def supT (f : List Itm) (t : Tok) : Tok := if t.r = true ∧ corT t = true then match supF f t.d with
  | some x => ⟨false, 0, x⟩
  | none => t
  else t
theorem mis_ge {cap : Int} : ∀ {ts : List Tok} {k o : List Int} {d : Int}, d ∈ o → d ∈ misI cap ts k o
  | [], _, _, _, h => h
  | t :: r, k, o, d, h => by
    rw [misI]
    split
    · exact mis_ge h
    · refine mis_ge ?_
      split
      · exact List.mem_append_left _ h
      · exact h
theorem mis_ref {cap : Int} : ∀ {ts : List Tok} {k o : List Int} {d : Int}, d ∈ misI cap ts k o → d ∈ o ∨ ∃ t ∈ ts, t.r = true ∧ t.d = d
  | [], _, _, _, h => .inl h
  | t :: r, k, o, d, h => by
    rw [misI] at h
    split at h
    · rcases mis_ref h with h | ⟨s, hs, e⟩
      · exact .inl h
      · exact .inr ⟨s, List.mem_cons_of_mem _ hs, e⟩
    · rcases mis_ref h with h | ⟨s, hs, e⟩
      · split at h
        · rename_i hr
          rcases List.mem_append.1 h with h | h
          · exact .inl h
          · rw [List.mem_singleton] at h
            refine .inr ⟨t, List.mem_cons_self, hr.1, ?_⟩
            rw [h]
            unfold tokD
            rw [if_pos hr.1]
        · exact .inl h
      · exact .inr ⟨s, List.mem_cons_of_mem _ hs, e⟩
/-- No two different chunks of these have the same digest. -/
def NoC (P : Dat → Prop) : Prop := ∀ x y, P x → P y → dg x = dg y → x = y
theorem has_knw {P : Dat → Prop} (hn : NoC P) {l : List Itm} (hl : ∀ i ∈ l, i.d = dg i.x ∧ P i.x) {x : Dat} (hx : P x) : hasD l x = true ↔ dg x ∈ l.map (·.d) := by
  rw [hasD_iff, List.mem_map]
  constructor
  · rintro ⟨i, hi, rfl⟩
    exact ⟨i, hi, (hl i hi).1⟩
  · rintro ⟨i, hi, e⟩
    exact ⟨i, hi, hn _ _ (hl i hi).2 hx (by rw [← (hl i hi).1, e])⟩
theorem add_knw {P : Dat → Prop} (hn : NoC P) {cap : Int} {l : List Itm} (hl : ∀ i ∈ l, i.d = dg i.x ∧ P i.x) {x : Dat} (hx : P x) : (addI cap l x).map (·.d) = knw cap (l.map (·.d)) (dg x) ∧ ∀ i ∈ addI cap l x, i.d = dg i.x ∧ P i.x := by
  have h := has_knw hn hl hx
  unfold addI knw
  by_cases hh : hasD l x = true
  · rw [if_pos hh, if_pos (h.1 hh)]
    exact ⟨rfl, hl⟩
  · rw [if_neg hh, if_neg (fun q => hh (h.2 q))]
    have hall : ∀ i ∈ l ++ [(⟨dg x, x⟩ : Itm)], i.d = dg i.x ∧ P i.x := by
      intro i hi
      rcases List.mem_append.1 hi with hi | hi
      · exact hl i hi
      · rw [List.mem_singleton] at hi
        rw [hi]
        exact ⟨rfl, hx⟩
    have e : (l ++ [(⟨dg x, x⟩ : Itm)]).map (·.d) = l.map (·.d) ++ [dg x] := by simp
    have e2 : (l ++ [(⟨dg x, x⟩ : Itm)]).length = (l.map (·.d) ++ [dg x]).length := by simp
    rw [e2]
    split
    · rw [List.map_drop, e]
      exact ⟨rfl, fun i hi => hall i (List.mem_of_mem_drop hi)⟩
    · rw [e]
      exact ⟨rfl, hall⟩
/-- A token that stands for a chunk. -/
def Stands (t : Tok) (x : Dat) : Prop := isCh x = true ∧ ((t.r = true ∧ t.d = dg x ∧ t.x = []) ∨ (t.r = false ∧ t.d = 0 ∧ t.x = x))
theorem Stands.cor {t : Tok} {x : Dat} (h : Stands t x) : corT t = true := by
  obtain ⟨h0, ⟨h1, h2, h3⟩ | ⟨h1, h2, h3⟩⟩ := h
  · simp [corT, h1, h3]
  · simp [corT, h1, h2, h3, h0]
theorem Stands.dig {t : Tok} {x : Dat} (h : Stands t x) : tokD t = dg x := by
  obtain ⟨h0, ⟨h1, h2, h3⟩ | ⟨h1, h2, h3⟩⟩ := h
  · simp [tokD, h1, h2]
  · simp [tokD, h1, h3]
theorem tok_stands {l : List Itm} {x : Dat} (h : isCh x = true) : Stands (tokI l x) x := by
  unfold tokI
  split
  · exact ⟨h, .inl ⟨rfl, rfl, rfl⟩⟩
  · exact ⟨h, .inr ⟨rfl, rfl, rfl⟩⟩
/-- Tokens that stand for chunks. -/
inductive StL : List Tok → List Dat → Prop
  | nil : StL [] []
  | cons {t x ts xs} : Stands t x → StL ts xs → StL (t :: ts) (x :: xs)
theorem enc_stl {cap : Int} : ∀ {xs : List Dat} {l : List Itm}, (∀ x ∈ xs, isCh x = true) → StL (encI cap xs l).2 xs
  | [], _, _ => .nil
  | x :: r, l, h => .cons (tok_stands (h x List.mem_cons_self)) (enc_stl fun y hy => h y (List.mem_cons_of_mem _ hy))
theorem findI_knw {P : Dat → Prop} (hn : NoC P) {l : List Itm} (hl : ∀ i ∈ l, i.d = dg i.x ∧ P i.x) {x : Dat} (hx : P x) : findI l (dg x) = if dg x ∈ l.map (·.d) then some x else none := by
  cases h : findI l (dg x) with
  | none =>
    rw [if_neg]
    rw [List.mem_map]
    rintro ⟨i, hi, e⟩
    exact findI_none h i hi e
  | some y =>
    obtain ⟨i, hi, e1, e2⟩ := findI_some h
    rw [if_pos (List.mem_map.2 ⟨i, hi, e1⟩), ← e2, hn _ _ (hl i hi).2 hx (by rw [← (hl i hi).1, e1])]
/-- Without a supply: an error just where something is missing. -/
theorem dec_raw {P : Dat → Prop} (hn : NoC P) {cap : Int} {ts : List Tok} {xs : List Dat} (hs : StL ts xs) : ∀ {l : List Itm} {o : Dat}, (∀ x ∈ xs, P x) → (∀ i ∈ l, i.d = dg i.x ∧ P i.x) →
    (misI cap ts (l.map (·.d)) [] = [] → ∃ l', decI cap ts l o = .ok (l', o ++ xs.flatten)) ∧ (misI cap ts (l.map (·.d)) [] ≠ [] → decI cap ts l o = .error 25) := by
  induction hs with
  | nil => intro l o _ _; exact ⟨fun _ => ⟨l, by simp [decI]⟩, fun h => absurd rfl h⟩
  | @cons t x ts xs ht hr ih =>
    intro l o hp hl
    have hx := hp x List.mem_cons_self
    obtain ⟨k1, k2⟩ := add_knw hn (cap := cap) hl hx
    have hf := findI_knw hn hl hx
    have ih2 := ih (l := addI cap l x) (o := o ++ x) (fun y hy => hp y (List.mem_cons_of_mem _ hy)) k2
    rw [k1] at ih2
    rw [misI, ht.dig, decI, ht.cor]
    simp only [Bool.not_true, Bool.false_eq_true, if_false, List.flatten_cons, ← List.append_assoc]
    by_cases hk : dg x ∈ l.map (·.d)
    · have e : knw cap (l.map (·.d)) (dg x) = l.map (·.d) := by unfold knw; rw [if_pos hk]
      rw [e] at ih2
      rw [if_pos hk]
      have ev : (if t.r = true then findI l t.d else some t.x) = some x := by
        obtain ⟨_, ⟨h1, h2, h3⟩ | ⟨h1, h2, h3⟩⟩ := ht
        · rw [if_pos h1, h2, hf, if_pos hk]
        · rw [h1, h3]; simp
      rw [ev]
      exact ih2
    · rw [if_neg hk]
      obtain ⟨_, ⟨h1, h2, h3⟩ | ⟨h1, h2, h3⟩⟩ := ht
      · rw [if_pos ⟨h1, by simp⟩, if_pos h1, h2, hf, if_neg hk]
        refine ⟨fun h => ?_, fun _ => rfl⟩
        have : dg x ∈ misI cap ts (knw cap (l.map (·.d)) (dg x)) ([] ++ [dg x]) := mis_ge (by simp)
        rw [h] at this
        simp at this
      · rw [if_neg (by rw [h1]; simp), h1, h3]
        simp only [Bool.false_eq_true, if_false]
        exact ih2
/-- With a supply of all that is missing. -/
theorem dec_sup {P : Dat → Prop} (hn : NoC P) {cap : Int} {f : List Itm} (hf : ∀ i ∈ f, P i.x) {ts : List Tok} {xs : List Dat} (hs : StL ts xs) : ∀ {l : List Itm} {o : Dat} {m : List Int}, (∀ x ∈ xs, P x) → (∀ i ∈ l, i.d = dg i.x ∧ P i.x) →
    (∀ x ∈ xs, dg x ∈ misI cap ts (l.map (·.d)) m → ∃ i ∈ f, i.d = dg x ∧ isCh i.x = true ∧ dg i.x = i.d) → ∃ l', decI cap (ts.map (supT f)) l o = .ok (l', o ++ xs.flatten) := by
  induction hs with
  | nil => intro l o m _ _ _; exact ⟨l, by simp [decI]⟩
  | @cons t x ts xs ht hr ih =>
    intro l o m hp hl hsup
    have hx := hp x List.mem_cons_self
    obtain ⟨k1, k2⟩ := add_knw hn (cap := cap) hl hx
    have hfi := findI_knw hn hl hx
    rw [misI, ht.dig] at hsup
    rw [List.map_cons, decI]
    -- the token, supplied or not, gives the chunk
    have key : corT (supT f t) = true ∧ (if (supT f t).r = true then findI l (supT f t).d else some (supT f t).x) = some x := by
      have hc := ht.cor
      have ht2 := ht
      obtain ⟨h0, ⟨h1, h2, h3⟩ | ⟨h1, h2, h3⟩⟩ := ht2
      · cases hq : supF f t.d with
        | some y =>
          have e : supT f t = ⟨false, 0, y⟩ := by
            unfold supT
            rw [if_pos ⟨h1, hc⟩, hq]
          have hy : isCh y = true ∧ y = x := by
            unfold supF at hq
            cases hg : f.find? fun i => decide (i.d = t.d) && (isCh i.x && decide (dg i.x = i.d)) with
            | none => rw [hg] at hq; cases hq
            | some i =>
              rw [hg] at hq
              injection hq with hq
              have g1 := List.mem_of_find?_eq_some hg
              have g2 := List.find?_some hg
              simp only [Bool.and_eq_true, decide_eq_true_eq] at g2
              have hq' : i.x = y := hq
              rw [← hq']
              exact ⟨g2.2.1, hn _ _ (hf i g1) hx (by rw [g2.2.2, g2.1, h2])⟩
          rw [e]
          refine ⟨by simp [corT, hy.1], by simp [hy.2]⟩
        | none =>
          have e : supT f t = t := by
            unfold supT
            rw [if_pos ⟨h1, hc⟩, hq]
          rw [e]
          refine ⟨hc, ?_⟩
          rw [if_pos h1, h2, hfi, if_pos]
          apply Classical.byContradiction
          intro hk
          rw [if_neg hk] at hsup
          have hm : dg x ∈ misI cap ts (knw cap (l.map (·.d)) (dg x)) (if t.r = true ∧ dg x ∉ m then m ++ [dg x] else m) := by
            refine mis_ge ?_
            by_cases hmm : dg x ∈ m
            · rw [if_neg (fun q => q.2 hmm)]; exact hmm
            · rw [if_pos ⟨h1, hmm⟩]; simp
          obtain ⟨i, g1, g2, g3, g4⟩ := hsup x List.mem_cons_self hm
          unfold supF at hq
          rw [Option.map_eq_none_iff, List.find?_eq_none] at hq
          have := hq i g1
          simp [g2, h2, g3] at this
          omega
      · have e : supT f t = t := by
          unfold supT
          rw [if_neg (by rw [h1]; simp)]
        rw [e]
        exact ⟨hc, by rw [h1, h3]; simp⟩
    rw [key.1, key.2]
    simp only [Bool.not_true, Bool.false_eq_true, if_false, List.flatten_cons, ← List.append_assoc]
    by_cases hk : dg x ∈ l.map (·.d)
    · rw [if_pos hk] at hsup
      have e : knw cap (l.map (·.d)) (dg x) = l.map (·.d) := by unfold knw; rw [if_pos hk]
      rw [e] at k1
      exact ih (m := m) (fun y hy => hp y (List.mem_cons_of_mem _ hy)) k2 (fun y hy h => hsup y (List.mem_cons_of_mem _ hy) (by rw [k1] at h; exact h))
    · rw [if_neg hk] at hsup
      exact ih (m := if t.r = true ∧ dg x ∉ m then m ++ [dg x] else m) (fun y hy => hp y (List.mem_cons_of_mem _ hy)) k2 (fun y hy h => hsup y (List.mem_cons_of_mem _ hy) (by rw [k1] at h; exact h))
end D29
end Go.Proofs.Ytonelgecjmpbgaa


/- dedup: the digests of tokens, Missing. -/
namespace Go.Proofs.Ytonelgecjmpbgaa
open Go.RowKit Go.Shelf D29
section
variable {n : Nat} {ds : List Deferred} {l : List (Nat × Value)} {a : Act} {w w0 : World}
variable {Q : Exit → Act → World → Prop}
/-- A range over a function, of two variables, whose body never leaves it. -/
theorem c_range3 {α : Type} {g : Operand} {p p2 : Tmp} {assign body : Code} {m gf : Nat} {lb : Array Value} {va vb : α → Value} {la : α → List (Nat × Value)} {Kp : World → World → Prop} {S Sp : List α → Prop} {N : Nat} {wq : World}
    (hF : Fr n [] l a) (hg : ev l g = some (.func (.func gf) #[] lb)) (he : memB entL gf = true) (hp : Nat.blt p n = true) (hp2 : Nat.blt p2 n = true)
    (hseq : SeqStopsK Fence.wide m Try.prog gf lb (fun x => #[va x, vb x]) Kp S Sp N wq) (hm : 1 ≤ m) (hKr : ∀ W, Kp W W) (hKt : ∀ {A B C : World}, Kp A B → Kp B C → Kp A C) (hKb : ∀ (W : World) (l : Nat) (o o' : Obj), w.heap.size ≤ l → W.heap[l]? = some o → o.isCells = false → o.isWalk = false → Kp W (W.putObj l o')) (hb0 : Below wq.heap.size wq w)
    (I : List α → World → Prop) (hI : OwnFrom w.heap.size I) (h0 : I [] w)
    (hassign : ∀ (l0 k : Nat) (x : α) (a : Act) (W : World), Fr n [] ((p2, vb x) :: (p, va x) :: l) a → Wk (some (l0, k)) assign (Cut fun a' W' => W' = W ∧ Fr n [] (la x) a') a W)
    (hbody : ∀ (l0 k : Nat) (pre : List α) (x : α) (a : Act) (W : World), I pre W → Fr n [] (la x) a → pre.length < N → Wk (some (l0, k)) body (ownPostG w.heap.size Kp I (fun _ _ _ => False) (pre ++ [x]) W) a W)
    (hdone : ∀ (D : Nat) (xs : List α) (a : Act) (W : World), w.heap.size ≤ D → S xs → I xs W → W.heap[D]? = some (.deferred (some [])) → Fr n (markL D) l a → Q .normal a W) :
    Wk none (Code.rangeFunc g #[p, p2] assign body) Q a w := by
  refine (wpIn_wide (n := m + 1)).1 (wpIn_rangeFunc_ownH (F := Fence.wide) (n := m + 1) rfl (by omega) (hF.eval hg) trivial (entL_ok (memB_ok he)) (Kp := Kp) hseq (fun h k => hKt h k) hKb hb0 (fun x => rfl) I (fun _ _ _ => False) hI (fun _ _ _ _ _ h _ _ => h) h0
    (fun x a' _ => Fr n [] (la x) a') (fun _ _ _ _ _ _ h _ _ => h) ?_ ?_ ?_ ?_)
  · intro l0 pre x W K hIp hK
    have hr : Fr n [] ((p2, vb x) :: (p, va x) :: l) { tmps := (#[p, p2].zip #[va x, vb x]).foldl (fun t (p, v) => t.setIfInBounds p v) a.tmps, defers := [] } := by
      have := (hF.put hp (va x)).put hp2 (vb x)
      have e : ((a.put (some p) (va x)).put (some p2) (vb x)) = { tmps := (#[p, p2].zip #[va x, vb x]).foldl (fun t (p, v) => t.setIfInBounds p v) a.tmps, defers := [] } := by
        simp [Act.put, hF.defs]
      rw [e] at this
      exact this
    refine wpIn_mono (hassign l0 _ x _ W hr) ?_
    intro e a' W' h
    cases e <;> first | exact h.elim | skip
    obtain ⟨rfl, h2⟩ := h
    exact hK a' W' (KeepsFrom.refl _ _) (hKr _) hIp h2
  · intro l0 pre x a' W _ _ hIp hA hlt
    exact hbody l0 _ pre x a' W hIp hA hlt
  · intro D xs W hD hS hIx hK
    refine hdone D xs _ W hD hS hIx hK ⟨hF.size, ?_, hF.get⟩
    show _ :: a.defers = _
    rw [hF.defs]; rfl
  · intro D c pre W _ _ h _
    exact h.elim
end
namespace D29
/-- What a round keeps for the sequence of digests. -/
def Kd (W0 A B : World) : Prop := Below W0.heap.size A B ∧ KT W0.heap.size 28 A B
theorem Kd.refl {W0 A : World} : Kd W0 A A := ⟨Below.refl _ _, KT.refl _ _ _⟩
theorem Kd.trans {W0 A B C : World} (h : Kd W0 A B) (k : Kd W0 B C) : Kd W0 A C := ⟨h.1.trans k.1, h.2.trans k.2⟩
end D29
theorem digests_c (a0 : Option Addr) (n c0 : Nat) (B : Nat) (own : Nat → Prop) (W : World) (hl : ∀ b, own b → b < W.heap.size) (hB : B ≤ W.heap.size) :
    Calls Try.prog 76 ⟨[.slice a0 n c0]⟩ W (Ret W fun v w' => ∃ b1, B ≤ b1 ∧ v = .func (.func 93) #[] #[.pointer (some ⟨b1, 0, none⟩)] ∧ Box w' b1 ⟨[.slice a0 n c0]⟩ 28) := by
  have hM := Mm.start hl
  refine f_start Try.func76 rfl Try.ntmps76 rfl rfl ?_; intro a hF
  (repeat' (first | (with_reducible refine w_seq ?_) | (with_reducible refine c_region ?_) | (with_reducible refine s_nil ?_) | (with_reducible refine q_then_n ?_) | ((with_reducible apply s_pure hF); exact rfl; exact rfl; exact rfl; (first | exact trivial | omega | exact ⟨Int.natCast_nonneg _, Int.ofNat_lt.2 (by assumption)⟩ | decide); clear hF a; intro a hF) | ((with_reducible apply s_box hF hM); exact rfl; exact rfl; exact rfl; exact rfl; clear hF hM a; intro b w a hM hF) | (with_reducible refine w_ret ?_)))
  (apply f_ret Try.results76 hF hM; (repeat (first | exact RL.nil | (apply RL.tmp; exact rfl) | (apply RL.cell; exact rfl; (repeat (first | exact List.mem_cons_self | refine List.mem_cons_of_mem _ ?_)); exact rfl))); refine Ret.mk hM.since ?_; dsimp only [resV])
  exact ⟨_, Nat.le_trans hB (hM.mem.new _ List.mem_cons_self), rfl, hM.bx List.mem_cons_self⟩
set_option maxRecDepth 20000 in
set_option maxHeartbeats 2000000 in
theorem digs_stops (ts : List TP) (n : Nat) (hn : ts.length = n) (hlen : n ≤ 100000) (htw : DatW (tP ts)) (hx4 : ∀ t ∈ ts, t.1.x.length ≤ 100000) (al : Option Addr) (cl b1 : Nat) (W0 w : World) (hr : Has (fun _ => False) W0 (RdF id al (cellsT ts))) (hd : Has (fun _ => False) W0 (DatF (tP ts))) (hs : Since W0 w) (h1 : W0.heap.size ≤ b1) (hb1 : Box w b1 ⟨[.slice al n cl]⟩ 28) :
    SeqStopsK Fence.wide 8 Try.prog 93 #[.pointer (some ⟨b1, 0, none⟩)] (fun t : Tok => #[.int .u64 (tokD t), .bool t.r]) (Kd W0) (fun ys => ys = tms ts) (fun pre => ∃ k, pre = (tms ts).take k) n w := by
  subst hn
  intro lp J Jx W hW hJ hJx hY h0
  refine callsIn_wide.2 ?_
  show Calls Try.prog _ ⟨[.func (.yield lp) #[] #[], .pointer (some ⟨b1, 0, none⟩)]⟩ W _
  have hsW : Since W0 W := hs.trans hW
  have hM : Mm (fun _ => False) W [] [] [RdF id al (cellsT ts), DatF (tP ts), BxF b1 [.slice al ts.length cl] 28] W :=
    (((Mm.start (fun _ h => h.elim)).known (BxF.has (hb1.of_block (hW.block _ hb1.lt)))).known (hd.since hsW)).known (hr.since hsW)
  refine f_start Try.func93 rfl Try.ntmps93 rfl rfl ?_; intro a hF
  (repeat (first | (with_reducible refine w_seq ?_) | (with_reducible refine c_region ?_) | (with_reducible refine s_nil ?_) | (with_reducible refine q_then_n ?_) | ((with_reducible apply s_pure hF); exact rfl; exact rfl; exact rfl; (first | exact trivial | omega | exact ⟨Int.natCast_nonneg _, Int.ofNat_lt.2 (by assumption)⟩ | decide); clear hF a; intro a hF) | ((with_reducible apply s_loadK hF hM); exact rfl; exact rfl; (repeat (first | exact List.mem_cons_self | refine List.mem_cons_of_mem _ ?_)); exact rfl; exact rfl; clear hF a; intro a hF) | (with_reducible refine w_block ?_)))
  refine c_loop (m := ts.length) (fun m a w' => ∃ (k : Nat), m + k = ts.length ∧ J ((tms ts).take k) w' ∧ Since W0 w' ∧
    Fr 27 [] [(8, .int .i64 k), (7, .int .i64 ts.length), (6, .slice al ts.length cl), (0, .func (.yield lp) #[] #[])] a) ⟨0, by omega, h0, hsW.trans hM.since, hF.sub (by repeat (first | exact Sub.nil | refine Sub.cons rfl (by first | with_reducible rfl | (refine congrArg (Value.int _) ?_; omega) | exact rfl) ?_))⟩ ?_
  clear hF hM a
  rintro m a w' ⟨k, hm, hJp, hsp, hF⟩
  have hM : Mm (fun _ => False) w' [] [] [RdF id al (cellsT ts), DatF (tP ts)] w' :=
    ((Mm.start (fun _ h => h.elim)).known (hd.since hsp)).known (hr.since hsp)
  by_cases hk : k < ts.length
  · obtain ⟨t, ht⟩ := get_of_lt hk
    have htm := List.mem_of_getElem? ht
    have hmt := tms_get ht
    have htk : (tms ts).take (k + 1) = (tms ts).take k ++ [t.1] := by rw [List.take_add_one, hmt]; rfl
    have hYk := hY ((tms ts).take k) t.1
    have hpc : (ts.map tkC)[k]? = some [.bool t.1.r, .int .u64 t.1.d, .slice t.2.1 t.1.x.length t.2.2] := by rw [List.getElem?_map, ht]; rfl
    have hw := tkC_len ts
    obtain ⟨ad, rfl⟩ : ∃ ad, al = some ad := rd_some hM (enc := id) (a := al) (xs := cellsT ts) (by (repeat (first | exact List.mem_cons_self | refine List.mem_cons_of_mem _ ?_))) (flat_get (q := 0) hw hpc rfl)
    have htw8 := (htw ((⟨t.1.d, t.1.x⟩ : Itm), t.2) (List.mem_map.2 ⟨t, htm, rfl⟩)).1
    have htr := dat_one (hM.facts (DatF (tP ts)) (by (repeat (first | with_reducible exact List.mem_cons_self | refine List.mem_cons_of_mem _ ?_)))) (p := ((⟨t.1.d, t.1.x⟩ : Itm), t.2)) (List.mem_map.2 ⟨t, htm, rfl⟩)
    have htx := hx4 t htm
    obtain ⟨⟨r, d, x⟩, ax, cx⟩ := t
    dsimp only at htw8 htr htx hpc hYk htk
    obtain ⟨q, hxq⟩ : ∃ q, x.length = q := ⟨_, rfl⟩
    rw [hxq] at hpc
    replace hM := hM.addFact htr
    unfold cellsT at hM
    (repeat (first | (with_reducible refine w_seq ?_) | (with_reducible refine c_region ?_) | (with_reducible refine s_nil ?_) | (with_reducible refine q_then_n ?_) | ((with_reducible apply s_pure hF); exact rfl; exact rfl; exact rfl; (first | exact trivial | omega | exact ⟨Int.natCast_nonneg _, Int.ofNat_lt.2 (by assumption)⟩ | decide); clear hF a; intro a hF)))
    with_reducible apply c_dec hF
    exact rfl
    all_goals intro hc
    all_goals (try (exfalso; omega))
    (repeat (first | (with_reducible refine w_seq ?_) | (with_reducible refine c_region ?_) | (with_reducible refine s_nil ?_) | ((with_reducible apply s_loadE hF hM); exact rfl; exact rfl; (repeat (first | exact List.mem_cons_self | refine List.mem_cons_of_mem _ ?_)); exact rfl; exact rfl; (first | with_reducible assumption | (simp only [Int.toNat_natCast]; with_reducible assumption)); (with_reducible assumption); clear hF a; intro a hF) | (with_reducible refine q_then_n ?_) | ((with_reducible apply s_pure hF); exact rfl; exact rfl; exact rfl; (first | exact trivial | omega | exact ⟨Int.natCast_nonneg _, Int.ofNat_lt.2 (by assumption)⟩ | decide); clear hF a; intro a hF) | ((with_reducible apply s_load hF hM); exact rfl; exact rfl; (repeat (first | exact List.mem_cons_self | refine List.mem_cons_of_mem _ ?_)); exact rfl; exact rfl; clear hF a; intro a hF) | ((with_reducible apply s_store hF hM); exact rfl; exact rfl; exact rfl; exact rfl; (repeat (first | exact Upd.z | apply Upd.s)); exact rfl; exact rfl; exact rfl; clear hM; intro w hM) | ((with_reducible apply s_alloc hF hM); exact rfl; exact rfl; exact rfl; clear hF hM a; intro b w a hM hF) | (with_reducible refine w_skip ?_) | (with_reducible refine w_block ?_)))
    refine c_cut (fun a' w2 => Fr 27 [] [(5, .int .u64 (tokD ⟨r, d, x⟩)), (4, .pointer (some ⟨b, 0, none⟩)), (8, .int .i64 k), (7, .int .i64 ts.length), (6, .slice (some ad) ts.length cl), (0, .func (.yield lp) #[] #[])] a' ∧
      Mm (fun _ => False) w' [⟨b, ⟨[.bool r, .int .u64 d, .slice ax q cx]⟩, 68⟩] [] [] w2) ?_ ?_
    · cases r with
      | true =>
        (repeat' (first | (with_reducible refine w_skip ?_) | ((with_reducible apply c_false2 hF); exact rfl; (first | with_reducible rfl | (refine congrArg Value.bool ?_; focus (simp; done))))))
        exact q_cut ⟨hF.sub (by repeat (first | exact Sub.nil | refine Sub.cons rfl (by first | with_reducible rfl | (refine congrArg (Value.int _) ?_; omega) | exact rfl) ?_)), hM.sub (.refl _) (.refl _) (by simp)⟩
      | false =>
        (repeat' (first | (with_reducible refine c_region ?_) | (with_reducible refine s_nil ?_) | ((with_reducible apply s_call (f := 57) hF hM); exact rfl; exact rfl; exact rfl; exact rfl; exact rfl; exact (sectors_c x htw8 (by omega) ax cx q hxq _ _ hM.lt (hM.facts (RdF (Value.int .u8) ax x.flatten) (by (repeat (first | exact List.mem_cons_self | refine List.mem_cons_of_mem _ ?_))))); clear hF hM a; rintro v w a rfl - hM hF) | ((with_reducible apply s_pure hF); exact rfl; exact rfl; exact rfl; (first | exact trivial | omega | exact ⟨Int.natCast_nonneg _, Int.ofNat_lt.2 (by assumption)⟩ | decide); clear hF a; intro a hF) | ((with_reducible apply s_load hF hM); exact rfl; exact rfl; (repeat (first | exact List.mem_cons_self | refine List.mem_cons_of_mem _ ?_)); exact rfl; exact rfl; clear hF a; intro a hF) | ((with_reducible apply c_true2 hF); exact rfl; (first | with_reducible rfl | (refine congrArg Value.bool ?_; focus (simp; done))))))
        exact q_cut ⟨hF.sub (by repeat (first | exact Sub.nil | refine Sub.cons rfl (by first | with_reducible rfl | (refine congrArg (Value.int _) ?_; omega) | exact rfl) ?_)), hM.sub (.refl _) (.refl _) (by simp)⟩
    clear hF hM a
    rintro a w2 ⟨hF, hM⟩
    have hs2 : Since W0 w2 := hsp.trans hM.since
    have hJ2 : J ((tms ts).take k) w2 := hJ _ w' w2 none hJp hM.since.grows (fun r e => by cases e)
    with_reducible refine w_seq ?_
    apply c_yield (n := 27) (ds := []) 4 7
    · exact rfl
    · exact rfl
    show wl _ _ [_, _, _, _] _ _
    (repeat (first | (with_reducible refine s_nil ?_) | (with_reducible refine q_then_n ?_) | ((with_reducible apply s_pure hF); exact rfl; exact rfl; exact rfl; (first | exact trivial | omega | exact ⟨Int.natCast_nonneg _, Int.ofNat_lt.2 (by assumption)⟩ | decide); clear hF a; intro a hF) | ((with_reducible apply s_load hF hM); exact rfl; exact rfl; (repeat (first | exact List.mem_cons_self | refine List.mem_cons_of_mem _ ?_)); exact rfl; exact rfl; clear hF a; intro a hF)))
    refine ⟨_, [.int .u64 (tokD ⟨r, d, x⟩), .bool r], lp, _, hF, rfl, rfl, hYk _ hJ2 (by rw [List.length_take, tms_len]; omega), ?_⟩
    rintro e w3 (⟨rfl, hJ3, k1, k2⟩ | ⟨rfl, hJx3⟩)
    · refine ⟨_, rfl, fun a hF => ?_⟩
      have hs3 : Since W0 w3 := since_below hs2 k1
      clear hM
      have hM : Mm (fun _ => False) w3 [] [] [] w3 := Mm.start (fun _ h => h.elim)
      (repeat' (first | (with_reducible refine c_region ?_) | (with_reducible refine s_nil ?_) | (with_reducible refine q_then_n ?_) | ((with_reducible apply s_pure hF); exact rfl; exact rfl; exact rfl; (first | exact trivial | omega | exact ⟨Int.natCast_nonneg _, Int.ofNat_lt.2 (by assumption)⟩ | decide); clear hF a; intro a hF) | (with_reducible refine w_skip ?_) | (with_reducible refine q_blk_n ?_) | ((with_reducible apply c_false2 hF); exact rfl; (first | with_reducible rfl | (refine congrArg Value.bool ?_; focus (simp; done))))))
      exact ⟨m - 1, by omega, k + 1, by omega, by rw [htk]; exact hJ3, hs3, hF.sub (by repeat (first | exact Sub.nil | refine Sub.cons rfl (by first | with_reducible rfl | (refine congrArg (Value.int _) ?_; omega) | exact rfl) ?_))⟩
    · refine ⟨_, rfl, fun a hF => ?_⟩
      clear hM
      have hM : Mm (fun _ => False) w3 [] [] [] w3 := Mm.start (fun _ h => h.elim)
      (repeat' (first | (with_reducible refine s_nil ?_) | (with_reducible refine q_then_n ?_) | ((with_reducible apply s_pure hF); exact rfl; exact rfl; exact rfl; (first | exact trivial | omega | exact ⟨Int.natCast_nonneg _, Int.ofNat_lt.2 (by assumption)⟩ | decide); clear hF a; intro a hF) | (with_reducible refine w_ret ?_) | (with_reducible refine q_then_r ?_) | (with_reducible refine q_blk_r ?_) | ((with_reducible apply c_true2 hF); exact rfl; (first | with_reducible rfl | (refine congrArg Value.bool ?_; focus (simp; done))))))
      (apply f_ret Try.results93 hF hM; (repeat (first | exact RL.nil | (apply RL.tmp; exact rfl) | (apply RL.cell; exact rfl; (repeat (first | exact List.mem_cons_self | refine List.mem_cons_of_mem _ ?_)); exact rfl))); try dsimp only [resV])
      exact ⟨⟨_, rfl⟩, .inr ⟨_, ⟨k + 1, htk.symm⟩, hJx3⟩⟩
  · obtain rfl : k = ts.length := by omega
    rw [List.take_of_length_le (by rw [tms_len]; exact Nat.le_refl _)] at hJp
    (repeat' (first | (with_reducible refine w_seq ?_) | (with_reducible refine c_region ?_) | (with_reducible refine s_nil ?_) | (with_reducible refine q_then_n ?_) | ((with_reducible apply s_pure hF); exact rfl; exact rfl; exact rfl; (first | exact trivial | omega | exact ⟨Int.natCast_nonneg _, Int.ofNat_lt.2 (by assumption)⟩ | decide); clear hF a; intro a hF) | (with_reducible refine w_exit ?_) | (with_reducible refine q_then_x ?_) | (with_reducible refine q_blk_x ?_) | ((with_reducible apply c_false2 hF); exact rfl; (first | with_reducible rfl | (refine congrArg Value.bool ?_; focus (simp; done))))))
    (apply f_end Try.results93 hF hM; (repeat (first | exact RL.nil | (apply RL.tmp; exact rfl) | (apply RL.cell; exact rfl; (repeat (first | exact List.mem_cons_self | refine List.mem_cons_of_mem _ ?_)); exact rfl))); try dsimp only [resV])
    exact ⟨⟨_, rfl⟩, .inl ⟨_, rfl, hJp⟩⟩
end Go.Proofs.Ytonelgecjmpbgaa

