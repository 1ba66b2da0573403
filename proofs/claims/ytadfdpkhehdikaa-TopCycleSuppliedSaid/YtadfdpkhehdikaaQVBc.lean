/- Texts of this seat, one behind the other: Je Jf Jg Jh Ji Jj Jk Aru Art W0 W1 W2. -/
import Derived.ChangeSame
import Derived.SizedLaws
import Derived.Test.YtadfdpkhehdikaaQVBb
set_option linter.unusedSimpArgs false
set_option linter.unusedVariables false
set_option linter.unusedSectionVars false
set_option maxRecDepth 3000
/- dedup: a chunk is added to a store that is changed. -/
namespace Go.Proofs.Ytadfdpkhehdikaa
open Go.RowKit Go.Shelf D29
namespace D29
theorem tabR_of {own : Nat → Prop} {w w0 : World} {bs : List BoxE} {L1 : List Ent} {Fs : List (World → Prop)} {eI : Ent} {E : List TE} (hM : Mm own w0 bs (eI :: (L1 ++ rowsT E)) Fs w) (hE : TEOk E) : TabR own w E := by
  intro e he
  obtain ⟨j, hj⟩ := List.getElem?_of_mem he
  have hg := rows_get eI L1 hj
  obtain ⟨a, c, q1, q2, -⟩ := OffR.shape hM hg (hE e he)
  have h := hE e he
  rw [q1] at h
  exact ⟨a, c, q1, q2, OffR.fact (enc := id) hM hg (by rw [List.map_id]; exact h)⟩
theorem Nb.dat {b : Nat} {l : List P} : Nb b (DatF l) := fun w o o' h1 h2 h3 p hp => Nb.rd w o o' h1 h2 (h3 p hp)
/-- Items in memory with their table. -/
structure StI (its : List P) (iv : Value) (eI : Ent) (E : List TE) : Prop where
  row : OffR 102 2 iv its.length (cellsP its) eI
  tE : TEOk E
  tab : Tab E its
  dw : DatW its
  dg : ∀ p ∈ its, p.1.d = dg p.1.x
theorem rowsT_same {E : List TE} {j : Nat} {e t : TE} (h : E[j]? = some e) (ht : t.en = e.en) : rowsT (E.set j t) = rowsT E := by
  rw [rowsT_set, ht]
  apply List.ext_getElem?
  intro i
  rw [List.getElem?_set]
  by_cases hi : j = i
  · subst hi
    rw [if_pos rfl, rowsT_get, h]
    have := (List.getElem?_eq_some_iff.1 h).1
    rw [if_pos (by simpa [rowsT] using this)]
    rfl
  · rw [if_neg hi]
theorem ims_len (l : List P) : (ims l).length = l.length := by simp [ims]
end D29
section
variable (sb mb : Nat) (cap : Int) (its : List P) (iv : Value) (eI : Ent) (E : List TE) {own : Nat → Prop} {w0 W : World} {bs : List BoxE} {L1 : List Ent} {Fs : List (World → Prop)}
  (hcap : 1 ≤ cap ∧ cap ≤ 4096) (hlen : (its.length : Int) ≤ cap) (hS : StI its iv eI E) (hb0 : w0.heap.size ≤ mb) (hcf : ∀ f ∈ Fs, Nb mb f)
  (x : Dat) (hx8 : W8 x) (hxb : ∀ s ∈ x, ∀ b ∈ s, 0 ≤ b ∧ b < 256) (hxl : x.length ≤ 4096) (ax : Option Addr) (cx n : Nat) (hn : x.length = n)
  (hM : Mm own w0 (stB sb mb cap iv :: bs) (eI :: (L1 ++ rowsT E)) (MpE (Value.int .u64) mb (esE E) :: RdF (Value.int .u8) ax x.flatten :: DatF its :: Fs) W)
include hcap hlen hS hb0 hcf hx8 hxb hxl hn hM
set_option maxRecDepth 20000 in
set_option maxHeartbeats 4000000 in
theorem add_c : Calls Try.prog 37 ⟨[.pointer (some ⟨sb, 0, none⟩), .slice ax n cx]⟩ W (Rtn fun _ w' => ∃ (its' : List P) (E' : List TE) (iv' : Value) (eI' : Ent), ims its' = addI cap (ims its) x ∧ StI its' iv' eI' E' ∧
    Mm own w0 (stB sb mb cap iv' :: bs) (eI' :: (L1 ++ rowsT E')) (MpE (Value.int .u64) mb (esE E') :: RdF (Value.int .u8) ax x.flatten :: DatF its' :: Fs) w') := by
  have hlen2 : its.length ≤ 4096 := by omega
  obtain ⟨hI, hE, hTab, hDW, hdg⟩ := hS
  subst hn
  have hcf2 : ∀ f ∈ RdF (Value.int .u8) ax x.flatten :: DatF its :: Fs, Nb mb f := by
    intro f hf
    rcases List.mem_cons.1 hf with rfl | hf
    · exact Nb.rd
    · rcases List.mem_cons.1 hf with rfl | hf
      · exact Nb.dat
      · exact hcf f hf
  refine f_start Try.func37 rfl Try.ntmps37 rfl rfl ?_; intro a hF
  (repeat (first | (with_reducible refine w_seq ?_) | (with_reducible refine c_region ?_) | ((with_reducible apply s_call (f := 33) hF hM); exact rfl; exact rfl; exact rfl; exact rfl; exact rfl; exact (sectors_c x hx8 (by omega) ax cx _ rfl _ _ hM.lt (hM.facts (RdF (Value.int .u8) ax x.flatten) (by (repeat (first | with_reducible exact List.mem_cons_self | refine List.mem_cons_of_mem _ ?_))))); clear hF hM a; rintro v w a rfl - hM hF) | ((with_reducible apply s_pure hF); exact rfl; exact rfl; exact rfl; (first | exact trivial | omega | exact ⟨Int.natCast_nonneg _, Int.ofNat_lt.2 (by assumption)⟩ | decide); clear hF a; intro a hF)))
  (((with_reducible apply s_callO (f := 36) hF); exact rfl; exact rfl; exact rfl; exact rfl; exact rfl; exact (sclone_c x hx8 ax cx _ rfl (by omega) _ _ hM.lt (hM.facts (RdF (Value.int .u8) ax x.flatten) (by (repeat (first | with_reducible exact List.mem_cons_self | refine List.mem_cons_of_mem _ ?_))))); clear hF a; rintro v wn a ⟨a2, c2, rfl, hO⟩ hS hF; replace hM := hM.addRows hS hO; clear hS hO; dsimp only [List.cons_append, List.nil_append] at hM))
  have hcap2 : x.length ≤ c2 := by
    obtain ⟨ao', c', e, hc, -⟩ := OffR.shape hM (k := 0) rfl (OffR.plain hM List.mem_cons_self)
    injection e with e1 e2 e3
    omega
  replace hM := hM.freezeN
  have hD := ((hM.facts (DatF its) (by (repeat (first | with_reducible exact List.mem_cons_self | refine List.mem_cons_of_mem _ ?_)))).and (hM.facts (RdF (Value.int .u8) a2 x.flatten) (by (repeat (first | with_reducible exact List.mem_cons_self | refine List.mem_cons_of_mem _ ?_))))).imp (g := DatF (its ++ [(⟨⟨dg x, x⟩, a2, c2⟩ : P)])) fun w h q hq => by
    rcases List.mem_append.1 hq with hq | hq
    · exact h.1 q hq
    · rw [List.mem_singleton] at hq
      rw [hq]
      exact h.2
  replace hM : Mm own w0 (stB sb mb cap iv :: bs) (eI :: (L1 ++ rowsT E)) (MpE (Value.int .u64) mb (esE E) :: RdF (Value.int .u8) ax x.flatten :: DatF (its ++ [(⟨⟨dg x, x⟩, a2, c2⟩ : P)]) :: Fs) _ :=
    (hM.addFact hD).sub (.refl _) (.refl _) (fun f hf => by simp only [List.mem_cons] at hf ⊢; rcases hf with h | h | h | h <;> simp [h])
  clear hD
  have hcf3 : ∀ f ∈ RdF (Value.int .u8) ax x.flatten :: DatF (its ++ [(⟨⟨dg x, x⟩, a2, c2⟩ : P)]) :: Fs, Nb mb f := by
    intro f hf
    rcases List.mem_cons.1 hf with rfl | hf
    · exact Nb.rd
    · rcases List.mem_cons.1 hf with rfl | hf
      · exact Nb.dat
      · exact hcf f hf
  have hlk := look_sub hTab (dg x)
  have hlk2 : (lookE (dg x) E).length ≤ 100000 := by
    rw [hTab]
    exact Nat.le_trans (List.length_filter_le _ _) (by omega)
  have hhas := tab_has hTab hdg x
  (repeat (first | (with_reducible refine w_seq ?_) | (with_reducible refine s_nil ?_) | (with_reducible refine q_then_n ?_) | ((with_reducible apply s_pure hF); exact rfl; exact rfl; exact rfl; (first | exact trivial | omega | exact ⟨Int.natCast_nonneg _, Int.ofNat_lt.2 (by assumption)⟩ | decide); clear hF a; intro a hF) | ((with_reducible apply s_store hF hM); exact rfl; exact rfl; exact rfl; exact rfl; (repeat (first | exact Upd.z | apply Upd.s)); exact rfl; exact rfl; exact rfl; clear hM; intro w hM) | ((with_reducible apply s_alloc hF hM); exact rfl; exact rfl; exact rfl; clear hF hM a; intro b w a hM hF)))
  generalize b = b4 at *
  refine c_draw (fun i => Nat.ble 6 i) hM ?_; clear hM; intro w hM
  (first | (refine t_pure (i := 0) hF rfl rfl rfl rfl (by kernel_rfl) hM.sm (fun _ _ _ h => h) ?_ ?_; (first | exact trivial | omega | decide); clear hF a; intro a hF))
  (first | (refine t_pure (i := 1) hF rfl rfl rfl rfl (by kernel_rfl) hM.sm (fun _ _ _ h => h) ?_ ?_; (first | exact trivial | omega | decide); clear hF a; intro a hF))
  (first | (refine t_pure (i := 2) hF rfl rfl rfl rfl (by kernel_rfl) hM.sm (fun _ _ _ h => h) ?_ ?_; (first | exact trivial | omega | decide); clear hF a; intro a hF))
  (first | (apply t_load (i := 3) hF rfl rfl rfl; (repeat (first | exact List.mem_cons_self | refine List.mem_cons_of_mem _ ?_)); exact rfl; exact rfl; kernel_rfl; exact hM.sm; exact (fun _ _ _ h => h); clear hF a; intro a hF))
  (first | (apply t_load (i := 4) hF rfl rfl rfl; (repeat (first | exact List.mem_cons_self | refine List.mem_cons_of_mem _ ?_)); exact rfl; exact rfl; kernel_rfl; exact hM.sm; exact (fun _ _ _ h => h); clear hF a; intro a hF))
  refine t_one (i := 5) hF rfl (by kernel_rfl) rfl ?_
  intro K hK
  (apply x_call hF hM; exact rfl; exact rfl; exact rfl; exact rfl; exact (has_c (⟨⟨dg x, x⟩, a2, c2⟩ : P) E mb hx8 (by show x.length ≤ _; omega) (hDW.sub hlk) hlk2 own _ (fun b h => hM.lt b (.inl h)) (hM.factOut (by (repeat (first | with_reducible exact List.mem_cons_self | refine List.mem_cons_of_mem _ ?_)))) (tabR_of hM hE) (dat_one (hM.factOut (f := DatF (its ++ [(⟨⟨dg x, x⟩, a2, c2⟩ : P)])) (by (repeat (first | with_reducible exact List.mem_cons_self | refine List.mem_cons_of_mem _ ?_)))) (p := (⟨⟨dg x, x⟩, a2, c2⟩ : P)) (by simp)) (dat_sub (hM.factOut (f := DatF (its ++ [(⟨⟨dg x, x⟩, a2, c2⟩ : P)])) (by (repeat (first | with_reducible exact List.mem_cons_self | refine List.mem_cons_of_mem _ ?_)))) (fun q hq => List.mem_append_left _ (hlk q hq)))); clear hF hM a; rintro v w a rfl - hM hF)
  rw [show ((lookE ((⟨⟨dg x, x⟩, a2, c2⟩ : P)).1.d E).any fun p => decide (p.1.x = ((⟨⟨dg x, x⟩, a2, c2⟩ : P)).1.x)) = hasD (ims its) x from hhas.symm] at hF
  refine hK _ _ (fun _ => (hM.sm.sub (fun x hx => by repeat (first | exact hx | refine List.mem_cons_of_mem _ ?_)) (fun _ h => by repeat (first | exact h | refine List.mem_cons_of_mem _ ?_)))) ?_; clear hK
  refine t_done (by kernel_rfl) ?_
  by_cases hh : hasD (ims its) x = true
  · rw [hh] at hF
    (repeat' (first | (with_reducible refine q_then_n ?_) | (with_reducible refine w_ret ?_) | (with_reducible refine q_then_r ?_) | ((with_reducible apply c_true2 hF); exact rfl; (first | with_reducible rfl | (refine congrArg Value.bool ?_; focus (simp; done))))))
    (apply f_ret Try.results37 hF hM; (repeat (first | exact RL.nil | (apply RL.tmp; exact rfl) | (apply RL.cell; exact rfl; (repeat (first | exact List.mem_cons_self | refine List.mem_cons_of_mem _ ?_)); exact rfl))); refine Both.mk ?_; try dsimp only [resV])
    refine ⟨its, E, iv, eI, ?_, ⟨hI, hE, hTab, hDW, hdg⟩, ?_⟩
    · unfold addI; rw [if_pos hh]
    · exact (hM.addFact ((hM.facts (DatF (its ++ [(⟨⟨dg x, x⟩, a2, c2⟩ : P)])) (by (repeat (first | with_reducible exact List.mem_cons_self | refine List.mem_cons_of_mem _ ?_)))).imp (g := DatF its) fun w h q hq => h q (List.mem_append_left _ hq))).sub (.cons _ (.refl _)) (.refl _) (fun f hf => by simp only [List.mem_cons] at hf ⊢; rcases hf with h | h | h | h <;> simp [h])
  · rw [Bool.not_eq_true] at hh
    rw [hh] at hF
    have hims : ims (its ++ [(⟨⟨dg x, x⟩, a2, c2⟩ : P)]) = ims its ++ [(⟨dg x, x⟩ : Itm)] := by simp [ims]
    have hDW2 : DatW (its ++ [(⟨⟨dg x, x⟩, a2, c2⟩ : P)]) := by
      intro q hq
      rcases List.mem_append.1 hq with hq | hq
      · exact hDW q hq
      · rw [List.mem_singleton] at hq
        rw [hq]
        exact ⟨hx8, hcap2, hxb⟩
    have hdg2 : ∀ p ∈ its ++ [(⟨⟨dg x, x⟩, a2, c2⟩ : P)], p.1.d = dg p.1.x := by
      intro q hq
      rcases List.mem_append.1 hq with hq | hq
      · exact hdg q hq
      · rw [List.mem_singleton] at hq
        rw [hq]
    (repeat' (first | (with_reducible refine w_seq ?_) | (with_reducible refine c_region ?_) | (with_reducible refine q_then_n ?_) | ((with_reducible apply s_pure hF); exact rfl; exact rfl; exact rfl; (first | exact trivial | omega | exact ⟨Int.natCast_nonneg _, Int.ofNat_lt.2 (by assumption)⟩ | decide); clear hF a; intro a hF) | ((with_reducible apply s_load hF hM); exact rfl; exact rfl; (repeat (first | exact List.mem_cons_self | refine List.mem_cons_of_mem _ ?_)); exact rfl; exact rfl; clear hF a; intro a hF) | (with_reducible refine w_skip ?_) | ((with_reducible apply c_false2 hF); exact rfl; (first | with_reducible rfl | (refine congrArg Value.bool ?_; focus (simp; done))))))
    replace hM := hM.perm (List.Perm.swap _ _ _)
    (((with_reducible apply s_callM (f := 75) hF); exact rfl; exact rfl; exact rfl; exact rfl; exact rfl; exact (put_c sb mb cap its iv eI E (⟨⟨dg x, x⟩, a2, c2⟩ : P) (by omega) hI hE hTab hb0 hcf3 hM); clear hF hM a; rintro v w a ⟨E2, iv2, eI2, hE2, hT2, hI2, hM⟩ hF))
    obtain ⟨aI, cI, rfl, hcI, hsI⟩ := OffR.shape hM (k := 0) rfl hI2
    obtain ⟨adI, rfl⟩ := hsI (by omega)
    clear hsI
    (repeat (first | (with_reducible refine w_seq ?_) | (with_reducible refine s_nil ?_) | (with_reducible refine q_then_n ?_)))
    refine c_draw (fun i => Nat.ble 10 i) hM ?_; clear hM; intro w hM
    (first | (refine t_pure (i := 0) hF rfl rfl rfl rfl (by kernel_rfl) hM.sm (fun _ _ _ h => h) ?_ ?_; (first | exact trivial | omega | decide); clear hF a; intro a hF))
    (first | (refine t_pure (i := 1) hF rfl rfl rfl rfl (by kernel_rfl) hM.sm (fun _ _ _ h => h) ?_ ?_; (first | exact trivial | omega | decide); clear hF a; intro a hF))
    (first | (refine t_pure (i := 2) hF rfl rfl rfl rfl (by kernel_rfl) hM.sm (fun _ _ _ h => h) ?_ ?_; (first | exact trivial | omega | decide); clear hF a; intro a hF))
    (first | (apply t_load (i := 3) hF rfl rfl rfl; (repeat (first | exact List.mem_cons_self | refine List.mem_cons_of_mem _ ?_)); exact rfl; exact rfl; kernel_rfl; exact hM.sm; exact (fun _ _ _ h => h); clear hF a; intro a hF))
    (first | (refine t_pure (i := 4) hF rfl rfl rfl rfl (by kernel_rfl) hM.sm (fun _ _ _ h => h) ?_ ?_; (first | exact trivial | omega | decide); clear hF a; intro a hF))
    (first | (refine t_pure (i := 5) hF rfl rfl rfl rfl (by kernel_rfl) hM.sm (fun _ _ _ h => h) ?_ ?_; (first | exact trivial | omega | decide); clear hF a; intro a hF))
    (first | (refine t_pure (i := 6) hF rfl rfl rfl rfl (by kernel_rfl) hM.sm (fun _ _ _ h => h) ?_ ?_; (first | exact trivial | omega | decide); clear hF a; intro a hF))
    (first | (refine t_pure (i := 7) hF rfl rfl rfl rfl (by kernel_rfl) hM.sm (fun _ _ _ h => h) ?_ ?_; (first | exact trivial | omega | decide); clear hF a; intro a hF))
    (first | (apply t_load (i := 8) hF rfl rfl rfl; (repeat (first | exact List.mem_cons_self | refine List.mem_cons_of_mem _ ?_)); exact rfl; exact rfl; kernel_rfl; exact hM.sm; exact (fun _ _ _ h => h); clear hF a; intro a hF))
    (first | (refine t_pure (i := 9) hF rfl rfl rfl rfl (by kernel_rfl) hM.sm (fun _ _ _ h => h) ?_ ?_; (first | exact trivial | omega | decide); clear hF a; intro a hF))
    refine t_done (by kernel_rfl) ?_
    by_cases hgt : cap < (its.length : Int) + 1
    · obtain ⟨o, r, hor⟩ : ∃ o r, its ++ [(⟨⟨dg x, x⟩, a2, c2⟩ : P)] = o :: r := by
        cases its with
        | nil => exact ⟨_, _, rfl⟩
        | cons y t => exact ⟨_, _, rfl⟩
      have hrl : r.length = its.length := by
        have := congrArg List.length hor.symm
        simp at this
        omega
      rw [hor] at hI2 hT2 hDW2 hdg2 hims hM
      have hI2m : OffR 102 2 (.slice (some adI) (its.length + 1) cI) (its.length + 1) ((cellsP (o :: r)).map id) eI2 := by rw [List.map_id]; exact hI2
      obtain ⟨E3, j, e, hM1, hE3, hka, hj, hek, hep, hls⟩ := te_add (L1 := eI2 :: L1) hM hE2 o.1.d
      replace hM : Mm own w0 _ (eI2 :: (L1 ++ rowsT E3)) _ _ := hM1
      have hek2 : (kadd o.1.d (.slice none 0 0) (esE E2)).2.2 = e.sv := by rw [hka]
      have hRe := hE3 e (List.mem_of_getElem? hj)
      have hgl := rows_get eI2 L1 hj
      obtain ⟨r2, hr2⟩ := tab_first hT2
      rw [hr2] at hep
      obtain ⟨ae, ce, hae, hce, hsE⟩ := OffR.shape hM hgl hRe
      obtain ⟨ade, rfl⟩ := hsE (by rw [hep]; simp)
      rw [hae] at hek2 hRe
      obtain ⟨q, hq⟩ : ∃ q, e.ps.length = q + 1 := ⟨r2.length, by rw [hep]; rfl⟩
      rw [hq] at hek2 hRe hae hce
      have hdI := OffR.drop hM (k := 0) rfl hI2 1 (by omega)
      have hdE := OffR.drop hM hgl hRe 1 (by omega)
      have hcf4 : ∀ f ∈ RdF (Value.int .u8) ax x.flatten :: DatF (o :: r) :: Fs, Nb mb f := by rw [← hor]; exact hcf3
      have hie : (esE E3)[j]? = some (o.1.d, e.sv) := by rw [esE_get, hj, ← hek]; rfl
      (repeat' (first | (with_reducible refine w_seq ?_) | (with_reducible refine c_region ?_) | ((with_reducible apply s_fieldA hF); exact rfl; exact rfl; exact rfl; exact rfl; clear hF a; intro a hF) | (with_reducible refine q_then_n ?_) | ((with_reducible apply s_pure hF); exact rfl; exact rfl; exact rfl; (first | exact trivial | omega | exact ⟨Int.natCast_nonneg _, Int.ofNat_lt.2 (by assumption)⟩ | decide); clear hF a; intro a hF) | ((with_reducible apply s_load hF hM); exact rfl; exact rfl; (repeat (first | exact List.mem_cons_self | refine List.mem_cons_of_mem _ ?_)); exact rfl; exact rfl; clear hF a; intro a hF) | ((with_reducible apply c_dec hF); exact rfl; all_goals intro hc; all_goals (try (exfalso; omega)))))
      refine s_op hF rfl fun K hK => upon_value (v := .int .u64 o.1.d) (e_loadP (enc := id) (xs := cellsP (o :: r)) hF rfl ((OffR.fact (enc := id) hM (k := 0) rfl hI2m).get) (x := .int .u64 o.1.d) rfl rfl) (hK _ _ ?_)
      replace hF := hF.put (d := 36) rfl (.int .u64 o.1.d)
      generalize a.put (some 36) _ = a at *
      clear hK
      (repeat (first | (with_reducible refine s_nil ?_) | (with_reducible refine q_then_n ?_) | ((with_reducible apply s_pure hF); exact rfl; exact rfl; exact rfl; (first | exact trivial | omega | exact ⟨Int.natCast_nonneg _, Int.ofNat_lt.2 (by assumption)⟩ | decide); clear hF a; intro a hF)))
      have hv1 : Value.slice (sadr (some adI) (Int.toNat 1) cI 2) (((its.length + 1 : Nat) : Int).toNat - Int.toNat 1) (cI - Int.toNat 1) = .slice (sadr (some adI) 1 cI 2) its.length (cI - 1) := by
        rw [Int.toNat_natCast]
        rfl
      have hv2 : Value.slice (sadr (some ade) (Int.toNat 1) ce 2) (((q + 1 : Nat) : Int).toNat - Int.toNat 1) (ce - Int.toNat 1) = .slice (sadr (some ade) 1 ce 2) q (ce - 1) := by
        rw [Int.toNat_natCast]
        rfl
      have fin : ∀ (a : Act) (w : World), Fr 59 [] [] a → Mm own w0 (stB sb mb cap (.slice (sadr (some adI) 1 cI 2) its.length (cI - 1)) :: ⟨b4, ⟨[.int .u64 (dg x), .slice a2 x.length c2]⟩, 102⟩ :: bs) (eI2 :: (L1 ++ rowsT E3)) (MpE (Value.int .u64) mb ((esE E3).set j (o.1.d, .slice (sadr (some ade) 1 ce 2) q (ce - 1))) :: RdF (Value.int .u8) ax x.flatten :: DatF (o :: r) :: Fs) w → bodyPost Try.prog Try.f37 (Rtn fun _ w' => ∃ (its' : List P) (E' : List TE) (iv' : Value) (eI' : Ent), ims its' = addI cap (ims its) x ∧ StI its' iv' eI' E' ∧ Mm own w0 (stB sb mb cap iv' :: bs) (eI' :: (L1 ++ rowsT E')) (MpE (Value.int .u64) mb (esE E') :: RdF (Value.int .u8) ax x.flatten :: DatF its' :: Fs) w') Exit.normal a w := by
        clear hF hM a
        intro a w hF hM
        (apply f_ret Try.results37 hF hM; (repeat (first | exact RL.nil | (apply RL.tmp; exact rfl) | (apply RL.cell; exact rfl; (repeat (first | exact List.mem_cons_self | refine List.mem_cons_of_mem _ ?_)); exact rfl))); refine Both.mk ?_; try dsimp only [resV])
        have hr2l : r2.length = q := by
          have := congrArg List.length hep
          simp at this
          omega
        have hd1 : (cellsP (o :: r)).drop (1 * 2) = cellsP r := by rw [cellsP_drop]; rfl
        have hd2 : (cellsP e.ps).drop (1 * 2) = cellsP r2 := by rw [hep, cellsP_drop]; rfl
        rw [hd1, show its.length + 1 - 1 = its.length by omega] at hdI
        rw [hd2, show q + 1 - 1 = q by omega] at hdE
        have htd := tab_drop (E1 := E3) (j := j) hT2 hls (.slice (sadr (some ade) 1 ce 2) q (ce - 1)) e.en
        rw [hr2, show (o :: r2).drop 1 = r2 from rfl] at htd
        refine ⟨r, E3.set j ⟨o.1.d, .slice (sadr (some ade) 1 ce 2) q (ce - 1), e.en, r2⟩, .slice (sadr (some adI) 1 cI 2) its.length (cI - 1), eI2, ?_, ⟨by rw [hrl]; exact hdI, ?_, htd, hDW2.sub (fun p hp => List.mem_cons_of_mem _ hp), fun p hp => hdg2 p (List.mem_cons_of_mem _ hp)⟩, ?_⟩
        · unfold addI
          rw [if_neg (by rw [hh]; simp), if_pos, ← hims]
          · rfl
          · rw [List.length_append, ims_len, List.length_singleton]
            omega
        · intro t ht
          rcases List.mem_or_eq_of_mem_set ht with ht | rfl
          · exact hE3 t ht
          · show OffR _ _ _ r2.length (cellsP r2) e.en
            rw [hr2l]
            exact hdE
        · rw [rowsT_same (t := ⟨o.1.d, .slice (sadr (some ade) 1 ce 2) q (ce - 1), e.en, r2⟩) hj rfl, esE_set]
          exact (hM.addFact ((hM.facts (DatF (o :: r)) (by (repeat (first | with_reducible exact List.mem_cons_self | refine List.mem_cons_of_mem _ ?_)))).imp (g := DatF r) fun w h p hp => h p (List.mem_cons_of_mem _ hp))).sub (.cons_cons _ (.cons _ (.refl _))) (.refl _) (fun f hf => by simp only [List.mem_cons] at hf ⊢; rcases hf with h | h | h | h <;> simp [h])
      refine c_drawF (fun i => Nat.ble 23 i) (fun x hx => List.mem_cons_of_mem _ (hx)) (fun f hf => List.mem_cons_of_mem _ (hf)) hM ?_; clear hM; intro w hM
      (first | (refine t_pure (i := 0) hF rfl rfl rfl rfl (by kernel_rfl) (hM.sm.sub (fun x hx => by repeat (first | exact hx | refine List.mem_cons_of_mem _ ?_)) (fun _ h => by repeat (first | exact h | refine List.mem_cons_of_mem _ ?_))) (fun _ _ _ h => h) ?_ ?_; (first | exact trivial | omega | decide); clear hF a; intro a hF))
      (first | (refine t_pure (i := 1) hF rfl rfl rfl rfl (by kernel_rfl) (hM.sm.sub (fun x hx => by repeat (first | exact hx | refine List.mem_cons_of_mem _ ?_)) (fun _ h => by repeat (first | exact h | refine List.mem_cons_of_mem _ ?_))) (fun _ _ _ h => h) ?_ ?_; (first | exact trivial | omega | decide); clear hF a; intro a hF))
      (first | (refine t_pure (i := 2) hF rfl rfl rfl rfl (by kernel_rfl) (hM.sm.sub (fun x hx => by repeat (first | exact hx | refine List.mem_cons_of_mem _ ?_)) (fun _ h => by repeat (first | exact h | refine List.mem_cons_of_mem _ ?_))) (fun _ _ _ h => h) ?_ ?_; (first | exact trivial | omega | decide); clear hF a; intro a hF))
      (first | (refine t_pure (i := 3) hF rfl rfl rfl rfl (by kernel_rfl) (hM.sm.sub (fun x hx => by repeat (first | exact hx | refine List.mem_cons_of_mem _ ?_)) (fun _ h => by repeat (first | exact h | refine List.mem_cons_of_mem _ ?_))) (fun _ _ _ h => h) ?_ ?_; (first | exact trivial | omega | decide); clear hF a; intro a hF))
      (first | (refine t_pure (i := 5) hF rfl rfl rfl rfl (by kernel_rfl) (hM.sm.sub (fun x hx => by repeat (first | exact hx | refine List.mem_cons_of_mem _ ?_)) (fun _ h => by repeat (first | exact h | refine List.mem_cons_of_mem _ ?_))) (fun _ _ _ h => h) ?_ ?_; (first | exact trivial | omega | decide); clear hF a; intro a hF))
      (first | (refine t_pure (i := 6) hF rfl rfl rfl rfl (by kernel_rfl) (hM.sm.sub (fun x hx => by repeat (first | exact hx | refine List.mem_cons_of_mem _ ?_)) (fun _ h => by repeat (first | exact h | refine List.mem_cons_of_mem _ ?_))) (fun _ _ _ h => h) ?_ ?_; (first | exact trivial | omega | decide); clear hF a; intro a hF))
      (first | (refine t_pure (i := 7) hF rfl rfl rfl rfl (by kernel_rfl) (hM.sm.sub (fun x hx => by repeat (first | exact hx | refine List.mem_cons_of_mem _ ?_)) (fun _ h => by repeat (first | exact h | refine List.mem_cons_of_mem _ ?_))) (fun _ _ _ h => h) ?_ ?_; (first | exact trivial | omega | decide); clear hF a; intro a hF))
      (first | (refine t_pure (i := 8) hF rfl rfl rfl rfl (by kernel_rfl) (hM.sm.sub (fun x hx => by repeat (first | exact hx | refine List.mem_cons_of_mem _ ?_)) (fun _ h => by repeat (first | exact h | refine List.mem_cons_of_mem _ ?_))) (fun _ _ _ h => h) ?_ ?_; (first | exact trivial | omega | decide); clear hF a; intro a hF))
      (first | (refine t_pure (i := 11) hF rfl rfl rfl rfl (by kernel_rfl) (hM.sm.sub (fun x hx => by repeat (first | exact hx | refine List.mem_cons_of_mem _ ?_)) (fun _ h => by repeat (first | exact h | refine List.mem_cons_of_mem _ ?_))) (fun _ _ _ h => h) ?_ ?_; (first | exact trivial | omega | decide); clear hF a; intro a hF))
      (first | (refine t_pure (i := 12) hF rfl rfl rfl rfl (by kernel_rfl) (hM.sm.sub (fun x hx => by repeat (first | exact hx | refine List.mem_cons_of_mem _ ?_)) (fun _ h => by repeat (first | exact h | refine List.mem_cons_of_mem _ ?_))) (fun _ _ _ h => h) ?_ ?_; (first | exact trivial | omega | decide); clear hF a; intro a hF))
      (first | (refine t_pure (i := 13) hF rfl rfl rfl rfl (by kernel_rfl) (hM.sm.sub (fun x hx => by repeat (first | exact hx | refine List.mem_cons_of_mem _ ?_)) (fun _ h => by repeat (first | exact h | refine List.mem_cons_of_mem _ ?_))) (fun _ _ _ h => h) ?_ ?_; (first | exact trivial | omega | decide); clear hF a; intro a hF))
      (first | (refine t_pure (i := 15) hF rfl rfl rfl rfl (by kernel_rfl) (hM.sm.sub (fun x hx => by repeat (first | exact hx | refine List.mem_cons_of_mem _ ?_)) (fun _ h => by repeat (first | exact h | refine List.mem_cons_of_mem _ ?_))) (fun _ _ _ h => h) ?_ ?_; (first | exact trivial | omega | decide); clear hF a; intro a hF))
      refine t_three (i := 4) (j := 9) (k := 14) hF rfl rfl rfl (by kernel_rfl) rfl rfl rfl ?_ ?_ ?_
      ·
        intro K hK
        (first | (refine x_pure hF hM rfl rfl ?_ ?_; (first | exact trivial | omega | decide); clear hF a; intro a hF) | (apply x_load hF hM rfl; (repeat (first | exact List.mem_cons_self | refine List.mem_cons_of_mem _ ?_)); exact rfl; exact rfl; clear hF a; intro a hF))
        refine hK _ _ (fun _ => (hM.sm.sub (fun x hx => by repeat (first | exact hx | refine List.mem_cons_of_mem _ ?_)) (fun _ h => by repeat (first | exact h | refine List.mem_cons_of_mem _ ?_)))) ?_; clear hK
        refine t_two (i := 9) (j := 14) hF rfl rfl (by kernel_rfl) rfl rfl ?_ ?_
        ·
          intro K hK
          (first | (refine x_pure hF hM rfl rfl ?_ ?_; (first | exact trivial | omega | decide); clear hF a; intro a hF) | (apply x_load hF hM rfl; (repeat (first | exact List.mem_cons_self | refine List.mem_cons_of_mem _ ?_)); exact rfl; exact rfl; clear hF a; intro a hF))
          refine hK _ _ (fun _ => (hM.sm.sub (fun x hx => by repeat (first | exact hx | refine List.mem_cons_of_mem _ ?_)) (fun _ h => by repeat (first | exact h | refine List.mem_cons_of_mem _ ?_)))) ?_; clear hK
          (first | (refine t_pure (i := 10) hF rfl rfl rfl rfl (by kernel_rfl) (hM.sm.sub (fun x hx => by repeat (first | exact hx | refine List.mem_cons_of_mem _ ?_)) (fun _ h => by repeat (first | exact h | refine List.mem_cons_of_mem _ ?_))) (fun _ _ _ h => h) ?_ ?_; (first | exact trivial | omega | decide); clear hF a; intro a hF))
          refine t_one (i := 14) hF rfl (by kernel_rfl) rfl ?_
          intro K hK
          (first | (refine x_pure hF hM rfl rfl ?_ ?_; (first | exact trivial | omega | decide); clear hF a; intro a hF) | (apply x_load hF hM rfl; (repeat (first | exact List.mem_cons_self | refine List.mem_cons_of_mem _ ?_)); exact rfl; exact rfl; clear hF a; intro a hF))
          refine hK _ _ (fun _ => (hM.sm.sub (fun x hx => by repeat (first | exact hx | refine List.mem_cons_of_mem _ ?_)) (fun _ h => by repeat (first | exact h | refine List.mem_cons_of_mem _ ?_)))) ?_; clear hK
          refine t_one (i := 16) hF rfl (by kernel_rfl) rfl ?_
          intro K hK
          (refine upon_value (e_lookupE (ek := Value.int .u64) (z := .slice none 0 0) (keyOk_int rfl) hF hM rfl (x := o.1.d) rfl rfl (by (repeat (first | exact List.mem_cons_self | refine List.mem_cons_of_mem _ ?_))) trivial (fun _ _ => trivial)) ?_; rw [hek2]; replace hF := hF.put (d := 53) rfl (.slice (some ade) (q + 1) ce); generalize a.put (some 53) _ = a at *)
          refine hK _ _ (fun _ => (hM.sm.sub (fun x hx => by repeat (first | exact hx | refine List.mem_cons_of_mem _ ?_)) (fun _ h => by repeat (first | exact h | refine List.mem_cons_of_mem _ ?_)))) ?_; clear hK
          (first | (refine t_pure (i := 17) hF rfl rfl rfl rfl (by kernel_rfl) (hM.sm.sub (fun x hx => by repeat (first | exact hx | refine List.mem_cons_of_mem _ ?_)) (fun _ h => by repeat (first | exact h | refine List.mem_cons_of_mem _ ?_))) (fun _ _ _ h => h) ?_ ?_; (first | exact trivial | omega | decide); clear hF a; intro a hF))
          (first | (refine t_pure (i := 18) hF rfl rfl rfl rfl (by kernel_rfl) (hM.sm.sub (fun x hx => by repeat (first | exact hx | refine List.mem_cons_of_mem _ ?_)) (fun _ h => by repeat (first | exact h | refine List.mem_cons_of_mem _ ?_))) (fun _ _ _ h => h) ?_ ?_; (first | exact trivial | omega | decide); clear hF a; intro a hF))
          (first | (refine t_pure (i := 19) hF rfl rfl rfl rfl (by kernel_rfl) (hM.sm.sub (fun x hx => by repeat (first | exact hx | refine List.mem_cons_of_mem _ ?_)) (fun _ h => by repeat (first | exact h | refine List.mem_cons_of_mem _ ?_))) (fun _ _ _ h => h) ?_ ?_; (first | exact trivial | omega | decide); clear hF a; intro a hF))
          refine t_one (i := 20) hF rfl (by kernel_rfl) rfl ?_
          intro K hK
          (apply x_store hF hM rfl rfl rfl; (repeat (first | exact Upd.z | apply Upd.s)); exact rfl; exact rfl; exact rfl; clear hF hM a; intro w a hM hF)
          refine hK _ _ (fun _ => (hM.sm.sub (fun x hx => by repeat (first | exact hx | refine List.mem_cons_of_mem _ ?_)) (fun _ h => by repeat (first | exact h | refine List.mem_cons_of_mem _ ?_)))) ?_; clear hK
          refine t_one (i := 21) hF rfl (by kernel_rfl) rfl ?_
          intro K hK
          (refine e_mapEntryN (ek := Value.int .u64) (z := .slice none 0 0) (keyOk_int rfl) hF hM rfl rfl rfl trivial (fun _ _ => trivial) hb0 hcf4 rfl ?_; clear hF hM a; intro w a hM hF; rw [hka] at hM hF; dsimp only at hM hF)
          refine hK _ _ (fun _ => (hM.sm.sub (fun x hx => by repeat (first | exact hx | refine List.mem_cons_of_mem _ ?_)) (fun _ h => by repeat (first | exact h | refine List.mem_cons_of_mem _ ?_)))) ?_; clear hK
          (first | (refine t_pure (i := 22) hF rfl rfl rfl rfl (by kernel_rfl) (hM.sm.sub (fun x hx => by repeat (first | exact hx | refine List.mem_cons_of_mem _ ?_)) (fun _ h => by repeat (first | exact h | refine List.mem_cons_of_mem _ ?_))) (fun _ _ _ h => h) ?_ ?_; (first | exact trivial | omega | decide); clear hF a; intro a hF))
          refine t_one (i := 23) hF rfl (by kernel_rfl) rfl ?_
          intro K hK
          (refine e_entryStoreN (i := j) (x := o.1.d) hF hM rfl rfl rfl hie hb0 hcf4 ?_; clear hM; intro w hM)
          refine hK _ _ (fun h => by cases h) ?_; clear hK
          refine t_done (by kernel_rfl) ?_
          rw [hv1, hv2] at hM
          exact fin _ _ (hF.sub (by repeat (first | exact Sub.nil | refine Sub.cons rfl (by first | with_reducible rfl | (refine congrArg (Value.int _) ?_; omega) | exact rfl) ?_))) hM
        ·
          intro K hK
          (first | (refine x_pure hF hM rfl rfl ?_ ?_; (first | exact trivial | omega | decide); clear hF a; intro a hF) | (apply x_load hF hM rfl; (repeat (first | exact List.mem_cons_self | refine List.mem_cons_of_mem _ ?_)); exact rfl; exact rfl; clear hF a; intro a hF))
          refine hK _ _ (fun _ => (hM.sm.sub (fun x hx => by repeat (first | exact hx | refine List.mem_cons_of_mem _ ?_)) (fun _ h => by repeat (first | exact h | refine List.mem_cons_of_mem _ ?_)))) ?_; clear hK
          refine t_two (i := 9) (j := 16) hF rfl rfl (by kernel_rfl) rfl rfl ?_ ?_
          ·
            intro K hK
            (first | (refine x_pure hF hM rfl rfl ?_ ?_; (first | exact trivial | omega | decide); clear hF a; intro a hF) | (apply x_load hF hM rfl; (repeat (first | exact List.mem_cons_self | refine List.mem_cons_of_mem _ ?_)); exact rfl; exact rfl; clear hF a; intro a hF))
            refine hK _ _ (fun _ => (hM.sm.sub (fun x hx => by repeat (first | exact hx | refine List.mem_cons_of_mem _ ?_)) (fun _ h => by repeat (first | exact h | refine List.mem_cons_of_mem _ ?_)))) ?_; clear hK
            (first | (refine t_pure (i := 10) hF rfl rfl rfl rfl (by kernel_rfl) (hM.sm.sub (fun x hx => by repeat (first | exact hx | refine List.mem_cons_of_mem _ ?_)) (fun _ h => by repeat (first | exact h | refine List.mem_cons_of_mem _ ?_))) (fun _ _ _ h => h) ?_ ?_; (first | exact trivial | omega | decide); clear hF a; intro a hF))
            refine t_one (i := 16) hF rfl (by kernel_rfl) rfl ?_
            intro K hK
            (refine upon_value (e_lookupE (ek := Value.int .u64) (z := .slice none 0 0) (keyOk_int rfl) hF hM rfl (x := o.1.d) rfl rfl (by (repeat (first | exact List.mem_cons_self | refine List.mem_cons_of_mem _ ?_))) trivial (fun _ _ => trivial)) ?_; rw [hek2]; replace hF := hF.put (d := 53) rfl (.slice (some ade) (q + 1) ce); generalize a.put (some 53) _ = a at *)
            refine hK _ _ (fun _ => (hM.sm.sub (fun x hx => by repeat (first | exact hx | refine List.mem_cons_of_mem _ ?_)) (fun _ h => by repeat (first | exact h | refine List.mem_cons_of_mem _ ?_)))) ?_; clear hK
            (first | (refine t_pure (i := 17) hF rfl rfl rfl rfl (by kernel_rfl) (hM.sm.sub (fun x hx => by repeat (first | exact hx | refine List.mem_cons_of_mem _ ?_)) (fun _ h => by repeat (first | exact h | refine List.mem_cons_of_mem _ ?_))) (fun _ _ _ h => h) ?_ ?_; (first | exact trivial | omega | decide); clear hF a; intro a hF))
            (first | (refine t_pure (i := 18) hF rfl rfl rfl rfl (by kernel_rfl) (hM.sm.sub (fun x hx => by repeat (first | exact hx | refine List.mem_cons_of_mem _ ?_)) (fun _ h => by repeat (first | exact h | refine List.mem_cons_of_mem _ ?_))) (fun _ _ _ h => h) ?_ ?_; (first | exact trivial | omega | decide); clear hF a; intro a hF))
            (first | (refine t_pure (i := 19) hF rfl rfl rfl rfl (by kernel_rfl) (hM.sm.sub (fun x hx => by repeat (first | exact hx | refine List.mem_cons_of_mem _ ?_)) (fun _ h => by repeat (first | exact h | refine List.mem_cons_of_mem _ ?_))) (fun _ _ _ h => h) ?_ ?_; (first | exact trivial | omega | decide); clear hF a; intro a hF))
            refine t_one (i := 20) hF rfl (by kernel_rfl) rfl ?_
            intro K hK
            (apply x_store hF hM rfl rfl rfl; (repeat (first | exact Upd.z | apply Upd.s)); exact rfl; exact rfl; exact rfl; clear hF hM a; intro w a hM hF)
            refine hK _ _ (fun _ => (hM.sm.sub (fun x hx => by repeat (first | exact hx | refine List.mem_cons_of_mem _ ?_)) (fun _ h => by repeat (first | exact h | refine List.mem_cons_of_mem _ ?_)))) ?_; clear hK
            refine t_one (i := 21) hF rfl (by kernel_rfl) rfl ?_
            intro K hK
            (refine e_mapEntryN (ek := Value.int .u64) (z := .slice none 0 0) (keyOk_int rfl) hF hM rfl rfl rfl trivial (fun _ _ => trivial) hb0 hcf4 rfl ?_; clear hF hM a; intro w a hM hF; rw [hka] at hM hF; dsimp only at hM hF)
            refine hK _ _ (fun _ => (hM.sm.sub (fun x hx => by repeat (first | exact hx | refine List.mem_cons_of_mem _ ?_)) (fun _ h => by repeat (first | exact h | refine List.mem_cons_of_mem _ ?_)))) ?_; clear hK
            (first | (refine t_pure (i := 22) hF rfl rfl rfl rfl (by kernel_rfl) (hM.sm.sub (fun x hx => by repeat (first | exact hx | refine List.mem_cons_of_mem _ ?_)) (fun _ h => by repeat (first | exact h | refine List.mem_cons_of_mem _ ?_))) (fun _ _ _ h => h) ?_ ?_; (first | exact trivial | omega | decide); clear hF a; intro a hF))
            refine t_one (i := 23) hF rfl (by kernel_rfl) rfl ?_
            intro K hK
            (refine e_entryStoreN (i := j) (x := o.1.d) hF hM rfl rfl rfl hie hb0 hcf4 ?_; clear hM; intro w hM)
            refine hK _ _ (fun h => by cases h) ?_; clear hK
            refine t_done (by kernel_rfl) ?_
            rw [hv1, hv2] at hM
            exact fin _ _ (hF.sub (by repeat (first | exact Sub.nil | refine Sub.cons rfl (by first | with_reducible rfl | (refine congrArg (Value.int _) ?_; omega) | exact rfl) ?_))) hM
          ·
            intro K hK
            (refine upon_value (e_lookupE (ek := Value.int .u64) (z := .slice none 0 0) (keyOk_int rfl) hF hM rfl (x := o.1.d) rfl rfl (by (repeat (first | exact List.mem_cons_self | refine List.mem_cons_of_mem _ ?_))) trivial (fun _ _ => trivial)) ?_; rw [hek2]; replace hF := hF.put (d := 53) rfl (.slice (some ade) (q + 1) ce); generalize a.put (some 53) _ = a at *)
            refine hK _ _ (fun _ => (hM.sm.sub (fun x hx => by repeat (first | exact hx | refine List.mem_cons_of_mem _ ?_)) (fun _ h => by repeat (first | exact h | refine List.mem_cons_of_mem _ ?_)))) ?_; clear hK
            (first | (refine t_pure (i := 17) hF rfl rfl rfl rfl (by kernel_rfl) (hM.sm.sub (fun x hx => by repeat (first | exact hx | refine List.mem_cons_of_mem _ ?_)) (fun _ h => by repeat (first | exact h | refine List.mem_cons_of_mem _ ?_))) (fun _ _ _ h => h) ?_ ?_; (first | exact trivial | omega | decide); clear hF a; intro a hF))
            refine t_one (i := 9) hF rfl (by kernel_rfl) rfl ?_
            intro K hK
            (first | (refine x_pure hF hM rfl rfl ?_ ?_; (first | exact trivial | omega | decide); clear hF a; intro a hF) | (apply x_load hF hM rfl; (repeat (first | exact List.mem_cons_self | refine List.mem_cons_of_mem _ ?_)); exact rfl; exact rfl; clear hF a; intro a hF))
            refine hK _ _ (fun _ => (hM.sm.sub (fun x hx => by repeat (first | exact hx | refine List.mem_cons_of_mem _ ?_)) (fun _ h => by repeat (first | exact h | refine List.mem_cons_of_mem _ ?_)))) ?_; clear hK
            (first | (refine t_pure (i := 10) hF rfl rfl rfl rfl (by kernel_rfl) (hM.sm.sub (fun x hx => by repeat (first | exact hx | refine List.mem_cons_of_mem _ ?_)) (fun _ h => by repeat (first | exact h | refine List.mem_cons_of_mem _ ?_))) (fun _ _ _ h => h) ?_ ?_; (first | exact trivial | omega | decide); clear hF a; intro a hF))
            (first | (refine t_pure (i := 18) hF rfl rfl rfl rfl (by kernel_rfl) (hM.sm.sub (fun x hx => by repeat (first | exact hx | refine List.mem_cons_of_mem _ ?_)) (fun _ h => by repeat (first | exact h | refine List.mem_cons_of_mem _ ?_))) (fun _ _ _ h => h) ?_ ?_; (first | exact trivial | omega | decide); clear hF a; intro a hF))
            (first | (refine t_pure (i := 19) hF rfl rfl rfl rfl (by kernel_rfl) (hM.sm.sub (fun x hx => by repeat (first | exact hx | refine List.mem_cons_of_mem _ ?_)) (fun _ h => by repeat (first | exact h | refine List.mem_cons_of_mem _ ?_))) (fun _ _ _ h => h) ?_ ?_; (first | exact trivial | omega | decide); clear hF a; intro a hF))
            refine t_one (i := 20) hF rfl (by kernel_rfl) rfl ?_
            intro K hK
            (apply x_store hF hM rfl rfl rfl; (repeat (first | exact Upd.z | apply Upd.s)); exact rfl; exact rfl; exact rfl; clear hF hM a; intro w a hM hF)
            refine hK _ _ (fun _ => (hM.sm.sub (fun x hx => by repeat (first | exact hx | refine List.mem_cons_of_mem _ ?_)) (fun _ h => by repeat (first | exact h | refine List.mem_cons_of_mem _ ?_)))) ?_; clear hK
            refine t_one (i := 21) hF rfl (by kernel_rfl) rfl ?_
            intro K hK
            (refine e_mapEntryN (ek := Value.int .u64) (z := .slice none 0 0) (keyOk_int rfl) hF hM rfl rfl rfl trivial (fun _ _ => trivial) hb0 hcf4 rfl ?_; clear hF hM a; intro w a hM hF; rw [hka] at hM hF; dsimp only at hM hF)
            refine hK _ _ (fun _ => (hM.sm.sub (fun x hx => by repeat (first | exact hx | refine List.mem_cons_of_mem _ ?_)) (fun _ h => by repeat (first | exact h | refine List.mem_cons_of_mem _ ?_)))) ?_; clear hK
            (first | (refine t_pure (i := 22) hF rfl rfl rfl rfl (by kernel_rfl) (hM.sm.sub (fun x hx => by repeat (first | exact hx | refine List.mem_cons_of_mem _ ?_)) (fun _ h => by repeat (first | exact h | refine List.mem_cons_of_mem _ ?_))) (fun _ _ _ h => h) ?_ ?_; (first | exact trivial | omega | decide); clear hF a; intro a hF))
            refine t_one (i := 23) hF rfl (by kernel_rfl) rfl ?_
            intro K hK
            (refine e_entryStoreN (i := j) (x := o.1.d) hF hM rfl rfl rfl hie hb0 hcf4 ?_; clear hM; intro w hM)
            refine hK _ _ (fun h => by cases h) ?_; clear hK
            refine t_done (by kernel_rfl) ?_
            rw [hv1, hv2] at hM
            exact fin _ _ (hF.sub (by repeat (first | exact Sub.nil | refine Sub.cons rfl (by first | with_reducible rfl | (refine congrArg (Value.int _) ?_; omega) | exact rfl) ?_))) hM
      ·
        intro K hK
        (first | (refine x_pure hF hM rfl rfl ?_ ?_; (first | exact trivial | omega | decide); clear hF a; intro a hF) | (apply x_load hF hM rfl; (repeat (first | exact List.mem_cons_self | refine List.mem_cons_of_mem _ ?_)); exact rfl; exact rfl; clear hF a; intro a hF))
        refine hK _ _ (fun _ => (hM.sm.sub (fun x hx => by repeat (first | exact hx | refine List.mem_cons_of_mem _ ?_)) (fun _ h => by repeat (first | exact h | refine List.mem_cons_of_mem _ ?_)))) ?_; clear hK
        (first | (refine t_pure (i := 10) hF rfl rfl rfl rfl (by kernel_rfl) (hM.sm.sub (fun x hx => by repeat (first | exact hx | refine List.mem_cons_of_mem _ ?_)) (fun _ h => by repeat (first | exact h | refine List.mem_cons_of_mem _ ?_))) (fun _ _ _ h => h) ?_ ?_; (first | exact trivial | omega | decide); clear hF a; intro a hF))
        refine t_two (i := 4) (j := 14) hF rfl rfl (by kernel_rfl) rfl rfl ?_ ?_
        ·
          intro K hK
          (first | (refine x_pure hF hM rfl rfl ?_ ?_; (first | exact trivial | omega | decide); clear hF a; intro a hF) | (apply x_load hF hM rfl; (repeat (first | exact List.mem_cons_self | refine List.mem_cons_of_mem _ ?_)); exact rfl; exact rfl; clear hF a; intro a hF))
          refine hK _ _ (fun _ => (hM.sm.sub (fun x hx => by repeat (first | exact hx | refine List.mem_cons_of_mem _ ?_)) (fun _ h => by repeat (first | exact h | refine List.mem_cons_of_mem _ ?_)))) ?_; clear hK
          refine t_one (i := 14) hF rfl (by kernel_rfl) rfl ?_
          intro K hK
          (first | (refine x_pure hF hM rfl rfl ?_ ?_; (first | exact trivial | omega | decide); clear hF a; intro a hF) | (apply x_load hF hM rfl; (repeat (first | exact List.mem_cons_self | refine List.mem_cons_of_mem _ ?_)); exact rfl; exact rfl; clear hF a; intro a hF))
          refine hK _ _ (fun _ => (hM.sm.sub (fun x hx => by repeat (first | exact hx | refine List.mem_cons_of_mem _ ?_)) (fun _ h => by repeat (first | exact h | refine List.mem_cons_of_mem _ ?_)))) ?_; clear hK
          refine t_one (i := 16) hF rfl (by kernel_rfl) rfl ?_
          intro K hK
          (refine upon_value (e_lookupE (ek := Value.int .u64) (z := .slice none 0 0) (keyOk_int rfl) hF hM rfl (x := o.1.d) rfl rfl (by (repeat (first | exact List.mem_cons_self | refine List.mem_cons_of_mem _ ?_))) trivial (fun _ _ => trivial)) ?_; rw [hek2]; replace hF := hF.put (d := 53) rfl (.slice (some ade) (q + 1) ce); generalize a.put (some 53) _ = a at *)
          refine hK _ _ (fun _ => (hM.sm.sub (fun x hx => by repeat (first | exact hx | refine List.mem_cons_of_mem _ ?_)) (fun _ h => by repeat (first | exact h | refine List.mem_cons_of_mem _ ?_)))) ?_; clear hK
          (first | (refine t_pure (i := 17) hF rfl rfl rfl rfl (by kernel_rfl) (hM.sm.sub (fun x hx => by repeat (first | exact hx | refine List.mem_cons_of_mem _ ?_)) (fun _ h => by repeat (first | exact h | refine List.mem_cons_of_mem _ ?_))) (fun _ _ _ h => h) ?_ ?_; (first | exact trivial | omega | decide); clear hF a; intro a hF))
          (first | (refine t_pure (i := 18) hF rfl rfl rfl rfl (by kernel_rfl) (hM.sm.sub (fun x hx => by repeat (first | exact hx | refine List.mem_cons_of_mem _ ?_)) (fun _ h => by repeat (first | exact h | refine List.mem_cons_of_mem _ ?_))) (fun _ _ _ h => h) ?_ ?_; (first | exact trivial | omega | decide); clear hF a; intro a hF))
          (first | (refine t_pure (i := 19) hF rfl rfl rfl rfl (by kernel_rfl) (hM.sm.sub (fun x hx => by repeat (first | exact hx | refine List.mem_cons_of_mem _ ?_)) (fun _ h => by repeat (first | exact h | refine List.mem_cons_of_mem _ ?_))) (fun _ _ _ h => h) ?_ ?_; (first | exact trivial | omega | decide); clear hF a; intro a hF))
          refine t_one (i := 20) hF rfl (by kernel_rfl) rfl ?_
          intro K hK
          (apply x_store hF hM rfl rfl rfl; (repeat (first | exact Upd.z | apply Upd.s)); exact rfl; exact rfl; exact rfl; clear hF hM a; intro w a hM hF)
          refine hK _ _ (fun _ => (hM.sm.sub (fun x hx => by repeat (first | exact hx | refine List.mem_cons_of_mem _ ?_)) (fun _ h => by repeat (first | exact h | refine List.mem_cons_of_mem _ ?_)))) ?_; clear hK
          refine t_one (i := 21) hF rfl (by kernel_rfl) rfl ?_
          intro K hK
          (refine e_mapEntryN (ek := Value.int .u64) (z := .slice none 0 0) (keyOk_int rfl) hF hM rfl rfl rfl trivial (fun _ _ => trivial) hb0 hcf4 rfl ?_; clear hF hM a; intro w a hM hF; rw [hka] at hM hF; dsimp only at hM hF)
          refine hK _ _ (fun _ => (hM.sm.sub (fun x hx => by repeat (first | exact hx | refine List.mem_cons_of_mem _ ?_)) (fun _ h => by repeat (first | exact h | refine List.mem_cons_of_mem _ ?_)))) ?_; clear hK
          (first | (refine t_pure (i := 22) hF rfl rfl rfl rfl (by kernel_rfl) (hM.sm.sub (fun x hx => by repeat (first | exact hx | refine List.mem_cons_of_mem _ ?_)) (fun _ h => by repeat (first | exact h | refine List.mem_cons_of_mem _ ?_))) (fun _ _ _ h => h) ?_ ?_; (first | exact trivial | omega | decide); clear hF a; intro a hF))
          refine t_one (i := 23) hF rfl (by kernel_rfl) rfl ?_
          intro K hK
          (refine e_entryStoreN (i := j) (x := o.1.d) hF hM rfl rfl rfl hie hb0 hcf4 ?_; clear hM; intro w hM)
          refine hK _ _ (fun h => by cases h) ?_; clear hK
          refine t_done (by kernel_rfl) ?_
          rw [hv1, hv2] at hM
          exact fin _ _ (hF.sub (by repeat (first | exact Sub.nil | refine Sub.cons rfl (by first | with_reducible rfl | (refine congrArg (Value.int _) ?_; omega) | exact rfl) ?_))) hM
        ·
          intro K hK
          (first | (refine x_pure hF hM rfl rfl ?_ ?_; (first | exact trivial | omega | decide); clear hF a; intro a hF) | (apply x_load hF hM rfl; (repeat (first | exact List.mem_cons_self | refine List.mem_cons_of_mem _ ?_)); exact rfl; exact rfl; clear hF a; intro a hF))
          refine hK _ _ (fun _ => (hM.sm.sub (fun x hx => by repeat (first | exact hx | refine List.mem_cons_of_mem _ ?_)) (fun _ h => by repeat (first | exact h | refine List.mem_cons_of_mem _ ?_)))) ?_; clear hK
          refine t_two (i := 4) (j := 16) hF rfl rfl (by kernel_rfl) rfl rfl ?_ ?_
          ·
            intro K hK
            (first | (refine x_pure hF hM rfl rfl ?_ ?_; (first | exact trivial | omega | decide); clear hF a; intro a hF) | (apply x_load hF hM rfl; (repeat (first | exact List.mem_cons_self | refine List.mem_cons_of_mem _ ?_)); exact rfl; exact rfl; clear hF a; intro a hF))
            refine hK _ _ (fun _ => (hM.sm.sub (fun x hx => by repeat (first | exact hx | refine List.mem_cons_of_mem _ ?_)) (fun _ h => by repeat (first | exact h | refine List.mem_cons_of_mem _ ?_)))) ?_; clear hK
            refine t_one (i := 16) hF rfl (by kernel_rfl) rfl ?_
            intro K hK
            (refine upon_value (e_lookupE (ek := Value.int .u64) (z := .slice none 0 0) (keyOk_int rfl) hF hM rfl (x := o.1.d) rfl rfl (by (repeat (first | exact List.mem_cons_self | refine List.mem_cons_of_mem _ ?_))) trivial (fun _ _ => trivial)) ?_; rw [hek2]; replace hF := hF.put (d := 53) rfl (.slice (some ade) (q + 1) ce); generalize a.put (some 53) _ = a at *)
            refine hK _ _ (fun _ => (hM.sm.sub (fun x hx => by repeat (first | exact hx | refine List.mem_cons_of_mem _ ?_)) (fun _ h => by repeat (first | exact h | refine List.mem_cons_of_mem _ ?_)))) ?_; clear hK
            (first | (refine t_pure (i := 17) hF rfl rfl rfl rfl (by kernel_rfl) (hM.sm.sub (fun x hx => by repeat (first | exact hx | refine List.mem_cons_of_mem _ ?_)) (fun _ h => by repeat (first | exact h | refine List.mem_cons_of_mem _ ?_))) (fun _ _ _ h => h) ?_ ?_; (first | exact trivial | omega | decide); clear hF a; intro a hF))
            (first | (refine t_pure (i := 18) hF rfl rfl rfl rfl (by kernel_rfl) (hM.sm.sub (fun x hx => by repeat (first | exact hx | refine List.mem_cons_of_mem _ ?_)) (fun _ h => by repeat (first | exact h | refine List.mem_cons_of_mem _ ?_))) (fun _ _ _ h => h) ?_ ?_; (first | exact trivial | omega | decide); clear hF a; intro a hF))
            (first | (refine t_pure (i := 19) hF rfl rfl rfl rfl (by kernel_rfl) (hM.sm.sub (fun x hx => by repeat (first | exact hx | refine List.mem_cons_of_mem _ ?_)) (fun _ h => by repeat (first | exact h | refine List.mem_cons_of_mem _ ?_))) (fun _ _ _ h => h) ?_ ?_; (first | exact trivial | omega | decide); clear hF a; intro a hF))
            refine t_one (i := 20) hF rfl (by kernel_rfl) rfl ?_
            intro K hK
            (apply x_store hF hM rfl rfl rfl; (repeat (first | exact Upd.z | apply Upd.s)); exact rfl; exact rfl; exact rfl; clear hF hM a; intro w a hM hF)
            refine hK _ _ (fun _ => (hM.sm.sub (fun x hx => by repeat (first | exact hx | refine List.mem_cons_of_mem _ ?_)) (fun _ h => by repeat (first | exact h | refine List.mem_cons_of_mem _ ?_)))) ?_; clear hK
            refine t_one (i := 21) hF rfl (by kernel_rfl) rfl ?_
            intro K hK
            (refine e_mapEntryN (ek := Value.int .u64) (z := .slice none 0 0) (keyOk_int rfl) hF hM rfl rfl rfl trivial (fun _ _ => trivial) hb0 hcf4 rfl ?_; clear hF hM a; intro w a hM hF; rw [hka] at hM hF; dsimp only at hM hF)
            refine hK _ _ (fun _ => (hM.sm.sub (fun x hx => by repeat (first | exact hx | refine List.mem_cons_of_mem _ ?_)) (fun _ h => by repeat (first | exact h | refine List.mem_cons_of_mem _ ?_)))) ?_; clear hK
            (first | (refine t_pure (i := 22) hF rfl rfl rfl rfl (by kernel_rfl) (hM.sm.sub (fun x hx => by repeat (first | exact hx | refine List.mem_cons_of_mem _ ?_)) (fun _ h => by repeat (first | exact h | refine List.mem_cons_of_mem _ ?_))) (fun _ _ _ h => h) ?_ ?_; (first | exact trivial | omega | decide); clear hF a; intro a hF))
            refine t_one (i := 23) hF rfl (by kernel_rfl) rfl ?_
            intro K hK
            (refine e_entryStoreN (i := j) (x := o.1.d) hF hM rfl rfl rfl hie hb0 hcf4 ?_; clear hM; intro w hM)
            refine hK _ _ (fun h => by cases h) ?_; clear hK
            refine t_done (by kernel_rfl) ?_
            rw [hv1, hv2] at hM
            exact fin _ _ (hF.sub (by repeat (first | exact Sub.nil | refine Sub.cons rfl (by first | with_reducible rfl | (refine congrArg (Value.int _) ?_; omega) | exact rfl) ?_))) hM
          ·
            intro K hK
            (refine upon_value (e_lookupE (ek := Value.int .u64) (z := .slice none 0 0) (keyOk_int rfl) hF hM rfl (x := o.1.d) rfl rfl (by (repeat (first | exact List.mem_cons_self | refine List.mem_cons_of_mem _ ?_))) trivial (fun _ _ => trivial)) ?_; rw [hek2]; replace hF := hF.put (d := 53) rfl (.slice (some ade) (q + 1) ce); generalize a.put (some 53) _ = a at *)
            refine hK _ _ (fun _ => (hM.sm.sub (fun x hx => by repeat (first | exact hx | refine List.mem_cons_of_mem _ ?_)) (fun _ h => by repeat (first | exact h | refine List.mem_cons_of_mem _ ?_)))) ?_; clear hK
            (first | (refine t_pure (i := 17) hF rfl rfl rfl rfl (by kernel_rfl) (hM.sm.sub (fun x hx => by repeat (first | exact hx | refine List.mem_cons_of_mem _ ?_)) (fun _ h => by repeat (first | exact h | refine List.mem_cons_of_mem _ ?_))) (fun _ _ _ h => h) ?_ ?_; (first | exact trivial | omega | decide); clear hF a; intro a hF))
            refine t_one (i := 4) hF rfl (by kernel_rfl) rfl ?_
            intro K hK
            (first | (refine x_pure hF hM rfl rfl ?_ ?_; (first | exact trivial | omega | decide); clear hF a; intro a hF) | (apply x_load hF hM rfl; (repeat (first | exact List.mem_cons_self | refine List.mem_cons_of_mem _ ?_)); exact rfl; exact rfl; clear hF a; intro a hF))
            refine hK _ _ (fun _ => (hM.sm.sub (fun x hx => by repeat (first | exact hx | refine List.mem_cons_of_mem _ ?_)) (fun _ h => by repeat (first | exact h | refine List.mem_cons_of_mem _ ?_)))) ?_; clear hK
            (first | (refine t_pure (i := 18) hF rfl rfl rfl rfl (by kernel_rfl) (hM.sm.sub (fun x hx => by repeat (first | exact hx | refine List.mem_cons_of_mem _ ?_)) (fun _ h => by repeat (first | exact h | refine List.mem_cons_of_mem _ ?_))) (fun _ _ _ h => h) ?_ ?_; (first | exact trivial | omega | decide); clear hF a; intro a hF))
            (first | (refine t_pure (i := 19) hF rfl rfl rfl rfl (by kernel_rfl) (hM.sm.sub (fun x hx => by repeat (first | exact hx | refine List.mem_cons_of_mem _ ?_)) (fun _ h => by repeat (first | exact h | refine List.mem_cons_of_mem _ ?_))) (fun _ _ _ h => h) ?_ ?_; (first | exact trivial | omega | decide); clear hF a; intro a hF))
            refine t_one (i := 20) hF rfl (by kernel_rfl) rfl ?_
            intro K hK
            (apply x_store hF hM rfl rfl rfl; (repeat (first | exact Upd.z | apply Upd.s)); exact rfl; exact rfl; exact rfl; clear hF hM a; intro w a hM hF)
            refine hK _ _ (fun _ => (hM.sm.sub (fun x hx => by repeat (first | exact hx | refine List.mem_cons_of_mem _ ?_)) (fun _ h => by repeat (first | exact h | refine List.mem_cons_of_mem _ ?_)))) ?_; clear hK
            refine t_one (i := 21) hF rfl (by kernel_rfl) rfl ?_
            intro K hK
            (refine e_mapEntryN (ek := Value.int .u64) (z := .slice none 0 0) (keyOk_int rfl) hF hM rfl rfl rfl trivial (fun _ _ => trivial) hb0 hcf4 rfl ?_; clear hF hM a; intro w a hM hF; rw [hka] at hM hF; dsimp only at hM hF)
            refine hK _ _ (fun _ => (hM.sm.sub (fun x hx => by repeat (first | exact hx | refine List.mem_cons_of_mem _ ?_)) (fun _ h => by repeat (first | exact h | refine List.mem_cons_of_mem _ ?_)))) ?_; clear hK
            (first | (refine t_pure (i := 22) hF rfl rfl rfl rfl (by kernel_rfl) (hM.sm.sub (fun x hx => by repeat (first | exact hx | refine List.mem_cons_of_mem _ ?_)) (fun _ h => by repeat (first | exact h | refine List.mem_cons_of_mem _ ?_))) (fun _ _ _ h => h) ?_ ?_; (first | exact trivial | omega | decide); clear hF a; intro a hF))
            refine t_one (i := 23) hF rfl (by kernel_rfl) rfl ?_
            intro K hK
            (refine e_entryStoreN (i := j) (x := o.1.d) hF hM rfl rfl rfl hie hb0 hcf4 ?_; clear hM; intro w hM)
            refine hK _ _ (fun h => by cases h) ?_; clear hK
            refine t_done (by kernel_rfl) ?_
            rw [hv1, hv2] at hM
            exact fin _ _ (hF.sub (by repeat (first | exact Sub.nil | refine Sub.cons rfl (by first | with_reducible rfl | (refine congrArg (Value.int _) ?_; omega) | exact rfl) ?_))) hM
      ·
        intro K hK
        (first | (refine x_pure hF hM rfl rfl ?_ ?_; (first | exact trivial | omega | decide); clear hF a; intro a hF) | (apply x_load hF hM rfl; (repeat (first | exact List.mem_cons_self | refine List.mem_cons_of_mem _ ?_)); exact rfl; exact rfl; clear hF a; intro a hF))
        refine hK _ _ (fun _ => (hM.sm.sub (fun x hx => by repeat (first | exact hx | refine List.mem_cons_of_mem _ ?_)) (fun _ h => by repeat (first | exact h | refine List.mem_cons_of_mem _ ?_)))) ?_; clear hK
        refine t_three (i := 4) (j := 9) (k := 16) hF rfl rfl rfl (by kernel_rfl) rfl rfl rfl ?_ ?_ ?_
        ·
          intro K hK
          (first | (refine x_pure hF hM rfl rfl ?_ ?_; (first | exact trivial | omega | decide); clear hF a; intro a hF) | (apply x_load hF hM rfl; (repeat (first | exact List.mem_cons_self | refine List.mem_cons_of_mem _ ?_)); exact rfl; exact rfl; clear hF a; intro a hF))
          refine hK _ _ (fun _ => (hM.sm.sub (fun x hx => by repeat (first | exact hx | refine List.mem_cons_of_mem _ ?_)) (fun _ h => by repeat (first | exact h | refine List.mem_cons_of_mem _ ?_)))) ?_; clear hK
          refine t_two (i := 9) (j := 16) hF rfl rfl (by kernel_rfl) rfl rfl ?_ ?_
          ·
            intro K hK
            (first | (refine x_pure hF hM rfl rfl ?_ ?_; (first | exact trivial | omega | decide); clear hF a; intro a hF) | (apply x_load hF hM rfl; (repeat (first | exact List.mem_cons_self | refine List.mem_cons_of_mem _ ?_)); exact rfl; exact rfl; clear hF a; intro a hF))
            refine hK _ _ (fun _ => (hM.sm.sub (fun x hx => by repeat (first | exact hx | refine List.mem_cons_of_mem _ ?_)) (fun _ h => by repeat (first | exact h | refine List.mem_cons_of_mem _ ?_)))) ?_; clear hK
            (first | (refine t_pure (i := 10) hF rfl rfl rfl rfl (by kernel_rfl) (hM.sm.sub (fun x hx => by repeat (first | exact hx | refine List.mem_cons_of_mem _ ?_)) (fun _ h => by repeat (first | exact h | refine List.mem_cons_of_mem _ ?_))) (fun _ _ _ h => h) ?_ ?_; (first | exact trivial | omega | decide); clear hF a; intro a hF))
            refine t_one (i := 16) hF rfl (by kernel_rfl) rfl ?_
            intro K hK
            (refine upon_value (e_lookupE (ek := Value.int .u64) (z := .slice none 0 0) (keyOk_int rfl) hF hM rfl (x := o.1.d) rfl rfl (by (repeat (first | exact List.mem_cons_self | refine List.mem_cons_of_mem _ ?_))) trivial (fun _ _ => trivial)) ?_; rw [hek2]; replace hF := hF.put (d := 53) rfl (.slice (some ade) (q + 1) ce); generalize a.put (some 53) _ = a at *)
            refine hK _ _ (fun _ => (hM.sm.sub (fun x hx => by repeat (first | exact hx | refine List.mem_cons_of_mem _ ?_)) (fun _ h => by repeat (first | exact h | refine List.mem_cons_of_mem _ ?_)))) ?_; clear hK
            (first | (refine t_pure (i := 17) hF rfl rfl rfl rfl (by kernel_rfl) (hM.sm.sub (fun x hx => by repeat (first | exact hx | refine List.mem_cons_of_mem _ ?_)) (fun _ h => by repeat (first | exact h | refine List.mem_cons_of_mem _ ?_))) (fun _ _ _ h => h) ?_ ?_; (first | exact trivial | omega | decide); clear hF a; intro a hF))
            (first | (refine t_pure (i := 18) hF rfl rfl rfl rfl (by kernel_rfl) (hM.sm.sub (fun x hx => by repeat (first | exact hx | refine List.mem_cons_of_mem _ ?_)) (fun _ h => by repeat (first | exact h | refine List.mem_cons_of_mem _ ?_))) (fun _ _ _ h => h) ?_ ?_; (first | exact trivial | omega | decide); clear hF a; intro a hF))
            (first | (refine t_pure (i := 19) hF rfl rfl rfl rfl (by kernel_rfl) (hM.sm.sub (fun x hx => by repeat (first | exact hx | refine List.mem_cons_of_mem _ ?_)) (fun _ h => by repeat (first | exact h | refine List.mem_cons_of_mem _ ?_))) (fun _ _ _ h => h) ?_ ?_; (first | exact trivial | omega | decide); clear hF a; intro a hF))
            refine t_one (i := 20) hF rfl (by kernel_rfl) rfl ?_
            intro K hK
            (apply x_store hF hM rfl rfl rfl; (repeat (first | exact Upd.z | apply Upd.s)); exact rfl; exact rfl; exact rfl; clear hF hM a; intro w a hM hF)
            refine hK _ _ (fun _ => (hM.sm.sub (fun x hx => by repeat (first | exact hx | refine List.mem_cons_of_mem _ ?_)) (fun _ h => by repeat (first | exact h | refine List.mem_cons_of_mem _ ?_)))) ?_; clear hK
            refine t_one (i := 21) hF rfl (by kernel_rfl) rfl ?_
            intro K hK
            (refine e_mapEntryN (ek := Value.int .u64) (z := .slice none 0 0) (keyOk_int rfl) hF hM rfl rfl rfl trivial (fun _ _ => trivial) hb0 hcf4 rfl ?_; clear hF hM a; intro w a hM hF; rw [hka] at hM hF; dsimp only at hM hF)
            refine hK _ _ (fun _ => (hM.sm.sub (fun x hx => by repeat (first | exact hx | refine List.mem_cons_of_mem _ ?_)) (fun _ h => by repeat (first | exact h | refine List.mem_cons_of_mem _ ?_)))) ?_; clear hK
            (first | (refine t_pure (i := 22) hF rfl rfl rfl rfl (by kernel_rfl) (hM.sm.sub (fun x hx => by repeat (first | exact hx | refine List.mem_cons_of_mem _ ?_)) (fun _ h => by repeat (first | exact h | refine List.mem_cons_of_mem _ ?_))) (fun _ _ _ h => h) ?_ ?_; (first | exact trivial | omega | decide); clear hF a; intro a hF))
            refine t_one (i := 23) hF rfl (by kernel_rfl) rfl ?_
            intro K hK
            (refine e_entryStoreN (i := j) (x := o.1.d) hF hM rfl rfl rfl hie hb0 hcf4 ?_; clear hM; intro w hM)
            refine hK _ _ (fun h => by cases h) ?_; clear hK
            refine t_done (by kernel_rfl) ?_
            rw [hv1, hv2] at hM
            exact fin _ _ (hF.sub (by repeat (first | exact Sub.nil | refine Sub.cons rfl (by first | with_reducible rfl | (refine congrArg (Value.int _) ?_; omega) | exact rfl) ?_))) hM
          ·
            intro K hK
            (refine upon_value (e_lookupE (ek := Value.int .u64) (z := .slice none 0 0) (keyOk_int rfl) hF hM rfl (x := o.1.d) rfl rfl (by (repeat (first | exact List.mem_cons_self | refine List.mem_cons_of_mem _ ?_))) trivial (fun _ _ => trivial)) ?_; rw [hek2]; replace hF := hF.put (d := 53) rfl (.slice (some ade) (q + 1) ce); generalize a.put (some 53) _ = a at *)
            refine hK _ _ (fun _ => (hM.sm.sub (fun x hx => by repeat (first | exact hx | refine List.mem_cons_of_mem _ ?_)) (fun _ h => by repeat (first | exact h | refine List.mem_cons_of_mem _ ?_)))) ?_; clear hK
            (first | (refine t_pure (i := 17) hF rfl rfl rfl rfl (by kernel_rfl) (hM.sm.sub (fun x hx => by repeat (first | exact hx | refine List.mem_cons_of_mem _ ?_)) (fun _ h => by repeat (first | exact h | refine List.mem_cons_of_mem _ ?_))) (fun _ _ _ h => h) ?_ ?_; (first | exact trivial | omega | decide); clear hF a; intro a hF))
            refine t_one (i := 9) hF rfl (by kernel_rfl) rfl ?_
            intro K hK
            (first | (refine x_pure hF hM rfl rfl ?_ ?_; (first | exact trivial | omega | decide); clear hF a; intro a hF) | (apply x_load hF hM rfl; (repeat (first | exact List.mem_cons_self | refine List.mem_cons_of_mem _ ?_)); exact rfl; exact rfl; clear hF a; intro a hF))
            refine hK _ _ (fun _ => (hM.sm.sub (fun x hx => by repeat (first | exact hx | refine List.mem_cons_of_mem _ ?_)) (fun _ h => by repeat (first | exact h | refine List.mem_cons_of_mem _ ?_)))) ?_; clear hK
            (first | (refine t_pure (i := 10) hF rfl rfl rfl rfl (by kernel_rfl) (hM.sm.sub (fun x hx => by repeat (first | exact hx | refine List.mem_cons_of_mem _ ?_)) (fun _ h => by repeat (first | exact h | refine List.mem_cons_of_mem _ ?_))) (fun _ _ _ h => h) ?_ ?_; (first | exact trivial | omega | decide); clear hF a; intro a hF))
            (first | (refine t_pure (i := 18) hF rfl rfl rfl rfl (by kernel_rfl) (hM.sm.sub (fun x hx => by repeat (first | exact hx | refine List.mem_cons_of_mem _ ?_)) (fun _ h => by repeat (first | exact h | refine List.mem_cons_of_mem _ ?_))) (fun _ _ _ h => h) ?_ ?_; (first | exact trivial | omega | decide); clear hF a; intro a hF))
            (first | (refine t_pure (i := 19) hF rfl rfl rfl rfl (by kernel_rfl) (hM.sm.sub (fun x hx => by repeat (first | exact hx | refine List.mem_cons_of_mem _ ?_)) (fun _ h => by repeat (first | exact h | refine List.mem_cons_of_mem _ ?_))) (fun _ _ _ h => h) ?_ ?_; (first | exact trivial | omega | decide); clear hF a; intro a hF))
            refine t_one (i := 20) hF rfl (by kernel_rfl) rfl ?_
            intro K hK
            (apply x_store hF hM rfl rfl rfl; (repeat (first | exact Upd.z | apply Upd.s)); exact rfl; exact rfl; exact rfl; clear hF hM a; intro w a hM hF)
            refine hK _ _ (fun _ => (hM.sm.sub (fun x hx => by repeat (first | exact hx | refine List.mem_cons_of_mem _ ?_)) (fun _ h => by repeat (first | exact h | refine List.mem_cons_of_mem _ ?_)))) ?_; clear hK
            refine t_one (i := 21) hF rfl (by kernel_rfl) rfl ?_
            intro K hK
            (refine e_mapEntryN (ek := Value.int .u64) (z := .slice none 0 0) (keyOk_int rfl) hF hM rfl rfl rfl trivial (fun _ _ => trivial) hb0 hcf4 rfl ?_; clear hF hM a; intro w a hM hF; rw [hka] at hM hF; dsimp only at hM hF)
            refine hK _ _ (fun _ => (hM.sm.sub (fun x hx => by repeat (first | exact hx | refine List.mem_cons_of_mem _ ?_)) (fun _ h => by repeat (first | exact h | refine List.mem_cons_of_mem _ ?_)))) ?_; clear hK
            (first | (refine t_pure (i := 22) hF rfl rfl rfl rfl (by kernel_rfl) (hM.sm.sub (fun x hx => by repeat (first | exact hx | refine List.mem_cons_of_mem _ ?_)) (fun _ h => by repeat (first | exact h | refine List.mem_cons_of_mem _ ?_))) (fun _ _ _ h => h) ?_ ?_; (first | exact trivial | omega | decide); clear hF a; intro a hF))
            refine t_one (i := 23) hF rfl (by kernel_rfl) rfl ?_
            intro K hK
            (refine e_entryStoreN (i := j) (x := o.1.d) hF hM rfl rfl rfl hie hb0 hcf4 ?_; clear hM; intro w hM)
            refine hK _ _ (fun h => by cases h) ?_; clear hK
            refine t_done (by kernel_rfl) ?_
            rw [hv1, hv2] at hM
            exact fin _ _ (hF.sub (by repeat (first | exact Sub.nil | refine Sub.cons rfl (by first | with_reducible rfl | (refine congrArg (Value.int _) ?_; omega) | exact rfl) ?_))) hM
        ·
          intro K hK
          (first | (refine x_pure hF hM rfl rfl ?_ ?_; (first | exact trivial | omega | decide); clear hF a; intro a hF) | (apply x_load hF hM rfl; (repeat (first | exact List.mem_cons_self | refine List.mem_cons_of_mem _ ?_)); exact rfl; exact rfl; clear hF a; intro a hF))
          refine hK _ _ (fun _ => (hM.sm.sub (fun x hx => by repeat (first | exact hx | refine List.mem_cons_of_mem _ ?_)) (fun _ h => by repeat (first | exact h | refine List.mem_cons_of_mem _ ?_)))) ?_; clear hK
          (first | (refine t_pure (i := 10) hF rfl rfl rfl rfl (by kernel_rfl) (hM.sm.sub (fun x hx => by repeat (first | exact hx | refine List.mem_cons_of_mem _ ?_)) (fun _ h => by repeat (first | exact h | refine List.mem_cons_of_mem _ ?_))) (fun _ _ _ h => h) ?_ ?_; (first | exact trivial | omega | decide); clear hF a; intro a hF))
          refine t_two (i := 4) (j := 16) hF rfl rfl (by kernel_rfl) rfl rfl ?_ ?_
          ·
            intro K hK
            (first | (refine x_pure hF hM rfl rfl ?_ ?_; (first | exact trivial | omega | decide); clear hF a; intro a hF) | (apply x_load hF hM rfl; (repeat (first | exact List.mem_cons_self | refine List.mem_cons_of_mem _ ?_)); exact rfl; exact rfl; clear hF a; intro a hF))
            refine hK _ _ (fun _ => (hM.sm.sub (fun x hx => by repeat (first | exact hx | refine List.mem_cons_of_mem _ ?_)) (fun _ h => by repeat (first | exact h | refine List.mem_cons_of_mem _ ?_)))) ?_; clear hK
            refine t_one (i := 16) hF rfl (by kernel_rfl) rfl ?_
            intro K hK
            (refine upon_value (e_lookupE (ek := Value.int .u64) (z := .slice none 0 0) (keyOk_int rfl) hF hM rfl (x := o.1.d) rfl rfl (by (repeat (first | exact List.mem_cons_self | refine List.mem_cons_of_mem _ ?_))) trivial (fun _ _ => trivial)) ?_; rw [hek2]; replace hF := hF.put (d := 53) rfl (.slice (some ade) (q + 1) ce); generalize a.put (some 53) _ = a at *)
            refine hK _ _ (fun _ => (hM.sm.sub (fun x hx => by repeat (first | exact hx | refine List.mem_cons_of_mem _ ?_)) (fun _ h => by repeat (first | exact h | refine List.mem_cons_of_mem _ ?_)))) ?_; clear hK
            (first | (refine t_pure (i := 17) hF rfl rfl rfl rfl (by kernel_rfl) (hM.sm.sub (fun x hx => by repeat (first | exact hx | refine List.mem_cons_of_mem _ ?_)) (fun _ h => by repeat (first | exact h | refine List.mem_cons_of_mem _ ?_))) (fun _ _ _ h => h) ?_ ?_; (first | exact trivial | omega | decide); clear hF a; intro a hF))
            (first | (refine t_pure (i := 18) hF rfl rfl rfl rfl (by kernel_rfl) (hM.sm.sub (fun x hx => by repeat (first | exact hx | refine List.mem_cons_of_mem _ ?_)) (fun _ h => by repeat (first | exact h | refine List.mem_cons_of_mem _ ?_))) (fun _ _ _ h => h) ?_ ?_; (first | exact trivial | omega | decide); clear hF a; intro a hF))
            (first | (refine t_pure (i := 19) hF rfl rfl rfl rfl (by kernel_rfl) (hM.sm.sub (fun x hx => by repeat (first | exact hx | refine List.mem_cons_of_mem _ ?_)) (fun _ h => by repeat (first | exact h | refine List.mem_cons_of_mem _ ?_))) (fun _ _ _ h => h) ?_ ?_; (first | exact trivial | omega | decide); clear hF a; intro a hF))
            refine t_one (i := 20) hF rfl (by kernel_rfl) rfl ?_
            intro K hK
            (apply x_store hF hM rfl rfl rfl; (repeat (first | exact Upd.z | apply Upd.s)); exact rfl; exact rfl; exact rfl; clear hF hM a; intro w a hM hF)
            refine hK _ _ (fun _ => (hM.sm.sub (fun x hx => by repeat (first | exact hx | refine List.mem_cons_of_mem _ ?_)) (fun _ h => by repeat (first | exact h | refine List.mem_cons_of_mem _ ?_)))) ?_; clear hK
            refine t_one (i := 21) hF rfl (by kernel_rfl) rfl ?_
            intro K hK
            (refine e_mapEntryN (ek := Value.int .u64) (z := .slice none 0 0) (keyOk_int rfl) hF hM rfl rfl rfl trivial (fun _ _ => trivial) hb0 hcf4 rfl ?_; clear hF hM a; intro w a hM hF; rw [hka] at hM hF; dsimp only at hM hF)
            refine hK _ _ (fun _ => (hM.sm.sub (fun x hx => by repeat (first | exact hx | refine List.mem_cons_of_mem _ ?_)) (fun _ h => by repeat (first | exact h | refine List.mem_cons_of_mem _ ?_)))) ?_; clear hK
            (first | (refine t_pure (i := 22) hF rfl rfl rfl rfl (by kernel_rfl) (hM.sm.sub (fun x hx => by repeat (first | exact hx | refine List.mem_cons_of_mem _ ?_)) (fun _ h => by repeat (first | exact h | refine List.mem_cons_of_mem _ ?_))) (fun _ _ _ h => h) ?_ ?_; (first | exact trivial | omega | decide); clear hF a; intro a hF))
            refine t_one (i := 23) hF rfl (by kernel_rfl) rfl ?_
            intro K hK
            (refine e_entryStoreN (i := j) (x := o.1.d) hF hM rfl rfl rfl hie hb0 hcf4 ?_; clear hM; intro w hM)
            refine hK _ _ (fun h => by cases h) ?_; clear hK
            refine t_done (by kernel_rfl) ?_
            rw [hv1, hv2] at hM
            exact fin _ _ (hF.sub (by repeat (first | exact Sub.nil | refine Sub.cons rfl (by first | with_reducible rfl | (refine congrArg (Value.int _) ?_; omega) | exact rfl) ?_))) hM
          ·
            intro K hK
            (refine upon_value (e_lookupE (ek := Value.int .u64) (z := .slice none 0 0) (keyOk_int rfl) hF hM rfl (x := o.1.d) rfl rfl (by (repeat (first | exact List.mem_cons_self | refine List.mem_cons_of_mem _ ?_))) trivial (fun _ _ => trivial)) ?_; rw [hek2]; replace hF := hF.put (d := 53) rfl (.slice (some ade) (q + 1) ce); generalize a.put (some 53) _ = a at *)
            refine hK _ _ (fun _ => (hM.sm.sub (fun x hx => by repeat (first | exact hx | refine List.mem_cons_of_mem _ ?_)) (fun _ h => by repeat (first | exact h | refine List.mem_cons_of_mem _ ?_)))) ?_; clear hK
            (first | (refine t_pure (i := 17) hF rfl rfl rfl rfl (by kernel_rfl) (hM.sm.sub (fun x hx => by repeat (first | exact hx | refine List.mem_cons_of_mem _ ?_)) (fun _ h => by repeat (first | exact h | refine List.mem_cons_of_mem _ ?_))) (fun _ _ _ h => h) ?_ ?_; (first | exact trivial | omega | decide); clear hF a; intro a hF))
            refine t_one (i := 4) hF rfl (by kernel_rfl) rfl ?_
            intro K hK
            (first | (refine x_pure hF hM rfl rfl ?_ ?_; (first | exact trivial | omega | decide); clear hF a; intro a hF) | (apply x_load hF hM rfl; (repeat (first | exact List.mem_cons_self | refine List.mem_cons_of_mem _ ?_)); exact rfl; exact rfl; clear hF a; intro a hF))
            refine hK _ _ (fun _ => (hM.sm.sub (fun x hx => by repeat (first | exact hx | refine List.mem_cons_of_mem _ ?_)) (fun _ h => by repeat (first | exact h | refine List.mem_cons_of_mem _ ?_)))) ?_; clear hK
            (first | (refine t_pure (i := 18) hF rfl rfl rfl rfl (by kernel_rfl) (hM.sm.sub (fun x hx => by repeat (first | exact hx | refine List.mem_cons_of_mem _ ?_)) (fun _ h => by repeat (first | exact h | refine List.mem_cons_of_mem _ ?_))) (fun _ _ _ h => h) ?_ ?_; (first | exact trivial | omega | decide); clear hF a; intro a hF))
            (first | (refine t_pure (i := 19) hF rfl rfl rfl rfl (by kernel_rfl) (hM.sm.sub (fun x hx => by repeat (first | exact hx | refine List.mem_cons_of_mem _ ?_)) (fun _ h => by repeat (first | exact h | refine List.mem_cons_of_mem _ ?_))) (fun _ _ _ h => h) ?_ ?_; (first | exact trivial | omega | decide); clear hF a; intro a hF))
            refine t_one (i := 20) hF rfl (by kernel_rfl) rfl ?_
            intro K hK
            (apply x_store hF hM rfl rfl rfl; (repeat (first | exact Upd.z | apply Upd.s)); exact rfl; exact rfl; exact rfl; clear hF hM a; intro w a hM hF)
            refine hK _ _ (fun _ => (hM.sm.sub (fun x hx => by repeat (first | exact hx | refine List.mem_cons_of_mem _ ?_)) (fun _ h => by repeat (first | exact h | refine List.mem_cons_of_mem _ ?_)))) ?_; clear hK
            refine t_one (i := 21) hF rfl (by kernel_rfl) rfl ?_
            intro K hK
            (refine e_mapEntryN (ek := Value.int .u64) (z := .slice none 0 0) (keyOk_int rfl) hF hM rfl rfl rfl trivial (fun _ _ => trivial) hb0 hcf4 rfl ?_; clear hF hM a; intro w a hM hF; rw [hka] at hM hF; dsimp only at hM hF)
            refine hK _ _ (fun _ => (hM.sm.sub (fun x hx => by repeat (first | exact hx | refine List.mem_cons_of_mem _ ?_)) (fun _ h => by repeat (first | exact h | refine List.mem_cons_of_mem _ ?_)))) ?_; clear hK
            (first | (refine t_pure (i := 22) hF rfl rfl rfl rfl (by kernel_rfl) (hM.sm.sub (fun x hx => by repeat (first | exact hx | refine List.mem_cons_of_mem _ ?_)) (fun _ h => by repeat (first | exact h | refine List.mem_cons_of_mem _ ?_))) (fun _ _ _ h => h) ?_ ?_; (first | exact trivial | omega | decide); clear hF a; intro a hF))
            refine t_one (i := 23) hF rfl (by kernel_rfl) rfl ?_
            intro K hK
            (refine e_entryStoreN (i := j) (x := o.1.d) hF hM rfl rfl rfl hie hb0 hcf4 ?_; clear hM; intro w hM)
            refine hK _ _ (fun h => by cases h) ?_; clear hK
            refine t_done (by kernel_rfl) ?_
            rw [hv1, hv2] at hM
            exact fin _ _ (hF.sub (by repeat (first | exact Sub.nil | refine Sub.cons rfl (by first | with_reducible rfl | (refine congrArg (Value.int _) ?_; omega) | exact rfl) ?_))) hM
        ·
          intro K hK
          (refine upon_value (e_lookupE (ek := Value.int .u64) (z := .slice none 0 0) (keyOk_int rfl) hF hM rfl (x := o.1.d) rfl rfl (by (repeat (first | exact List.mem_cons_self | refine List.mem_cons_of_mem _ ?_))) trivial (fun _ _ => trivial)) ?_; rw [hek2]; replace hF := hF.put (d := 53) rfl (.slice (some ade) (q + 1) ce); generalize a.put (some 53) _ = a at *)
          refine hK _ _ (fun _ => (hM.sm.sub (fun x hx => by repeat (first | exact hx | refine List.mem_cons_of_mem _ ?_)) (fun _ h => by repeat (first | exact h | refine List.mem_cons_of_mem _ ?_)))) ?_; clear hK
          (first | (refine t_pure (i := 17) hF rfl rfl rfl rfl (by kernel_rfl) (hM.sm.sub (fun x hx => by repeat (first | exact hx | refine List.mem_cons_of_mem _ ?_)) (fun _ h => by repeat (first | exact h | refine List.mem_cons_of_mem _ ?_))) (fun _ _ _ h => h) ?_ ?_; (first | exact trivial | omega | decide); clear hF a; intro a hF))
          refine t_two (i := 4) (j := 9) hF rfl rfl (by kernel_rfl) rfl rfl ?_ ?_
          ·
            intro K hK
            (first | (refine x_pure hF hM rfl rfl ?_ ?_; (first | exact trivial | omega | decide); clear hF a; intro a hF) | (apply x_load hF hM rfl; (repeat (first | exact List.mem_cons_self | refine List.mem_cons_of_mem _ ?_)); exact rfl; exact rfl; clear hF a; intro a hF))
            refine hK _ _ (fun _ => (hM.sm.sub (fun x hx => by repeat (first | exact hx | refine List.mem_cons_of_mem _ ?_)) (fun _ h => by repeat (first | exact h | refine List.mem_cons_of_mem _ ?_)))) ?_; clear hK
            refine t_one (i := 9) hF rfl (by kernel_rfl) rfl ?_
            intro K hK
            (first | (refine x_pure hF hM rfl rfl ?_ ?_; (first | exact trivial | omega | decide); clear hF a; intro a hF) | (apply x_load hF hM rfl; (repeat (first | exact List.mem_cons_self | refine List.mem_cons_of_mem _ ?_)); exact rfl; exact rfl; clear hF a; intro a hF))
            refine hK _ _ (fun _ => (hM.sm.sub (fun x hx => by repeat (first | exact hx | refine List.mem_cons_of_mem _ ?_)) (fun _ h => by repeat (first | exact h | refine List.mem_cons_of_mem _ ?_)))) ?_; clear hK
            (first | (refine t_pure (i := 10) hF rfl rfl rfl rfl (by kernel_rfl) (hM.sm.sub (fun x hx => by repeat (first | exact hx | refine List.mem_cons_of_mem _ ?_)) (fun _ h => by repeat (first | exact h | refine List.mem_cons_of_mem _ ?_))) (fun _ _ _ h => h) ?_ ?_; (first | exact trivial | omega | decide); clear hF a; intro a hF))
            (first | (refine t_pure (i := 18) hF rfl rfl rfl rfl (by kernel_rfl) (hM.sm.sub (fun x hx => by repeat (first | exact hx | refine List.mem_cons_of_mem _ ?_)) (fun _ h => by repeat (first | exact h | refine List.mem_cons_of_mem _ ?_))) (fun _ _ _ h => h) ?_ ?_; (first | exact trivial | omega | decide); clear hF a; intro a hF))
            (first | (refine t_pure (i := 19) hF rfl rfl rfl rfl (by kernel_rfl) (hM.sm.sub (fun x hx => by repeat (first | exact hx | refine List.mem_cons_of_mem _ ?_)) (fun _ h => by repeat (first | exact h | refine List.mem_cons_of_mem _ ?_))) (fun _ _ _ h => h) ?_ ?_; (first | exact trivial | omega | decide); clear hF a; intro a hF))
            refine t_one (i := 20) hF rfl (by kernel_rfl) rfl ?_
            intro K hK
            (apply x_store hF hM rfl rfl rfl; (repeat (first | exact Upd.z | apply Upd.s)); exact rfl; exact rfl; exact rfl; clear hF hM a; intro w a hM hF)
            refine hK _ _ (fun _ => (hM.sm.sub (fun x hx => by repeat (first | exact hx | refine List.mem_cons_of_mem _ ?_)) (fun _ h => by repeat (first | exact h | refine List.mem_cons_of_mem _ ?_)))) ?_; clear hK
            refine t_one (i := 21) hF rfl (by kernel_rfl) rfl ?_
            intro K hK
            (refine e_mapEntryN (ek := Value.int .u64) (z := .slice none 0 0) (keyOk_int rfl) hF hM rfl rfl rfl trivial (fun _ _ => trivial) hb0 hcf4 rfl ?_; clear hF hM a; intro w a hM hF; rw [hka] at hM hF; dsimp only at hM hF)
            refine hK _ _ (fun _ => (hM.sm.sub (fun x hx => by repeat (first | exact hx | refine List.mem_cons_of_mem _ ?_)) (fun _ h => by repeat (first | exact h | refine List.mem_cons_of_mem _ ?_)))) ?_; clear hK
            (first | (refine t_pure (i := 22) hF rfl rfl rfl rfl (by kernel_rfl) (hM.sm.sub (fun x hx => by repeat (first | exact hx | refine List.mem_cons_of_mem _ ?_)) (fun _ h => by repeat (first | exact h | refine List.mem_cons_of_mem _ ?_))) (fun _ _ _ h => h) ?_ ?_; (first | exact trivial | omega | decide); clear hF a; intro a hF))
            refine t_one (i := 23) hF rfl (by kernel_rfl) rfl ?_
            intro K hK
            (refine e_entryStoreN (i := j) (x := o.1.d) hF hM rfl rfl rfl hie hb0 hcf4 ?_; clear hM; intro w hM)
            refine hK _ _ (fun h => by cases h) ?_; clear hK
            refine t_done (by kernel_rfl) ?_
            rw [hv1, hv2] at hM
            exact fin _ _ (hF.sub (by repeat (first | exact Sub.nil | refine Sub.cons rfl (by first | with_reducible rfl | (refine congrArg (Value.int _) ?_; omega) | exact rfl) ?_))) hM
          ·
            intro K hK
            (first | (refine x_pure hF hM rfl rfl ?_ ?_; (first | exact trivial | omega | decide); clear hF a; intro a hF) | (apply x_load hF hM rfl; (repeat (first | exact List.mem_cons_self | refine List.mem_cons_of_mem _ ?_)); exact rfl; exact rfl; clear hF a; intro a hF))
            refine hK _ _ (fun _ => (hM.sm.sub (fun x hx => by repeat (first | exact hx | refine List.mem_cons_of_mem _ ?_)) (fun _ h => by repeat (first | exact h | refine List.mem_cons_of_mem _ ?_)))) ?_; clear hK
            (first | (refine t_pure (i := 10) hF rfl rfl rfl rfl (by kernel_rfl) (hM.sm.sub (fun x hx => by repeat (first | exact hx | refine List.mem_cons_of_mem _ ?_)) (fun _ h => by repeat (first | exact h | refine List.mem_cons_of_mem _ ?_))) (fun _ _ _ h => h) ?_ ?_; (first | exact trivial | omega | decide); clear hF a; intro a hF))
            refine t_one (i := 4) hF rfl (by kernel_rfl) rfl ?_
            intro K hK
            (first | (refine x_pure hF hM rfl rfl ?_ ?_; (first | exact trivial | omega | decide); clear hF a; intro a hF) | (apply x_load hF hM rfl; (repeat (first | exact List.mem_cons_self | refine List.mem_cons_of_mem _ ?_)); exact rfl; exact rfl; clear hF a; intro a hF))
            refine hK _ _ (fun _ => (hM.sm.sub (fun x hx => by repeat (first | exact hx | refine List.mem_cons_of_mem _ ?_)) (fun _ h => by repeat (first | exact h | refine List.mem_cons_of_mem _ ?_)))) ?_; clear hK
            (first | (refine t_pure (i := 18) hF rfl rfl rfl rfl (by kernel_rfl) (hM.sm.sub (fun x hx => by repeat (first | exact hx | refine List.mem_cons_of_mem _ ?_)) (fun _ h => by repeat (first | exact h | refine List.mem_cons_of_mem _ ?_))) (fun _ _ _ h => h) ?_ ?_; (first | exact trivial | omega | decide); clear hF a; intro a hF))
            (first | (refine t_pure (i := 19) hF rfl rfl rfl rfl (by kernel_rfl) (hM.sm.sub (fun x hx => by repeat (first | exact hx | refine List.mem_cons_of_mem _ ?_)) (fun _ h => by repeat (first | exact h | refine List.mem_cons_of_mem _ ?_))) (fun _ _ _ h => h) ?_ ?_; (first | exact trivial | omega | decide); clear hF a; intro a hF))
            refine t_one (i := 20) hF rfl (by kernel_rfl) rfl ?_
            intro K hK
            (apply x_store hF hM rfl rfl rfl; (repeat (first | exact Upd.z | apply Upd.s)); exact rfl; exact rfl; exact rfl; clear hF hM a; intro w a hM hF)
            refine hK _ _ (fun _ => (hM.sm.sub (fun x hx => by repeat (first | exact hx | refine List.mem_cons_of_mem _ ?_)) (fun _ h => by repeat (first | exact h | refine List.mem_cons_of_mem _ ?_)))) ?_; clear hK
            refine t_one (i := 21) hF rfl (by kernel_rfl) rfl ?_
            intro K hK
            (refine e_mapEntryN (ek := Value.int .u64) (z := .slice none 0 0) (keyOk_int rfl) hF hM rfl rfl rfl trivial (fun _ _ => trivial) hb0 hcf4 rfl ?_; clear hF hM a; intro w a hM hF; rw [hka] at hM hF; dsimp only at hM hF)
            refine hK _ _ (fun _ => (hM.sm.sub (fun x hx => by repeat (first | exact hx | refine List.mem_cons_of_mem _ ?_)) (fun _ h => by repeat (first | exact h | refine List.mem_cons_of_mem _ ?_)))) ?_; clear hK
            (first | (refine t_pure (i := 22) hF rfl rfl rfl rfl (by kernel_rfl) (hM.sm.sub (fun x hx => by repeat (first | exact hx | refine List.mem_cons_of_mem _ ?_)) (fun _ h => by repeat (first | exact h | refine List.mem_cons_of_mem _ ?_))) (fun _ _ _ h => h) ?_ ?_; (first | exact trivial | omega | decide); clear hF a; intro a hF))
            refine t_one (i := 23) hF rfl (by kernel_rfl) rfl ?_
            intro K hK
            (refine e_entryStoreN (i := j) (x := o.1.d) hF hM rfl rfl rfl hie hb0 hcf4 ?_; clear hM; intro w hM)
            refine hK _ _ (fun h => by cases h) ?_; clear hK
            refine t_done (by kernel_rfl) ?_
            rw [hv1, hv2] at hM
            exact fin _ _ (hF.sub (by repeat (first | exact Sub.nil | refine Sub.cons rfl (by first | with_reducible rfl | (refine congrArg (Value.int _) ?_; omega) | exact rfl) ?_))) hM
    · (repeat' (first | (with_reducible refine q_then_n ?_) | (with_reducible refine w_skip ?_) | ((with_reducible apply c_dec hF); exact rfl; all_goals intro hc; all_goals (try (exfalso; omega)))))
      (apply f_ret Try.results37 hF hM; (repeat (first | exact RL.nil | (apply RL.tmp; exact rfl) | (apply RL.cell; exact rfl; (repeat (first | exact List.mem_cons_self | refine List.mem_cons_of_mem _ ?_)); exact rfl))); refine Both.mk ?_; try dsimp only [resV])
      refine ⟨its ++ [(⟨⟨dg x, x⟩, a2, c2⟩ : P)], E2, .slice (some adI) (its.length + 1) cI, eI2, ?_, ⟨by rw [List.length_append]; exact hI2, hE2, hT2, hDW2, hdg2⟩, hM.sub (.cons_cons _ (.cons _ (.refl _))) (.refl _) (fun _ h => h)⟩
      rw [hims]
      unfold addI
      rw [if_neg (by rw [hh]; simp), if_neg]
      rw [List.length_append, ims_len, List.length_singleton]
      omega
end
end Go.Proofs.Ytadfdpkhehdikaa


/- dedup: the store as a value. -/
namespace Go.Proofs.Ytadfdpkhehdikaa
open Go.RowKit Go.Shelf D29
namespace D29
/-- Items that are returned: new ones with the same digests and data. -/
def ItR (own : Nat → Prop) (l : List Itm) (a : Option Addr) (c : Nat) (w : World) : Prop := ∃ ps : List P, ims ps = l ∧ DatW ps ∧ Has own w (RdF id a (cellsP ps)) ∧ Has own w (DatF ps) ∧ l.length ≤ c
end D29
set_option maxRecDepth 20000 in
set_option maxHeartbeats 4000000 in
theorem chunks_c (sb mb : Nat) (cp : Int) (its : List P) (ai : Option Addr) (ci : Nat) (hlen : its.length ≤ 100000) (hDW : DatW its) (hch : ∀ p ∈ its, p.1.x.length ≤ 4096) (own : Nat → Prop) (W : World) (hl : ∀ b, own b → b < W.heap.size)
    (h1 : Has own W (BxF sb [.map (some mb), .int .i64 cp, .slice ai its.length ci] 91)) (h2 : Has own W (RdF id ai (cellsP its))) (h3 : Has own W (DatF its)) :
    Calls Try.prog 38 ⟨[.pointer (some ⟨sb, 0, none⟩)]⟩ W (Ret W fun v w' => ∃ a' c', v = .agg #[.int .i64 cp, .slice a' its.length c'] ∧ ItR own (ims its) a' c' w') := by
  have hM := ((((Mm.start hl).known h1).known h2).known h3).nilRow 102 2
  have hw := itC_len its
  refine f_start Try.func38 rfl Try.ntmps38 rfl rfl ?_; intro a hF
  (repeat (first | (with_reducible refine w_seq ?_) | (with_reducible refine c_region ?_) | (with_reducible refine s_nil ?_) | (with_reducible refine q_then_n ?_) | ((with_reducible apply s_pure hF); exact rfl; exact rfl; exact rfl; (first | exact trivial | omega | exact ⟨Int.natCast_nonneg _, Int.ofNat_lt.2 (by assumption)⟩ | decide); clear hF a; intro a hF) | ((with_reducible apply s_loadK hF hM); exact rfl; exact rfl; (repeat (first | exact List.mem_cons_self | refine List.mem_cons_of_mem _ ?_)); exact rfl; exact rfl; clear hF a; intro a hF) | ((with_reducible apply s_store hF hM); exact rfl; exact rfl; exact rfl; exact rfl; (repeat (first | exact Upd.z | apply Upd.s)); exact rfl; exact rfl; exact rfl; clear hM; intro w hM) | ((with_reducible apply s_alloc hF hM); exact rfl; exact rfl; exact rfl; clear hF hM a; intro b w a hM hF) | (with_reducible refine w_block ?_)))
  rename_i b2 _ _
  generalize b = b3 at *
  refine c_loop (m := its.length) (fun m a w' => ∃ (k : Nat) (rv : Value) (ps : List P), m + k = its.length ∧ ps.length = k ∧ ims ps = ims (its.take k) ∧ DatW ps ∧
    Fr 33 [] [(16, .int .i64 k), (15, .int .i64 its.length), (14, .slice ai its.length ci), (3, .pointer (some ⟨b3, 0, none⟩)), (2, .pointer (some ⟨b2, 0, none⟩))] a ∧
    Mm own W [⟨b3, ⟨[.int .i64 cp, rv]⟩, 29⟩, ⟨b2, ⟨[.int .i64 0, .slice none 0 0]⟩, 29⟩] [⟨102, 2, rv, k, cellsP ps⟩] [DatF ps, DatF its, RdF id ai (cellsP its)] w')
    ⟨0, _, [], by omega, rfl, rfl, fun p hp => by simp at hp, hF.sub (by repeat (first | exact Sub.nil | refine Sub.cons rfl (by first | with_reducible rfl | (refine congrArg (Value.int _) ?_; omega) | exact rfl) ?_)), (hM.addFact (f := DatF []) (Has.pure fun _ p hp => by simp at hp)).sub (.refl _) (.refl _) (fun f hf => by simp only [List.mem_cons] at hf ⊢; rcases hf with h | h | h | h <;> simp_all)⟩ ?_
  clear hF hM a
  rintro m a w' ⟨k, rv, ps, hm, hpl, hip, hpw, hF, hM⟩
  by_cases hk : k < its.length
  · obtain ⟨p, hp⟩ := get_of_lt hk
    have hpm := List.mem_of_getElem? hp
    obtain ⟨hp8, hpc, hpb⟩ := hDW p hpm
    have hp4 := hch p hpm
    have hpe : (its.map itC)[k]? = some [.int .u64 p.1.d, .slice p.2.1 p.1.x.length p.2.2] := by rw [List.getElem?_map, hp]; rfl
    obtain ⟨ad, rfl⟩ : ∃ ad, ai = some ad := rd_some hM (enc := id) (a := ai) (xs := cellsP its) (by (repeat (first | exact List.mem_cons_self | refine List.mem_cons_of_mem _ ?_))) (flat_get (q := 0) hw hpe rfl)
    have hki : ims (its.take (k + 1)) = ims (its.take k) ++ [p.1] := by
      rw [List.take_add_one, hp]
      simp [ims]
    unfold cellsP at hM
    (repeat' (first | (with_reducible refine w_seq ?_) | (with_reducible refine c_region ?_) | (with_reducible refine s_nil ?_) | ((with_reducible apply s_loadE hF hM); exact rfl; exact rfl; (repeat (first | exact List.mem_cons_self | refine List.mem_cons_of_mem _ ?_)); exact rfl; exact rfl; (first | with_reducible assumption | (simp only [Int.toNat_natCast]; with_reducible assumption)); (with_reducible assumption); clear hF a; intro a hF) | (with_reducible refine q_then_n ?_) | ((with_reducible apply s_pure hF); exact rfl; exact rfl; exact rfl; (first | exact trivial | omega | exact ⟨Int.natCast_nonneg _, Int.ofNat_lt.2 (by assumption)⟩ | decide); clear hF a; intro a hF) | ((with_reducible apply s_store hF hM); exact rfl; exact rfl; exact rfl; exact rfl; (repeat (first | exact Upd.z | apply Upd.s)); exact rfl; exact rfl; exact rfl; clear hM; intro w hM) | ((with_reducible apply s_alloc hF hM); exact rfl; exact rfl; exact rfl; clear hF hM a; intro b w a hM hF) | (with_reducible refine w_skip ?_) | (with_reducible refine w_block ?_) | ((with_reducible apply c_dec hF); exact rfl; all_goals intro hc; all_goals (try (exfalso; omega)))))
    refine c_draw (fun i => Nat.ble 11 i) hM ?_; clear hM; intro w hM
    (first | (refine t_pure (i := 0) hF rfl rfl rfl rfl (by kernel_rfl) hM.sm (fun _ _ _ h => h) ?_ ?_; (first | exact trivial | omega | decide); clear hF a; intro a hF))
    (first | (apply t_load (i := 1) hF rfl rfl rfl; (repeat (first | exact List.mem_cons_self | refine List.mem_cons_of_mem _ ?_)); exact rfl; exact rfl; kernel_rfl; exact hM.sm; exact (fun _ _ _ h => h); clear hF a; intro a hF))
    (first | (refine t_pure (i := 2) hF rfl rfl rfl rfl (by kernel_rfl) hM.sm (fun _ _ _ h => h) ?_ ?_; (first | exact trivial | omega | decide); clear hF a; intro a hF))
    (first | (apply t_load (i := 3) hF rfl rfl rfl; (repeat (first | exact List.mem_cons_self | refine List.mem_cons_of_mem _ ?_)); exact rfl; exact rfl; kernel_rfl; exact hM.sm; exact (fun _ _ _ h => h); clear hF a; intro a hF))
    (first | (refine t_pure (i := 4) hF rfl rfl rfl rfl (by kernel_rfl) hM.sm (fun _ _ _ h => h) ?_ ?_; (first | exact trivial | omega | decide); clear hF a; intro a hF))
    (first | (apply t_load (i := 5) hF rfl rfl rfl; (repeat (first | exact List.mem_cons_self | refine List.mem_cons_of_mem _ ?_)); exact rfl; exact rfl; kernel_rfl; exact hM.sm; exact (fun _ _ _ h => h); clear hF a; intro a hF))
    refine t_one (i := 6) hF rfl (by kernel_rfl) rfl ?_
    intro K hK
    (apply x_callO hF; exact rfl; exact rfl; exact rfl; exact rfl; exact (sclone_c p.1.x hp8 p.2.1 p.2.2 _ rfl (by omega) _ _ hM.lt (dat_one (hM.facts (DatF its) (by (repeat (first | exact List.mem_cons_self | refine List.mem_cons_of_mem _ ?_)))) hpm)); clear hF a; rintro v wn a ⟨a2, c2, rfl, hO⟩ hS hF; replace hM := hM.addRows hS hO; clear hS hO; dsimp only [List.cons_append, List.nil_append] at hM)
    (obtain ⟨ao', c', e0, hcc, -⟩ := OffR.shape hM (k := 0) rfl (OffR.plain hM List.mem_cons_self)); replace hM := hM.freezeN
    refine hK _ _ (fun _ => (hM.sm.sub (fun x hx => by repeat (first | exact hx | refine List.mem_cons_of_mem _ ?_)) (fun _ h => by repeat (first | exact h | refine List.mem_cons_of_mem _ ?_)))) ?_; clear hK
    (first | (refine t_pure (i := 7) hF rfl rfl rfl rfl (by kernel_rfl) (hM.sm.sub (fun x hx => by repeat (first | exact hx | refine List.mem_cons_of_mem _ ?_)) (fun _ h => by repeat (first | exact h | refine List.mem_cons_of_mem _ ?_))) (fun _ _ _ h => h) ?_ ?_; (first | exact trivial | omega | decide); clear hF a; intro a hF))
    refine t_one (i := 8) hF rfl (by kernel_rfl) rfl ?_
    intro K hK
    (refine x_lit hF hM rfl rfl rfl ?_; clear hF hM a; intro bl w a hM hF)
    refine hK _ _ (fun _ => (hM.sm.sub (fun x hx => by repeat (first | exact hx | refine List.mem_cons_of_mem _ ?_)) (fun _ h => by repeat (first | exact h | refine List.mem_cons_of_mem _ ?_)))) ?_; clear hK
    refine t_one (i := 9) hF rfl (by kernel_rfl) rfl ?_
    intro K hK
    (apply x_app hF hM rfl rfl rfl; (repeat (first | exact List.mem_cons_self | refine List.mem_cons_of_mem _ ?_)); (repeat (first | exact Kth.z | apply Kth.s)); exact rfl; exact rfl; exact rfl; exact rfl; omega; clear hF hM a; intro g cap w a hM hF; dsimp only [List.set] at hM)
    refine hK _ _ (fun _ => (hM.sm.sub (fun x hx => by repeat (first | exact hx | refine List.mem_cons_of_mem _ ?_)) (fun _ h => by repeat (first | exact h | refine List.mem_cons_of_mem _ ?_)))) ?_; clear hK
    (first | (refine t_pure (i := 10) hF rfl rfl rfl rfl (by kernel_rfl) (hM.sm.sub (fun x hx => by repeat (first | exact hx | refine List.mem_cons_of_mem _ ?_)) (fun _ h => by repeat (first | exact h | refine List.mem_cons_of_mem _ ?_))) (fun _ _ _ h => h) ?_ ?_; (first | exact trivial | omega | decide); clear hF a; intro a hF))
    refine t_one (i := 11) hF rfl (by kernel_rfl) rfl ?_
    intro K hK
    (apply x_store hF hM rfl rfl rfl; (repeat (first | exact Upd.z | apply Upd.s)); exact rfl; exact rfl; exact rfl; clear hF hM a; intro w a hM hF)
    refine hK _ _ (fun h => by cases h) ?_; clear hK
    refine t_done (by kernel_rfl) ?_
    (repeat' (first | (with_reducible refine c_region ?_) | (with_reducible refine s_nil ?_) | (with_reducible refine q_then_n ?_) | ((with_reducible apply s_pure hF); exact rfl; exact rfl; exact rfl; (first | exact trivial | omega | exact ⟨Int.natCast_nonneg _, Int.ofNat_lt.2 (by assumption)⟩ | decide); clear hF a; intro a hF) | (with_reducible refine q_blk_n ?_)))
    injection e0 with q1 q2 q3
    have hD := ((hM.facts (DatF ps) (by (repeat (first | exact List.mem_cons_self | refine List.mem_cons_of_mem _ ?_)))).and (hM.facts (RdF (Value.int .u8) a2 p.1.x.flatten) (by (repeat (first | exact List.mem_cons_self | refine List.mem_cons_of_mem _ ?_))))).imp (g := DatF (ps ++ [(p.1, a2, c2)])) fun w h q hq => by
      rcases List.mem_append.1 hq with hq | hq
      · exact h.1 q hq
      · rw [List.mem_singleton] at hq
        rw [hq]
        exact h.2
    refine ⟨m - 1, by omega, k + 1, .slice (some ⟨g, 0, none⟩) (k + 1) cap, ps ++ [(p.1, a2, c2)], by omega, by simp; omega, ?_, ?_, hF.sub (by repeat (first | exact Sub.nil | refine Sub.cons rfl (by first | with_reducible rfl | (refine congrArg (Value.int _) ?_; omega) | exact rfl) ?_)), ?_⟩
    · rw [hki, ← hip]
      simp [ims]
    · intro q hq
      rcases List.mem_append.1 hq with hq | hq
      · exact hpw q hq
      · rw [List.mem_singleton] at hq
        rw [hq]
        exact ⟨hp8, by show p.1.x.length ≤ c2; omega, hpb⟩
    · rw [cellsP_app]
      exact (hM.addFact hD).sub (.cons _ (.cons _ (.refl _))) (.refl _) (fun f hf => by simp only [List.mem_cons] at hf ⊢; rcases hf with h | h | h | h <;> simp_all [cellsP])
  · obtain rfl : k = its.length := by omega
    rw [List.take_length] at hip
    have hpl := OffR.plain hM List.mem_cons_self
    obtain ⟨a', c', rfl, hc', -⟩ := OffR.shape hM (k := 0) rfl hpl
    (repeat' (first | (with_reducible refine w_seq ?_) | (with_reducible refine c_region ?_) | (with_reducible refine s_nil ?_) | (with_reducible refine q_then_n ?_) | ((with_reducible apply s_pure hF); exact rfl; exact rfl; exact rfl; (first | exact trivial | omega | exact ⟨Int.natCast_nonneg _, Int.ofNat_lt.2 (by assumption)⟩ | decide); clear hF a; intro a hF) | ((with_reducible apply s_load hF hM); exact rfl; exact rfl; (repeat (first | exact List.mem_cons_self | refine List.mem_cons_of_mem _ ?_)); exact rfl; exact rfl; clear hF a; intro a hF) | ((with_reducible apply s_store hF hM); exact rfl; exact rfl; exact rfl; exact rfl; (repeat (first | exact Upd.z | apply Upd.s)); exact rfl; exact rfl; exact rfl; clear hM; intro w hM) | (with_reducible refine w_exit ?_) | (with_reducible refine w_ret ?_) | (with_reducible refine q_then_x ?_) | (with_reducible refine q_blk_x ?_) | ((with_reducible apply c_false2 hF); exact rfl; (first | with_reducible rfl | (refine congrArg Value.bool ?_; focus (simp; done))))))
    (apply f_ret Try.results38 hF hM; (repeat (first | exact RL.nil | (apply RL.tmp; exact rfl) | (apply RL.cell; exact rfl; (repeat (first | exact List.mem_cons_self | refine List.mem_cons_of_mem _ ?_)); exact rfl))); refine Ret.mk hM.since ?_; dsimp only [resV])
    exact ⟨a', c', rfl, ps, hip, hpw, OffR.fact (enc := id) hM (k := 0) rfl (by rw [List.map_id]; exact hpl), hM.factOut (by (repeat (first | exact List.mem_cons_self | refine List.mem_cons_of_mem _ ?_))), by rw [ims_len]; exact hc'⟩
end Go.Proofs.Ytadfdpkhehdikaa


/- dedup: a store is opened. -/
namespace Go.Proofs.Ytadfdpkhehdikaa
open Go.RowKit Go.Shelf D29
namespace D29
theorem chkL_step {pre r : List Itm} {i : Itm} (h1 : isCh i.x = true) (h2 : i.d = dg i.x) (h3 : hasD pre i.x = false) : chkL pre (i :: r) = chkL (pre ++ [i]) r := by
  rw [chkL, h1, if_neg (by simp), if_neg (by simp [h2]), h3]
  simp
theorem dat_push {own : Nat → Prop} {w0 w : World} {bs : List BoxE} {L : List Ent} {G : World → Prop} {Fs : List (World → Prop)} {a2 : Option Addr} {c2 n : Nat} {x : Dat} {its : List P} (hM : Mm own w0 bs (⟨83, 8, .slice a2 n c2, n, x.flatten.map (Value.int .u8)⟩ :: L) (G :: DatF its :: Fs) w) (p : P) (h1 : p.1.x = x) (h2 : p.2.1 = a2) : Mm own w0 bs L (G :: DatF (its ++ [p]) :: Fs) w ∧ n ≤ c2 := by
  obtain ⟨ao', c', e0, hcc, -⟩ := OffR.shape hM (k := 0) rfl (OffR.plain hM List.mem_cons_self)
  injection e0 with q1 q2 q3
  have hM2 := hM.freezeN
  have hD := ((hM2.facts (DatF its) (by simp)).and (hM2.facts (RdF (Value.int .u8) a2 x.flatten) List.mem_cons_self)).imp (g := DatF (its ++ [p])) fun w h q hq => by
    rcases List.mem_append.1 hq with hq | hq
    · exact h.1 q hq
    · rw [List.mem_singleton] at hq
      rw [hq, h1, h2]
      exact h.2
  exact ⟨(hM2.addFact hD).sub (.refl _) (.refl _) (fun f hf => by simp only [List.mem_cons] at hf ⊢; rcases hf with h | h | h <;> simp [h]), by omega⟩
end D29
section
variable (cp : Int) (ps : List P) (a0 : Option Addr) (c0 n : Nat) (hn : ps.length = n) (hlen : n ≤ 100000) (hDW : DatW ps) (hpx : ∀ p ∈ ps, p.1.x.length ≤ 100000) {own : Nat → Prop} {w0 W : World} {bs : List BoxE} {L1 : List Ent} {Fs : List (World → Prop)} (hcf : ∀ f ∈ Fs, ∀ b, Nb b f)
  (hM : Mm own w0 bs L1 (RdF id a0 (cellsP ps) :: DatF ps :: Fs) W)
include hn hlen hDW hpx hcf hM
set_option maxRecDepth 20000 in
set_option maxHeartbeats 4000000 in
theorem open_bad (he : cp < 1 ∨ 4096 < cp ∨ cp < n) : Calls Try.prog 31 ⟨[.agg #[.int .i64 cp, .slice a0 n c0]]⟩ W (Rtn fun v w' => v = .tuple #[.pointer none, .int .i64 (check ⟨cp, ims ps⟩)] ∧ Mm own w0 bs L1 (RdF id a0 (cellsP ps) :: DatF ps :: Fs) w') := by
  refine f_start Try.func31 rfl Try.ntmps31 rfl rfl ?_; intro a hF
  unfold check
  dsimp only
  rw [ims_len, hn]
  by_cases h1 : cp < 1 ∨ 4096 < cp
  · rw [if_pos h1]
    (repeat' (first | (with_reducible refine w_seq ?_) | (with_reducible refine c_region ?_) | (with_reducible refine s_nil ?_) | (with_reducible refine q_then_n ?_) | ((with_reducible apply s_pure hF); exact rfl; exact rfl; exact rfl; (first | exact trivial | omega | exact ⟨Int.natCast_nonneg _, Int.ofNat_lt.2 (by assumption)⟩ | decide); clear hF a; intro a hF) | ((with_reducible apply s_load hF hM); exact rfl; exact rfl; (repeat (first | exact List.mem_cons_self | refine List.mem_cons_of_mem _ ?_)); exact rfl; exact rfl; clear hF a; intro a hF) | ((with_reducible apply s_box hF hM); exact rfl; exact rfl; exact rfl; exact rfl; clear hF hM a; intro b w a hM hF) | (with_reducible refine w_block ?_) | (with_reducible refine w_ret ?_) | (with_reducible refine q_then_r ?_) | (with_reducible refine q_blk_r ?_) | ((with_reducible apply c_true2 hF); exact rfl; (first | with_reducible rfl | (refine congrArg Value.bool ?_; focus (simp; done)))) | ((with_reducible apply s_skip hF); exact rfl; exact rfl; clear hF a; intro a hF) | ((fail_if_success ((with_reducible refine g_known true hF ?_ ?_); focus exact rfl)); (fail_if_success ((with_reducible refine g_known false hF ?_ ?_); focus exact rfl)); (with_reducible apply g_dec hF); exact rfl; exact rfl; all_goals (clear hF; intro hc hF); all_goals (try (exfalso; omega))) | ((with_reducible apply c_dec hF); exact rfl; all_goals intro hc; all_goals (try (exfalso; omega)))))
    all_goals (apply f_ret Try.results31 hF hM; (repeat (first | exact RL.nil | (apply RL.tmp; exact rfl) | (apply RL.cell; exact rfl; (repeat (first | exact List.mem_cons_self | refine List.mem_cons_of_mem _ ?_)); exact rfl))); refine Both.mk ?_; try dsimp only [resV])
    all_goals exact ⟨rfl, hM.sub (.cons _ (.refl _)) (.refl _) (fun _ h => h)⟩
  · rw [if_neg h1, if_pos (by omega)]
    (repeat' (first | (with_reducible refine w_seq ?_) | (with_reducible refine c_region ?_) | (with_reducible refine s_nil ?_) | (with_reducible refine q_then_n ?_) | ((with_reducible apply s_pure hF); exact rfl; exact rfl; exact rfl; (first | exact trivial | omega | exact ⟨Int.natCast_nonneg _, Int.ofNat_lt.2 (by assumption)⟩ | decide); clear hF a; intro a hF) | ((with_reducible apply s_load hF hM); exact rfl; exact rfl; (repeat (first | exact List.mem_cons_self | refine List.mem_cons_of_mem _ ?_)); exact rfl; exact rfl; clear hF a; intro a hF) | ((with_reducible apply s_box hF hM); exact rfl; exact rfl; exact rfl; exact rfl; clear hF hM a; intro b w a hM hF) | (with_reducible refine w_block ?_) | (with_reducible refine w_ret ?_) | (with_reducible refine q_then_r ?_) | (with_reducible refine q_blk_r ?_) | ((fail_if_success ((with_reducible refine g_known true hF ?_ ?_); focus exact rfl)); (fail_if_success ((with_reducible refine g_known false hF ?_ ?_); focus exact rfl)); (with_reducible apply g_dec hF); exact rfl; exact rfl; all_goals (clear hF; intro hc hF); all_goals (try (exfalso; omega))) | ((with_reducible apply c_dec hF); exact rfl; all_goals intro hc; all_goals (try (exfalso; omega)))))
    all_goals (apply f_ret Try.results31 hF hM; (repeat (first | exact RL.nil | (apply RL.tmp; exact rfl) | (apply RL.cell; exact rfl; (repeat (first | exact List.mem_cons_self | refine List.mem_cons_of_mem _ ?_)); exact rfl))); refine Both.mk ?_; try dsimp only [resV])
    all_goals exact ⟨rfl, hM.sub (.cons _ (.refl _)) (.refl _) (fun _ h => h)⟩
set_option maxRecDepth 20000 in
set_option maxHeartbeats 8000000 in
theorem open_c (h1 : 1 ≤ cp ∧ cp ≤ 4096) (h2 : (n : Int) ≤ cp) : Calls Try.prog 31 ⟨[.agg #[.int .i64 cp, .slice a0 n c0]]⟩ W (Rtn fun v w' =>
    (chkL [] (ims ps) ≠ 0 ∧ v = .tuple #[.pointer none, .int .i64 (chkL [] (ims ps))] ∧ Mm own w0 bs L1 (RdF id a0 (cellsP ps) :: DatF ps :: Fs) w') ∨
    (chkL [] (ims ps) = 0 ∧ ∃ (sb mb : Nat) (its : List P) (iv : Value) (eI : Ent) (E : List TE), v = .tuple #[.pointer (some ⟨sb, 0, none⟩), .int .i64 0] ∧ ims its = ims ps ∧ StI its iv eI E ∧ w0.heap.size ≤ mb ∧
      Mm own w0 (stB sb mb cp iv :: bs) (eI :: (L1 ++ rowsT E)) (MpE (Value.int .u64) mb (esE E) :: DatF its :: RdF id a0 (cellsP ps) :: DatF ps :: Fs) w')) := by
  have hw := itC_len ps
  refine f_start Try.func31 rfl Try.ntmps31 rfl rfl ?_; intro a hF
  (repeat' (first | (with_reducible refine w_seq ?_) | (with_reducible refine c_region ?_) | (with_reducible refine s_nil ?_) | (with_reducible refine q_then_n ?_) | ((with_reducible apply s_pure hF); exact rfl; exact rfl; exact rfl; (first | exact trivial | omega | exact ⟨Int.natCast_nonneg _, Int.ofNat_lt.2 (by assumption)⟩ | decide); clear hF a; intro a hF) | ((with_reducible apply s_load hF hM); exact rfl; exact rfl; (repeat (first | exact List.mem_cons_self | refine List.mem_cons_of_mem _ ?_)); exact rfl; exact rfl; clear hF a; intro a hF) | ((with_reducible apply s_box hF hM); exact rfl; exact rfl; exact rfl; exact rfl; clear hF hM a; intro b w a hM hF) | (with_reducible refine w_skip ?_) | (with_reducible refine w_block ?_) | (with_reducible refine q_blk_n ?_) | ((fail_if_success ((with_reducible refine g_known true hF ?_ ?_); focus exact rfl)); (fail_if_success ((with_reducible refine g_known false hF ?_ ?_); focus exact rfl)); (with_reducible apply g_dec hF); exact rfl; exact rfl; all_goals (clear hF; intro hc hF); all_goals (try (exfalso; omega))) | ((with_reducible apply c_dec hF); exact rfl; all_goals intro hc; all_goals (try (exfalso; omega)))))
  refine s_makeMapE (α := Int) (ek := Value.int .u64) hF hM rfl rfl ?_
  clear hF hM a
  intro mb w a hmb hM hF
  generalize b = b1 at *
  (repeat (first | (with_reducible refine w_seq ?_) | (with_reducible refine c_region ?_) | (with_reducible refine s_nil ?_) | (with_reducible refine q_then_n ?_) | ((with_reducible apply s_pure hF); exact rfl; exact rfl; exact rfl; (first | exact trivial | omega | exact ⟨Int.natCast_nonneg _, Int.ofNat_lt.2 (by assumption)⟩ | decide); clear hF a; intro a hF) | ((with_reducible apply s_load hF hM); exact rfl; exact rfl; (repeat (first | exact List.mem_cons_self | refine List.mem_cons_of_mem _ ?_)); exact rfl; exact rfl; clear hF a; intro a hF) | ((with_reducible apply s_box hF hM); exact rfl; exact rfl; exact rfl; exact rfl; clear hF hM a; intro b w a hM hF) | (with_reducible refine w_block ?_)))
  generalize b = sb at *
  have hcfa : ∀ (l : List P), ∀ f ∈ DatF l :: RdF id a0 (cellsP ps) :: DatF ps :: Fs, Nb mb f := by
    intro l f hf
    simp only [List.mem_cons] at hf
    rcases hf with rfl | rfl | rfl | hf
    · exact Nb.dat
    · exact Nb.rd
    · exact Nb.dat
    · exact hcf f hf mb
  have eL : L1 ++ rowsT [] = L1 := by simp [rowsT]
  refine c_loop (m := n) (fun m a w' => ∃ (k : Nat) (its : List P) (iv : Value) (eI : Ent) (E : List TE), m + k = n ∧ its.length = k ∧ ims its = ims (ps.take k) ∧ StI its iv eI E ∧ chkL [] (ims ps) = chkL (ims its) (ims (ps.drop k)) ∧
    Fr 64 [] [(31, .int .i64 k), (30, .int .i64 n), (29, .slice a0 n c0), (4, .pointer (some ⟨sb, 0, none⟩))] a ∧
    Mm own w0 (stB sb mb cp iv :: ⟨b1, ⟨[.int .i64 cp, .slice a0 n c0]⟩, 29⟩ :: bs) (eI :: (L1 ++ rowsT E)) (MpE (Value.int .u64) mb (esE E) :: DatF its :: RdF id a0 (cellsP ps) :: DatF ps :: Fs) w')
    ⟨0, [], .slice none 0 0, ⟨102, 2, .slice none 0 0, 0, []⟩, [], by omega, rfl, rfl, ⟨OffR.nil, fun t ht => by simp at ht, tab_nil, fun p hp => by simp at hp, fun p hp => by simp at hp⟩, rfl, hF.sub (by repeat (first | exact Sub.nil | refine Sub.cons rfl (by first | with_reducible rfl | (refine congrArg (Value.int _) ?_; omega) | exact rfl) ?_)), by
      rw [eL]
      exact ((hM.nilRow 102 2).addFact (f := DatF []) (Has.pure fun _ p hp => by simp at hp)).sub (.refl _) (.refl _) (fun f hf => by simp only [List.mem_cons] at hf ⊢; rcases hf with h | h | h | h | h <;> simp_all [esE])⟩ ?_
  clear hF hM a
  rintro m a w' ⟨k, its, iv, eI, E, hm, hil, him, hS, hck, hF, hM⟩
  by_cases hk : k < n
  · obtain ⟨p, hp⟩ := get_of_lt (l := ps) (i := k) (by omega)
    have hpm := List.mem_of_getElem? hp
    obtain ⟨hp8, hpc, hpb⟩ := hDW p hpm
    have hp4 := hpx p hpm
    have hpe : (ps.map itC)[k]? = some [.int .u64 p.1.d, .slice p.2.1 p.1.x.length p.2.2] := by rw [List.getElem?_map, hp]; rfl
    obtain ⟨ad, rfl⟩ : ∃ ad, a0 = some ad := rd_some hM (enc := id) (a := a0) (xs := cellsP ps) (by (repeat (first | exact List.mem_cons_self | refine List.mem_cons_of_mem _ ?_))) (flat_get (q := 0) hw hpe rfl)
    have hdr : ims (ps.drop k) = p.1 :: ims (ps.drop (k + 1)) := by
      obtain ⟨hlt, e⟩ := List.getElem?_eq_some_iff.1 hp
      rw [List.drop_eq_getElem_cons hlt, e]
      rfl
    rw [hdr] at hck
    have hcp : cellsP ps = (ps.map itC).flatten := rfl
    rw [hcp] at hM
    (repeat' (first | (with_reducible refine w_seq ?_) | (with_reducible refine c_region ?_) | (with_reducible refine s_nil ?_) | ((with_reducible apply s_loadE hF hM); exact rfl; exact rfl; (repeat (first | exact List.mem_cons_self | refine List.mem_cons_of_mem _ ?_)); exact rfl; exact rfl; (first | with_reducible assumption | (simp only [Int.toNat_natCast]; with_reducible assumption)); (with_reducible assumption); clear hF a; intro a hF) | (with_reducible refine q_then_n ?_) | ((with_reducible apply s_pure hF); exact rfl; exact rfl; exact rfl; (first | exact trivial | omega | exact ⟨Int.natCast_nonneg _, Int.ofNat_lt.2 (by assumption)⟩ | decide); clear hF a; intro a hF) | ((with_reducible apply s_load hF hM); exact rfl; exact rfl; (repeat (first | exact List.mem_cons_self | refine List.mem_cons_of_mem _ ?_)); exact rfl; exact rfl; clear hF a; intro a hF) | ((with_reducible apply s_store hF hM); exact rfl; exact rfl; exact rfl; exact rfl; (repeat (first | exact Upd.z | apply Upd.s)); exact rfl; exact rfl; exact rfl; clear hM; intro w hM) | ((with_reducible apply s_alloc hF hM); exact rfl; exact rfl; exact rfl; clear hF hM a; intro b w a hM hF) | (with_reducible refine w_skip ?_) | (with_reducible refine w_block ?_) | ((with_reducible apply c_dec hF); exact rfl; all_goals intro hc; all_goals (try (exfalso; omega)))))
    generalize b = b6 at *
    (((with_reducible apply s_call (f := 48) hF hM); exact rfl; exact rfl; exact rfl; exact rfl; exact rfl; exact (isChunk_c p.1.x p.2.1 p.2.2 _ rfl _ _ hM.lt); clear hF hM a; rintro v w a rfl - hM hF))
    by_cases hch : isCh p.1.x = true
    case neg =>
      rw [Bool.not_eq_true] at hch
      rw [hch] at hF
      have he : chkL [] (ims ps) = 3 := by rw [hck, chkL, hch]; rfl
      (repeat' (first | (with_reducible refine w_seq ?_) | (with_reducible refine c_region ?_) | (with_reducible refine s_nil ?_) | (with_reducible refine q_then_n ?_) | ((with_reducible apply s_pure hF); exact rfl; exact rfl; exact rfl; (first | exact trivial | omega | exact ⟨Int.natCast_nonneg _, Int.ofNat_lt.2 (by assumption)⟩ | decide); clear hF a; intro a hF) | (with_reducible refine w_ret ?_) | (with_reducible refine q_then_r ?_) | (with_reducible refine q_blk_r ?_) | ((with_reducible apply c_true2 hF); exact rfl; (first | with_reducible rfl | (refine congrArg Value.bool ?_; focus (simp; done))))))
      (apply f_ret Try.results31 hF hM; (repeat (first | exact RL.nil | (apply RL.tmp; exact rfl) | (apply RL.cell; exact rfl; (repeat (first | exact List.mem_cons_self | refine List.mem_cons_of_mem _ ?_)); exact rfl))); refine Both.mk ?_; try dsimp only [resV])
      rw [he]
      exact .inl ⟨by decide, rfl, hM.sub (.cons _ (.cons _ (.cons _ (.refl _)))) (.cons _ (List.sublist_append_left _ _)) (fun f hf => List.mem_cons_of_mem _ (List.mem_cons_of_mem _ hf))⟩
    rw [hch] at hF
    (repeat' (first | (with_reducible refine w_seq ?_) | (with_reducible refine s_nil ?_) | (with_reducible refine q_then_n ?_) | ((with_reducible apply s_pure hF); exact rfl; exact rfl; exact rfl; (first | exact trivial | omega | exact ⟨Int.natCast_nonneg _, Int.ofNat_lt.2 (by assumption)⟩ | decide); clear hF a; intro a hF) | ((with_reducible apply c_false2 hF); exact rfl; (first | with_reducible rfl | (refine congrArg Value.bool ?_; focus (simp; done))))))
    refine c_draw (fun i => Nat.ble 7 i) hM ?_; clear hM; intro w hM
    (first | (refine t_pure (i := 0) hF rfl rfl rfl rfl (by kernel_rfl) hM.sm (fun _ _ _ h => h) ?_ ?_; (first | exact trivial | omega | decide); clear hF a; intro a hF))
    (first | (apply t_load (i := 1) hF rfl rfl rfl; (repeat (first | exact List.mem_cons_self | refine List.mem_cons_of_mem _ ?_)); exact rfl; exact rfl; kernel_rfl; exact hM.sm; exact (fun _ _ _ h => h); clear hF a; intro a hF))
    (first | (refine t_pure (i := 2) hF rfl rfl rfl rfl (by kernel_rfl) hM.sm (fun _ _ _ h => h) ?_ ?_; (first | exact trivial | omega | decide); clear hF a; intro a hF))
    (first | (apply t_load (i := 3) hF rfl rfl rfl; (repeat (first | exact List.mem_cons_self | refine List.mem_cons_of_mem _ ?_)); exact rfl; exact rfl; kernel_rfl; exact hM.sm; exact (fun _ _ _ h => h); clear hF a; intro a hF))
    refine t_one (i := 4) hF rfl (by kernel_rfl) rfl ?_
    intro K hK
    (apply x_call hF hM; exact rfl; exact rfl; exact rfl; exact rfl; exact (sectors_c p.1.x hp8 (by omega) p.2.1 p.2.2 _ rfl _ _ hM.lt (dat_one (hM.facts (DatF ps) (by (repeat (first | exact List.mem_cons_self | refine List.mem_cons_of_mem _ ?_)))) hpm)); clear hF hM a; rintro v w a rfl - hM hF)
    refine hK _ _ (fun _ => hM.sm) ?_; clear hK
    (first | (refine t_pure (i := 5) hF rfl rfl rfl rfl (by kernel_rfl) hM.sm (fun _ _ _ h => h) ?_ ?_; (first | exact trivial | omega | decide); clear hF a; intro a hF))
    (first | (refine t_pure (i := 6) hF rfl rfl rfl rfl (by kernel_rfl) hM.sm (fun _ _ _ h => h) ?_ ?_; (first | exact trivial | omega | decide); clear hF a; intro a hF))
    refine t_done (by kernel_rfl) ?_
    by_cases hdg : p.1.d = dg p.1.x
    case neg =>
      have he : chkL [] (ims ps) = 22 := by rw [hck, chkL, hch, if_neg (by simp), if_pos hdg]
      rw [decide_eq_true hdg] at hF
      (repeat' (first | (with_reducible refine w_seq ?_) | (with_reducible refine c_region ?_) | (with_reducible refine s_nil ?_) | (with_reducible refine q_then_n ?_) | ((with_reducible apply s_pure hF); exact rfl; exact rfl; exact rfl; (first | exact trivial | omega | exact ⟨Int.natCast_nonneg _, Int.ofNat_lt.2 (by assumption)⟩ | decide); clear hF a; intro a hF) | (with_reducible refine w_ret ?_) | (with_reducible refine q_then_r ?_) | (with_reducible refine q_blk_r ?_) | ((with_reducible apply c_true2 hF); exact rfl; (first | with_reducible rfl | (refine congrArg Value.bool ?_; focus (simp; done))))))
      (apply f_ret Try.results31 hF hM; (repeat (first | exact RL.nil | (apply RL.tmp; exact rfl) | (apply RL.cell; exact rfl; (repeat (first | exact List.mem_cons_self | refine List.mem_cons_of_mem _ ?_)); exact rfl))); refine Both.mk ?_; try dsimp only [resV])
      rw [he]
      exact .inl ⟨by decide, rfl, hM.sub (.cons _ (.cons _ (.cons _ (.refl _)))) (.cons _ (List.sublist_append_left _ _)) (fun f hf => List.mem_cons_of_mem _ (List.mem_cons_of_mem _ hf))⟩
    rw [decide_eq_false (fun h => h hdg)] at hF
    have hlk := look_sub hS.tab p.1.d
    have hlk2 : (lookE p.1.d E).length ≤ 100000 := by
      rw [hS.tab]
      exact Nat.le_trans (List.length_filter_le _ _) (by omega)
    have hhas := tab_has hS.tab hS.dg p.1.x
    rw [← hdg] at hhas
    (repeat' (first | (with_reducible refine w_seq ?_) | (with_reducible refine q_then_n ?_) | ((with_reducible apply c_false2 hF); exact rfl; (first | with_reducible rfl | (refine congrArg Value.bool ?_; focus (simp; done))))))
    refine c_draw (fun i => Nat.ble 7 i) hM ?_; clear hM; intro w hM
    (first | (refine t_pure (i := 0) hF rfl rfl rfl rfl (by kernel_rfl) hM.sm (fun _ _ _ h => h) ?_ ?_; (first | exact trivial | omega | decide); clear hF a; intro a hF))
    (first | (refine t_pure (i := 1) hF rfl rfl rfl rfl (by kernel_rfl) hM.sm (fun _ _ _ h => h) ?_ ?_; (first | exact trivial | omega | decide); clear hF a; intro a hF))
    (first | (refine t_pure (i := 2) hF rfl rfl rfl rfl (by kernel_rfl) hM.sm (fun _ _ _ h => h) ?_ ?_; (first | exact trivial | omega | decide); clear hF a; intro a hF))
    (first | (apply t_load (i := 3) hF rfl rfl rfl; (repeat (first | exact List.mem_cons_self | refine List.mem_cons_of_mem _ ?_)); exact rfl; exact rfl; kernel_rfl; exact hM.sm; exact (fun _ _ _ h => h); clear hF a; intro a hF))
    (first | (apply t_load (i := 4) hF rfl rfl rfl; (repeat (first | exact List.mem_cons_self | refine List.mem_cons_of_mem _ ?_)); exact rfl; exact rfl; kernel_rfl; exact hM.sm; exact (fun _ _ _ h => h); clear hF a; intro a hF))
    refine t_one (i := 5) hF rfl (by kernel_rfl) rfl ?_
    intro K hK
    (apply x_call hF hM; exact rfl; exact rfl; exact rfl; exact rfl; exact (has_c p E mb hp8 (by omega) (hS.dw.sub hlk) hlk2 own _ (fun b h => hM.lt b (.inl h)) (hM.factOut (by (repeat (first | with_reducible exact List.mem_cons_self | refine List.mem_cons_of_mem _ ?_)))) (tabR_of hM hS.tE) (dat_one (hM.factOut (f := DatF ps) (by (repeat (first | with_reducible exact List.mem_cons_self | refine List.mem_cons_of_mem _ ?_)))) hpm) (dat_sub (hM.factOut (f := DatF its) (by (repeat (first | with_reducible exact List.mem_cons_self | refine List.mem_cons_of_mem _ ?_)))) hlk)); clear hF hM a; rintro v w a rfl - hM hF)
    rw [← hhas] at hF
    refine hK _ _ (fun _ => (hM.sm.sub (fun x hx => by repeat (first | exact hx | refine List.mem_cons_of_mem _ ?_)) (fun _ h => by repeat (first | exact h | refine List.mem_cons_of_mem _ ?_)))) ?_; clear hK
    (first | (refine t_pure (i := 6) hF rfl rfl rfl rfl (by kernel_rfl) (hM.sm.sub (fun x hx => by repeat (first | exact hx | refine List.mem_cons_of_mem _ ?_)) (fun _ h => by repeat (first | exact h | refine List.mem_cons_of_mem _ ?_))) (fun _ _ _ h => h) ?_ ?_; (first | exact trivial | omega | decide); clear hF a; intro a hF))
    refine t_done (by kernel_rfl) ?_
    by_cases hh : hasD (ims its) p.1.x = true
    · have he : chkL [] (ims ps) = 8 := by rw [hck, chkL, hch, if_neg (by simp), if_neg (by simp [hdg]), if_pos hh]
      rw [hh] at hF
      (repeat' (first | (with_reducible refine w_seq ?_) | (with_reducible refine c_region ?_) | (with_reducible refine s_nil ?_) | (with_reducible refine q_then_n ?_) | ((with_reducible apply s_pure hF); exact rfl; exact rfl; exact rfl; (first | exact trivial | omega | exact ⟨Int.natCast_nonneg _, Int.ofNat_lt.2 (by assumption)⟩ | decide); clear hF a; intro a hF) | (with_reducible refine w_ret ?_) | (with_reducible refine q_then_r ?_) | (with_reducible refine q_blk_r ?_) | ((with_reducible apply c_true2 hF); exact rfl; (first | with_reducible rfl | (refine congrArg Value.bool ?_; focus (simp; done))))))
      (apply f_ret Try.results31 hF hM; (repeat (first | exact RL.nil | (apply RL.tmp; exact rfl) | (apply RL.cell; exact rfl; (repeat (first | exact List.mem_cons_self | refine List.mem_cons_of_mem _ ?_)); exact rfl))); refine Both.mk ?_; try dsimp only [resV])
      rw [he]
      exact .inl ⟨by decide, rfl, hM.sub (.cons _ (.cons _ (.cons _ (.refl _)))) (.cons _ (List.sublist_append_left _ _)) (fun f hf => List.mem_cons_of_mem _ (List.mem_cons_of_mem _ hf))⟩
    rw [Bool.not_eq_true] at hh
    rw [hh] at hF
    rw [chkL_step hch hdg hh] at hck
    (repeat' (first | (with_reducible refine q_then_n ?_) | (with_reducible refine w_skip ?_) | (with_reducible refine q_blk_n ?_) | ((with_reducible apply c_false2 hF); exact rfl; (first | with_reducible rfl | (refine congrArg Value.bool ?_; focus (simp; done))))))
    replace hM := hM.perm (List.Perm.swap _ _ _)
    refine c_drawF (fun i => Nat.ble 8 i) (fun x hx => List.mem_cons_of_mem _ (hx)) (fun f hf => List.mem_cons_of_mem _ (List.mem_cons_of_mem _ (hf))) hM ?_; clear hM; intro w hM
    (first | (refine t_pure (i := 0) hF rfl rfl rfl rfl (by kernel_rfl) (hM.sm.sub (fun x hx => by repeat (first | exact hx | refine List.mem_cons_of_mem _ ?_)) (fun _ h => by repeat (first | exact h | refine List.mem_cons_of_mem _ ?_))) (fun _ _ _ h => h) ?_ ?_; (first | exact trivial | omega | decide); clear hF a; intro a hF))
    (first | (refine t_pure (i := 1) hF rfl rfl rfl rfl (by kernel_rfl) (hM.sm.sub (fun x hx => by repeat (first | exact hx | refine List.mem_cons_of_mem _ ?_)) (fun _ h => by repeat (first | exact h | refine List.mem_cons_of_mem _ ?_))) (fun _ _ _ h => h) ?_ ?_; (first | exact trivial | omega | decide); clear hF a; intro a hF))
    (first | (apply t_load (i := 2) hF rfl rfl rfl; (repeat (first | exact List.mem_cons_self | refine List.mem_cons_of_mem _ ?_)); exact rfl; exact rfl; kernel_rfl; exact (hM.sm.sub (fun x hx => by repeat (first | exact hx | refine List.mem_cons_of_mem _ ?_)) (fun _ h => by repeat (first | exact h | refine List.mem_cons_of_mem _ ?_))); exact (fun _ _ _ h => h); clear hF a; intro a hF))
    (first | (refine t_pure (i := 3) hF rfl rfl rfl rfl (by kernel_rfl) (hM.sm.sub (fun x hx => by repeat (first | exact hx | refine List.mem_cons_of_mem _ ?_)) (fun _ h => by repeat (first | exact h | refine List.mem_cons_of_mem _ ?_))) (fun _ _ _ h => h) ?_ ?_; (first | exact trivial | omega | decide); clear hF a; intro a hF))
    (first | (apply t_load (i := 4) hF rfl rfl rfl; (repeat (first | exact List.mem_cons_self | refine List.mem_cons_of_mem _ ?_)); exact rfl; exact rfl; kernel_rfl; exact (hM.sm.sub (fun x hx => by repeat (first | exact hx | refine List.mem_cons_of_mem _ ?_)) (fun _ h => by repeat (first | exact h | refine List.mem_cons_of_mem _ ?_))); exact (fun _ _ _ h => h); clear hF a; intro a hF))
    refine t_one (i := 5) hF rfl (by kernel_rfl) rfl ?_
    intro K hK
    (apply x_callO hF; exact rfl; exact rfl; exact rfl; exact rfl; exact (sclone_c p.1.x hp8 p.2.1 p.2.2 _ rfl (by omega) _ _ hM.lt (dat_one (hM.facts (DatF ps) (by (repeat (first | exact List.mem_cons_self | refine List.mem_cons_of_mem _ ?_)))) hpm)); clear hF a; rintro v wn a ⟨a2, c2, rfl, hO⟩ hS hF; replace hM := hM.addRows hS hO; clear hS hO; dsimp only [List.cons_append, List.nil_append] at hM)
    obtain ⟨hM, hc2⟩ := dat_push hM (p.1, a2, c2) rfl rfl
    refine hK _ _ (fun _ => (hM.sm.sub (fun x hx => by repeat (first | exact hx | refine List.mem_cons_of_mem _ ?_)) (fun _ h => by repeat (first | exact h | refine List.mem_cons_of_mem _ ?_)))) ?_; clear hK
    (first | (refine t_pure (i := 6) hF rfl rfl rfl rfl (by kernel_rfl) (hM.sm.sub (fun x hx => by repeat (first | exact hx | refine List.mem_cons_of_mem _ ?_)) (fun _ h => by repeat (first | exact h | refine List.mem_cons_of_mem _ ?_))) (fun _ _ _ h => h) ?_ ?_; (first | exact trivial | omega | decide); clear hF a; intro a hF))
    refine t_one (i := 7) hF rfl (by kernel_rfl) rfl ?_
    intro K hK
    (apply x_callB (f := 75) hF; exact rfl; exact rfl; exact rfl; exact rfl; exact (put_c sb mb cp its iv eI E (p.1, a2, c2) (by omega) hS.row hS.tE hS.tab hmb (hcfa _) hM); (intro _ _ _ h; exact h.elim); clear hF hM a; rintro v w a ⟨E2, iv2, eI2, hE2, hT2, hI2, hM⟩ hF)
    refine hK _ _ (fun _ => (hM.sm.sub (fun x hx => by repeat (first | exact hx | refine List.mem_cons_of_mem _ ?_)) (fun _ h => by repeat (first | exact h | refine List.mem_cons_of_mem _ ?_)))) ?_; clear hK
    refine t_done (by kernel_rfl) ?_
    (repeat' (first | (with_reducible refine c_region ?_) | (with_reducible refine s_nil ?_) | (with_reducible refine q_then_n ?_) | ((with_reducible apply s_pure hF); exact rfl; exact rfl; exact rfl; (first | exact trivial | omega | exact ⟨Int.natCast_nonneg _, Int.ofNat_lt.2 (by assumption)⟩ | decide); clear hF a; intro a hF) | (with_reducible refine q_blk_n ?_)))
    refine ⟨m - 1, by omega, k + 1, its ++ [(p.1, a2, c2)], iv2, eI2, E2, by omega, by simp; omega, ?_, ⟨?_, hE2, hT2, ?_, ?_⟩, ?_, hF.sub (by repeat (first | exact Sub.nil | refine Sub.cons rfl (by first | with_reducible rfl | (refine congrArg (Value.int _) ?_; omega) | exact rfl) ?_)), hM.sub (.cons_cons _ (.cons _ (.refl _))) (.refl _) (fun _ h => h)⟩
    · rw [List.take_add_one, hp]
      simp only [ims, List.map_append] at him ⊢
      rw [him]
      rfl
    · rw [List.length_append]
      exact hI2
    · intro q hq
      rcases List.mem_append.1 hq with hq | hq
      · exact hS.dw q hq
      · rw [List.mem_singleton] at hq
        rw [hq]
        exact ⟨hp8, hc2, hpb⟩
    · intro q hq
      rcases List.mem_append.1 hq with hq | hq
      · exact hS.dg q hq
      · rw [List.mem_singleton] at hq
        rw [hq]
        exact hdg
    · rw [hck]
      simp [ims]
  · obtain rfl : k = n := by omega
    have hfin : chkL [] (ims ps) = 0 := by
      rw [hck, List.drop_of_length_le (by omega)]
      rfl
    rw [List.take_of_length_le (by omega)] at him
    (repeat' (first | (with_reducible refine w_seq ?_) | (with_reducible refine c_region ?_) | (with_reducible refine s_nil ?_) | (with_reducible refine q_then_n ?_) | ((with_reducible apply s_pure hF); exact rfl; exact rfl; exact rfl; (first | exact trivial | omega | exact ⟨Int.natCast_nonneg _, Int.ofNat_lt.2 (by assumption)⟩ | decide); clear hF a; intro a hF) | (with_reducible refine w_exit ?_) | (with_reducible refine w_ret ?_) | (with_reducible refine q_then_x ?_) | (with_reducible refine q_blk_x ?_) | ((with_reducible apply c_false2 hF); exact rfl; (first | with_reducible rfl | (refine congrArg Value.bool ?_; focus (simp; done))))))
    (apply f_ret Try.results31 hF hM; (repeat (first | exact RL.nil | (apply RL.tmp; exact rfl) | (apply RL.cell; exact rfl; (repeat (first | exact List.mem_cons_self | refine List.mem_cons_of_mem _ ?_)); exact rfl))); refine Both.mk ?_; try dsimp only [resV])
    exact .inr ⟨hfin, sb, mb, its, iv, eI, E, rfl, him, hS, hmb, hM.sub (.cons_cons _ (.cons _ (.refl _))) (.refl _) (fun _ h => h)⟩
end
end Go.Proofs.Ytadfdpkhehdikaa


/- dedup: Check, New, Find, Add. -/
namespace Go.Proofs.Ytadfdpkhehdikaa
open Go.RowKit Go.Shelf D29
set_option maxRecDepth 20000 in
set_option maxHeartbeats 2000000 in
theorem Check29_c (cp : Int) (ps : List P) (a0 : Option Addr) (c0 n : Nat) (hn : ps.length = n) (hlen : n ≤ 100000) (hDW : DatW ps) (hpx : ∀ p ∈ ps, p.1.x.length ≤ 100000) (own : Nat → Prop) (W : World) (hl : ∀ b, own b → b < W.heap.size) (h1 : Has own W (RdF id a0 (cellsP ps))) (h2 : Has own W (DatF ps)) :
    Calls Try.prog 30 ⟨[.agg #[.int .i64 cp, .slice a0 n c0]]⟩ W (Ret W fun v _ => v = .int .i64 (check ⟨cp, ims ps⟩)) := by
  have hM := ((Mm.start hl).known h2).known h1
  refine f_start Try.func30 rfl Try.ntmps30 rfl rfl ?_; intro a hF
  (repeat (first | (with_reducible refine w_seq ?_) | (with_reducible refine c_region ?_) | (with_reducible refine s_nil ?_) | (with_reducible refine q_then_n ?_) | ((with_reducible apply s_pure hF); exact rfl; exact rfl; exact rfl; (first | exact trivial | omega | exact ⟨Int.natCast_nonneg _, Int.ofNat_lt.2 (by assumption)⟩ | decide); clear hF a; intro a hF) | ((with_reducible apply s_load hF hM); exact rfl; exact rfl; (repeat (first | exact List.mem_cons_self | refine List.mem_cons_of_mem _ ?_)); exact rfl; exact rfl; clear hF a; intro a hF) | ((with_reducible apply s_box hF hM); exact rfl; exact rfl; exact rfl; exact rfl; clear hF hM a; intro b w a hM hF)))
  generalize b = b1 at *
  by_cases hb : cp < 1 ∨ 4096 < cp ∨ cp < n
  · (((with_reducible apply s_callM (f := 31) hF); exact rfl; exact rfl; exact rfl; exact rfl; exact rfl; exact (open_bad cp ps a0 c0 n hn hlen hDW hpx (by simp) hM hb); clear hF hM a; rintro v w a ⟨rfl, hM⟩ hF))
    (repeat (first | (with_reducible refine w_seq ?_) | (with_reducible refine c_region ?_) | (with_reducible refine s_nil ?_) | (with_reducible refine q_then_n ?_) | ((with_reducible apply s_pure hF); exact rfl; exact rfl; exact rfl; (first | exact trivial | omega | exact ⟨Int.natCast_nonneg _, Int.ofNat_lt.2 (by assumption)⟩ | decide); clear hF a; intro a hF) | (with_reducible refine w_ret ?_)))
    (apply f_ret Try.results30 hF hM; (repeat (first | exact RL.nil | (apply RL.tmp; exact rfl) | (apply RL.cell; exact rfl; (repeat (first | exact List.mem_cons_self | refine List.mem_cons_of_mem _ ?_)); exact rfl))); refine Ret.mk hM.since ?_; dsimp only [resV])
  · have hc : check ⟨cp, ims ps⟩ = chkL [] (ims ps) := by
      unfold check
      dsimp only
      rw [if_neg (by omega), ims_len, hn, if_neg (by omega)]
    rw [hc]
    (((with_reducible apply s_callM (f := 31) hF); exact rfl; exact rfl; exact rfl; exact rfl; exact rfl; exact (open_c cp ps a0 c0 n hn hlen hDW hpx (by simp) hM (by omega) (by omega)); clear hF hM a; rintro v w a (⟨h0, rfl, hM⟩ | ⟨h0, sb, mb, its, iv, eI, E, rfl, him, hS, hmb, hM⟩) hF))
    · (repeat (first | (with_reducible refine w_seq ?_) | (with_reducible refine c_region ?_) | (with_reducible refine s_nil ?_) | (with_reducible refine q_then_n ?_) | ((with_reducible apply s_pure hF); exact rfl; exact rfl; exact rfl; (first | exact trivial | omega | exact ⟨Int.natCast_nonneg _, Int.ofNat_lt.2 (by assumption)⟩ | decide); clear hF a; intro a hF) | (with_reducible refine w_ret ?_)))
      (apply f_ret Try.results30 hF hM; (repeat (first | exact RL.nil | (apply RL.tmp; exact rfl) | (apply RL.cell; exact rfl; (repeat (first | exact List.mem_cons_self | refine List.mem_cons_of_mem _ ?_)); exact rfl))); refine Ret.mk hM.since ?_; dsimp only [resV])
    · rw [h0]
      (repeat (first | (with_reducible refine w_seq ?_) | (with_reducible refine c_region ?_) | (with_reducible refine s_nil ?_) | (with_reducible refine q_then_n ?_) | ((with_reducible apply s_pure hF); exact rfl; exact rfl; exact rfl; (first | exact trivial | omega | exact ⟨Int.natCast_nonneg _, Int.ofNat_lt.2 (by assumption)⟩ | decide); clear hF a; intro a hF) | (with_reducible refine w_ret ?_)))
      (apply f_ret Try.results30 hF hM; (repeat (first | exact RL.nil | (apply RL.tmp; exact rfl) | (apply RL.cell; exact rfl; (repeat (first | exact List.mem_cons_self | refine List.mem_cons_of_mem _ ?_)); exact rfl))); refine Ret.mk hM.since ?_; dsimp only [resV])
theorem New29_c (cp : Int) (own : Nat → Prop) (W : World) (hl : ∀ b, own b → b < W.heap.size) :
    Calls Try.prog 7 ⟨[.int .i64 cp]⟩ W (Ret W fun v _ => v = .tuple #[.agg #[.int .i64 (if 1 ≤ cp ∧ cp ≤ 4096 then cp else 0), .slice none 0 0], .int .i64 (if 1 ≤ cp ∧ cp ≤ 4096 then 0 else 2)]) := by
  have hM := Mm.start hl
  have e1 := fun {own W} hl => Check29_c cp [] none 0 0 rfl (by omega) (fun p hp => by simp at hp) (fun p hp => by simp at hp) own W hl RdF.nil (Has.pure fun _ p hp => by simp at hp)
  by_cases h : 1 ≤ cp ∧ cp ≤ 4096
  · rw [if_pos h, if_pos h]
    rw [show check ⟨cp, ims []⟩ = 0 by unfold check; dsimp only; rw [if_neg (by omega), if_neg (by simp [ims]; omega)]; rfl] at e1
    refine f_start Try.func7 rfl Try.ntmps7 rfl rfl ?_; intro a hF
    (repeat' (first | (with_reducible refine w_seq ?_) | (with_reducible refine c_region ?_) | (with_reducible refine s_nil ?_) | ((with_reducible apply s_call (f := 30) hF hM); exact rfl; exact rfl; exact rfl; exact rfl; exact rfl; exact (e1 hM.lt); clear hF hM a; rintro v w a rfl - hM hF) | (with_reducible refine q_then_n ?_) | ((with_reducible apply s_pure hF); exact rfl; exact rfl; exact rfl; (first | exact trivial | omega | exact ⟨Int.natCast_nonneg _, Int.ofNat_lt.2 (by assumption)⟩ | decide); clear hF a; intro a hF) | ((with_reducible apply s_load hF hM); exact rfl; exact rfl; (repeat (first | exact List.mem_cons_self | refine List.mem_cons_of_mem _ ?_)); exact rfl; exact rfl; clear hF a; intro a hF) | ((with_reducible apply s_store hF hM); exact rfl; exact rfl; exact rfl; exact rfl; (repeat (first | exact Upd.z | apply Upd.s)); exact rfl; exact rfl; exact rfl; clear hM; intro w hM) | ((with_reducible apply s_alloc hF hM); exact rfl; exact rfl; exact rfl; clear hF hM a; intro b w a hM hF) | (with_reducible refine w_skip ?_) | (with_reducible refine w_ret ?_) | ((with_reducible apply c_false2 hF); exact rfl; (first | with_reducible rfl | (refine congrArg Value.bool ?_; focus (simp; done))))))
    (apply f_ret Try.results7 hF hM; (repeat (first | exact RL.nil | (apply RL.tmp; exact rfl) | (apply RL.cell; exact rfl; (repeat (first | exact List.mem_cons_self | refine List.mem_cons_of_mem _ ?_)); exact rfl))); refine Ret.mk hM.since ?_; dsimp only [resV])
  · rw [if_neg h, if_neg h]
    rw [show check ⟨cp, ims []⟩ = 2 by unfold check; dsimp only; rw [if_pos (by omega)]] at e1
    refine f_start Try.func7 rfl Try.ntmps7 rfl rfl ?_; intro a hF
    (repeat' (first | (with_reducible refine w_seq ?_) | (with_reducible refine c_region ?_) | (with_reducible refine s_nil ?_) | ((with_reducible apply s_call (f := 30) hF hM); exact rfl; exact rfl; exact rfl; exact rfl; exact rfl; exact (e1 hM.lt); clear hF hM a; rintro v w a rfl - hM hF) | (with_reducible refine q_then_n ?_) | ((with_reducible apply s_pure hF); exact rfl; exact rfl; exact rfl; (first | exact trivial | omega | exact ⟨Int.natCast_nonneg _, Int.ofNat_lt.2 (by assumption)⟩ | decide); clear hF a; intro a hF) | ((with_reducible apply s_load hF hM); exact rfl; exact rfl; (repeat (first | exact List.mem_cons_self | refine List.mem_cons_of_mem _ ?_)); exact rfl; exact rfl; clear hF a; intro a hF) | ((with_reducible apply s_store hF hM); exact rfl; exact rfl; exact rfl; exact rfl; (repeat (first | exact Upd.z | apply Upd.s)); exact rfl; exact rfl; exact rfl; clear hM; intro w hM) | ((with_reducible apply s_alloc hF hM); exact rfl; exact rfl; exact rfl; clear hF hM a; intro b w a hM hF) | (with_reducible refine w_ret ?_) | (with_reducible refine q_then_r ?_) | ((with_reducible apply c_true2 hF); exact rfl; (first | with_reducible rfl | (refine congrArg Value.bool ?_; focus (simp; done))))))
    (apply f_ret Try.results7 hF hM; (repeat (first | exact RL.nil | (apply RL.tmp; exact rfl) | (apply RL.cell; exact rfl; (repeat (first | exact List.mem_cons_self | refine List.mem_cons_of_mem _ ?_)); exact rfl))); refine Ret.mk hM.since ?_; dsimp only [resV])
end Go.Proofs.Ytadfdpkhehdikaa


/- dedup: Find, Add. -/
namespace Go.Proofs.Ytadfdpkhehdikaa
open Go.RowKit Go.Shelf D29
namespace D29
theorem chk_big {cp : Int} {l : List Itm} (h : ¬ (cp < 1 ∨ 4096 < cp ∨ cp < (l.length : Int))) : check ⟨cp, l⟩ = chkL [] l := by
  unfold check
  dsimp only
  rw [if_neg (by omega), if_neg (by omega)]
theorem chk_bad {cp : Int} {l : List Itm} (h : cp < 1 ∨ 4096 < cp ∨ cp < (l.length : Int)) : check ⟨cp, l⟩ ≠ 0 := by
  unfold check
  dsimp only
  split
  · decide
  · rw [if_pos (by omega)]
    decide
end D29
namespace D29
theorem OffR.freeze {α : Type} {enc : α → Value} {own : Nat → Prop} {w w0 : World} {bs : List BoxE} {L : List Ent} {Fs : List (World → Prop)} {e : TypeId} {size : Nat} {ao : Option Addr} {m c : Nat} {xs : List α} {E : Ent} (m0 : Mm own w0 bs (E :: L) Fs w) (h : OffR e size (.slice ao m c) m (xs.map enc) E) : Mm own w0 bs L (RdF enc ao xs :: Fs) w := by
  have hcell := fun ad => OffR.cells (k := 0) (ad := ad) m0 rfl h
  have m1 : Mm own w0 bs L Fs w := m0.sub (.refl _) (List.sublist_cons_self _ _) (fun _ h => h)
  obtain ⟨h1, h2, h3, h4⟩ := h
  rcases h4 with ⟨h, h0, _⟩ | ⟨ad', h, h0⟩ | ⟨g, off, cap, pre, h5, h6, h7, h8, h9⟩
  · rw [h0, Nat.zero_mul, List.length_map] at h3
    rw [List.eq_nil_of_length_eq_zero h3]
    exact m1.addFact RdF.nil
  · rw [h0, Nat.zero_mul, List.length_map] at h3
    rw [List.eq_nil_of_length_eq_zero h3]
    exact m1.addFact RdF.nil
  · injection h5 with h5
    subst h5
    have hob : E.v.ownBlock = some g := by rw [h7]; rfl
    have hown := m0.mem.own.lt List.mem_cons_self g hob
    refine m1.addFact (RdF.has ?_ ?_)
    · intro i x hx
      refine ⟨g, off * size, rfl, hown.2, ?_⟩
      have := hcell _ rfl i (enc x) (by rw [List.getElem?_map, hx]; rfl)
      rw [add_lit] at this
      exact this
    · intro ad e
      injection e with e
      subst e
      rintro (h | ⟨x, hx, hx2⟩ | ⟨y, hy, hy2⟩)
      · have h2 : g < w0.heap.size := m0.low _ h
        omega
      · exact m0.mem.far x hx _ List.mem_cons_self (by rw [hob, hx2])
      · have hp := m0.mem.own.apart
        rw [List.pairwise_cons] at hp
        rcases hp.1 y hy with h | h
        · rw [show E.v.ownBlock = none from h] at hob; cases hob
        · exact h (hob.trans hy2.symm)
theorem itR_mk {own : Nat → Prop} {w w0 : World} {bs : List BoxE} {L : List Ent} {Fs : List (World → Prop)} {l : List Itm} {a : Option Addr} {c : Nat} {ps : List P} (hM : Mm own w0 bs L Fs w) (h1 : ims ps = l) (h2 : DatW ps) (h3 : RdF id a (cellsP ps) ∈ Fs) (h4 : DatF ps ∈ Fs) (h5 : l.length ≤ c) : ItR own l a c w := ⟨ps, h1, h2, hM.factOut h3, hM.factOut h4, h5⟩
end D29
theorem chunksM_c (sb mb : Nat) (cp : Int) (its : List P) (iv : Value) (eI : Ent) (E : List TE) (hlen : its.length ≤ 100000) (hS : StI its iv eI E) (hch : ∀ p ∈ its, p.1.x.length ≤ 4096) {own : Nat → Prop} {w0 W : World} {bs : List BoxE} {L : List Ent} {Fs : List (World → Prop)}
    (hM : Mm own w0 (stB sb mb cp iv :: bs) (eI :: L) Fs W) (hd : DatF its ∈ Fs) :
    Calls Try.prog 38 ⟨[.pointer (some ⟨sb, 0, none⟩)]⟩ W (Rtn fun v w' => ∃ (a' : Option Addr) (c' : Nat) (ps : List P), v = .agg #[.int .i64 cp, .slice a' its.length c'] ∧ ims ps = ims its ∧ DatW ps ∧ its.length ≤ c' ∧
      Mm own w0 bs L (RdF id a' (cellsP ps) :: DatF ps :: Fs) w') := by
  obtain ⟨ai, ci, rfl, -, -⟩ := OffR.shape hM (k := 0) rfl hS.row
  have hM1 := OffR.freeze (enc := id) hM.freeze (by rw [List.map_id]; exact hS.row)
  have hM0 := hM1.sub (.refl _) (.refl _) (fun f (hf : f ∈ Fs) => by simp [hf])
  refine (chunks_c sb mb cp its ai ci hlen hS.dw hch (ownOf own bs L) W hM1.lt (hM1.facts _ (by simp)) (hM1.facts _ (by simp)) (hM1.facts _ (by simp [hd]))).mono ?_
  rintro en w' ⟨v, rfl, hs, a', c', rfl, ps, q1, q2, q3, q4, q5⟩
  refine ⟨a', c', ps, rfl, q1, q2, by rwa [ims_len] at q5, ?_⟩
  exact ((hM0.keep hs).addFact q4).addFact q3
end Go.Proofs.Ytadfdpkhehdikaa


/- slices.Chunk at sectors: the function that it returns calls yield with one part after another. -/
namespace Go.Proofs.Ytadfdpkhehdikaa
open Go.RowKit Go.Shelf D29
section
variable {n : Nat} {ds : List Deferred} {l : List (Nat × Value)} {a : Act} {w : World} {os rest : List Oper} {Q : Exit → Act → World → Prop} {d : Nat} {ty : TypeId} {pos : String} {af : Array Edge} {g : Option (Nat × Bool)}
/-- A part of a slice with a bound for its capacity. -/
theorem s_slice3 {t e : TypeId} {nn : Nat} {X LO HI MX : Operand} {a0 : Option Addr} {len cap : Nat} {k1 k2 k3 : IntKind} {lo hi mx : Int} (hF : Fr n ds l a) (hg : wantO os l g = some true) (hX : ev l X = some (.slice a0 len cap)) (h1 : ev l LO = some (.int k1 lo)) (h2 : ev l HI = some (.int k2 hi)) (h3 : ev l MX = some (.int k3 mx)) (ht : tyD t = some (.slice e)) (hs : tyS e = some nn) (hd : Nat.blt d n = true) (hb : 0 ≤ lo ∧ lo ≤ hi ∧ hi ≤ mx ∧ mx ≤ (cap : Int))
    (kk : ∀ a, Fr n ds ((d, .slice (sadr a0 lo.toNat mx.toNat nn) (hi.toNat - lo.toNat) (mx.toNat - lo.toNat)) :: l) a → wl ⟨os⟩ Q rest a w) : wl ⟨os⟩ Q (⟨some d, .slice t X (some LO) (some HI) (some MX), ty, pos, af, g⟩ :: rest) a w :=
  s_op hF hg fun _ hK => upon_value (v := .slice (sadr a0 lo.toNat mx.toNat nn) (hi.toNat - lo.toNat) (mx.toNat - lo.toNat)) (by
    obtain ⟨p1, p2, p3, p4⟩ := hb
    have e1 : lo ≤ max hi 0 := by omega
    have e2 : hi ≤ max mx 0 := by omega
    have e3 : 0 ≤ hi := by omega
    have e4 : 0 ≤ mx := by omega
    simp only [execOp, Option.map_some, hF.eval hX, hF.eval h1, hF.eval h2, hF.eval h3]
    simp [Instr.sliceAt, Instr.slice, Instr.sliceBounds, Instr.sliceBound, Sem.run_bind, tyD_run ht, tyS_run hs, Result.andThen, asIntOf, sadr, p1, p2, p3, p4, e1, e2, e3, e4]) (hK _ _ (kk _ (hF.put hd _)))
end
namespace D29
theorem flat_drop : ∀ {l : Dat} (_ : W8 l) (i : Nat), (l.drop i).flatten = l.flatten.drop (i * 8)
  | [], _, i => by simp
  | s :: l, h, 0 => by simp
  | s :: l, h, i + 1 => by
    have hs : s.length = 8 := h s (by simp)
    rw [List.drop_succ_cons, flat_drop (l := l) (fun y hy => h y (List.mem_cons_of_mem _ hy)) i, List.flatten_cons, List.drop_append, show s.drop ((i + 1) * 8) = [] from List.drop_eq_nil_of_le (by omega), List.nil_append, hs, show (i + 1) * 8 - 8 = i * 8 by omega]
/-- The value of a part. -/
def partV (a0 : Option Addr) (len p k : Nat) : Value := .slice (sadr a0 (k * p) (k * p + min p (len - k * p)) 8) (min p (len - k * p)) (min p (len - k * p))
theorem part_rd {own : Nat → Prop} {w : World} {a0 : Option Addr} {l : Dat} (hw : W8 l) (h : Has own w (RdF (Value.int .u8) a0 l.flatten)) (p k : Nat) : Has own w (RdF (Value.int .u8) (sadr a0 (k * p) (k * p + min p (l.length - k * p)) 8) (part p l k).flatten) := by
  by_cases hq : k * p = k * p + min p (l.length - k * p)
  · have : (part p l k).length = 0 := by rw [part_len]; omega
    rw [List.eq_nil_of_length_eq_zero this]
    exact RdF.nil
  refine h.imp fun w h j x hx => ?_
  have hx2 : (l.drop (k * p)).flatten[j]? = some x := by
    rw [← List.take_append_drop p (l.drop (k * p)), List.flatten_append]
    exact (List.getElem?_append_left (List.getElem?_eq_some_iff.1 hx).1).trans hx
  rw [flat_drop hw, List.getElem?_drop] at hx2
  obtain ⟨b, off, rfl, hb, hc2⟩ := h (k * p * 8 + j) x hx2
  refine ⟨b, off + k * p * 8, ?_, hb, ?_⟩
  · unfold sadr
    rw [if_neg (by omega)]
    simp [add_lit]
  · rw [Nat.add_assoc]
    exact hc2
/-- What a round keeps for the sequence of parts. -/
def Kc (W0 A B : World) : Prop := Below W0.heap.size A B ∧ KT W0.heap.size 3 A B ∧ KT W0.heap.size 33 A B
theorem Kc.refl {W0 A : World} : Kc W0 A A := ⟨Below.refl _ _, KT.refl _ _ _, KT.refl _ _ _⟩
theorem Kc.trans {W0 A B C : World} (h : Kc W0 A B) (k : Kc W0 B C) : Kc W0 A C := ⟨h.1.trans k.1, h.2.1.trans k.2.1, h.2.2.trans k.2.2⟩
end D29
theorem Chunk29_c (a0 : Option Addr) (n c0 p : Nat) (hp : 1 ≤ p) (B : Nat) (own : Nat → Prop) (W : World) (hl : ∀ b, own b → b < W.heap.size) (hB : B ≤ W.heap.size) :
    Calls Try.prog 32 ⟨[.slice a0 n c0, .int .i64 p]⟩ W (Ret W fun v w' => ∃ b1 b2, B ≤ b1 ∧ B ≤ b2 ∧ v = .func (.func 76) #[] #[.pointer (some ⟨b1, 0, none⟩), .pointer (some ⟨b2, 0, none⟩)] ∧ Box w' b1 ⟨[.slice a0 n c0]⟩ 33 ∧ Box w' b2 ⟨[.int .i64 p]⟩ 3) := by
  have hM := Mm.start hl
  refine f_start Try.func32 rfl Try.ntmps32 rfl rfl ?_; intro a hF
  (repeat' (first | (with_reducible refine w_seq ?_) | (with_reducible refine c_region ?_) | (with_reducible refine s_nil ?_) | (with_reducible refine q_then_n ?_) | ((with_reducible apply s_pure hF); exact rfl; exact rfl; exact rfl; (first | exact trivial | omega | exact ⟨Int.natCast_nonneg _, Int.ofNat_lt.2 (by assumption)⟩ | decide); clear hF a; intro a hF) | ((with_reducible apply s_load hF hM); exact rfl; exact rfl; (repeat (first | exact List.mem_cons_self | refine List.mem_cons_of_mem _ ?_)); exact rfl; exact rfl; clear hF a; intro a hF) | ((with_reducible apply s_box hF hM); exact rfl; exact rfl; exact rfl; exact rfl; clear hF hM a; intro b w a hM hF) | (with_reducible refine w_skip ?_) | (with_reducible refine w_ret ?_) | ((with_reducible apply c_dec hF); exact rfl; all_goals intro hc; all_goals (try (exfalso; omega)))))
  (apply f_ret Try.results32 hF hM; (repeat (first | exact RL.nil | (apply RL.tmp; exact rfl) | (apply RL.cell; exact rfl; (repeat (first | exact List.mem_cons_self | refine List.mem_cons_of_mem _ ?_)); exact rfl))); refine Ret.mk hM.since ?_; dsimp only [resV])
  exact ⟨_, _, Nat.le_trans hB (hM.mem.new _ (List.mem_cons_of_mem _ List.mem_cons_self)), Nat.le_trans hB (hM.mem.new _ List.mem_cons_self), rfl, hM.bx (List.mem_cons_of_mem _ List.mem_cons_self), hM.bx List.mem_cons_self⟩
set_option maxRecDepth 20000 in
set_option maxHeartbeats 1000000 in
theorem parts_stops (l : Dat) (hlen : l.length ≤ 100000) (p : Nat) (hp : 1 ≤ p ∧ p ≤ 4096) (a0 : Option Addr) (c0 b1 b2 : Nat) (hc0 : l.length ≤ c0) (W0 w : World) (hs : Since W0 w) (h1 : W0.heap.size ≤ b1) (h2 : W0.heap.size ≤ b2) (hb1 : Box w b1 ⟨[.slice a0 l.length c0]⟩ 33) (hb2 : Box w b2 ⟨[.int .i64 p]⟩ 3) :
    SeqStopsK Fence.wide 8 Try.prog 76 #[.pointer (some ⟨b1, 0, none⟩), .pointer (some ⟨b2, 0, none⟩)] (fun k : Nat => #[partV a0 l.length p k]) (Kc W0) (fun ys => ys = List.range ((l.length + p - 1) / p)) (fun pre => ∃ k, pre = List.range k) ((l.length + p - 1) / p) w := by
  intro lp J Jx W hW hJ hJx hY h0
  refine callsIn_wide.2 ?_
  show Calls Try.prog _ ⟨[.func (.yield lp) #[] #[], .pointer (some ⟨b1, 0, none⟩), .pointer (some ⟨b2, 0, none⟩)]⟩ W _
  have hM : Mm (fun _ => False) W [] [] [] W := Mm.start (fun _ h => h.elim)
  refine f_start Try.func76 rfl Try.ntmps76 rfl rfl ?_; intro a hF
  (repeat' (first | (with_reducible refine w_seq ?_) | (with_reducible refine c_region ?_) | (with_reducible refine s_nil ?_) | (with_reducible refine q_then_n ?_) | ((with_reducible apply s_pure hF); exact rfl; exact rfl; exact rfl; (first | exact trivial | omega | exact ⟨Int.natCast_nonneg _, Int.ofNat_lt.2 (by assumption)⟩ | decide); clear hF a; intro a hF) | (with_reducible refine w_block ?_)))
  have hsW : Since W0 W := hs.trans hW
  refine c_loop (m := (l.length + p - 1) / p) (fun m a w' => ∃ (k : Nat), m + k = (l.length + p - 1) / p ∧ J (List.range k) w' ∧ Since W0 w' ∧ Box w' b1 ⟨[.slice a0 l.length c0]⟩ 33 ∧ Box w' b2 ⟨[.int .i64 p]⟩ 3 ∧
    Fr 31 [] [(4, .int .i64 (k * p : Nat)), (0, .func (.yield lp) #[] #[]), (1, .pointer (some ⟨b1, 0, none⟩)), (2, .pointer (some ⟨b2, 0, none⟩))] a) ⟨0, by omega, h0, hsW, hb1.of_block (hW.block _ hb1.lt), hb2.of_block (hW.block _ hb2.lt), hF.sub (by repeat (first | exact Sub.nil | refine Sub.cons rfl (by first | with_reducible rfl | (refine congrArg (Value.int _) ?_; omega) | (exact (by rw [Nat.zero_mul]; rfl)) | exact rfl) ?_))⟩ ?_
  clear hF hM a
  rintro m a w' ⟨k, hm, hJp, hsp, hp1, hp2, hF⟩
  have hM : Mm (fun _ => False) w' [] [] [BxF b1 [.slice a0 l.length c0] 33, BxF b2 [.int .i64 p] 3] w' :=
    ((Mm.start (fun _ h => h.elim)).known (BxF.has hp2)).known (BxF.has hp1)
  have hlt2 := parts_lt (l := l) hp.1 (k := k)
  have hsucc : (k + 1) * p = k * p + p := Nat.succ_mul _ _
  have hpv : partV a0 l.length p k = .slice (sadr a0 (k * p) (k * p + min p (l.length - k * p)) 8) (min p (l.length - k * p)) (min p (l.length - k * p)) := rfl
  by_cases hlt : k < (l.length + p - 1) / p
  · have hql := hlt2.1 hlt
    have hYk := hY (List.range k) k
    dsimp only at hYk
    rw [hpv] at hYk
    obtain ⟨q, hq⟩ : ∃ q, k * p = q := ⟨_, rfl⟩
    rw [hq] at hF hql hYk hsucc
    obtain ⟨e, he⟩ : ∃ e, min p (l.length - q) = e := ⟨_, rfl⟩
    rw [he] at hYk
    have hmin : min (p : Int) ((l.length - q : Nat) : Int) = (e : Int) := by omega
    have heq : q + e ≤ l.length := by omega
    with_reducible refine w_seq ?_
    refine c_cut (fun a' w1 => w1 = w' ∧ Fr 31 [] [(4, .int .i64 q), (0, .func (.yield lp) #[] #[]), (1, .pointer (some ⟨b1, 0, none⟩)), (2, .pointer (some ⟨b2, 0, none⟩))] a') ?_ ?_
    · (repeat' (first | (with_reducible refine w_seq ?_) | (with_reducible refine c_region ?_) | (with_reducible refine s_nil ?_) | (with_reducible refine q_then_n ?_) | ((with_reducible apply s_pure hF); exact rfl; exact rfl; exact rfl; (first | exact trivial | omega | exact ⟨Int.natCast_nonneg _, Int.ofNat_lt.2 (by assumption)⟩ | decide); clear hF a; intro a hF) | ((with_reducible apply s_loadK hF hM); exact rfl; exact rfl; (repeat (first | exact List.mem_cons_self | refine List.mem_cons_of_mem _ ?_)); exact rfl; exact rfl; clear hF a; intro a hF) | (with_reducible refine w_skip ?_) | ((with_reducible apply c_dec hF); exact rfl; all_goals intro hc; all_goals (try (exfalso; omega)))))
      exact q_cut ⟨rfl, hF.sub (by repeat (first | exact Sub.nil | refine Sub.cons rfl (by first | with_reducible rfl | (refine congrArg (Value.int _) ?_; omega) | exact rfl) ?_))⟩
    clear hF a
    rintro a w1 ⟨rfl, hF⟩
    (repeat (first | (with_reducible refine w_seq ?_) | (with_reducible refine w_block ?_)))
    have hmin3 : min (p : Int) (((l.length : Int).toNat - (q : Int).toNat : Nat) : Int) = (e : Int) := by omega
    refine c_cut (fun a' w2 => Fr 31 [] [(5, .int .i64 e), (4, .int .i64 q), (0, .func (.yield lp) #[] #[]), (1, .pointer (some ⟨b1, 0, none⟩)), (2, .pointer (some ⟨b2, 0, none⟩))] a' ∧
      Mm (fun _ => False) w1 [] [] [BxF b1 [.slice a0 l.length c0] 33, BxF b2 [.int .i64 p] 3] w2) ?_ ?_
    · refine c_draw (fun i => Nat.ble 7 i) hM ?_; clear hM; intro w hM
      (first | (apply t_loadK (i := 0) hF rfl rfl rfl; (repeat (first | exact List.mem_cons_self | refine List.mem_cons_of_mem _ ?_)); exact rfl; exact rfl; kernel_rfl; exact hM.sm; exact (fun _ _ _ h => h); clear hF a; intro a hF))
      (first | (apply t_loadK (i := 1) hF rfl rfl rfl; (repeat (first | exact List.mem_cons_self | refine List.mem_cons_of_mem _ ?_)); exact rfl; exact rfl; kernel_rfl; exact hM.sm; exact (fun _ _ _ h => h); clear hF a; intro a hF))
      (first | (refine t_pure (i := 2) hF rfl rfl rfl rfl (by kernel_rfl) hM.sm (fun _ _ _ h => h) ?_ ?_; (first | exact trivial | omega | decide); clear hF a; intro a hF))
      (first | (refine t_pure (i := 3) hF rfl rfl rfl rfl (by kernel_rfl) hM.sm (fun _ _ _ h => h) ?_ ?_; (first | exact trivial | omega | decide); clear hF a; intro a hF))
      (first | (refine t_pure (i := 4) hF rfl rfl rfl rfl (by kernel_rfl) hM.sm (fun _ _ _ h => h) ?_ ?_; (first | exact trivial | omega | decide); clear hF a; intro a hF))
      (first | (refine t_pure (i := 5) hF rfl rfl rfl rfl (by kernel_rfl) hM.sm (fun _ _ _ h => h) ?_ ?_; (first | exact trivial | omega | decide); clear hF a; intro a hF))
      (first | (refine t_pure (i := 6) hF rfl rfl rfl rfl (by kernel_rfl) hM.sm (fun _ _ _ h => h) ?_ ?_; (first | exact trivial | omega | decide); clear hF a; intro a hF))
      refine t_done (by kernel_rfl) ?_
      (repeat (first | fail))
      rw [hmin3] at hF
      exact q_cut ⟨hF.sub (by repeat (first | exact Sub.nil | refine Sub.cons rfl (by first | with_reducible rfl | (refine congrArg (Value.int _) ?_; omega) | exact rfl) ?_)), hM⟩
    clear hF hM a
    rintro a w ⟨hF, hM⟩
    have hJ2 : J (List.range k) w := hJ _ w1 w none hJp hM.since.grows (fun r e => by cases e)
    have hs2 : Since W0 w := hsp.trans hM.since
    have hBa : Box w b1 _ _ := hM.fact (f := BxF b1 [.slice a0 l.length c0] 33) (by (repeat (first | exact List.mem_cons_self | refine List.mem_cons_of_mem _ ?_)))
    have hBb : Box w b2 _ _ := hM.fact (f := BxF b2 [.int .i64 p] 3) (by (repeat (first | exact List.mem_cons_self | refine List.mem_cons_of_mem _ ?_)))
    with_reducible refine w_seq ?_
    apply c_yield (n := 31) (ds := []) 10 7
    · exact rfl
    · exact rfl
    show wl _ _ [_, _, _, _, _, _, _, _, _, _] _ _
    (repeat (first | (with_reducible refine s_nil ?_) | ((with_reducible apply s_slice3 hF); exact rfl; exact rfl; exact rfl; exact rfl; exact rfl; exact rfl; exact rfl; exact rfl; omega; clear hF a; intro a hF) | (with_reducible refine q_then_n ?_) | ((with_reducible apply s_pure hF); exact rfl; exact rfl; exact rfl; (first | exact trivial | omega | exact ⟨Int.natCast_nonneg _, Int.ofNat_lt.2 (by assumption)⟩ | decide); clear hF a; intro a hF) | ((with_reducible apply s_loadK hF hM); exact rfl; exact rfl; (repeat (first | exact List.mem_cons_self | refine List.mem_cons_of_mem _ ?_)); exact rfl; exact rfl; clear hF a; intro a hF)))
    rw [show ((q : Int) + (e : Int)).toNat - (q : Int).toNat = e by omega, show ((q : Int) + (e : Int)).toNat = q + e by omega, Int.toNat_natCast] at hF
    refine ⟨_, [.slice (sadr a0 q (q + e) 8) e e], lp, _, hF, rfl, rfl, hYk w hJ2 (by rw [List.length_range]; exact hlt), ?_⟩
    rintro r w3 (⟨rfl, hJ3, k1, k2, k3⟩ | ⟨rfl, hJx3⟩)
    · refine ⟨_, rfl, fun a hF => ?_⟩
      have hp3 : Box w3 b1 _ _ := k3 b1 _ h1 hBa
      have hp4 : Box w3 b2 _ _ := k2 b2 _ h2 hBb
      have hs3 : Since W0 w3 := since_below hs2 k1
      clear hM
      have hM : Mm (fun _ => False) w3 [] [] [BxF b1 [.slice a0 l.length c0] 33, BxF b2 [.int .i64 p] 3] w3 :=
        ((Mm.start (fun _ h => h.elim)).known (BxF.has hp4)).known (BxF.has hp3)
      (repeat' (first | (with_reducible refine c_region ?_) | (with_reducible refine s_nil ?_) | (with_reducible refine q_then_n ?_) | ((with_reducible apply s_pure hF); exact rfl; exact rfl; exact rfl; (first | exact trivial | omega | exact ⟨Int.natCast_nonneg _, Int.ofNat_lt.2 (by assumption)⟩ | decide); clear hF a; intro a hF) | ((with_reducible apply s_loadK hF hM); exact rfl; exact rfl; (repeat (first | exact List.mem_cons_self | refine List.mem_cons_of_mem _ ?_)); exact rfl; exact rfl; clear hF a; intro a hF) | (with_reducible refine w_skip ?_) | (with_reducible refine q_blk_n ?_) | ((with_reducible apply c_false2 hF); exact rfl; (first | with_reducible rfl | (refine congrArg Value.bool ?_; focus (simp; done))))))
      exact ⟨m - 1, by omega, k + 1, by omega, by rw [List.range_succ]; exact hJ3, hs3, hp3, hp4, hF.sub (by repeat (first | exact Sub.nil | refine Sub.cons rfl (by first | with_reducible rfl | (refine congrArg (Value.int _) ?_; omega) | (exact congrArg _ (by omega)) | exact rfl) ?_))⟩
    · refine ⟨_, rfl, fun a hF => ?_⟩
      clear hM
      have hM : Mm (fun _ => False) w3 [] [] [] w3 := Mm.start (fun _ h => h.elim)
      (repeat' (first | (with_reducible refine s_nil ?_) | (with_reducible refine q_then_n ?_) | ((with_reducible apply s_pure hF); exact rfl; exact rfl; exact rfl; (first | exact trivial | omega | exact ⟨Int.natCast_nonneg _, Int.ofNat_lt.2 (by assumption)⟩ | decide); clear hF a; intro a hF) | (with_reducible refine w_ret ?_) | (with_reducible refine q_then_r ?_) | (with_reducible refine q_blk_r ?_) | ((with_reducible apply c_true2 hF); exact rfl; (first | with_reducible rfl | (refine congrArg Value.bool ?_; focus (simp; done))))))
      (apply f_ret Try.results76 hF hM; (repeat (first | exact RL.nil | (apply RL.tmp; exact rfl) | (apply RL.cell; exact rfl; (repeat (first | exact List.mem_cons_self | refine List.mem_cons_of_mem _ ?_)); exact rfl))); try dsimp only [resV])
      exact ⟨⟨_, rfl⟩, .inr ⟨_, ⟨k + 1, List.range_succ.symm⟩, hJx3⟩⟩
  · obtain rfl : k = (l.length + p - 1) / p := by omega
    have hql : ¬ (l.length + p - 1) / p * p < l.length := fun h => hlt (hlt2.2 h)
    have hqu : (l.length + p - 1) / p * p ≤ 1000000 := by
      have := Nat.div_mul_le_self (l.length + p - 1) p
      omega
    generalize hN : (l.length + p - 1) / p = N at *
    generalize N * p = q at *
    (repeat' (first | (with_reducible refine w_seq ?_) | (with_reducible refine c_region ?_) | (with_reducible refine s_nil ?_) | (with_reducible refine q_then_n ?_) | ((with_reducible apply s_pure hF); exact rfl; exact rfl; exact rfl; (first | exact trivial | omega | exact ⟨Int.natCast_nonneg _, Int.ofNat_lt.2 (by assumption)⟩ | decide); clear hF a; intro a hF) | ((with_reducible apply s_loadK hF hM); exact rfl; exact rfl; (repeat (first | exact List.mem_cons_self | refine List.mem_cons_of_mem _ ?_)); exact rfl; exact rfl; clear hF a; intro a hF) | (with_reducible refine w_exit ?_) | (with_reducible refine q_then_x ?_) | (with_reducible refine q_blk_x ?_) | ((with_reducible apply c_dec hF); exact rfl; all_goals intro hc; all_goals (try (exfalso; omega)))))
    (apply f_end Try.results76 hF hM; (repeat (first | exact RL.nil | (apply RL.tmp; exact rfl) | (apply RL.cell; exact rfl; (repeat (first | exact List.mem_cons_self | refine List.mem_cons_of_mem _ ?_)); exact rfl))); try dsimp only [resV])
    exact ⟨⟨_, rfl⟩, .inl ⟨_, rfl, hJp⟩⟩
end Go.Proofs.Ytadfdpkhehdikaa


/- dedup: Encode. -/
namespace Go.Proofs.Ytadfdpkhehdikaa
open Go.RowKit Go.Shelf D29
namespace D29
/-- A token, where its data lie, and how many places these have. -/
abbrev TP := Tok × Option Addr × Nat
abbrev tkC (t : TP) : List Value := [.bool t.1.r, .int .u64 t.1.d, .slice t.2.1 t.1.x.length t.2.2]
def cellsT (l : List TP) : List Value := (l.map tkC).flatten
theorem tkC_len (l : List TP) : ∀ y ∈ l.map tkC, y.length = 3 := by
  intro y hy
  obtain ⟨p, -, rfl⟩ := List.mem_map.1 hy
  rfl
theorem cellsT_app (l m : List TP) : cellsT (l ++ m) = cellsT l ++ cellsT m := by simp [cellsT]
def tP (l : List TP) : List P := l.map fun t => (⟨t.1.d, t.1.x⟩, t.2)
def tms (l : List TP) : List Tok := l.map (·.1)
theorem tP_app (l m : List TP) : tP (l ++ m) = tP l ++ tP m := by simp [tP]
theorem tms_app (l m : List TP) : tms (l ++ m) = tms l ++ tms m := by simp [tms]
theorem tms_len (l : List TP) : (tms l).length = l.length := by simp [tms]
/-- Tokens that are returned. -/
def TkR (own : Nat → Prop) (l : List Tok) (a : Option Addr) (c : Nat) (w : World) : Prop := ∃ ts : List TP, tms ts = l ∧ DatW (tP ts) ∧ Has own w (RdF id a (cellsT ts)) ∧ Has own w (DatF (tP ts)) ∧ l.length ≤ c
theorem encI_snoc (cap : Int) : ∀ (xs : List Dat) (x : Dat) (l : List Itm), encI cap (xs ++ [x]) l = (addI cap (encI cap xs l).1 x, (encI cap xs l).2 ++ [tokI (encI cap xs l).1 x])
  | [], x, l => by simp [encI]
  | y :: r, x, l => by
    rw [List.cons_append, encI, encI_snoc cap r x, encI]
    rfl
/-- What Encode answers. -/
def encR (c : St) (l : Dat) (chunk : Int) : Except Int (List Itm × List Tok) := if check c ≠ 0 then .error (check c) else if chunk < 1 ∨ 4096 < chunk then .error 1 else .ok (encI c.cap (parts chunk.toNat l) c.items)
def encP (own : Nat → Prop) (cp : Int) (r : Except Int (List Itm × List Tok)) (v : Value) (w' : World) : Prop := match r with
  | .error e => v = .tuple #[.agg #[.int .i64 0, .slice none 0 0], .slice none 0 0, .int .i64 e]
  | .ok r => ∃ (a : Option Addr) (c : Nat) (a2 : Option Addr) (c2 : Nat), v = .tuple #[.agg #[.int .i64 cp, .slice a r.1.length c], .slice a2 r.2.length c2, .int .i64 0] ∧ ItR own r.1 a c w' ∧ TkR own r.2 a2 c2 w'
theorem DatF.snoc {own : Nat → Prop} {w : World} {l : List P} {p : P} (h : Has own w (DatF l)) (k : Has own w (RdF (Value.int .u8) p.2.1 p.1.x.flatten)) : Has own w (DatF (l ++ [p])) :=
  (h.and k).imp fun w h q hq => by
    rcases List.mem_append.1 hq with hq | hq
    · exact h.1 q hq
    · rw [List.mem_singleton] at hq
      rw [hq]
      exact h.2
theorem DatW.snoc {l : List P} {p : P} (h : DatW l) (k : W8 p.1.x ∧ p.1.x.length ≤ p.2.2 ∧ ∀ s ∈ p.1.x, ∀ b ∈ s, 0 ≤ b ∧ b < 256) : DatW (l ++ [p]) := fun q hq => by
  rcases List.mem_append.1 hq with hq | hq
  · exact h q hq
  · rw [List.mem_singleton] at hq
    rw [hq]
    exact k
theorem addI_mem {cap : Int} {l : List Itm} {x : Dat} {i : Itm} (h : i ∈ addI cap l x) : i ∈ l ∨ i = ⟨dg x, x⟩ := by
  unfold addI at h
  split at h
  · exact .inl h
  · have : i ∈ l ++ [(⟨dg x, x⟩ : Itm)] := by
      split at h
      · exact List.mem_of_mem_drop h
      · exact h
    simpa using this
theorem kt_types {E : List TE} {eI tk : Ent} {its : List P} {iv : Value} (hS : StI its iv eI E) {T : TypeId} (h1 : 102 ≠ T) (h2 : tk.e ≠ T) : ∀ y ∈ eI :: ([tk] ++ rowsT E), y.e ≠ T := by
  intro y hy
  rcases List.mem_cons.1 hy with rfl | hy
  · rw [hS.row.1]; exact h1
  · rcases List.mem_cons.1 hy with rfl | hy
    · exact h2
    · obtain ⟨e, he, rfl⟩ := List.mem_map.1 hy
      rw [(hS.tE e he).1]
      exact h1
/-- What Encode keeps. -/
structure EncS (cp : Int) (l0 : List Itm) (xs : List Dat) (its : List P) (iv : Value) (eI : Ent) (E : List TE) (ts : List TP) : Prop where
  im : ims its = (encI cp xs l0).1
  tm : tms ts = (encI cp xs l0).2
  tw : DatW (tP ts)
  st : StI its iv eI E
  ln : (its.length : Int) ≤ cp
  ch : ∀ q ∈ its, q.1.x.length ≤ 4096
/-- The memory of Encode within a round. -/
abbrev EncM (own : Nat → Prop) (W : World) (sb mb : Nat) (cp : Int) (b4 b9 b11 : Nat) (Fx : List (World → Prop)) (its : List P) (iv : Value) (eI : Ent) (E : List TE) (ts : List TP) (tv : Value) (k : Nat) (w' : World) : Prop :=
  Mm own W [stB sb mb cp iv, ⟨b11, ⟨[tv]⟩, 34⟩, ⟨b9, ⟨[.pointer (some ⟨sb, 0, none⟩)]⟩, 76⟩, ⟨b4, ⟨[.int .i64 0, .slice none 0 0]⟩, 29⟩] (eI :: ([⟨93, 3, tv, k, cellsT ts⟩] ++ rowsT E)) (MpE (Value.int .u64) mb (esE E) :: DatF its :: DatF (tP ts) :: Fx) w'
theorem below_mm {own own' : Nat → Prop} {w0 w w' : World} {bs bs' : List BoxE} {L L' : List Ent} {Fs Fs' : List (World → Prop)} (h : Mm own w0 bs L Fs w) (h' : Mm own' w0 bs' L' Fs' w') (hs : w.heap.size ≤ w'.heap.size) : Below w0.heap.size w w' :=
  ⟨h'.since.os.trans h.since.os.symm, h'.since.tape.trans h.since.tape.symm, h'.since.output.trans h.since.output.symm, hs, fun k hk => (h'.since.block k hk).trans (h.since.block k hk).symm⟩
theorem f_retMN {n : Nat} {l : List (Nat × Value)} {a : Act} {w w0 : World} {own : Nat → Prop} {bs : List BoxE} {L : List Ent} {Fs : List (World → Prop)} {fn : Func} {rs : List ResultVar} {vs : List Value} {R : Ending → World → Prop} {D : Nat} (Fs' : List (World → Prop)) (hr : fn.results = ⟨rs⟩) (hF : Fr n (markL D) l a) (hM : Mm own w0 bs L Fs w) (hD : DefF D ∈ Fs) (hD0 : w0.heap.size ≤ D) (hs : ∀ f ∈ Fs', f ∈ Fs) (hn : ∀ f ∈ Fs', Nb D f) (hv : RL l bs rs vs) (hR : ∀ w', Mm own w0 bs L Fs' w' → R (.returned (resV vs)) w') : bodyPostM Fence.wide 9 Try.prog fn R .ret a w := by
  have hK := hM.fact hD
  have hM' : Mm own w0 bs L Fs' (w.putObj D (.deferred none)) := (hM.sub (.refl _) (.refl _) hs).turnN (grownBy_putObj' w D (.deferred none)) (fun r e => by cases e; exact ⟨hD0, _, hK, rfl⟩) (fun r e f hf => by cases e; exact hn f hf)
  have hres := f_res (fn := fn) hr hF hM' hv
  show LeavesInM _ _ _ _ _ _ a.defers _ _
  rw [hF.defs]
  refine ⟨by simp, .inl ⟨D, _, rfl, run_takeDeferred hK, ?_⟩⟩
  exact ⟨_, hres, hR _ hM'⟩
end D29
section
variable (cp : Int) (ps : List P) (a0 : Option Addr) (c0 n : Nat) (hn : ps.length = n) (hlen : n ≤ 100000) (hDW : DatW ps) (hpx : ∀ p ∈ ps, p.1.x.length ≤ 100000) (own : Nat → Prop) (W : World) (hl : ∀ b, own b → b < W.heap.size) (h1 : Has own W (RdF id a0 (cellsP ps))) (h2 : Has own W (DatF ps))
include hn hlen hDW hpx hl h1 h2
set_option maxRecDepth 20000 in
set_option maxHeartbeats 4000000 in
theorem Encode29_c (l : Dat) (hl8 : W8 l) (hlb : ∀ s ∈ l, ∀ b ∈ s, 0 ≤ b ∧ b < 256) (al : Option Addr) (cl nl : Nat) (hnl : l.length = nl) (hnl4 : nl ≤ 4096) (hcl : nl ≤ cl) (hx : Has own W (RdF (Value.int .u8) al l.flatten)) (chunk : Int) :
    Calls Try.prog 8 ⟨[.agg #[.int .i64 cp, .slice a0 n c0], .slice al nl cl, .int .i64 chunk]⟩ W (Ret W (encP own cp (encR ⟨cp, ims ps⟩ l chunk))) := by
  have hM := (((Mm.start hl).known hx).known h2).known h1
  subst hnl
  refine f_startM Try.func8 rfl Try.ntmps8 rfl rfl ?_; intro a hF
  (repeat (first | (with_reducible refine w_seq ?_) | (with_reducible refine c_region ?_) | (with_reducible refine s_nil ?_) | (with_reducible refine q_then_n ?_) | ((with_reducible apply s_pure hF); exact rfl; exact rfl; exact rfl; (first | exact trivial | omega | exact ⟨Int.natCast_nonneg _, Int.ofNat_lt.2 (by assumption)⟩ | decide); clear hF a; intro a hF) | ((with_reducible apply s_load hF hM); exact rfl; exact rfl; (repeat (first | exact List.mem_cons_self | refine List.mem_cons_of_mem _ ?_)); exact rfl; exact rfl; clear hF a; intro a hF) | ((with_reducible apply s_alloc hF hM); exact rfl; exact rfl; exact rfl; clear hF hM a; intro b w a hM hF) | ((with_reducible apply s_box hF hM); exact rfl; exact rfl; exact rfl; exact rfl; clear hF hM a; intro b w a hM hF)))
  rename_i b2 _
  generalize b = b4 at *
  have hnb : ∀ f ∈ [RdF (Value.int .u8) al l.flatten], ∀ b, Nb b f := by
    intro f hf b
    rw [List.mem_singleton] at hf
    rw [hf]
    exact Nb.rd
  by_cases hb : cp < 1 ∨ 4096 < cp ∨ cp < n
  · have hck := chk_bad (l := ims ps) (by rw [ims_len, hn]; exact hb)
    have he : encR ⟨cp, ims ps⟩ l chunk = .error (check ⟨cp, ims ps⟩) := if_pos hck
    rw [he]
    (((with_reducible apply s_callM (f := 31) hF); exact rfl; exact rfl; exact rfl; exact rfl; exact rfl; exact (open_bad cp ps a0 c0 n hn hlen hDW hpx hnb hM hb); clear hF hM a; rintro v w a ⟨rfl, hM⟩ hF))
    generalize check ⟨cp, ims ps⟩ = e at *
    (repeat' (first | (with_reducible refine w_seq ?_) | (with_reducible refine c_region ?_) | (with_reducible refine s_nil ?_) | (with_reducible refine q_then_n ?_) | ((with_reducible apply s_pure hF); exact rfl; exact rfl; exact rfl; (first | exact trivial | omega | exact ⟨Int.natCast_nonneg _, Int.ofNat_lt.2 (by assumption)⟩ | decide); clear hF a; intro a hF) | ((with_reducible apply s_store hF hM); exact rfl; exact rfl; exact rfl; exact rfl; (repeat (first | exact Upd.z | apply Upd.s)); exact rfl; exact rfl; exact rfl; clear hM; intro w hM) | ((with_reducible apply s_alloc hF hM); exact rfl; exact rfl; exact rfl; clear hF hM a; intro b w a hM hF) | (with_reducible refine w_block ?_) | (with_reducible refine w_ret ?_) | (with_reducible refine q_then_r ?_) | (with_reducible refine q_blk_r ?_) | ((with_reducible apply c_dec hF); exact rfl; all_goals intro hc; all_goals (try (exfalso; omega)))))
    all_goals first | (exfalso; omega) | (apply f_ret0 Try.results8 hF hM (by (repeat (first | exact RL.nil | (apply RL.tmp; exact rfl) | (apply RL.cell; exact rfl; (repeat (first | exact List.mem_cons_self | refine List.mem_cons_of_mem _ ?_)); exact rfl)))); refine Ret.mk hM.since ?_; dsimp only [resV])
    all_goals exact rfl
  · have hck := chk_big (l := ims ps) (by rw [ims_len, hn]; exact hb)
    (((with_reducible apply s_callM (f := 31) hF); exact rfl; exact rfl; exact rfl; exact rfl; exact rfl; exact (open_c cp ps a0 c0 n hn hlen hDW hpx hnb hM (by omega) (by omega)); clear hF hM a; rintro v w a (⟨h0, rfl, hM⟩ | ⟨h0, sb, mb, its, iv, eI, E, rfl, him, hS, hmb, hM⟩) hF))
    · have he : encR ⟨cp, ims ps⟩ l chunk = .error (chkL [] (ims ps)) := by
        unfold encR
        rw [hck, if_pos h0]
      rw [he]
      generalize chkL [] (ims ps) = e at *
      (repeat' (first | (with_reducible refine w_seq ?_) | (with_reducible refine c_region ?_) | (with_reducible refine s_nil ?_) | (with_reducible refine q_then_n ?_) | ((with_reducible apply s_pure hF); exact rfl; exact rfl; exact rfl; (first | exact trivial | omega | exact ⟨Int.natCast_nonneg _, Int.ofNat_lt.2 (by assumption)⟩ | decide); clear hF a; intro a hF) | ((with_reducible apply s_store hF hM); exact rfl; exact rfl; exact rfl; exact rfl; (repeat (first | exact Upd.z | apply Upd.s)); exact rfl; exact rfl; exact rfl; clear hM; intro w hM) | ((with_reducible apply s_alloc hF hM); exact rfl; exact rfl; exact rfl; clear hF hM a; intro b w a hM hF) | (with_reducible refine w_block ?_) | (with_reducible refine w_ret ?_) | (with_reducible refine q_then_r ?_) | (with_reducible refine q_blk_r ?_) | ((with_reducible apply c_dec hF); exact rfl; all_goals intro hc; all_goals (try (exfalso; omega)))))
      all_goals first | (exfalso; omega) | (apply f_ret0 Try.results8 hF hM (by (repeat (first | exact RL.nil | (apply RL.tmp; exact rfl) | (apply RL.cell; exact rfl; (repeat (first | exact List.mem_cons_self | refine List.mem_cons_of_mem _ ?_)); exact rfl)))); refine Ret.mk hM.since ?_; dsimp only [resV])
      all_goals exact rfl
    · by_cases hc : chunk < 1 ∨ 4096 < chunk
      · have he : encR ⟨cp, ims ps⟩ l chunk = .error 1 := by
          unfold encR
          rw [hck, if_neg (by simp [h0]), if_pos hc]
        rw [he]
        (repeat' (first | (with_reducible refine w_seq ?_) | (with_reducible refine c_region ?_) | (with_reducible refine s_nil ?_) | (with_reducible refine q_then_n ?_) | ((with_reducible apply s_pure hF); exact rfl; exact rfl; exact rfl; (first | exact trivial | omega | exact ⟨Int.natCast_nonneg _, Int.ofNat_lt.2 (by assumption)⟩ | decide); clear hF a; intro a hF) | ((with_reducible apply s_store hF hM); exact rfl; exact rfl; exact rfl; exact rfl; (repeat (first | exact Upd.z | apply Upd.s)); exact rfl; exact rfl; exact rfl; clear hM; intro w hM) | ((with_reducible apply s_alloc hF hM); exact rfl; exact rfl; exact rfl; clear hF hM a; intro b w a hM hF) | (with_reducible refine w_block ?_) | (with_reducible refine w_ret ?_) | (with_reducible refine q_then_r ?_) | (with_reducible refine q_blk_r ?_) | ((with_reducible apply c_true2 hF); exact rfl; (first | with_reducible rfl | (refine congrArg Value.bool ?_; focus (simp; done)))) | ((with_reducible apply c_false2 hF); exact rfl; (first | with_reducible rfl | (refine congrArg Value.bool ?_; focus (simp; done)))) | ((with_reducible apply s_skip hF); exact rfl; exact rfl; clear hF a; intro a hF) | ((fail_if_success ((with_reducible refine g_known true hF ?_ ?_); focus exact rfl)); (fail_if_success ((with_reducible refine g_known false hF ?_ ?_); focus exact rfl)); (with_reducible apply g_dec hF); exact rfl; exact rfl; all_goals (clear hF; intro hc hF); all_goals (try (exfalso; omega))) | ((with_reducible apply c_dec hF); exact rfl; all_goals intro hc; all_goals (try (exfalso; omega)))))
        all_goals first | (exfalso; omega) | (apply f_ret0 Try.results8 hF hM (by (repeat (first | exact RL.nil | (apply RL.tmp; exact rfl) | (apply RL.cell; exact rfl; (repeat (first | exact List.mem_cons_self | refine List.mem_cons_of_mem _ ?_)); exact rfl)))); refine Ret.mk hM.since ?_; dsimp only [resV])
        all_goals exact rfl
      · obtain ⟨p, rfl⟩ : ∃ p : Nat, chunk = p := ⟨chunk.toNat, by omega⟩
        have he : encR ⟨cp, ims ps⟩ l (p : Int) = .ok (encI cp (parts p l) (ims ps)) := by
          unfold encR
          rw [hck, if_neg (by simp [h0]), if_neg hc]
          rfl
        rw [he]
        (repeat' (first | (with_reducible refine w_seq ?_) | (with_reducible refine c_region ?_) | (with_reducible refine s_nil ?_) | ((with_reducible apply s_call (f := 32) hF hM); exact rfl; exact rfl; exact rfl; exact rfl; exact rfl; exact (Chunk29_c al l.length cl p (by omega) W.heap.size _ _ hM.lt hM.since.size); clear hF hM a; rintro v w a ⟨q1, q2, hq1, hq2, rfl, hB1, hB2⟩ - hM hF) | (with_reducible refine q_then_n ?_) | ((with_reducible apply s_pure hF); exact rfl; exact rfl; exact rfl; (first | exact trivial | omega | exact ⟨Int.natCast_nonneg _, Int.ofNat_lt.2 (by assumption)⟩ | decide); clear hF a; intro a hF) | ((with_reducible apply s_store hF hM); exact rfl; exact rfl; exact rfl; exact rfl; (repeat (first | exact Upd.z | apply Upd.s)); exact rfl; exact rfl; exact rfl; clear hM; intro w hM) | ((with_reducible apply s_alloc hF hM); exact rfl; exact rfl; exact rfl; clear hF hM a; intro b w a hM hF) | (with_reducible refine w_skip ?_) | (with_reducible refine w_block ?_) | (with_reducible refine q_blk_n ?_) | ((with_reducible apply c_false2 hF); exact rfl; (first | with_reducible rfl | (refine congrArg Value.bool ?_; focus (simp; done)))) | ((fail_if_success ((with_reducible refine g_known true hF ?_ ?_); focus exact rfl)); (fail_if_success ((with_reducible refine g_known false hF ?_ ?_); focus exact rfl)); (with_reducible apply g_dec hF); exact rfl; exact rfl; all_goals (clear hF; intro hc hF); all_goals (try (exfalso; omega))) | ((with_reducible apply c_dec hF); exact rfl; all_goals intro hc; all_goals (try (exfalso; omega)))))
        rename_i b9 _ _ _ _ _
        obtain ⟨b11, rfl⟩ : ∃ x, x = b := ⟨_, rfl⟩
        obtain ⟨w2, rfl⟩ : ∃ x, x = w := ⟨_, rfl⟩
        have hsz : W.heap.size ≤ w2.heap.size := hM.since.size
        have hmbF := hM.fact (f := MpE (Value.int .u64) mb (esE E)) (by (repeat (first | with_reducible exact List.mem_cons_self | refine List.mem_cons_of_mem _ ?_)))
        have hmb2 : mb < w2.heap.size := (Array.getElem?_eq_some_iff.1 hmbF).1
        have hrow := (((hM.nilRow 93 3).permL (.swap _ _ _)).perm (bs' := [stB sb mb cp iv, ⟨b11, ⟨[.slice none 0 0]⟩, 34⟩, ⟨b9, ⟨[.pointer (some ⟨sb, 0, none⟩)]⟩, 76⟩, ⟨b4, ⟨[.int .i64 0, .slice none 0 0]⟩, 29⟩, ⟨b2, ⟨[.int .i64 cp, .slice a0 n c0]⟩, 29⟩]) ((List.perm_append_comm (l₁ := [_, _]) (l₂ := [_])).append_right _)).addFact (f := DatF (tP [])) (Has.pure fun _ p hp => by simp [tP] at hp)
        have hch0 : ∀ q ∈ its, q.1.x.length ≤ 4096 := by
          intro q hq
          obtain ⟨k1, -⟩ := chkL_ok.1 h0
          have := k1 q.1 (by rw [← him]; exact List.mem_map.2 ⟨q, hq, rfl⟩)
          unfold isCh at this
          rw [decide_eq_true_eq] at this
          exact this.2
        have hil : its.length = n := by
          have := congrArg List.length him
          rw [ims_len, ims_len] at this
          omega
        have hS0 : EncS cp (ims ps) [] its iv eI E [] := ⟨him, rfl, fun q hq => by simp [tP] at hq, hS, by omega, hch0⟩
        refine c_range1 hF rfl rfl rfl (va := fun x : Nat => partV al l.length p x) (la := fun x => [(12, partV al l.length p x), (11, .pointer (some ⟨b11, 0, none⟩)), (9, .pointer (some ⟨b9, 0, none⟩))]) (parts_stops l (by omega) p (by omega) al cl q1 q2 hcl W w2 hM.since hq1 hq2 hB1 hB2) (by omega) (fun _ => Kc.refl) (fun h k => h.trans k) ?kb (Below.refl _ _)
          (fun pre W' => ∃ (its : List P) (iv : Value) (eI : Ent) (E : List TE) (ts : List TP) (tv : Value), EncS cp (ims ps) (pre.map (D29.part p l)) its iv eI E ts ∧
            Mm own W [stB sb mb cp iv, ⟨b11, ⟨[tv]⟩, 34⟩, ⟨b9, ⟨[.pointer (some ⟨sb, 0, none⟩)]⟩, 76⟩, ⟨b4, ⟨[.int .i64 0, .slice none 0 0]⟩, 29⟩] (eI :: ([⟨93, 3, tv, pre.length, cellsT ts⟩] ++ rowsT E)) [MpE (Value.int .u64) mb (esE E), DatF its, DatF (tP ts), RdF (Value.int .u8) al l.flatten] W') ?hI ?h0 ?assign ?body ?done
        case kb =>
          intro W' lb o o' h1 h2 h3 h4
          exact ⟨belowK_b hsz W' lb o o' h1 h2 h3 h4, KT.putObj o' h2 h3, KT.putObj o' h2 h3⟩
        case hI =>
          rintro pre W1 W2 row ⟨its, iv, eI, E, ts, tv, hES, hm⟩ hg hr
          refine ⟨its, iv, eI, E, ts, tv, hES, hm.turnN hg (fun r e => ⟨by have := (hr r e).1; omega, (hr r e).2⟩) ?_⟩
          intro r e f hf
          have hr1 := (hr r e).1
          simp only [List.mem_cons, List.not_mem_nil, or_false] at hf
          rcases hf with rfl | rfl | rfl | rfl
          · exact Nb.mp (by omega)
          · exact Nb.dat
          · exact Nb.dat
          · exact Nb.rd
        case h0 => exact ⟨its, iv, eI, E, [], _, hS0, hrow.sub (.cons_cons _ (.cons_cons _ (.cons_cons _ (.cons_cons _ (.cons _ .slnil))))) (.refl _) (fun f hf => by simp only [List.mem_cons, List.not_mem_nil, or_false] at hf ⊢; rcases hf with h | h | h | h <;> simp [h])⟩
        case assign =>
          intro l0 k x a W' hF
          (repeat (first | ((with_reducible refine c_regionR ?_ ?_); rotate_left; exact rfl) | (with_reducible refine s_nil ?_) | ((with_reducible apply s_pure hF); exact rfl; exact rfl; exact rfl; (first | exact trivial | omega | exact ⟨Int.natCast_nonneg _, Int.ofNat_lt.2 (by assumption)⟩ | decide); clear hF a; intro a hF)))
          exact q_cut ⟨rfl, hF.sub (by repeat (first | exact Sub.nil | refine Sub.cons rfl (by first | with_reducible rfl | (refine congrArg (Value.int _) ?_; omega) | exact rfl) ?_))⟩
        case done =>
          rintro D xs a W' hD rfl ⟨its, iv, eI, E, ts, tv, hES, hM⟩ hK hF
          have htl := congrArg List.length hES.tm
          rw [tms_len, encI_len, List.length_map] at htl
          replace hM := hM.addDef hK (by omega)
          obtain ⟨ai, ci, rfl, -, -⟩ := OffR.shape hM (k := 0) rfl hES.st.row
          replace hM := OffR.freeze (enc := id) hM.freeze (by rw [List.map_id]; exact hES.st.row)
          replace hM := ((hM.perm (bs' := [⟨b4, ⟨[.int .i64 0, .slice none 0 0]⟩, 29⟩, ⟨b11, ⟨[tv]⟩, 34⟩, ⟨b9, ⟨[.pointer (some ⟨sb, 0, none⟩)]⟩, 76⟩]) (List.perm_append_comm (l₁ := [_, _]) (l₂ := [_]))).sub (L' := [⟨93, 3, tv, (List.range ((l.length + p - 1) / p)).length, cellsT ts⟩]) (.refl _) (List.sublist_append_left _ _) (fun _ h => h))
          (repeat (first | (with_reducible refine w_seq ?_) | (with_reducible refine q_then_n ?_) | (with_reducible refine q_blk_n ?_)))
          refine c_cut (fun a2 w2 => ∃ (a' : Option Addr) (c' : Nat) (ps2 : List P), ims ps2 = ims its ∧ DatW ps2 ∧ (ims its).length ≤ c' ∧ Fr 77 (markL D) [(8, .int .i64 0), (7, tv), (6, .pointer (some ⟨b4, 0, none⟩))] a2 ∧
            Mm own W [⟨b4, ⟨[.int .i64 cp, .slice a' its.length c']⟩, 29⟩] [⟨93, 3, tv, (List.range ((l.length + p - 1) / p)).length, cellsT ts⟩] [RdF id a' (cellsP ps2), DatF ps2, DatF (tP ts), DefF D] w2) ?_ ?_
          · refine c_drawS (fun i => Nat.ble 4 i) (fun x hx => List.mem_cons_of_mem _ (hx)) hM ?_; clear hM; intro w hM
            (first | (apply t_load (i := 0) hF rfl rfl rfl; (repeat (first | exact List.mem_cons_self | refine List.mem_cons_of_mem _ ?_)); exact rfl; exact rfl; kernel_rfl; exact (hM.sm.sub (fun x hx => by repeat (first | exact hx | refine List.mem_cons_of_mem _ ?_)) (fun _ h => by repeat (first | exact h | refine List.mem_cons_of_mem _ ?_))); exact (fun _ _ _ h => h); clear hF a; intro a hF))
            (first | (apply t_load (i := 2) hF rfl rfl rfl; (repeat (first | exact List.mem_cons_self | refine List.mem_cons_of_mem _ ?_)); exact rfl; exact rfl; kernel_rfl; exact (hM.sm.sub (fun x hx => by repeat (first | exact hx | refine List.mem_cons_of_mem _ ?_)) (fun _ h => by repeat (first | exact h | refine List.mem_cons_of_mem _ ?_))); exact (fun _ _ _ h => h); clear hF a; intro a hF))
            refine t_one (i := 1) hF rfl (by kernel_rfl) rfl ?_
            intro K hK
            (apply x_call hF hM; exact rfl; exact rfl; exact rfl; exact rfl; exact (chunks_c sb mb cp its ai ci (by have := hES.ln; omega) hES.st.dw hES.ch _ _ hM.lt (hM.facts (BxF sb [.map (some mb), .int .i64 cp, .slice ai its.length ci] 91) (by (repeat (first | with_reducible exact List.mem_cons_self | refine List.mem_cons_of_mem _ ?_)))) (hM.facts (RdF id ai (cellsP its)) (by (repeat (first | with_reducible exact List.mem_cons_self | refine List.mem_cons_of_mem _ ?_)))) (hM.facts (DatF its) (by (repeat (first | with_reducible exact List.mem_cons_self | refine List.mem_cons_of_mem _ ?_))))); clear hF hM a; rintro v w a ⟨a', c', rfl, ps2, k1, k2, k3, k4, k5⟩ - hM hF)
            replace hM := (hM.addFact k4).addFact k3
            refine hK _ _ (fun _ => (hM.sm.sub (fun x hx => by repeat (first | exact hx | refine List.mem_cons_of_mem _ ?_)) (fun _ h => by repeat (first | exact h | refine List.mem_cons_of_mem _ ?_)))) ?_; clear hK
            refine t_one (i := 3) hF rfl (by kernel_rfl) rfl ?_
            intro K hK
            (apply x_store hF hM rfl rfl rfl; (repeat (first | exact Upd.z | apply Upd.s)); exact rfl; exact rfl; exact rfl; clear hF hM a; intro w a hM hF)
            refine hK _ _ (fun _ => (hM.sm.sub (fun x hx => by repeat (first | exact hx | refine List.mem_cons_of_mem _ ?_)) (fun _ h => by repeat (first | exact h | refine List.mem_cons_of_mem _ ?_)))) ?_; clear hK
            refine t_one (i := 4) hF rfl (by kernel_rfl) rfl ?_
            intro K hK
            (first | (refine x_pure hF hM rfl rfl ?_ ?_; (first | exact trivial | omega | decide); clear hF a; intro a hF) | (apply x_load hF hM rfl; (repeat (first | exact List.mem_cons_self | refine List.mem_cons_of_mem _ ?_)); exact rfl; exact rfl; clear hF a; intro a hF))
            refine hK _ _ (fun h => by cases h) ?_; clear hK
            refine t_one (i := 5) hF rfl (by kernel_rfl) rfl ?_
            intro K hK
            (first | (refine x_pure hF hM rfl rfl ?_ ?_; (first | exact trivial | omega | decide); clear hF a; intro a hF) | (apply x_load hF hM rfl; (repeat (first | exact List.mem_cons_self | refine List.mem_cons_of_mem _ ?_)); exact rfl; exact rfl; clear hF a; intro a hF))
            refine hK _ _ (fun h => by cases h) ?_; clear hK
            refine t_done (by kernel_rfl) ?_
            (repeat (first | fail))
            exact q_cut ⟨a', c', ps2, k1, k2, k5, hF.sub (by repeat (first | exact Sub.nil | refine Sub.cons rfl (by first | with_reducible rfl | (refine congrArg (Value.int _) ?_; omega) | exact rfl) ?_)), hM.sub (.cons_cons _ (.cons _ (.cons _ .slnil))) (.refl _) (fun f hf => by simp only [List.mem_cons, List.not_mem_nil, or_false] at hf ⊢; rcases hf with h | h | h | h <;> simp [h])⟩
          clear hF hM a
          rintro a w ⟨a', c', ps2, k1, k2, k5, hF, hM⟩
          (repeat (first | (with_reducible refine w_ret ?_)))
          obtain ⟨av, cv, rfl, hcv, -⟩ := OffR.shape hM (k := 0) rfl (OffR.plain hM List.mem_cons_self)
          replace hM := Mm.freezeN (enc := id) (xs := cellsT ts) (by rw [List.map_id]; exact hM)
          apply f_retMN [RdF id av (cellsT ts), RdF id a' (cellsP ps2), DatF ps2, DatF (tP ts)] Try.results8 hF hM (by (repeat (first | with_reducible exact List.mem_cons_self | refine List.mem_cons_of_mem _ ?_))) (by omega)
          · intro f hf
            simp only [List.mem_cons, List.not_mem_nil, or_false] at hf ⊢
            rcases hf with h | h | h | h <;> simp [h]
          · intro f hf
            simp only [List.mem_cons, List.not_mem_nil, or_false] at hf
            rcases hf with rfl | rfl | rfl | rfl
            · exact Nb.rd
            · exact Nb.rd
            · exact Nb.dat
            · exact Nb.dat
          · (repeat (first | exact RL.nil | (apply RL.tmp; exact rfl) | (apply RL.cell; exact rfl; (repeat (first | exact List.mem_cons_self | refine List.mem_cons_of_mem _ ?_)); exact rfl)))
          intro w' hM'
          have hpe : (List.range ((l.length + p - 1) / p)).map (D29.part p l) = parts p l := rfl
          rw [hpe] at hES
          have him := hES.im
          have htm := hES.tm
          refine Ret.mk hM'.since ⟨a', c', av, cv, ?_, ?_, ?_⟩
          · rw [← him, ← htm, ims_len, tms_len, htl]
            rfl
          · exact itR_mk hM' (k1.trans him) k2 (by (repeat (first | with_reducible exact List.mem_cons_self | refine List.mem_cons_of_mem _ ?_))) (by (repeat (first | with_reducible exact List.mem_cons_self | refine List.mem_cons_of_mem _ ?_))) (by rw [← him]; exact k5)
          · exact ⟨ts, htm, hES.tw, hM'.factOut (by (repeat (first | with_reducible exact List.mem_cons_self | refine List.mem_cons_of_mem _ ?_))), hM'.factOut (by (repeat (first | with_reducible exact List.mem_cons_self | refine List.mem_cons_of_mem _ ?_))), by rw [← htm, tms_len, htl]; exact hcv⟩
        case body =>
          clear hM hF hS hS0 hrow hch0 hil him hmbF
          rintro l0 k pre x a W' ⟨its, iv, eI, E, ts, tv, hES, hM⟩ hF hlt
          have hM0 := hM
          have hD8 : W8 (D29.part p l x) := fun s hs => hl8 s (part_sub s hs)
          have hDb : ∀ s ∈ D29.part p l x, ∀ b ∈ s, 0 ≤ b ∧ b < 256 := fun s hs => hlb s (part_sub s hs)
          have hDl : (D29.part p l x).length = min p (l.length - x * p) := part_len
          have hDr := part_rd hl8 (hM.facts (RdF (Value.int .u8) al l.flatten) (by (repeat (first | with_reducible exact List.mem_cons_self | refine List.mem_cons_of_mem _ ?_)))) p x
          have htl : ts.length = pre.length := by
            have := congrArg List.length hES.tm
            rw [tms_len, encI_len, List.length_map] at this
            exact this
          have hpl : pre.length ≤ 100000 := by
            have := Nat.div_le_self (l.length + p - 1) p
            omega
          unfold partV at hF
          have hsn := encI_snoc cp (pre.map (D29.part p l)) (D29.part p l x) (ims ps)
          have hmap : (pre ++ [x]).map (D29.part p l) = pre.map (D29.part p l) ++ [D29.part p l x] := by simp
          rw [← hmap] at hsn
          obtain ⟨aq, haq⟩ : ∃ aq, sadr al (x * p) (x * p + min p (l.length - x * p)) 8 = aq := ⟨_, rfl⟩
          rw [haq] at hF hDr
          rw [← hDl] at hF
          obtain ⟨e, he⟩ : ∃ e, (D29.part p l x).length = e := ⟨_, rfl⟩
          have he4 : e ≤ 4096 := by omega
          rw [he] at hF
          generalize D29.part p l x = D at *
          replace hM := ((((hM.addFact (hM0.ko hsz)).addFact (hM0.kt 3 (by simp) (kt_types hES.st (by decide) (show (93 : Nat) ≠ 3 by decide)))).addFact (hM0.kt 33 (by simp) (kt_types hES.st (by decide) (show (93 : Nat) ≠ 33 by decide)))).addFact hDr)
          replace hM : EncM own W sb mb cp b4 b9 b11 [RdF (Value.int .u8) al l.flatten, RdF (Value.int .u8) aq D.flatten, KeepsFrom w2.heap.size W', KT W.heap.size 3 W', KT W.heap.size 33 W'] its iv eI E ts tv pre.length W' := hM.sub (.refl _) (.refl _) (fun f hf => by simp only [List.mem_cons, List.not_mem_nil, or_false] at hf ⊢; rcases hf with h | h | h | h | h | h | h | h <;> simp [h])
          generalize hFx : [RdF (Value.int .u8) al l.flatten, RdF (Value.int .u8) aq D.flatten, KeepsFrom w2.heap.size W', KT W.heap.size 3 W', KT W.heap.size 33 W'] = Fx at hM
          have hDm : RdF (Value.int .u8) aq D.flatten ∈ Fx := by rw [← hFx]; simp
          have hx1 : KeepsFrom w2.heap.size W' ∈ Fx := by rw [← hFx]; simp
          have hx2 : KT W.heap.size 3 W' ∈ Fx := by rw [← hFx]; simp
          have hx3 : KT W.heap.size 33 W' ∈ Fx := by rw [← hFx]; simp
          have hx4 : RdF (Value.int .u8) al l.flatten ∈ Fx := by rw [← hFx]; simp
          have hFn : ∀ f ∈ Fx, Nb mb f := by
            intro f hf
            rw [← hFx] at hf
            simp only [List.mem_cons, List.not_mem_nil, or_false] at hf
            rcases hf with rfl | rfl | rfl | rfl | rfl
            · exact Nb.rd
            · exact Nb.rd
            · exact Nb.keeps hmb2
            · exact Nb.kt
            · exact Nb.kt
          clear hFx
          with_reducible refine w_block ?_
          with_reducible refine w_seq ?_
          refine c_cut (fun a' w1 => Fr 77 [] [(13, .int .u64 (dg D)), (12, .slice aq e e), (11, .pointer (some ⟨b11, 0, none⟩)), (9, .pointer (some ⟨b9, 0, none⟩))] a' ∧ EncM own W sb mb cp b4 b9 b11 Fx its iv eI E ts tv pre.length w1) ?_ ?_
          · (repeat (first | ((with_reducible refine c_regionR ?_ ?_); rotate_left; exact rfl) | (with_reducible refine s_nil ?_) | ((with_reducible apply s_call (f := 33) hF hM); exact rfl; exact rfl; exact rfl; exact rfl; exact rfl; exact (sectors_c D hD8 (by omega) aq e _ he _ _ hM.lt (hM.facts (RdF (Value.int .u8) aq D.flatten) (by simp [hDm]))); clear hF hM a; rintro v w a rfl - hM hF) | ((with_reducible apply s_pure hF); exact rfl; exact rfl; exact rfl; (first | exact trivial | omega | exact ⟨Int.natCast_nonneg _, Int.ofNat_lt.2 (by assumption)⟩ | decide); clear hF a; intro a hF)))
            exact q_cut ⟨hF.sub (by repeat (first | exact Sub.nil | refine Sub.cons rfl (by first | with_reducible rfl | (refine congrArg (Value.int _) ?_; omega) | exact rfl) ?_)), hM⟩
          clear hF hM a
          rintro a w1 ⟨hF, hM⟩
          with_reducible refine w_seq ?_
          refine c_cut (fun a' w1 => ∃ (ts' : List TP) (tv' : Value), tms ts' = tms ts ++ [tokI (ims its) D] ∧ DatW (tP ts') ∧ Fr 77 [] [(12, .slice aq e e), (11, .pointer (some ⟨b11, 0, none⟩)), (9, .pointer (some ⟨b9, 0, none⟩))] a' ∧ EncM own W sb mb cp b4 b9 b11 Fx its iv eI E ts' tv' (pre.length + 1) w1) ?_ ?_
          · have hfd := tab_find hES.st.tab (dg D)
            have e1 := find_c E mb (dg D) own
            cases hh : (lookE (dg D) E).head? with
            | none =>
              rw [hh] at hfd e1
              have htk : tokI (ims its) D = ⟨false, 0, D⟩ := by unfold tokI; rw [hfd]; rfl
              rw [htk]
              (repeat' (first | (with_reducible refine w_seq ?_) | ((with_reducible refine c_regionR ?_ ?_); rotate_left; exact rfl) | (with_reducible refine s_nil ?_) | ((with_reducible apply s_call (f := 34) hF hM); exact rfl; exact rfl; exact rfl; exact rfl; exact rfl; exact (e1 _ (fun b h => hM.lt b (.inl h)) (hM.factOut (by (repeat (first | with_reducible exact List.mem_cons_self | refine List.mem_cons_of_mem _ ?_)))) (tabR_of (L1 := [_]) hM hES.st.tE)); clear hF hM a; rintro v w a rfl - hM hF) | (with_reducible refine q_then_n ?_) | ((with_reducible apply s_pure hF); exact rfl; exact rfl; exact rfl; (first | exact trivial | omega | exact ⟨Int.natCast_nonneg _, Int.ofNat_lt.2 (by assumption)⟩ | decide); clear hF a; intro a hF) | ((with_reducible apply s_load hF hM); exact rfl; exact rfl; (repeat (first | exact List.mem_cons_self | refine List.mem_cons_of_mem _ ?_)); exact rfl; exact rfl; clear hF a; intro a hF) | ((with_reducible apply c_false2 hF); exact rfl; (first | with_reducible rfl | (refine congrArg Value.bool ?_; focus (simp; done)))) | ((with_reducible apply s_skip hF); exact rfl; exact rfl; clear hF a; intro a hF)))
              refine c_drawR (fun i => Nat.ble 6 i) rfl (fun ⟨_, _, h⟩ => h) (fun x hx => hx) hM ?_; clear hM; intro w hM
              (first | (apply t_load (i := 0) hF rfl rfl rfl; (repeat (first | exact List.mem_cons_self | refine List.mem_cons_of_mem _ ?_)); exact rfl; exact rfl; kernel_rfl; exact hM.sm; exact (fun _ _ _ h => h); clear hF a; intro a hF))
              (first | (refine t_pure (i := 1) hF rfl rfl rfl rfl (by kernel_rfl) hM.sm (fun _ _ _ h => h) ?_ ?_; (first | exact trivial | omega | decide); clear hF a; intro a hF))
              refine t_one (i := 2) hF rfl (by kernel_rfl) rfl ?_
              intro K hK
              (apply x_callO hF; exact rfl; exact rfl; exact rfl; exact rfl; exact (sclone_c D hD8 aq e _ he (by omega) _ _ hM.lt (hM.facts (RdF (Value.int .u8) aq D.flatten) (by simp [hDm]))); clear hF a; rintro v wn a ⟨a2, c2, rfl, hO⟩ hS hF; replace hM := hM.addRows hS hO; clear hS hO; dsimp only [List.cons_append, List.nil_append] at hM)
              (obtain ⟨ao', c', e0, hcc, -⟩ := OffR.shape hM (k := 0) rfl (OffR.plain hM List.mem_cons_self)); replace hM := hM.freezeN
              refine hK _ _ (fun _ => (hM.sm.sub (fun x hx => by repeat (first | exact hx | refine List.mem_cons_of_mem _ ?_)) (fun _ h => by repeat (first | exact h | refine List.mem_cons_of_mem _ ?_)))) ?_; clear hK
              (first | (refine t_pure (i := 3) hF rfl rfl rfl rfl (by kernel_rfl) (hM.sm.sub (fun x hx => by repeat (first | exact hx | refine List.mem_cons_of_mem _ ?_)) (fun _ h => by repeat (first | exact h | refine List.mem_cons_of_mem _ ?_))) (fun _ _ _ h => h) ?_ ?_; (first | exact trivial | omega | decide); clear hF a; intro a hF))
              refine t_one (i := 4) hF rfl (by kernel_rfl) rfl ?_
              intro K hK
              (refine x_lit hF hM rfl rfl rfl ?_; clear hF hM a; intro bl w a hM hF)
              refine hK _ _ (fun _ => (hM.sm.sub (fun x hx => by repeat (first | exact hx | refine List.mem_cons_of_mem _ ?_)) (fun _ h => by repeat (first | exact h | refine List.mem_cons_of_mem _ ?_)))) ?_; clear hK
              refine t_one (i := 5) hF rfl (by kernel_rfl) rfl ?_
              intro K hK
              (apply x_app hF hM rfl rfl rfl; (repeat (first | exact List.mem_cons_self | refine List.mem_cons_of_mem _ ?_)); (repeat (first | exact Kth.z | apply Kth.s)); exact rfl; exact rfl; exact rfl; exact rfl; omega; clear hF hM a; intro g cap w a hM hF; dsimp only [List.set] at hM)
              refine hK _ _ (fun _ => (hM.sm.sub (fun x hx => by repeat (first | exact hx | refine List.mem_cons_of_mem _ ?_)) (fun _ h => by repeat (first | exact h | refine List.mem_cons_of_mem _ ?_)))) ?_; clear hK
              refine t_one (i := 6) hF rfl (by kernel_rfl) rfl ?_
              intro K hK
              (apply x_store hF hM rfl rfl rfl; (repeat (first | exact Upd.z | apply Upd.s)); exact rfl; exact rfl; exact rfl; clear hF hM a; intro w a hM hF)
              refine hK _ _ (fun h => by cases h) ?_; clear hK
              refine t_done (by kernel_rfl) ?_
              (repeat (first | fail))
              injection e0 with q1 q2 q3
              have hD := DatF.snoc (p := ((⟨0, D⟩ : Itm), a2, c2)) (hM.facts (DatF (tP ts)) (by (repeat (first | with_reducible exact List.mem_cons_self | refine List.mem_cons_of_mem _ ?_)))) (hM.facts (RdF (Value.int .u8) a2 D.flatten) (by (repeat (first | with_reducible exact List.mem_cons_self | refine List.mem_cons_of_mem _ ?_))))
              refine q_cut ⟨ts ++ [((⟨false, 0, D⟩ : Tok), a2, c2)], .slice (some ⟨g, 0, none⟩) (pre.length + 1) cap, by rw [tms_app]; rfl, ?_, hF.sub (by repeat (first | exact Sub.nil | refine Sub.cons rfl (by first | with_reducible rfl | (refine congrArg (Value.int _) ?_; omega) | exact rfl) ?_)), ?_⟩
              · rw [tP_app]
                exact hES.tw.snoc ⟨hD8, by show D.length ≤ c2; omega, hDb⟩
              · have hce : cellsT (ts ++ [((⟨false, 0, D⟩ : Tok), a2, c2)]) = cellsT ts ++ [.bool false, .int .u64 0, .slice a2 e c2] := by rw [cellsT_app, ← he]; rfl
                rw [EncM, hce, tP_app]
                exact (hM.addFact hD).sub (.cons _ (.refl _)) (.refl _) (fun f hf => by simp only [List.mem_cons] at hf ⊢; rcases hf with h | h | h | h <;> simp [h, tP])
            | some it =>
              rw [hh] at hfd e1
              have hpi : it ∈ its := look_sub hES.st.tab (dg D) it (List.mem_of_mem_head? hh)
              have hp8 := (hES.st.dw it hpi).1
              have hp4 := hES.ch it hpi
              by_cases hpe : it.1.x = D
              · have htk : tokI (ims its) D = ⟨true, dg D, []⟩ := by
                  unfold tokI
                  rw [hfd, if_pos (by rw [← hpe]; rfl)]
                rw [htk]
                (repeat' (first | (with_reducible refine w_seq ?_) | ((with_reducible refine c_regionR ?_ ?_); rotate_left; exact rfl) | (with_reducible refine s_nil ?_) | ((with_reducible apply s_call (f := 34) hF hM); exact rfl; exact rfl; exact rfl; exact rfl; exact rfl; exact (e1 _ (fun b h => hM.lt b (.inl h)) (hM.factOut (by (repeat (first | with_reducible exact List.mem_cons_self | refine List.mem_cons_of_mem _ ?_)))) (tabR_of (L1 := [_]) hM hES.st.tE)); clear hF hM a; rintro v w a rfl - hM hF) | ((with_reducible apply s_call (f := 35) hF hM); exact rfl; exact rfl; exact rfl; exact rfl; exact rfl; exact (eqS_c it.1.x D hp8 hD8 it.2.1 aq _ _ it.2.2 e rfl he (by omega) _ _ hM.lt (dat_one (hM.facts (DatF its) (by (repeat (first | with_reducible exact List.mem_cons_self | refine List.mem_cons_of_mem _ ?_)))) hpi) (hM.facts (RdF (Value.int .u8) aq D.flatten) (by simp [hDm]))); clear hF hM a; rintro v w a rfl - hM hF; rw [decide_eq_true hpe] at hF) | (with_reducible refine q_then_n ?_) | ((with_reducible apply s_pure hF); exact rfl; exact rfl; exact rfl; (first | exact trivial | omega | exact ⟨Int.natCast_nonneg _, Int.ofNat_lt.2 (by assumption)⟩ | decide); clear hF a; intro a hF) | ((with_reducible apply s_load hF hM); exact rfl; exact rfl; (repeat (first | exact List.mem_cons_self | refine List.mem_cons_of_mem _ ?_)); exact rfl; exact rfl; clear hF a; intro a hF) | ((with_reducible apply s_store hF hM); exact rfl; exact rfl; exact rfl; exact rfl; (repeat (first | exact Upd.z | apply Upd.s)); exact rfl; exact rfl; exact rfl; clear hM; intro w hM) | ((with_reducible apply s_lit hF hM); exact rfl; exact rfl; exact rfl; exact rfl; clear hF hM a; intro bl w a hM hF) | ((with_reducible apply s_app hF hM); exact rfl; exact rfl; exact rfl; exact rfl; (repeat (first | exact Kth.z | apply Kth.s)); exact rfl; exact rfl; exact rfl; exact rfl; omega; clear hF hM a; intro g cap w a hM hF; dsimp only [List.set] at hM) | ((with_reducible apply c_true2 hF); exact rfl; (first | with_reducible rfl | (refine congrArg Value.bool ?_; focus (simp; done))))))
                have hD : Has _ _ (DatF (tP ts ++ [((⟨dg D, []⟩ : Itm), none, 0)])) := DatF.snoc (p := ((⟨dg D, []⟩ : Itm), none, 0)) (hM.facts (DatF (tP ts)) (by (repeat (first | with_reducible exact List.mem_cons_self | refine List.mem_cons_of_mem _ ?_)))) RdF.nil
                refine q_cut ⟨ts ++ [((⟨true, dg D, []⟩ : Tok), none, 0)], .slice (some ⟨g, 0, none⟩) (pre.length + 1) cap, by rw [tms_app]; rfl, ?_, hF.sub (by repeat (first | exact Sub.nil | refine Sub.cons rfl (by first | with_reducible rfl | (refine congrArg (Value.int _) ?_; omega) | exact rfl) ?_)), ?_⟩
                · rw [tP_app]
                  exact hES.tw.snoc ⟨(fun y hy => by simp at hy), Nat.le_refl _, fun s hs => by simp at hs⟩
                · have hce : cellsT (ts ++ [((⟨true, dg D, []⟩ : Tok), none, 0)]) = cellsT ts ++ [.bool true, .int .u64 (dg D), .slice none 0 0] := by rw [cellsT_app]; rfl
                  rw [EncM, hce, tP_app]
                  exact (hM.addFact hD).sub (.refl _) (.refl _) (fun f hf => by simp only [List.mem_cons] at hf ⊢; rcases hf with h | h | h | h <;> simp [h, tP])
              · have htk : tokI (ims its) D = ⟨false, 0, D⟩ := by
                  unfold tokI
                  rw [hfd, if_neg (by intro h; injection h with h; exact hpe h)]
                rw [htk]
                (repeat' (first | (with_reducible refine w_seq ?_) | ((with_reducible refine c_regionR ?_ ?_); rotate_left; exact rfl) | (with_reducible refine s_nil ?_) | ((with_reducible apply s_call (f := 34) hF hM); exact rfl; exact rfl; exact rfl; exact rfl; exact rfl; exact (e1 _ (fun b h => hM.lt b (.inl h)) (hM.factOut (by (repeat (first | with_reducible exact List.mem_cons_self | refine List.mem_cons_of_mem _ ?_)))) (tabR_of (L1 := [_]) hM hES.st.tE)); clear hF hM a; rintro v w a rfl - hM hF) | ((with_reducible apply s_call (f := 35) hF hM); exact rfl; exact rfl; exact rfl; exact rfl; exact rfl; exact (eqS_c it.1.x D hp8 hD8 it.2.1 aq _ _ it.2.2 e rfl he (by omega) _ _ hM.lt (dat_one (hM.facts (DatF its) (by (repeat (first | with_reducible exact List.mem_cons_self | refine List.mem_cons_of_mem _ ?_)))) hpi) (hM.facts (RdF (Value.int .u8) aq D.flatten) (by simp [hDm]))); clear hF hM a; rintro v w a rfl - hM hF; rw [decide_eq_false hpe] at hF) | (with_reducible refine q_then_n ?_) | ((with_reducible apply s_pure hF); exact rfl; exact rfl; exact rfl; (first | exact trivial | omega | exact ⟨Int.natCast_nonneg _, Int.ofNat_lt.2 (by assumption)⟩ | decide); clear hF a; intro a hF) | ((with_reducible apply s_load hF hM); exact rfl; exact rfl; (repeat (first | exact List.mem_cons_self | refine List.mem_cons_of_mem _ ?_)); exact rfl; exact rfl; clear hF a; intro a hF) | ((with_reducible apply c_false2 hF); exact rfl; (first | with_reducible rfl | (refine congrArg Value.bool ?_; focus (simp; done))))))
                refine c_drawR (fun i => Nat.ble 6 i) rfl (fun ⟨_, _, h⟩ => h) (fun x hx => hx) hM ?_; clear hM; intro w hM
                (first | (apply t_load (i := 0) hF rfl rfl rfl; (repeat (first | exact List.mem_cons_self | refine List.mem_cons_of_mem _ ?_)); exact rfl; exact rfl; kernel_rfl; exact hM.sm; exact (fun _ _ _ h => h); clear hF a; intro a hF))
                (first | (refine t_pure (i := 1) hF rfl rfl rfl rfl (by kernel_rfl) hM.sm (fun _ _ _ h => h) ?_ ?_; (first | exact trivial | omega | decide); clear hF a; intro a hF))
                refine t_one (i := 2) hF rfl (by kernel_rfl) rfl ?_
                intro K hK
                (apply x_callO hF; exact rfl; exact rfl; exact rfl; exact rfl; exact (sclone_c D hD8 aq e _ he (by omega) _ _ hM.lt (hM.facts (RdF (Value.int .u8) aq D.flatten) (by simp [hDm]))); clear hF a; rintro v wn a ⟨a2, c2, rfl, hO⟩ hS hF; replace hM := hM.addRows hS hO; clear hS hO; dsimp only [List.cons_append, List.nil_append] at hM)
                (obtain ⟨ao', c', e0, hcc, -⟩ := OffR.shape hM (k := 0) rfl (OffR.plain hM List.mem_cons_self)); replace hM := hM.freezeN
                refine hK _ _ (fun _ => (hM.sm.sub (fun x hx => by repeat (first | exact hx | refine List.mem_cons_of_mem _ ?_)) (fun _ h => by repeat (first | exact h | refine List.mem_cons_of_mem _ ?_)))) ?_; clear hK
                (first | (refine t_pure (i := 3) hF rfl rfl rfl rfl (by kernel_rfl) (hM.sm.sub (fun x hx => by repeat (first | exact hx | refine List.mem_cons_of_mem _ ?_)) (fun _ h => by repeat (first | exact h | refine List.mem_cons_of_mem _ ?_))) (fun _ _ _ h => h) ?_ ?_; (first | exact trivial | omega | decide); clear hF a; intro a hF))
                refine t_one (i := 4) hF rfl (by kernel_rfl) rfl ?_
                intro K hK
                (refine x_lit hF hM rfl rfl rfl ?_; clear hF hM a; intro bl w a hM hF)
                refine hK _ _ (fun _ => (hM.sm.sub (fun x hx => by repeat (first | exact hx | refine List.mem_cons_of_mem _ ?_)) (fun _ h => by repeat (first | exact h | refine List.mem_cons_of_mem _ ?_)))) ?_; clear hK
                refine t_one (i := 5) hF rfl (by kernel_rfl) rfl ?_
                intro K hK
                (apply x_app hF hM rfl rfl rfl; (repeat (first | exact List.mem_cons_self | refine List.mem_cons_of_mem _ ?_)); (repeat (first | exact Kth.z | apply Kth.s)); exact rfl; exact rfl; exact rfl; exact rfl; omega; clear hF hM a; intro g cap w a hM hF; dsimp only [List.set] at hM)
                refine hK _ _ (fun _ => (hM.sm.sub (fun x hx => by repeat (first | exact hx | refine List.mem_cons_of_mem _ ?_)) (fun _ h => by repeat (first | exact h | refine List.mem_cons_of_mem _ ?_)))) ?_; clear hK
                refine t_one (i := 6) hF rfl (by kernel_rfl) rfl ?_
                intro K hK
                (apply x_store hF hM rfl rfl rfl; (repeat (first | exact Upd.z | apply Upd.s)); exact rfl; exact rfl; exact rfl; clear hF hM a; intro w a hM hF)
                refine hK _ _ (fun h => by cases h) ?_; clear hK
                refine t_done (by kernel_rfl) ?_
                (repeat (first | fail))
                injection e0 with q1 q2 q3
                have hD := DatF.snoc (p := ((⟨0, D⟩ : Itm), a2, c2)) (hM.facts (DatF (tP ts)) (by (repeat (first | with_reducible exact List.mem_cons_self | refine List.mem_cons_of_mem _ ?_)))) (hM.facts (RdF (Value.int .u8) a2 D.flatten) (by (repeat (first | with_reducible exact List.mem_cons_self | refine List.mem_cons_of_mem _ ?_))))
                refine q_cut ⟨ts ++ [((⟨false, 0, D⟩ : Tok), a2, c2)], .slice (some ⟨g, 0, none⟩) (pre.length + 1) cap, by rw [tms_app]; rfl, ?_, hF.sub (by repeat (first | exact Sub.nil | refine Sub.cons rfl (by first | with_reducible rfl | (refine congrArg (Value.int _) ?_; omega) | exact rfl) ?_)), ?_⟩
                · rw [tP_app]
                  exact hES.tw.snoc ⟨hD8, by show D.length ≤ c2; omega, hDb⟩
                · have hce : cellsT (ts ++ [((⟨false, 0, D⟩ : Tok), a2, c2)]) = cellsT ts ++ [.bool false, .int .u64 0, .slice a2 e c2] := by rw [cellsT_app, ← he]; rfl
                  rw [EncM, hce, tP_app]
                  exact (hM.addFact hD).sub (.cons _ (.refl _)) (.refl _) (fun f hf => by simp only [List.mem_cons] at hf ⊢; rcases hf with h | h | h | h <;> simp [h, tP])
          · clear hF hM a
            rintro a w3 ⟨ts', tv', htm, htw, hF, hM⟩
            have hcf2 : ∀ f ∈ DatF (tP ts') :: Fx, Nb mb f := by
              intro f hf
              rcases List.mem_cons.1 hf with rfl | hf
              · exact Nb.dat
              · exact hFn f hf
            (repeat (first | ((with_reducible refine c_regionR ?_ ?_); rotate_left; exact rfl) | ((with_reducible apply s_pure hF); exact rfl; exact rfl; exact rfl; (first | exact trivial | omega | exact ⟨Int.natCast_nonneg _, Int.ofNat_lt.2 (by assumption)⟩ | decide); clear hF a; intro a hF) | ((with_reducible apply s_load hF hM); exact rfl; exact rfl; (repeat (first | exact List.mem_cons_self | refine List.mem_cons_of_mem _ ?_)); exact rfl; exact rfl; clear hF a; intro a hF)))
            replace hM : Mm own W _ (eI :: ([⟨93, 3, tv', pre.length + 1, cellsT ts'⟩] ++ rowsT E)) (MpE (Value.int .u64) mb (esE E) :: RdF (Value.int .u8) aq D.flatten :: DatF its :: DatF (tP ts') :: Fx) _ := hM.sub (.refl _) (.refl _) (fun f hf => by simp only [List.mem_cons] at hf ⊢; rcases hf with h | h | h | h | h <;> simp [h, hDm])
            (((with_reducible apply s_callM (f := 37) hF); exact rfl; exact rfl; exact rfl; exact rfl; exact rfl; exact (add_c sb mb cp its iv eI E ⟨by omega, by omega⟩ hES.ln hES.st hmb hcf2 D hD8 hDb (by omega) aq e e he hM); clear hF hM a; rintro v w a ⟨its2, E2, iv2, eI2, him2, hS2, hM⟩ hF))
            (repeat (first | (with_reducible refine s_nil ?_) | (with_reducible refine q_blk_n ?_)))
            have hko := hM.fact (f := KeepsFrom w2.heap.size W') (by simp [hx1])
            refine ⟨hko, ⟨below_mm hM0 hM hko.size, hM.fact (f := KT _ 3 W') (by simp [hx2]), hM.fact (f := KT _ 33 W') (by simp [hx3])⟩, its2, iv2, eI2, E2, ts', tv', ⟨?_, ?_, htw, hS2, ?_, ?_⟩, ?_⟩
            · rw [hsn, him2, hES.im]
            · rw [hsn, htm, hES.tm, hES.im]
            · have := add_len (cap := cp) (l := ims its) (by rw [ims_len]; exact hES.ln) D
              rw [← him2, ims_len] at this
              exact this
            · intro q hq
              have hq2 : q.1 ∈ addI cp (ims its) D := by rw [← him2]; exact List.mem_map.2 ⟨q, hq, rfl⟩
              rcases addI_mem hq2 with h | h
              · obtain ⟨q', hq', e'⟩ := List.mem_map.1 h
                rw [← e']
                exact hES.ch q' hq'
              · rw [h]
                show D.length ≤ 4096
                omega
            · rw [List.length_append]
              exact hM.sub (.refl _) (.refl _) (fun f hf => by simp only [List.mem_cons, List.not_mem_nil, or_false] at hf ⊢; rcases hf with h | h | h | h <;> simp [h, hx4])
end
end Go.Proofs.Ytadfdpkhehdikaa


/- Arguments of the rows of layer 29: sectors, stores, tokens, streams. -/
namespace Go.Proofs.Ytadfdpkhehdikaa
open Go.RowKit Go.Shelf Go.ChangeShapes Go.WideShapes Go.ChangeAt D29
namespace D29
theorem DatF.all {own : Nat → Prop} {w : World} : ∀ {l : List P}, (∀ p ∈ l, Has own w (RdF (Value.int .u8) p.2.1 p.1.x.flatten)) → Has own w (DatF l)
  | [], _ => Has.pure fun _ p hp => by simp at hp
  | p :: l, h => ((h p List.mem_cons_self).and (DatF.all fun q hq => h q (List.mem_cons_of_mem _ hq))).imp fun w h q hq => by
    rcases List.mem_cons.1 hq with rfl | hq
    · exact h.1
    · exact h.2 q hq
/-- Bytes of data. -/
def By8 (x : Dat) : Prop := ∀ s ∈ x, ∀ b ∈ s, 0 ≤ b ∧ b < 256
/-- Sectors, where they lie, and how many places they have. -/
abbrev SP := Dat × Option Addr × Nat
def encSP (p : SP) : Value := .slice p.2.1 p.1.length p.2.2
def sP (l : List SP) : List P := l.map fun t => (⟨0, t.1⟩, t.2)
theorem flat_one {α β : Type} (f : α → β) : ∀ l : List α, (l.map fun q => [f q]).flatten = l.map f
  | [] => rfl
  | q :: l => by rw [List.map_cons, List.flatten_cons, flat_one f l]; rfl
/-- Digests are words. -/
def DgW (l : List P) : Prop := ∀ p ∈ l, 0 ≤ p.1.d ∧ p.1.d < 18446744073709551616
end D29
section
variable {H : Type} {enc : TypeId × Value → H} {w : World} {r : Reach} {b0 base : Nat} {spare : Nat → Bool} {held : Bool}
theorem u8_wf {x : Int} (h : (Lit.int .u8 x).wf = true) : 0 ≤ x ∧ x < 256 := by have := Go.bounds_u8 h; omega
theorem of_secs {n : Nat} {c : Value} {y : DataW H × List MemPlace} (h : DataW.trod enc Try.prog w 0 (fun _ => true) held n 33 [c] = some y) :
    ∃ q : SP, c = encSP q ∧ (W8 q.1 ∧ q.1.length ≤ q.2.2 ∧ By8 q.1) ∧ q.2.2 ≤ maxLen ∧ Has (fun _ => False) w (RdF (Value.int .u8) q.2.1 q.1.flatten) := by
  obtain ⟨a, cap, ls, h1, h2, h3, h4, h5⟩ := of_arrs Try.underlying33 Try.underlying83 Try.underlying5 (by kernel_rfl) (by kernel_rfl) h
  exact ⟨(ls, a, cap), h1, ⟨fun s hs => (h4 s hs).1, h2, fun s hs x hx => u8_wf ((h4 s hs).2 x hx)⟩, h3, Has.reads h5⟩
end
end Go.Proofs.Ytadfdpkhehdikaa


/- The argument of the rows of streams. -/
namespace Go.Proofs.Ytadfdpkhehdikaa
open Go.RowKit Go.Shelf Go.ChangeShapes Go.WideShapes Go.ChangeAt D29
section
variable {H : Type} {enc : TypeId × Value → H} {w : World} {r : Reach} {b0 base : Nat} {spare : Nat → Bool} {held : Bool}
theorem wt_all {e : TypeId} {d : DataW H} {m : Nat} : ∀ {l : List (DataW H)}, d ∈ l → m ∈ d.weights Try.prog e → m ∈ DataW.weightsAll Try.prog e l
  | [], h, _ => (List.not_mem_nil h).elim
  | x :: r, h, hm => by
    rw [DataW.weightsAll]
    rcases List.mem_cons.1 h with rfl | h
    · exact List.mem_append_left _ hm
    · exact List.mem_append_right _ (wt_all h hm)
theorem wt_elem {t e : TypeId} {y d : DataW H} {elems rest : List (DataW H)} (ht : Try.prog.underlying t = some (.slice e)) (hy : y = .slice elems rest) (hd : d ∈ elems) {m : Nat} (hm : m ∈ d.weights Try.prog e) : m ∈ y.weights Try.prog t := by
  subst hy
  unfold DataW.weights
  rw [ht]
  exact List.mem_cons_of_mem _ (List.mem_append_left _ (wt_all hd hm))
/-- A slice that came in takes no more than the reach. -/
theorem slice_w {t e : TypeId} {n : Nat} {c : Value} {y : DataW H × List MemPlace} (ht : Try.prog.underlying t = some (.slice e)) (h : DataW.trod enc Try.prog w base spare held n t [c] = some y) {a : Option Addr} {len cap : Nat} (hc : c = .slice a len cap) (hw : ∀ m ∈ y.1.weights Try.prog t, m ≤ reachBytes) : len * Try.prog.bytesOf e ≤ reachBytes := by
  rcases DataW.trod_slice ht h with ⟨h1, h2⟩ | ⟨a', len', cap', elems, rest, n', -, h1, h2, -, -, -, hl, -⟩
  · simp only [List.cons.injEq, and_true] at h1
    rw [hc] at h1
    injection h1 with _ h3 _
    rw [h3, Nat.zero_mul]
    exact Nat.zero_le _
  · simp only [List.cons.injEq, and_true] at h1
    rw [hc] at h1
    injection h1 with _ h3 _
    have := hw ((elems.length + rest.length) * Try.prog.bytesOf e) (by
      rw [h2]
      unfold DataW.weights
      rw [ht]
      simp)
    rw [h3, ← hl]
    exact Nat.le_trans (Nat.mul_le_mul_right _ (Nat.le_add_right _ _)) this
theorem of_sliceQ {t e : TypeId} {n : Nat} {c : Value} {y : DataW H × List MemPlace} (ht : Try.prog.underlying t = some (.slice e)) (h : DataW.trod enc Try.prog w 0 (fun _ => true) held n t [c] = some y) :
    ∃ (a : Option Addr) (cap : Nat) (rows : List (List Value)), c = .slice a rows.length cap ∧ rows.length ≤ cap ∧ cap ≤ maxLen ∧ (∀ r ∈ rows, r.length = Try.prog.cellsOf e ∧ ∃ n' y', DataW.trod enc Try.prog w 0 (fun _ => true) held n' e r = some y' ∧ ∀ m ∈ y'.1.weights Try.prog e, m ∈ y.1.weights Try.prog t) ∧ Reads (fun v : Value => v) w a rows.flatten := by
  rcases DataW.trod_slice ht h with ⟨hcs, _⟩ | ⟨a, len, cap, elems, rest, m, _, hcs, hyx, _, hl, hm, hlen, hel, _, _⟩
  · simp only [List.cons.injEq, and_true] at hcs
    exact ⟨none, 0, [], hcs, by simp, by decide, by simp, fun i x hx => by simp at hx⟩
  simp only [List.cons.injEq, and_true] at hcs
  subst hcs
  have each : ∀ i, i < len → ∃ cs, w.cells? 0 (a.add (i * Try.prog.cellsOf e)) (Try.prog.cellsOf e) = some cs ∧ ∃ y', DataW.trod enc Try.prog w 0 (fun _ => true) held m e cs = some y' ∧ ∀ m ∈ y'.1.weights Try.prog e, m ∈ y.1.weights Try.prog t := by
    intro i hi
    have h1 := hel i hi
    rw [List.getElem?_eq_getElem (by omega), Option.bind_eq_some_iff] at h1
    obtain ⟨cs, h2, h3⟩ := h1
    exact ⟨cs, h2, _, h3, fun m hm => wt_elem ht (by rw [hyx]) (List.mem_map.2 ⟨_, List.getElem_mem (show i < elems.length by omega), rfl⟩) hm⟩
  have key : ∀ k, k ≤ len → ∃ rows : List (List Value), rows.length = k ∧ (∀ i r, rows[i]? = some r → w.cells? 0 (a.add (i * Try.prog.cellsOf e)) (Try.prog.cellsOf e) = some r ∧ ∃ n' y', DataW.trod enc Try.prog w 0 (fun _ => true) held n' e r = some y' ∧ ∀ m ∈ y'.1.weights Try.prog e, m ∈ y.1.weights Try.prog t) := by
    intro k
    induction k with
    | zero => intro _; exact ⟨[], rfl, fun i r h => by simp at h⟩
    | succ k ih =>
      intro hk
      obtain ⟨rows, h1, h2⟩ := ih (by omega)
      obtain ⟨cs, h3, y', h4⟩ := each k (by omega)
      refine ⟨rows ++ [cs], by simp [h1], fun i r hi => ?_⟩
      by_cases hik : i < k
      · rw [List.getElem?_append_left (by omega)] at hi
        exact h2 i r hi
      · rw [List.getElem?_append_right (by omega)] at hi
        have hik2 : i = k := by
          have := (List.getElem?_eq_some_iff.1 hi).1
          simp at this
          omega
        subst hik2
        rw [h1, Nat.sub_self] at hi
        simp at hi
        subst hi
        exact ⟨h3, m, y', h4⟩
  obtain ⟨rows, hr1, hr2⟩ := key len (Nat.le_refl _)
  have hsz : ∀ r ∈ rows, r.length = Try.prog.cellsOf e := by
    intro r hr
    obtain ⟨i, hi⟩ := List.getElem?_of_mem hr
    exact ((World.cells?_some (hr2 i r hi).1).2.1)
  refine ⟨some a, cap, rows, by rw [hr1], by omega, hm, fun r hr => ?_, ?_⟩
  · obtain ⟨i, hi⟩ := List.getElem?_of_mem hr
    exact ⟨hsz r hr, (hr2 i r hi).2⟩
  · intro j x hx
    obtain ⟨i, q, r, h1, h2, h3⟩ : ∃ i q r, rows[i]? = some r ∧ r[q]? = some x ∧ j = i * Try.prog.cellsOf e + q := by
      clear hr1 hr2 key
      induction rows generalizing j with
      | nil => simp at hx
      | cons r rows ih =>
        have hrl := hsz r (by simp)
        rw [List.flatten_cons] at hx
        by_cases hj : j < r.length
        · rw [List.getElem?_append_left hj] at hx
          exact ⟨0, j, r, rfl, hx, by simp⟩
        · rw [List.getElem?_append_right (by omega)] at hx
          obtain ⟨i, q, r', h1, h2, h3⟩ := ih (fun r hr => hsz r (by simp [hr])) (j - r.length) hx
          exact ⟨i + 1, q, r', h1, h2, by rw [Nat.add_mul, Nat.one_mul]; omega⟩
    obtain ⟨_, hq1, hq2⟩ := World.cells?_some (hr2 i r h1).1
    have hqs : q < Try.prog.cellsOf e := by rw [← hsz r (List.mem_of_getElem? h1)]; exact (List.getElem?_eq_some_iff.1 h2).1
    have hc := (hq2 q hqs).trans h2
    have hlt := World.block_lt_of_cell? w _ hc
    obtain ⟨r0, hr0⟩ := get_of_lt (l := rows) (i := 0) (by have := (List.getElem?_eq_some_iff.1 h1).1; omega)
    obtain ⟨_, hz1, hz2⟩ := World.cells?_some (hr2 0 r0 hr0).1
    have hc0 := hz2 0 (by omega)
    rw [List.getElem?_eq_getElem (by omega), Nat.zero_mul, show (a.add 0).add 0 = a from rfl] at hc0
    have hsp2 := World.cell?_spot hc0
    obtain ⟨b, off, sp⟩ := a
    simp only at hsp2
    subst hsp2
    rw [add_lit, add_lit] at hc hlt
    exact ⟨b, off, rfl, hlt, by rw [h3, ← Nat.add_assoc]; exact hc⟩
theorem of_strm {n : Nat} {c : Value} {y : DataW H × List MemPlace} (h : DataW.trod enc Try.prog w 0 (fun _ => true) held n 22 [c] = some y) (hw : ∀ m ∈ y.1.weights Try.prog 22, m ≤ reachBytes) :
    ∃ (a : Option Addr) (cap : Nat) (ls : List SP), c = .slice a ls.length cap ∧ DatW (sP ls) ∧ (∀ q ∈ ls, q.1.length ≤ 1000000000000000) ∧ Has (fun _ => False) w (RdF encSP a ls) ∧ Has (fun _ => False) w (DatF (sP ls)) := by
  obtain ⟨a, cap, rows, h1, h2, h3, h4, h5⟩ := of_sliceQ Try.underlying22 h
  obtain ⟨ls, rfl, h6⟩ := list_of (f := fun q : SP => [encSP q]) (Q := fun q => (W8 q.1 ∧ q.1.length ≤ q.2.2 ∧ By8 q.1) ∧ q.1.length ≤ 1000000000000000 ∧ Has (fun _ => False) w (RdF (Value.int .u8) q.2.1 q.1.flatten)) (l := rows) (by
    intro r hr
    obtain ⟨hrl, n', y', hy, hyw⟩ := h4 r hr
    rw [show Try.prog.cellsOf 33 = 1 from (by kernel_rfl)] at hrl
    match r, hrl with
    | [c], _ =>
      obtain ⟨q, rfl, k1, k2, k3⟩ := of_secs hy
      have hb := slice_w (c := encSP q) Try.underlying33 hy rfl fun m hm => hw m (hyw m hm)
      rw [show Try.prog.bytesOf 83 = 8 from (by kernel_rfl)] at hb
      have hr : reachBytes = 140737488351232 := rfl
      exact ⟨q, rfl, k1, by omega, k3⟩)
  rw [List.length_map] at h1 h2
  have key : ∀ p ∈ sP ls, ∃ t ∈ ls, p = ((⟨0, t.1⟩ : Itm), t.2) := fun p hp => by
    obtain ⟨t, ht, e⟩ := List.mem_map.1 hp
    exact ⟨t, ht, e.symm⟩
  have hfl := flat_one encSP ls
  rw [hfl] at h5
  refine ⟨a, cap, ls, h1, fun p hp => ?_, fun q hq => (h6 q hq).2.1, Has.reads (fun i x hx => h5 i (encSP x) (by rw [List.getElem?_map, hx]; rfl)), DatF.all fun p hp => ?_⟩
  · obtain ⟨t, ht, rfl⟩ := key p hp; exact (h6 t ht).1
  · obtain ⟨t, ht, rfl⟩ := key p hp; exact (h6 t ht).2.2
theorem of_bools {n : Nat} {c : Value} {y : DataW H × List MemPlace} (h : DataW.trod enc Try.prog w 0 (fun _ => true) held n 23 [c] = some y) :
    ∃ (a : Option Addr) (cap : Nat) (bs : List Bool), c = .slice a bs.length cap ∧ Has (fun _ => False) w (RdF Value.bool a bs) := by
  obtain ⟨a, cap, rows, h1, h2, h3, h4, h5⟩ := of_sliceG Try.underlying23 h
  obtain ⟨bs, rfl, -⟩ := list_of (f := fun q : Bool => [Value.bool q]) (Q := fun _ => True) (l := rows) (by
    intro r hr
    obtain ⟨hrl, n', y', hy⟩ := h4 r hr
    rw [show Try.prog.cellsOf 4 = 1 from (by kernel_rfl)] at hrl
    match r, hrl with
    | [c], _ =>
      obtain ⟨bb, e0, _⟩ := DataW.trod_bool Try.underlying4 (cs := [c]) hy
      exact ⟨bb, e0, trivial⟩)
  rw [List.length_map] at h1
  have hfl := flat_one Value.bool bs
  rw [hfl] at h5
  exact ⟨a, cap, bs, h1, Has.reads (fun i x hx => h5 i (Value.bool x) (by rw [List.getElem?_map, hx]; rfl))⟩
theorem rs_arg {v : Value} {d : DataW H} {p : List MemPlace} (hv : Value.okWide Try.prog w r b0 25 v) (h : DataW.Trod enc Try.prog w 0 (fun _ => true) held 25 v d p) (hw : ∀ m ∈ d.weights Try.prog 25, m ≤ reachBytes) :
    ∃ (x y : Int) (al ab : Option Addr) (cl cb : Nat) (ls : List SP) (bs : List Bool), v = .agg #[.int .u8 x, .int .u8 y, .slice al ls.length cl, .slice ab bs.length cb] ∧ (0 ≤ x ∧ x < 256) ∧ (0 ≤ y ∧ y < 256) ∧ DatW (sP ls) ∧ (∀ q ∈ ls, q.1.length ≤ 1000000000000000) ∧ Has (fun _ => False) w (RdF encSP al ls) ∧ Has (fun _ => False) w (DatF (sP ls)) ∧ Has (fun _ => False) w (RdF Value.bool ab bs) := by
  obtain ⟨cells, rfl, hsz⟩ := okWide_struct Try.underlying25 hv
  obtain ⟨fuel, hf⟩ := h
  obtain ⟨xs, n, _, hd, hl, hlen, hx⟩ := DataW.trod_struct Try.underlying25 hf
  obtain ⟨l⟩ := cells
  have hl2 : l.length = 4 := hl.trans (by kernel_rfl)
  have q0 := hx 0 _ rfl
  have q1 := hx 1 _ rfl
  have q2 := hx 2 _ rfl
  have q3 := hx 3 _ rfl
  match l, hl2, xs, hlen with
  | [u0, u1, u2, u3], _, [y0, y1, y2, y3], _ =>
    rw [show Try.prog.cellsOf _ = 1 from (by kernel_rfl)] at q0
    rw [show Try.prog.cellsOf _ = 1 from (by kernel_rfl)] at q1
    rw [show Try.prog.cellsOf _ = 1 from (by kernel_rfl)] at q2
    rw [show Try.prog.cellsOf _ = 1 from (by kernel_rfl)] at q3
    obtain ⟨x, g2, -, w2⟩ := DataW.trod_int Try.underlying5 (cs := [u0]) q0
    simp only [List.cons.injEq, and_true] at g2
    obtain ⟨y, g3, -, w3⟩ := DataW.trod_int Try.underlying5 (cs := [u1]) q1
    simp only [List.cons.injEq, and_true] at g3
    have hd' : d = .agg [y0.1, y1.1, y2.1, y3.1] := by
      have := congrArg Prod.fst hd
      simpa using this
    have hw2 : ∀ m ∈ y2.1.weights Try.prog 22, m ≤ reachBytes := fun m hm => hw m (by
      rw [hd']
      unfold DataW.weights
      rw [Try.underlying25]
      exact DataW.weights_mem_each (j := 2) rfl rfl m hm)
    obtain ⟨al, cl, ls, e1, h1, h2, h3, h4⟩ := of_strm (c := u2) q2 hw2
    obtain ⟨ab, cb, bs, e2, h5⟩ := of_bools (c := u3) q3
    subst g2 g3 e1 e2
    have b2 := Go.bounds_u8 w2
    have b3 := Go.bounds_u8 w3
    exact ⟨x, y, al, ab, cl, cb, ls, bs, rfl, by omega, by omega, h1, h2, h3, h4, h5⟩
end
end Go.Proofs.Ytadfdpkhehdikaa


/- slices.Clone of a byte string. -/
namespace Go.Proofs.Ytadfdpkhehdikaa
open Go.RowKit Go.Shelf
set_option maxRecDepth 20000 in
theorem cloneB_c (a0 : Option Addr) (c0 : Nat) (xs : List Int) (own : Nat → Prop) (W : World) (hl : ∀ b, own b → b < W.heap.size) (hv : Has own W (RdF (Value.int .u8) a0 xs)) (hb : xs.length ≤ 10000000000) :
    Calls Try.prog 68 ⟨[.slice a0 xs.length c0]⟩ W (Ret W fun v w' => ∃ a' c', v = .slice a' xs.length c' ∧ Owns w' W.heap.size [⟨5, 1, .slice a' xs.length c', xs.length, xs.map (Value.int .u8)⟩]) := by
  have hM := (Mm.start hl).known hv
  cases a0 with
  | none =>
    obtain rfl : xs = [] := by
      cases xs with
      | nil => rfl
      | cons x r => obtain ⟨ad, h⟩ := rd_some hM (by (repeat (first | exact List.mem_cons_self | refine List.mem_cons_of_mem _ ?_))) (k := 0) (x := x) rfl; cases h
    refine f_start Try.func68 rfl Try.ntmps68 rfl rfl ?_; intro a hF
    (repeat' (first | (with_reducible refine w_seq ?_) | (with_reducible refine c_region ?_) | (with_reducible refine s_nil ?_) | ((with_reducible apply s_eqn hF); exact rfl; exact rfl; exact rfl; exact rfl; exact rfl; exact rfl; clear hF a; intro a hF) | (with_reducible refine q_then_n ?_) | ((with_reducible apply s_pure hF); exact rfl; exact rfl; exact rfl; (first | exact trivial | omega | exact ⟨Int.natCast_nonneg _, Int.ofNat_lt.2 (by assumption)⟩ | decide); clear hF a; intro a hF) | (with_reducible refine w_ret ?_) | (with_reducible refine q_then_r ?_) | ((with_reducible apply c_true2 hF); exact rfl; (first | with_reducible rfl | (refine congrArg Value.bool ?_; focus (simp; done))))))
    (apply f_ret Try.results68 hF hM; (repeat (first | exact RL.nil | (apply RL.tmp; exact rfl) | (apply RL.cell; exact rfl; (repeat (first | exact List.mem_cons_self | refine List.mem_cons_of_mem _ ?_)); exact rfl))); refine Ret.mk hM.since ?_; dsimp only [resV])
    exact ⟨none, 0, rfl, (Owns.nil _ _).cons _ _⟩
  | some ad =>
    refine f_start Try.func68 rfl Try.ntmps68 rfl rfl ?_; intro a hF
    (repeat' (first | (with_reducible refine w_seq ?_) | (with_reducible refine c_region ?_) | (with_reducible refine s_nil ?_) | ((with_reducible apply s_eqn hF); exact rfl; exact rfl; exact rfl; exact rfl; exact rfl; exact rfl; clear hF a; intro a hF) | ((with_reducible apply s_appF hF hM); exact rfl; exact rfl; (repeat (first | exact List.mem_cons_self | refine List.mem_cons_of_mem _ ?_)); exact rfl; exact rfl; (repeat (first | exact Kth.z | apply Kth.s)); (intro _; exact rfl); exact rfl; omega; clear hF hM a; intro g cap w a hM hF; dsimp only [List.set] at hM) | ((with_reducible apply s_lit0 hF hM); exact rfl; exact rfl; exact rfl; exact rfl; clear hF hM a; intro bl w a hM hF) | (with_reducible refine q_then_n ?_) | ((with_reducible apply s_pure hF); exact rfl; exact rfl; exact rfl; (first | exact trivial | omega | exact ⟨Int.natCast_nonneg _, Int.ofNat_lt.2 (by assumption)⟩ | decide); clear hF a; intro a hF) | (with_reducible refine w_skip ?_) | (with_reducible refine w_ret ?_) | ((with_reducible apply c_false2 hF); exact rfl; (first | with_reducible rfl | (refine congrArg Value.bool ?_; focus (simp; done))))))
    (apply f_ret Try.results68 hF hM; (repeat (first | exact RL.nil | (apply RL.tmp; exact rfl) | (apply RL.cell; exact rfl; (repeat (first | exact List.mem_cons_self | refine List.mem_cons_of_mem _ ?_)); exact rfl))); refine Ret.mk hM.since ?_; dsimp only [resV])
    simp only [Nat.zero_add, List.nil_append] at hM ⊢
    exact ⟨_, _, rfl, hM.mem.own⟩
end Go.Proofs.Ytadfdpkhehdikaa


/- wire: numbers. -/
namespace Go.Proofs.Ytadfdpkhehdikaa
open Go.RowKit Go.Shelf
/-- The bytes of a number. -/
def puts (n : Nat) : List Int := if n < 128 then [(n : Int)] else ((n % 128 + 128 : Nat) : Int) :: puts (n / 128)
termination_by n
decreasing_by omega
theorem puts_lt {n : Nat} (h : n < 128) : puts n = [(n : Int)] := by rw [puts, if_pos h]
theorem puts_ge {n : Nat} (h : ¬ n < 128) : puts n = ((n % 128 + 128 : Nat) : Int) :: puts (n / 128) := by rw [puts, if_neg h]
theorem puts_len : ∀ (k n : Nat), n < 128 ^ (k + 1) → (puts n).length ≤ k + 1
  | 0, n, h => by rw [puts_lt (by omega)]; simp
  | k + 1, n, h => by
    by_cases g : n < 128
    · rw [puts_lt g]; simp
    · rw [puts_ge g]
      have := puts_len k (n / 128) (by rw [Nat.pow_succ] at h; omega)
      simp
      omega
set_option maxRecDepth 20000 in
/-- putInt: appends in place. -/
theorem putInt_m (n : Nat) (hn : n ≤ 9007199254740991) {own : Nat → Prop} {w0 W : World} {bs : List BoxE} {L : List Ent} {Fs : List (World → Prop)} (hM : Mm own w0 bs L Fs W) {k m : Nat} {v : Value} {xs : List Value} (hL : Kth L k ⟨5, 1, v, m, xs⟩) (hm : m ≤ 100000000000) :
    Calls Try.prog 93 ⟨[v, .int .i64 n]⟩ W (Rtn fun u w' => ∃ a' cap, u = .slice a' (m + (puts n).length) cap ∧ Mm own w0 bs (L.set k ⟨5, 1, .slice a' (m + (puts n).length) cap, m + (puts n).length, xs ++ (puts n).map (Value.int .u8)⟩) Fs w') := by
  refine f_start Try.func93 rfl Try.ntmps93 rfl rfl ?_; intro a hF
  (repeat' (first | (with_reducible refine w_seq ?_) | (with_reducible refine c_region ?_) | (with_reducible refine s_nil ?_) | (with_reducible refine q_then_n ?_) | ((with_reducible apply s_pure hF); exact rfl; exact rfl; exact rfl; (first | exact trivial | omega | exact ⟨Int.natCast_nonneg _, Int.ofNat_lt.2 (by assumption)⟩ | decide); clear hF a; intro a hF) | (with_reducible refine w_skip ?_) | (with_reducible refine w_block ?_) | ((with_reducible apply c_dec hF); exact rfl; all_goals intro hc; all_goals (try (exfalso; omega)))))
  refine c_loop (m := n) (fun mm a w' => ∃ (x q : Nat) (done : List Int) (v' : Value) (xs' : List Value), x = mm ∧ x ≤ n ∧ done.length = q ∧ q ≤ n ∧ puts n = done ++ puts x ∧ xs' = xs ++ done.map (Value.int .u8) ∧
    Fr 27 [] [(0, v'), (1, .int .i64 x)] a ∧ Mm own w0 bs (L.set k ⟨5, 1, v', m + q, xs'⟩) Fs w') ⟨n, 0, [], v, xs, rfl, Nat.le_refl _, rfl, by omega, rfl, by simp, hF.sub (by repeat (first | exact Sub.nil | refine Sub.cons rfl (by first | with_reducible rfl | (refine congrArg (Value.int _) ?_; omega) | exact rfl) ?_)), by
      have : L.set k ⟨5, 1, v, m + 0, xs⟩ = L := by
        apply List.ext_getElem?
        intro j
        rw [List.getElem?_set]
        split
        · rename_i e
          subst e
          rw [if_pos hL.lt]
          exact hL.get.symm
        · rfl
      rw [this]
      exact hM⟩ ?_
  clear hF hM a
  rintro mm a w' ⟨x, q, done, v', xs', rfl, hxn, hdl, hqn, hpu, hxs, hF, hM⟩
  have hL' := hL.set (y := ⟨5, 1, v', m + q, xs'⟩)
  have hq2 : (puts n).length ≤ 8 := puts_len 7 n (by omega)
  have hq3 : q ≤ 8 := by rw [hpu, List.length_append] at hq2; omega
  by_cases hx : x < 128
  · rw [puts_lt hx] at hpu
    (repeat' (first | (with_reducible refine w_seq ?_) | (with_reducible refine c_region ?_) | (with_reducible refine s_nil ?_) | ((with_reducible apply s_app hF hM); exact rfl; exact rfl; exact rfl; exact rfl; (with_reducible assumption); exact rfl; exact rfl; exact rfl; exact rfl; omega; clear hF hM a; intro g cap w a hM hF) | (with_reducible refine q_then_n ?_) | ((with_reducible apply s_pure hF); exact rfl; exact rfl; exact rfl; (first | exact trivial | omega | exact ⟨Int.natCast_nonneg _, Int.ofNat_lt.2 (by assumption)⟩ | decide); clear hF a; intro a hF) | ((with_reducible apply s_lit hF hM); exact rfl; exact rfl; exact rfl; exact rfl; clear hF hM a; intro bl w a hM hF) | (with_reducible refine w_exit ?_) | (with_reducible refine w_ret ?_) | (with_reducible refine q_then_x ?_) | (with_reducible refine q_blk_x ?_) | ((with_reducible apply c_dec hF); exact rfl; all_goals intro hc; all_goals (try (exfalso; omega)))))
    rw [show (x : Int) % 256 = x by omega] at hM
    (apply f_ret Try.results93 hF hM; (repeat (first | exact RL.nil | (apply RL.tmp; exact rfl) | (apply RL.cell; exact rfl; (repeat (first | exact List.mem_cons_self | refine List.mem_cons_of_mem _ ?_)); exact rfl))); refine Both.mk ?_; try dsimp only [resV])
    rw [List.set_set] at hM
    have e1 : (puts n).length = q + 1 := by rw [hpu]; simp [hdl]
    have e2 : xs ++ (puts n).map (Value.int .u8) = xs' ++ [.int .u8 x] := by rw [hpu, hxs]; simp
    refine ⟨some ⟨g, 0, none⟩, cap, by rw [e1]; rfl, ?_⟩
    rw [e1, e2]
    exact hM
  · rw [puts_ge hx] at hpu
    (repeat' (first | (with_reducible refine w_seq ?_) | (with_reducible refine c_region ?_) | (with_reducible refine s_nil ?_) | ((with_reducible apply s_or128 hF); exact rfl; exact rfl; exact rfl; exact rfl; omega; clear hF a; intro a hF) | ((with_reducible apply s_app hF hM); exact rfl; exact rfl; exact rfl; exact rfl; (with_reducible assumption); exact rfl; exact rfl; exact rfl; exact rfl; omega; clear hF hM a; intro g cap w a hM hF) | (with_reducible refine q_then_n ?_) | ((with_reducible apply s_pure hF); exact rfl; exact rfl; exact rfl; (first | exact trivial | omega | exact ⟨Int.natCast_nonneg _, Int.ofNat_lt.2 (by assumption)⟩ | decide); clear hF a; intro a hF) | ((with_reducible apply s_lit hF hM); exact rfl; exact rfl; exact rfl; exact rfl; clear hF hM a; intro bl w a hM hF) | (with_reducible refine w_skip ?_) | (with_reducible refine w_block ?_) | (with_reducible refine q_blk_n ?_) | ((with_reducible apply c_dec hF); exact rfl; all_goals intro hc; all_goals (try (exfalso; omega)))))
    rw [show (x : Int) % 128 % 256 + 128 = ((x % 128 + 128 : Nat) : Int) by omega, List.set_set] at hM
    exact ⟨x / 128, by omega, x / 128, q + 1, done ++ [((x % 128 + 128 : Nat) : Int)], .slice (some ⟨g, 0, none⟩) (m + q + 1) cap, xs' ++ [.int .u8 ((x % 128 + 128 : Nat) : Int)], rfl, by omega, by simp [hdl], by omega, by rw [hpu]; simp, by rw [hxs]; simp, hF.sub (by repeat (first | exact Sub.nil | refine Sub.cons rfl (by first | with_reducible rfl | (refine congrArg (Value.int _) ?_; omega) | exact rfl) ?_)), hM⟩
end Go.Proofs.Ytadfdpkhehdikaa


/- wire: PutInt, and numbers that are read. -/
namespace Go.Proofs.Ytadfdpkhehdikaa
open Go.RowKit Go.Shelf
set_option maxRecDepth 20000 in
theorem PutInt_c (n : Nat) (hn : n ≤ 9007199254740991) (a0 : Option Addr) (c0 : Nat) (ys : List Int) (own : Nat → Prop) (W : World) (hl : ∀ b, own b → b < W.heap.size) (hv : Has own W (RdF (Value.int .u8) a0 ys)) (hb : ys.length ≤ 10000000000) :
    Calls Try.prog 55 ⟨[.slice a0 ys.length c0, .int .i64 n]⟩ W (Ret W fun v w' => ∃ a' c', v = .slice a' (ys.length + (puts n).length) c' ∧ Owns w' W.heap.size [⟨5, 1, .slice a' (ys.length + (puts n).length) c', ys.length + (puts n).length, (ys ++ puts n).map (Value.int .u8)⟩]) := by
  have hM := (Mm.start hl).known hv
  refine f_start Try.func55 rfl Try.ntmps55 rfl rfl ?_; intro a hF
  (repeat (first | (with_reducible refine w_seq ?_) | (with_reducible refine c_region ?_) | (with_reducible refine s_nil ?_) | ((with_reducible apply s_callO (f := 68) hF); exact rfl; exact rfl; exact rfl; exact rfl; exact rfl; exact (cloneB_c _ _ _ _ _ hM.lt (hM.facts _ (by (repeat (first | exact List.mem_cons_self | refine List.mem_cons_of_mem _ ?_)))) hb); clear hF a; rintro v wn a ⟨a1, c1, rfl, hO⟩ hS hF; replace hM := hM.addRows hS hO; clear hS hO; dsimp only [List.cons_append, List.nil_append] at hM) | ((with_reducible apply s_callM (f := 93) hF); exact rfl; exact rfl; exact rfl; exact rfl; exact rfl; exact (putInt_m n hn hM .z (by omega)); clear hF hM a; rintro v w a ⟨a2, c2, rfl, hM⟩ hF) | (with_reducible refine q_then_n ?_) | ((with_reducible apply s_pure hF); exact rfl; exact rfl; exact rfl; (first | exact trivial | omega | exact ⟨Int.natCast_nonneg _, Int.ofNat_lt.2 (by assumption)⟩ | decide); clear hF a; intro a hF) | (with_reducible refine w_ret ?_)))
  (apply f_ret Try.results55 hF hM; (repeat (first | exact RL.nil | (apply RL.tmp; exact rfl) | (apply RL.cell; exact rfl; (repeat (first | exact List.mem_cons_self | refine List.mem_cons_of_mem _ ?_)); exact rfl))); refine Ret.mk hM.since ?_; dsimp only [resV])
  rw [List.map_append]
  exact ⟨a2, c2, rfl, hM.mem.own⟩
theorem PutInt_z (n : Nat) (q : Int) (hq : q = n) (hn : n ≤ 9007199254740991) (a0 : Option Addr) (c0 : Nat) (ys : List Int) (m : Nat) (hm : ys.length = m) (own : Nat → Prop) (W : World) (hl : ∀ b, own b → b < W.heap.size) (hv : Has own W (RdF (Value.int .u8) a0 ys)) (hb : m ≤ 10000000000) :
    Calls Try.prog 55 ⟨[.slice a0 m c0, .int .i64 q]⟩ W (Ret W fun v w' => ∃ a' c', v = .slice a' (m + (puts n).length) c' ∧ Owns w' W.heap.size [⟨5, 1, .slice a' (m + (puts n).length) c', m + (puts n).length, (ys ++ puts n).map (Value.int .u8)⟩]) := by
  subst hq hm
  exact PutInt_c n hn a0 c0 ys own W hl hv hb
/-- What number reads: the number, the error, and how many bytes. -/
def rdN (xs : List Int) : Nat → Nat → Int → Int × Int × Nat
  | 0, _, _ => (0, 3, 0)
  | f + 1, i, n => match xs[i]? with
    | none => (0, 10, 0)
    | some b => if 128 ≤ b then rdN xs f (i + 1) (n + b % 128 * 128 ^ i) else if (b = 0 ∧ 0 < i) ∨ 9007199254740991 < n + b % 128 * 128 ^ i then (0, 3, 0) else (n + b % 128 * 128 ^ i, 0, i + 1)
def rdNum (xs : List Int) : Int × Int × Nat := rdN xs 8 0 0
theorem pow7 : ∀ i : Fin 8, (2 : Int) ^ (7 * i.val) = 128 ^ i.val ∧ (0 : Int) < 128 ^ i.val ∧ (128 : Int) ^ i.val ≤ 562949953421312 := by decide
theorem pow7s : ∀ i : Fin 8, (128 : Int) ^ (i.val + 1) = 128 ^ i.val * 128 := by decide
end Go.Proofs.Ytadfdpkhehdikaa

