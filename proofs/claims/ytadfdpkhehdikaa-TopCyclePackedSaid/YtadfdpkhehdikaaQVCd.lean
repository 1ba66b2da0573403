/- Texts of this seat, one behind the other: BF BG BH D1 D2 D3 D4 Gv Ut D5 D6. -/
import Derived.Recover
import Derived.Test.YtadfdpkhehdikaaQVCc
set_option linter.unusedSimpArgs false
set_option linter.unusedVariables false
set_option linter.unusedSectionVars false
set_option maxRecDepth 3000
/- slices.Chunk at bytes, run over a state of the memory. -/
namespace Go.Proofs.Ytadfdpkhehdikaa
open Go.RowKit Go.Shelf D29 B31
namespace B31
/-- The value of a part of bytes. -/
def partVB (a0 : Option Addr) (len p k : Nat) : Value := .slice (sadr a0 (k * p) (k * p + min p (len - k * p)) 1) (min p (len - k * p)) (min p (len - k * p))
def partB (p : Nat) (l : List Int) (k : Nat) : List Int := (l.drop (k * p)).take p
theorem partB_len (p : Nat) (l : List Int) (k : Nat) : (partB p l k).length = min p (l.length - k * p) := by unfold partB; simp
theorem partB_rd {own : Nat → Prop} {w : World} {a0 : Option Addr} {l : List Int} (h : Has own w (RdF (Value.int .u8) a0 l)) (p k : Nat) : Has own w (RdF (Value.int .u8) (sadr a0 (k * p) (k * p + min p (l.length - k * p)) 1) (partB p l k)) := by
  by_cases hq : k * p = k * p + min p (l.length - k * p)
  · have : (partB p l k).length = 0 := by rw [partB_len]; omega
    rw [List.eq_nil_of_length_eq_zero this]
    exact RdF.nil
  refine h.imp fun w h j x hx => ?_
  have hx2 : l[k * p + j]? = some x := by
    unfold partB at hx
    rw [List.getElem?_take] at hx
    split at hx
    · rwa [List.getElem?_drop] at hx
    · cases hx
  obtain ⟨b, off, rfl, hb, hc2⟩ := h _ x hx2
  refine ⟨b, off + k * p, ?_, hb, ?_⟩
  · unfold sadr
    rw [if_neg (by omega)]
    simp [add_lit]
  · rw [Nat.add_assoc]
    exact hc2
theorem nparts_lt {len p k : Nat} (hp : 1 ≤ p) : k < (len + p - 1) / p ↔ k * p < len := by
  constructor
  · intro h
    have h1 := (Nat.lt_div_iff_mul_lt (by omega)).1 h
    have : k * p = p * k := Nat.mul_comm _ _
    omega
  · intro h
    refine (Nat.lt_div_iff_mul_lt (by omega)).2 ?_
    have : k * p = p * k := Nat.mul_comm _ _
    omega
end B31
theorem ChunkB_c (a0 : Option Addr) (n c0 p : Nat) (hp : 1 ≤ p) (own : Nat → Prop) (W : World) (hl : ∀ b, own b → b < W.heap.size) :
    Calls Try.prog 87 ⟨[.slice a0 n c0, .int .i64 p]⟩ W (Ret W fun v w' => ∃ b1 b2, v = .func (.func 116) #[] #[.pointer (some ⟨b1, 0, none⟩), .pointer (some ⟨b2, 0, none⟩)] ∧ Has own w' (BxF b1 [.slice a0 n c0] 58) ∧ Has own w' (BxF b2 [.int .i64 p] 3)) := by
  have hM := Mm.start hl
  refine f_start Try.func87 rfl Try.ntmps87 rfl rfl ?_; intro a hF
  (repeat' (first | (with_reducible refine w_seq ?_) | (with_reducible refine c_region ?_) | (with_reducible refine s_nil ?_) | (with_reducible refine q_then_n ?_) | ((with_reducible apply s_pure hF); exact rfl; exact rfl; exact rfl; (first | exact trivial | omega | exact ⟨Int.natCast_nonneg _, Int.ofNat_lt.2 (by assumption)⟩ | decide); clear hF a; intro a hF) | ((with_reducible apply s_load hF hM); exact rfl; exact rfl; (repeat (first | exact List.mem_cons_self | refine List.mem_cons_of_mem _ ?_)); exact rfl; exact rfl; clear hF a; intro a hF) | ((with_reducible apply s_box hF hM); exact rfl; exact rfl; exact rfl; exact rfl; clear hF hM a; intro b w a hM hF) | (with_reducible refine w_skip ?_) | (with_reducible refine w_ret ?_) | ((with_reducible apply c_dec hF); exact rfl; all_goals intro hc; all_goals (try (exfalso; omega)))))
  replace hM := hM.freeze.freeze
  (apply f_ret Try.results87 hF hM; (repeat (first | exact RL.nil | (apply RL.tmp; exact rfl) | (apply RL.cell; exact rfl; (repeat (first | exact List.mem_cons_self | refine List.mem_cons_of_mem _ ?_)); exact rfl))); refine Ret.mk hM.since ?_; dsimp only [resV])
  exact ⟨_, _, rfl, (hM.facts _ List.mem_cons_self).own_eq (fun _ h => .inl h), (hM.facts _ (List.mem_cons_of_mem _ List.mem_cons_self)).own_eq (fun _ h => .inl h)⟩
set_option maxRecDepth 20000 in
set_option maxHeartbeats 1000000 in
theorem chunkB_run (len : Nat) (hlen : len ≤ 100000) (p : Nat) (hp : 1 ≤ p ∧ p ≤ 4096) (a0 : Option Addr) (c0 b1 b2 lp : Nat) (hc0 : len ≤ c0) (St : Nat → World → Prop)
    (hS : ∀ k w w', St k w → Since w w' → St k w') (hB : ∀ k w, St k w → Box w b1 ⟨[.slice a0 len c0]⟩ 58 ∧ Box w b2 ⟨[.int .i64 p]⟩ 3)
    (hY : ∀ k w, k < (len + p - 1) / p → St k w → ∀ m, YieldAt Fence.wide m Try.prog lp ⟨[partVB a0 len p k]⟩ w (fun e w' => e = .returned (.bool true) ∧ St (k + 1) w')) (W : World) (h0 : St 0 W) :
    Calls Try.prog 116 ⟨[.func (.yield lp) #[] #[], .pointer (some ⟨b1, 0, none⟩), .pointer (some ⟨b2, 0, none⟩)]⟩ W (Rtn fun _ w' => St ((len + p - 1) / p) w') := by
  have hM : Mm (fun _ => False) W [] [] [] W := Mm.start (fun _ h => h.elim)
  refine f_start Try.func116 rfl Try.ntmps116 rfl rfl ?_; intro a hF
  (repeat' (first | (with_reducible refine w_seq ?_) | (with_reducible refine c_region ?_) | (with_reducible refine s_nil ?_) | (with_reducible refine q_then_n ?_) | ((with_reducible apply s_pure hF); exact rfl; exact rfl; exact rfl; (first | exact trivial | omega | exact ⟨Int.natCast_nonneg _, Int.ofNat_lt.2 (by assumption)⟩ | decide); clear hF a; intro a hF) | (with_reducible refine w_block ?_)))
  refine c_loop (m := (len + p - 1) / p) (fun m a w' => ∃ (k : Nat), m + k = (len + p - 1) / p ∧ St k w' ∧
    Fr 31 [] [(4, .int .i64 (k * p : Nat)), (0, .func (.yield lp) #[] #[]), (1, .pointer (some ⟨b1, 0, none⟩)), (2, .pointer (some ⟨b2, 0, none⟩))] a) ⟨0, by omega, h0, hF.sub (by repeat (first | exact Sub.nil | refine Sub.cons rfl (by first | with_reducible rfl | (refine congrArg (Value.int _) ?_; omega) | (exact (by rw [Nat.zero_mul]; rfl)) | exact rfl) ?_))⟩ ?_
  clear hF hM a
  rintro m a w' ⟨k, hm, hst, hF⟩
  obtain ⟨hp1, hp2⟩ := hB k w' hst
  have hM : Mm (fun _ => False) w' [] [] [BxF b1 [.slice a0 len c0] 58, BxF b2 [.int .i64 p] 3] w' :=
    ((Mm.start (fun _ h => h.elim)).known (BxF.has hp2)).known (BxF.has hp1)
  have hlt2 := nparts_lt (len := len) hp.1 (k := k)
  have hsucc : (k + 1) * p = k * p + p := Nat.succ_mul _ _
  have hpv : partVB a0 len p k = .slice (sadr a0 (k * p) (k * p + min p (len - k * p)) 1) (min p (len - k * p)) (min p (len - k * p)) := rfl
  by_cases hlt : k < (len + p - 1) / p
  · have hql := hlt2.1 hlt
    have hYk := fun w h => hY k w hlt h
    rw [hpv] at hYk
    obtain ⟨q, hq⟩ : ∃ q, k * p = q := ⟨_, rfl⟩
    rw [hq] at hF hql hYk hsucc
    obtain ⟨e, he⟩ : ∃ e, min p (len - q) = e := ⟨_, rfl⟩
    rw [he] at hYk
    have hmin : min (p : Int) ((len - q : Nat) : Int) = (e : Int) := by omega
    have heq : q + e ≤ len := by omega
    with_reducible refine w_seq ?_
    refine c_cut (fun a' w1 => w1 = w' ∧ Fr 31 [] [(4, .int .i64 q), (0, .func (.yield lp) #[] #[]), (1, .pointer (some ⟨b1, 0, none⟩)), (2, .pointer (some ⟨b2, 0, none⟩))] a') ?_ ?_
    · (repeat' (first | (with_reducible refine w_seq ?_) | (with_reducible refine c_region ?_) | (with_reducible refine s_nil ?_) | (with_reducible refine q_then_n ?_) | ((with_reducible apply s_pure hF); exact rfl; exact rfl; exact rfl; (first | exact trivial | omega | exact ⟨Int.natCast_nonneg _, Int.ofNat_lt.2 (by assumption)⟩ | decide); clear hF a; intro a hF) | ((with_reducible apply s_loadK hF hM); exact rfl; exact rfl; (repeat (first | exact List.mem_cons_self | refine List.mem_cons_of_mem _ ?_)); exact rfl; exact rfl; clear hF a; intro a hF) | (with_reducible refine w_skip ?_) | ((with_reducible apply c_dec hF); exact rfl; all_goals intro hc; all_goals (try (exfalso; omega)))))
      exact q_cut ⟨rfl, hF.sub (by repeat (first | exact Sub.nil | refine Sub.cons rfl (by first | with_reducible rfl | (refine congrArg (Value.int _) ?_; omega) | exact rfl) ?_))⟩
    clear hF a
    rintro a w1 ⟨rfl, hF⟩
    (repeat (first | (with_reducible refine w_seq ?_) | (with_reducible refine w_block ?_)))
    have hmin3 : min (p : Int) (((len : Int).toNat - (q : Int).toNat : Nat) : Int) = (e : Int) := by omega
    refine c_cut (fun a' w2 => Fr 31 [] [(5, .int .i64 e), (4, .int .i64 q), (0, .func (.yield lp) #[] #[]), (1, .pointer (some ⟨b1, 0, none⟩)), (2, .pointer (some ⟨b2, 0, none⟩))] a' ∧
      Mm (fun _ => False) w1 [] [] [BxF b1 [.slice a0 len c0] 58, BxF b2 [.int .i64 p] 3] w2) ?_ ?_
    · refine c_draw (fun i => Nat.ble 7 i) hM ?_; clear hM; intro w hM
      (first | (apply t_loadK (i := 0) hF rfl rfl rfl; (repeat (first | exact List.mem_cons_self | refine List.mem_cons_of_mem _ ?_)); exact rfl; exact rfl; kernel_rfl; exact hM.sm; exact (fun _ _ _ h => h); clear hF a; intro a hF))
      (first | (apply t_loadK (i := 1) hF rfl rfl rfl; (repeat (first | exact List.mem_cons_self | refine List.mem_cons_of_mem _ ?_)); exact rfl; exact rfl; kernel_rfl; exact hM.sm; exact (fun _ _ _ h => h); clear hF a; intro a hF))
      (first | (refine t_pure (i := 2) hF rfl rfl rfl rfl (by kernel_rfl) hM.sm (fun _ _ _ h => h) ?_ ?_; (first | exact trivial | omega | decide); clear hF a; intro a hF))
      (first | (refine t_pure (i := 3) hF rfl rfl rfl rfl (by kernel_rfl) hM.sm (fun _ _ _ h => h) ?_ ?_; (first | exact trivial | omega | decide); clear hF a; intro a hF))
      (first | (refine t_pure (i := 4) hF rfl rfl rfl rfl (by kernel_rfl) hM.sm (fun _ _ _ h => h) ?_ ?_; (first | exact trivial | omega | decide); clear hF a; intro a hF))
      (first | (refine t_pure (i := 5) hF rfl rfl rfl rfl (by kernel_rfl) hM.sm (fun _ _ _ h => h) ?_ ?_; (first | exact trivial | omega | decide); clear hF a; intro a hF))
      (first | (refine t_pure (i := 6) hF rfl rfl rfl rfl (by kernel_rfl) hM.sm (fun _ _ _ h => h) ?_ ?_; (first | exact trivial | omega | decide); clear hF a; intro a hF))
      refine t_done (by kernel_rfl) ?_
      (repeat (first | fail))
      rw [hmin3] at hF
      exact q_cut ⟨hF.sub (by repeat (first | exact Sub.nil | refine Sub.cons rfl (by first | with_reducible rfl | (refine congrArg (Value.int _) ?_; omega) | exact rfl) ?_)), hM⟩
    clear hF hM a
    rintro a w ⟨hF, hM⟩
    have hst2 : St k w := hS k w1 w hst hM.since
    with_reducible refine w_seq ?_
    apply c_yield (n := 31) (ds := []) 10 7
    · exact rfl
    · exact rfl
    show wl _ _ [_, _, _, _, _, _, _, _, _, _] _ _
    (repeat (first | (with_reducible refine s_nil ?_) | ((with_reducible apply s_slice3 hF); exact rfl; exact rfl; exact rfl; exact rfl; exact rfl; exact rfl; exact rfl; exact rfl; omega; clear hF a; intro a hF) | (with_reducible refine q_then_n ?_) | ((with_reducible apply s_pure hF); exact rfl; exact rfl; exact rfl; (first | exact trivial | omega | exact ⟨Int.natCast_nonneg _, Int.ofNat_lt.2 (by assumption)⟩ | decide); clear hF a; intro a hF) | ((with_reducible apply s_loadK hF hM); exact rfl; exact rfl; (repeat (first | exact List.mem_cons_self | refine List.mem_cons_of_mem _ ?_)); exact rfl; exact rfl; clear hF a; intro a hF)))
    rw [show ((q : Int) + (e : Int)).toNat - (q : Int).toNat = e by omega, show ((q : Int) + (e : Int)).toNat = q + e by omega, Int.toNat_natCast] at hF
    refine ⟨_, [.slice (sadr a0 q (q + e) 1) e e], lp, _, hF, rfl, rfl, hYk w hst2 _, ?_⟩
    rintro r w3 ⟨rfl, hst3⟩
    refine ⟨_, rfl, fun a hF => ?_⟩
    obtain ⟨hp3, hp4⟩ := hB _ w3 hst3
    clear hM
    have hM : Mm (fun _ => False) w3 [] [] [BxF b1 [.slice a0 len c0] 58, BxF b2 [.int .i64 p] 3] w3 :=
      ((Mm.start (fun _ h => h.elim)).known (BxF.has hp4)).known (BxF.has hp3)
    (repeat' (first | (with_reducible refine c_region ?_) | (with_reducible refine s_nil ?_) | (with_reducible refine q_then_n ?_) | ((with_reducible apply s_pure hF); exact rfl; exact rfl; exact rfl; (first | exact trivial | omega | exact ⟨Int.natCast_nonneg _, Int.ofNat_lt.2 (by assumption)⟩ | decide); clear hF a; intro a hF) | ((with_reducible apply s_loadK hF hM); exact rfl; exact rfl; (repeat (first | exact List.mem_cons_self | refine List.mem_cons_of_mem _ ?_)); exact rfl; exact rfl; clear hF a; intro a hF) | (with_reducible refine w_skip ?_) | (with_reducible refine q_blk_n ?_) | ((with_reducible apply c_false2 hF); exact rfl; (first | with_reducible rfl | (refine congrArg Value.bool ?_; focus (simp; done))))))
    exact ⟨m - 1, by omega, k + 1, by omega, hst3, hF.sub (by repeat (first | exact Sub.nil | refine Sub.cons rfl (by first | with_reducible rfl | (refine congrArg (Value.int _) ?_; omega) | (exact congrArg _ (by omega)) | exact rfl) ?_))⟩
  · obtain rfl : k = (len + p - 1) / p := by omega
    have hql : ¬ (len + p - 1) / p * p < len := fun h => hlt (hlt2.2 h)
    have hqu : (len + p - 1) / p * p ≤ 1000000 := by
      have := Nat.div_mul_le_self (len + p - 1) p
      omega
    generalize hN : (len + p - 1) / p = N at *
    generalize N * p = q at *
    (repeat' (first | (with_reducible refine w_seq ?_) | (with_reducible refine c_region ?_) | (with_reducible refine s_nil ?_) | (with_reducible refine q_then_n ?_) | ((with_reducible apply s_pure hF); exact rfl; exact rfl; exact rfl; (first | exact trivial | omega | exact ⟨Int.natCast_nonneg _, Int.ofNat_lt.2 (by assumption)⟩ | decide); clear hF a; intro a hF) | ((with_reducible apply s_loadK hF hM); exact rfl; exact rfl; (repeat (first | exact List.mem_cons_self | refine List.mem_cons_of_mem _ ?_)); exact rfl; exact rfl; clear hF a; intro a hF) | (with_reducible refine w_exit ?_) | (with_reducible refine q_then_x ?_) | (with_reducible refine q_blk_x ?_) | ((with_reducible apply c_dec hF); exact rfl; all_goals intro hc; all_goals (try (exfalso; omega)))))
    (apply f_end Try.results116 hF hM; (repeat (first | exact RL.nil | (apply RL.tmp; exact rfl) | (apply RL.cell; exact rfl; (repeat (first | exact List.mem_cons_self | refine List.mem_cons_of_mem _ ?_)); exact rfl))); refine Both.mk ?_; try dsimp only [resV])
    exact hst
end Go.Proofs.Ytadfdpkhehdikaa


/- batch: the header of a part. -/
namespace Go.Proofs.Ytadfdpkhehdikaa
open Go.RowKit Go.Shelf D29 B31
set_option maxRecDepth 20000 in
set_option maxHeartbeats 4000000 in
theorem hdPut_c (h0 h1 h2 h3 : Int) (hb : ∀ x ∈ [h0, h1, h2, h3], 0 ≤ x ∧ x ≤ 4294967295) (own : Nat → Prop) (W : World) (hl : ∀ b, own b → b < W.heap.size) :
    Calls Try.prog 52 ⟨[.agg #[.int .i64 h0, .int .i64 h2, .int .i64 h3, .int .i64 h1]]⟩ W (Ret W fun v w' => ∃ a' m c', m = (hdB [h0, h1, h2, h3]).length ∧ v = .slice a' m c' ∧ Owns w' W.heap.size [⟨5, 1, .slice a' m c', m, (hdB [h0, h1, h2, h3]).map (Value.int .u8)⟩]) := by
  have hM := Mm.start hl
  obtain ⟨l, hl4⟩ : ∃ l, l = [h0, h1, h2, h3] := ⟨_, rfl⟩
  have hln : l.length = 4 := by rw [hl4]; rfl
  rw [← hl4] at hb ⊢
  refine f_start Try.func52 rfl Try.ntmps52 rfl rfl ?_; intro a hF
  (repeat' (first | (with_reducible refine w_seq ?_) | (with_reducible refine c_region ?_) | (with_reducible refine s_nil ?_) | ((with_reducible apply s_lit hF hM); exact rfl; exact rfl; exact rfl; exact rfl; clear hF hM a; intro bl w a hM hF; replace hM := Mm.freeze hM) | (with_reducible refine q_then_n ?_) | ((with_reducible apply s_pure hF); exact rfl; exact rfl; exact rfl; (first | exact trivial | omega | exact ⟨Int.natCast_nonneg _, Int.ofNat_lt.2 (by assumption)⟩ | decide); clear hF a; intro a hF) | ((with_reducible apply s_load hF hM); exact rfl; exact rfl; (repeat (first | exact List.mem_cons_self | refine List.mem_cons_of_mem _ ?_)); exact rfl; exact rfl; clear hF a; intro a hF) | ((with_reducible apply s_box hF hM); exact rfl; exact rfl; exact rfl; exact rfl; clear hF hM a; intro b w a hM hF) | (with_reducible refine w_block ?_)))
  replace hM := hM.addFact (Has.ints (hM.facts _ List.mem_cons_self) l (by rw [hl4]; rfl))
  have hh0 : hdB (l.take 0) = [] := rfl
  refine c_loop (m := l.length) (fun z a w' => ∃ (k q : Nat) (T : List Int) (a2 : Option Addr) (c2 : Nat), z + k = l.length ∧ T = hdB (l.take k) ∧ T.length = q ∧ q ≤ 8 * k ∧
    Fr 28 [] [(19, .int .i64 k), (18, .int .i64 (4 : Nat)), (17, .slice (some ⟨bl, 0, none⟩) 4 4), (3, .slice a2 q c2)] a ∧
    Mm own W [] [⟨5, 1, .slice a2 q c2, q, T.map (Value.int .u8)⟩] [RdF (Value.int .i64) (some ⟨bl, 0, none⟩) l] w')
    ⟨0, 0, [], none, 0, by omega, rfl, rfl, by omega, hF.sub (by repeat (first | exact Sub.nil | refine Sub.cons rfl (by first | with_reducible rfl | (refine congrArg (Value.int _) ?_; omega) | exact rfl) ?_)), (hM.sub (List.nil_sublist _) (.refl _) (by intro f hf; simp only [List.mem_cons, List.not_mem_nil, or_false] at hf; (repeat (rcases hf with rfl | hf; · (repeat (first | exact List.mem_cons_self | refine List.mem_cons_of_mem _ ?_)))); first | (subst hf; (repeat (first | exact List.mem_cons_self | refine List.mem_cons_of_mem _ ?_)); done) | (repeat (first | exact hf | refine List.mem_cons_of_mem _ ?_)))).nilRow _ _⟩ ?_
  clear hF hM a
  rintro z a w' ⟨k, q, T, a2, c2, hz, hT, hTl, hq, hF, hM⟩
  by_cases hk : k < l.length
  · obtain ⟨x, hx⟩ := get_of_lt hk
    have hxb := hb x (List.mem_of_getElem? hx)
    have hp := puts_len8 (n := x.toNat) (by omega)
    have hst := hdB_step hx
    rw [← hT] at hst
    obtain ⟨xn, hxn⟩ : ∃ xn : Nat, x = xn := ⟨x.toNat, by omega⟩
    subst hxn
    rw [Int.toNat_natCast] at hst hp
    replace hM := hM.freezeN
    (repeat' (first | (with_reducible refine w_seq ?_) | (with_reducible refine c_region ?_) | (with_reducible refine s_nil ?_) | ((with_reducible apply s_callO (f := 55) hF); exact rfl; exact rfl; exact rfl; exact rfl; exact rfl; exact (PutInt_z xn _ rfl (by omega) a2 c2 T q hTl _ _ hM.lt (hM.facts (RdF (Value.int .u8) a2 T) (by (repeat (first | with_reducible exact List.mem_cons_self | refine List.mem_cons_of_mem _ ?_)))) (by omega)); clear hF a; rintro v wn a ⟨a3, c3, rfl, hO⟩ hS hF; replace hM := hM.addRows hS hO; clear hS hO; dsimp only [List.cons_append, List.nil_append] at hM) | (with_reducible refine q_then_n ?_) | ((with_reducible apply s_pure hF); exact rfl; exact rfl; exact rfl; (first | exact trivial | omega | exact ⟨Int.natCast_nonneg _, Int.ofNat_lt.2 (by assumption)⟩ | decide); clear hF a; intro a hF) | ((with_reducible apply s_loadF hF hM); exact rfl; exact rfl; (repeat (first | exact List.mem_cons_self | refine List.mem_cons_of_mem _ ?_)); exact rfl; exact rfl; (first | with_reducible assumption | (simp only [Int.toNat_natCast]; with_reducible assumption)); clear hF a; intro a hF) | (with_reducible refine w_skip ?_) | (with_reducible refine w_block ?_) | (with_reducible refine q_blk_n ?_) | ((with_reducible apply c_dec hF); exact rfl; all_goals intro hc; all_goals (try (exfalso; omega)))))
    refine ⟨z - 1, by omega, k + 1, q + (puts xn).length, T ++ puts xn, a3, c3, by omega, hst.symm, by rw [List.length_append]; omega, by omega, hF.sub (by repeat (first | exact Sub.nil | refine Sub.cons rfl (by first | with_reducible rfl | (refine congrArg (Value.int _) ?_; omega) | exact rfl) ?_)), hM.sub (.refl _) (.refl _) (by intro f hf; simp only [List.mem_cons, List.not_mem_nil, or_false] at hf; (repeat (rcases hf with rfl | hf; · (repeat (first | exact List.mem_cons_self | refine List.mem_cons_of_mem _ ?_)))); first | (subst hf; (repeat (first | exact List.mem_cons_self | refine List.mem_cons_of_mem _ ?_)); done) | (repeat (first | exact hf | refine List.mem_cons_of_mem _ ?_)))⟩
  · obtain rfl : k = l.length := by omega
    rw [List.take_of_length_le (Nat.le_refl _)] at hT
    (repeat' (first | (with_reducible refine w_seq ?_) | (with_reducible refine c_region ?_) | (with_reducible refine s_nil ?_) | (with_reducible refine q_then_n ?_) | ((with_reducible apply s_pure hF); exact rfl; exact rfl; exact rfl; (first | exact trivial | omega | exact ⟨Int.natCast_nonneg _, Int.ofNat_lt.2 (by assumption)⟩ | decide); clear hF a; intro a hF) | (with_reducible refine w_exit ?_) | (with_reducible refine w_ret ?_) | (with_reducible refine q_then_x ?_) | (with_reducible refine q_blk_x ?_) | ((with_reducible apply c_dec hF); exact rfl; all_goals intro hc; all_goals (try (exfalso; omega)))))
    (apply f_ret Try.results52 hF hM; (repeat (first | exact RL.nil | (apply RL.tmp; exact rfl) | (apply RL.cell; exact rfl; (repeat (first | exact List.mem_cons_self | refine List.mem_cons_of_mem _ ?_)); exact rfl))); refine Ret.mk hM.since ?_; dsimp only [resV])
    rw [← hT]
    exact ⟨a2, q, c2, hTl.symm, rfl, hM.mem.own⟩
end Go.Proofs.Ytadfdpkhehdikaa


/- batch.pieces: an iterator made of an iterator. -/
namespace Go.Proofs.Ytadfdpkhehdikaa
open Go.RowKit Go.Shelf D29 B31
theorem pieces_c (a0 : Option Addr) (n c0 p : Nat) (own : Nat → Prop) (W : World) (hl : ∀ b, own b → b < W.heap.size) :
    Calls Try.prog 51 ⟨[.slice a0 n c0, .int .i64 p]⟩ W (Ret W fun v w' => ∃ b1 b2, v = .func (.func 86) #[] #[.pointer (some ⟨b1, 0, none⟩), .pointer (some ⟨b2, 0, none⟩)] ∧ Has own w' (BxF b1 [.slice a0 n c0] 58) ∧ Has own w' (BxF b2 [.int .i64 p] 3)) := by
  have hM := Mm.start hl
  refine f_start Try.func51 rfl Try.ntmps51 rfl rfl ?_; intro a hF
  (repeat' (first | (with_reducible refine w_seq ?_) | (with_reducible refine c_region ?_) | (with_reducible refine s_nil ?_) | (with_reducible refine q_then_n ?_) | ((with_reducible apply s_pure hF); exact rfl; exact rfl; exact rfl; (first | exact trivial | omega | exact ⟨Int.natCast_nonneg _, Int.ofNat_lt.2 (by assumption)⟩ | decide); clear hF a; intro a hF) | ((with_reducible apply s_box hF hM); exact rfl; exact rfl; exact rfl; exact rfl; clear hF hM a; intro b w a hM hF) | (with_reducible refine w_ret ?_)))
  replace hM := hM.freeze.freeze
  (apply f_ret Try.results51 hF hM; (repeat (first | exact RL.nil | (apply RL.tmp; exact rfl) | (apply RL.cell; exact rfl; (repeat (first | exact List.mem_cons_self | refine List.mem_cons_of_mem _ ?_)); exact rfl))); refine Ret.mk hM.since ?_; dsimp only [resV])
  exact ⟨_, _, rfl, (hM.facts _ List.mem_cons_self).own_eq (fun _ h => .inl h), (hM.facts _ (List.mem_cons_of_mem _ List.mem_cons_self)).own_eq (fun _ h => .inl h)⟩
set_option maxRecDepth 20000 in
set_option maxHeartbeats 4000000 in
theorem pieces_run (len : Nat) (hlen : len ≤ 100000) (p : Nat) (hp : 1 ≤ p ∧ p ≤ 4096) (aE : Option Addr) (cE b1 b2 lp : Nat) (hcE : len ≤ cE) (rc1 : LoopState → Loop) (X : Nat → List BoxE → List Ent → List (World → Prop) → Prop)
    (hX : ∀ k bs L Fs, X k bs L Fs → ∀ f ∈ Fs, ∀ b, lp < b → Nb b f) {own : Nat → Prop} {w0 W : World} (hlp : w0.heap.size ≤ lp)
    (hY : ∀ k bs L Fs B G w, k < (len + p - 1) / p → X k bs L Fs → (∀ f ∈ G, Nb lp f) → Mm own w0 (bs ++ B) L (LpF lp (rc1 .ready) :: (Fs ++ G)) w → ∀ m, YieldAt Fence.wide m Try.prog lp ⟨[.int .i64 k, partVB aE len p k]⟩ w (fun e w' => e = .returned (.bool true) ∧ ∃ bs' L' Fs', X (k + 1) bs' L' Fs' ∧ Mm own w0 (bs' ++ B) L' (LpF lp (rc1 .ready) :: (Fs' ++ G)) w'))
    (bs : List BoxE) (L : List Ent) (Fs : List (World → Prop)) (h0 : X 0 bs L Fs) (hM : Mm own w0 bs L (LpF lp (rc1 .ready) :: BxF b1 [.slice aE len cE] 58 :: BxF b2 [.int .i64 p] 3 :: Fs) W) :
    Calls Try.prog 86 ⟨[.func (.yield lp) #[] #[], .pointer (some ⟨b1, 0, none⟩), .pointer (some ⟨b2, 0, none⟩)]⟩ W (Rtn fun _ w' => ∃ bs' L' Fs', X ((len + p - 1) / p) bs' L' Fs' ∧ Mm own w0 bs' L' (LpF lp (rc1 .ready) :: Fs') w') := by
  refine f_startM Try.func86 rfl Try.ntmps86 rfl rfl ?_; intro a hF
  (repeat' (first | (with_reducible refine w_seq ?_) | (with_reducible refine c_region ?_) | (with_reducible refine s_nil ?_) | ((with_reducible apply s_call (f := 87) hF hM); exact rfl; exact rfl; exact rfl; exact rfl; exact rfl; exact (ChunkB_c aE len cE p hp.1 _ _ hM.lt); clear hF hM a; rintro v w a ⟨q1, q2, rfl, k1, k2⟩ - hM hF) | (with_reducible refine q_then_n ?_) | ((with_reducible apply s_loadK hF hM); exact rfl; exact rfl; (repeat (first | exact List.mem_cons_self | refine List.mem_cons_of_mem _ ?_)); exact rfl; exact rfl; clear hF a; intro a hF) | ((with_reducible apply s_store hF hM); exact rfl; exact rfl; exact rfl; exact rfl; (repeat (first | exact Upd.z | apply Upd.s)); exact rfl; exact rfl; exact rfl; clear hM; intro w hM) | ((with_reducible apply s_alloc hF hM); exact rfl; exact rfl; exact rfl; clear hF hM a; intro b w a hM hF) | ((with_reducible apply s_box hF hM); exact rfl; exact rfl; exact rfl; exact rfl; clear hF hM a; intro b w a hM hF) | (with_reducible refine w_block ?_)))
  rename_i b3 _ _ _
  replace hM := (((hM.addFact k1).addFact k2).perm (List.Perm.swap _ _ _)).freeze
  refine c_rangeO hF rfl rfl hM ?_
  intro D fn tm rc W1 hrc hD hwD hFt hM1
  have hlpD : lp < w.heap.size := Mm.lpLt hM (r := rc1 .ready) (by (repeat (first | with_reducible exact List.mem_cons_self | refine List.mem_cons_of_mem _ ?_)))
  have hnl : ∀ f ∈ (LpF lp (rc1 .ready) :: DefF D :: BxF b3 [.func (.yield lp) #[] #[]] 165 :: BxF q1 [.slice aE len cE] 58 :: BxF q2 [.int .i64 p] 3 :: ([] : List (World → Prop))), Nb (D + 1) f := by
    intro f hf
    simp only [List.mem_cons, List.not_mem_nil, or_false] at hf
    rcases hf with rfl | rfl | rfl | rfl | rfl
    · exact Nb.lp (by omega)
    · exact Nb.dfd (by omega)
    all_goals exact Nb.bx
  refine (chunkB_run len hlen p hp aE cE q1 q2 (D + 1) hcE (fun k w' => ∃ bs L Fs, X k bs L Fs ∧ Mm own w0 (bs ++ [⟨b, ⟨[.int .i64 k]⟩, 3⟩]) L (LpF (D + 1) (rc .ready) :: LpF lp (rc1 .ready) :: DefF D :: BxF b3 [.func (.yield lp) #[] #[]] 165 :: BxF q1 [.slice aE len cE] 58 :: BxF q2 [.int .i64 p] 3 :: Fs) w') ?_ ?_ ?_ W1 ?_).mono ?_
  · rintro k w w' ⟨bs, L, Fs, h, m⟩ hs
    exact ⟨bs, L, Fs, h, m.keep hs⟩
  · rintro k w ⟨bs, L, Fs, h, m⟩
    exact ⟨m.fact (f := BxF q1 [.slice aE len cE] 58) (by (repeat (first | with_reducible exact List.mem_cons_self | refine List.mem_cons_of_mem _ ?_))), m.fact (f := BxF q2 [.int .i64 p] 3) (by (repeat (first | with_reducible exact List.mem_cons_self | refine List.mem_cons_of_mem _ ?_)))⟩
  · rintro k w hk ⟨bs, L, Fs, h, m⟩ mm
    have hnX := hX k bs L Fs h
    refine y_atM mm hrc (by omega) rfl m List.mem_cons_self (fun f hf => List.mem_cons_of_mem _ hf) ?_ (fr_one hFt rfl) (l2 := [(5, partVB aE len p k), (4, .pointer (some ⟨b, 0, none⟩)), (3, .pointer (some ⟨b3, 0, none⟩))]) ?_ ?_
    · intro f hf
      by_cases hx : f ∈ Fs
      · exact hnX f hx _ (by omega)
      · refine hnl f ?_
        simp only [List.mem_cons] at hf
        simp only [List.mem_cons, List.not_mem_nil, or_false]
        rcases hf with h | h | h | h | h | h
        · exact .inl h
        · exact .inr (.inl h)
        · exact .inr (.inr (.inl h))
        · exact .inr (.inr (.inr (.inl h)))
        · exact .inr (.inr (.inr (.inr h)))
        · exact absurd h hx
    · intro k2 a hF
      (repeat' (first | ((with_reducible refine c_regionR ?_ ?_); rotate_left; exact rfl) | (with_reducible refine s_nil ?_) | ((with_reducible apply s_pure hF); exact rfl; exact rfl; exact rfl; (first | exact trivial | omega | exact ⟨Int.natCast_nonneg _, Int.ofNat_lt.2 (by assumption)⟩ | decide); clear hF a; intro a hF)))
      exact q_cut ⟨rfl, hF.sub (by repeat (first | exact Sub.nil | refine Sub.cons rfl (by first | with_reducible rfl | (refine congrArg (Value.int _) ?_; omega) | exact rfl) ?_))⟩
    · intro k2 a W2 hF hM
      have hkb : k ≤ 200000 := by have := Nat.div_le_self (len + p - 1) p; omega
      have hyk := fun w => hY k bs L Fs [⟨b, ⟨[.int .i64 k]⟩, 3⟩] (LpF (D + 1) (rc .busy) :: DefF D :: BxF b3 [.func (.yield lp) #[] #[]] 165 :: BxF q1 [.slice aE len cE] 58 :: BxF q2 [.int .i64 p] 3 :: []) w hk h (by
        intro f hf
        simp only [List.mem_cons, List.not_mem_nil, or_false] at hf
        rcases hf with rfl | rfl | rfl | rfl | rfl
        · exact Nb.lp (by omega)
        · exact Nb.dfd (by omega)
        all_goals exact Nb.bx)
      replace hM := hM.perm (List.perm_append_comm (l₁ := bs))
      dsimp only [List.cons_append, List.nil_append] at hM
      with_reducible refine w_block ?_
      with_reducible refine w_seq ?_
      with_reducible refine w_seq ?_
      apply c_yieldR (n := 17) (ds := []) 3
      · exact rfl
      · exact rfl
      · exact rfl
      show wl _ _ [_, _, _] _ _
      (repeat (first | (with_reducible refine s_nil ?_) | (with_reducible refine q_then_n ?_) | ((with_reducible apply s_pure hF); exact rfl; exact rfl; exact rfl; (first | exact trivial | omega | exact ⟨Int.natCast_nonneg _, Int.ofNat_lt.2 (by assumption)⟩ | decide); clear hF a; intro a hF) | ((with_reducible apply s_load hF hM); exact rfl; exact rfl; (repeat (first | exact List.mem_cons_self | refine List.mem_cons_of_mem _ ?_)); exact rfl; exact rfl; clear hF a; intro a hF) | ((with_reducible apply s_loadK hF hM); exact rfl; exact rfl; (repeat (first | exact List.mem_cons_self | refine List.mem_cons_of_mem _ ?_)); exact rfl; exact rfl; clear hF a; intro a hF)))
      clear hM1
      have hM0 := hM.perm (List.perm_append_singleton _ bs).symm
      refine ⟨_, [.int .i64 k, partVB aE len p k], lp, _, hF, rfl, rfl, hyk W2 (hM0.sub (.refl _) (.refl _) ?_), ?_⟩
      · intro f hf
        simp only [List.mem_cons, List.mem_append, List.not_mem_nil, or_false] at hf ⊢
        rcases hf with h | h | h | h | h | h | h <;> simp [h]
      clear hM0 hM
      rintro r w3 ⟨rfl, bs', L', Fs', hx', hM⟩
      refine ⟨_, rfl, fun a hF => ?_⟩
      replace hM := hM.perm (List.perm_append_comm (l₁ := bs'))
      dsimp only [List.cons_append, List.nil_append] at hM
      (repeat' (first | ((with_reducible refine c_regionR ?_ ?_); rotate_left; exact rfl) | (with_reducible refine s_nil ?_) | (with_reducible refine q_then_n ?_) | ((with_reducible apply s_pure hF); exact rfl; exact rfl; exact rfl; (first | exact trivial | omega | exact ⟨Int.natCast_nonneg _, Int.ofNat_lt.2 (by assumption)⟩ | decide); clear hF a; intro a hF) | ((with_reducible apply s_load hF hM); exact rfl; exact rfl; (repeat (first | exact List.mem_cons_self | refine List.mem_cons_of_mem _ ?_)); exact rfl; exact rfl; clear hF a; intro a hF) | ((with_reducible apply s_store hF hM); exact rfl; exact rfl; exact rfl; exact rfl; (repeat (first | exact Upd.z | apply Upd.s)); exact rfl; exact rfl; exact rfl; clear hM; intro w hM) | (with_reducible refine w_skip ?_) | (with_reducible refine q_blk_n ?_) | ((with_reducible apply c_false2 hF); exact rfl; (first | with_reducible rfl | (refine congrArg Value.bool ?_; focus (simp; done))))))
      have hM0 := hM.perm (List.perm_append_singleton _ bs').symm
      refine q_cut ⟨_, _, _, LpF lp (rc1 .ready) :: DefF D :: BxF b3 [.func (.yield lp) #[] #[]] 165 :: BxF q1 [.slice aE len cE] 58 :: BxF q2 [.int .i64 p] 3 :: Fs', hM0, ?_, ?_, ?_, fun w4 h4 => ⟨rfl, bs', L', Fs', hx', h4⟩⟩
      · simp
      · intro f hf
        simp only [List.mem_cons, List.mem_append, List.not_mem_nil, or_false] at hf ⊢
        rcases hf with h | h | h | h | h | h <;> simp [h]
      · intro f hf
        by_cases hx : f ∈ Fs'
        · exact hX _ _ _ _ hx' f hx _ (by omega)
        · refine hnl f ?_
          simp only [List.mem_cons] at hf
          simp only [List.mem_cons, List.not_mem_nil, or_false]
          rcases hf with h | h | h | h | h | h
          · exact .inl h
          · exact .inr (.inl h)
          · exact .inr (.inr (.inl h))
          · exact .inr (.inr (.inr (.inl h)))
          · exact .inr (.inr (.inr (.inr h)))
          · exact absurd h hx
  · refine ⟨bs, L, Fs, h0, ?_⟩
    have hM2 := hM1.perm (List.perm_append_singleton _ bs).symm
    refine hM2.sub (.refl _) (.refl _) ?_
    intro f hf
    simp only [List.mem_cons, List.mem_append, List.not_mem_nil, or_false] at hf ⊢
    rcases hf with h | h | h | h | h | h | h <;> simp [h]
  · rintro e W3 h3
    cases e with
    | returned v =>
      obtain ⟨bs', L', Fs', hx', hM3⟩ := h3
      refine ⟨_, _, LpF lp (rc1 .ready) :: DefF D :: BxF b3 [.func (.yield lp) #[] #[]] 165 :: BxF q1 [.slice aE len cE] 58 :: BxF q2 [.int .i64 p] 3 :: Fs', hM3, ?_, ?_⟩
      · intro f hf
        by_cases hx : f ∈ Fs'
        · exact hX _ _ _ _ hx' f hx _ (by omega)
        · refine hnl f ?_
          simp only [List.mem_cons] at hf
          simp only [List.mem_cons, List.not_mem_nil, or_false]
          rcases hf with h | h | h | h | h | h
          · exact .inl h
          · exact .inr (.inl h)
          · exact .inr (.inr (.inl h))
          · exact .inr (.inr (.inr (.inl h)))
          · exact .inr (.inr (.inr (.inr h)))
          · exact absurd h hx
      · intro a' w4 hF hM
        clear hM1
        have hM0 := hM.sub (L' := L') (bs' := bs') (List.sublist_append_left _ _) (.refl _) (fun _ h => h)
        (repeat' (first | (with_reducible refine q_blk_n ?_)))
        refine f_retMN (LpF lp (rc1 .ready) :: Fs') Try.results86 hF hM0 (D := D) (by simp) hD ?_ ?_ (by (repeat (first | exact RL.nil | (apply RL.tmp; exact rfl) | (apply RL.cell; exact rfl; (repeat (first | exact List.mem_cons_self | refine List.mem_cons_of_mem _ ?_)); exact rfl)))) fun w' h' => ⟨bs', L', Fs', hx', h'⟩
        · intro f hf
          simp only [List.mem_cons] at hf ⊢
          rcases hf with h | h <;> simp [h]
        · intro f hf
          rcases List.mem_cons.1 hf with rfl | hf
          · exact Nb.lp (by omega)
          · exact hX _ _ _ _ hx' f hf _ (by omega)
    | panicked c => exact h3.elim
    | outgrown => exact h3.elim
end Go.Proofs.Ytadfdpkhehdikaa


/- dictionary: keys and lengths of matches. -/
namespace Go.Proofs.Ytadfdpkhehdikaa
open Go.RowKit Go.Shelf
/-- The four bytes at a place; zeros if there are fewer. -/
def keyV (all : List Int) (i : Nat) : List Int := if i + 4 ≤ all.length then (all.drop i).take 4 else [0, 0, 0, 0]
theorem keyV_len (all : List Int) (i : Nat) : (keyV all i).length = 4 := by
  unfold keyV
  split
  · rw [List.length_take, List.length_drop]; omega
  · rfl
/-- How many bytes from two places on are the same, at most 131. -/
def mlenF (all : List Int) (p t : Nat) : Nat → Nat → Nat
  | 0, n => n
  | f + 1, n => if t + n < all.length ∧ all[p + n]? = all[t + n]? then mlenF all p t f (n + 1) else n
def mlen (all : List Int) (p t : Nat) : Nat := mlenF all p t 131 0
theorem mlenF_le (all : List Int) (p t : Nat) : ∀ (f n : Nat), n ≤ mlenF all p t f n ∧ mlenF all p t f n ≤ n + f
  | 0, n => by simp [mlenF]
  | f + 1, n => by
    rw [mlenF]
    have := mlenF_le all p t f (n + 1)
    split <;> omega
theorem mlen_le (all : List Int) (p t : Nat) : mlen all p t ≤ 131 := by
  have := (mlenF_le all p t 131 0).2
  unfold mlen
  omega
section
variable (all : List Int) (hlen : all.length ≤ 1000000) (a0 : Option Addr) (c0 : Nat) (hc0 : all.length ≤ c0) (b t mb : Nat) (tv wv : Value) (own : Nat → Prop) (W : World) (hl : ∀ b, own b → b < W.heap.size) (hb : Has own W (BxF b [tv, wv, .slice a0 all.length c0, .int .i64 t, .map (some mb)] 133)) (hv : Has own W (RdF (Value.int .u8) a0 all))
include hlen hc0 hl hb hv
theorem key_c (i : Nat) (q : Int) (hq : q = i) (hi : i ≤ 1000000) : Calls Try.prog 97 ⟨[.pointer (some ⟨b, 0, none⟩), .int .i64 q]⟩ W (Ret W fun v _ => v = .tuple #[.agg ((keyV all i).map (Value.int .u8)).toArray, .bool (decide (i + 4 ≤ all.length))]) := by
  subst hq
  have hM := ((Mm.start hl).known hv).known hb
  unfold keyV
  by_cases h4 : i + 4 ≤ all.length
  · rw [if_pos h4, show decide (i + 4 ≤ all.length) = true from decide_eq_true h4]
    obtain ⟨x, hx⟩ := get_of_lt (l := all) (i := i) (by omega)
    obtain ⟨ad, rfl⟩ : ∃ ad, a0 = some ad := rd_some hM (by (repeat (first | exact List.mem_cons_self | refine List.mem_cons_of_mem _ ?_))) hx
    obtain ⟨ad2, hAd⟩ : ∃ ad2, sadr (some ad) i c0 1 = some ad2 := by unfold sadr; split <;> exact ⟨_, rfl⟩
    have hv2 := RdF.drop hv i c0 hc0
    rw [hAd] at hv2
    have hd4 : (all.drop i).length = all.length - i := List.length_drop
    match hdr : all.drop i, hd4 with
    | x0 :: x1 :: x2 :: x3 :: r, _ =>
      rw [hdr] at hv2
      replace hM := hM.known hv2
      refine f_start Try.func97 rfl Try.ntmps97 rfl rfl ?_; intro a hF
      (repeat' (first | (with_reducible refine w_seq ?_) | (with_reducible refine c_region ?_) | (with_reducible refine s_nil ?_) | ((with_reducible apply s_s2a hF); exact rfl; exact rfl; exact rfl; exact rfl; omega; clear hF a; intro a hF) | (with_reducible refine q_then_n ?_) | ((with_reducible apply s_pure hF); exact rfl; exact rfl; exact rfl; (first | exact trivial | omega | exact ⟨Int.natCast_nonneg _, Int.ofNat_lt.2 (by assumption)⟩ | decide); clear hF a; intro a hF) | ((with_reducible apply s_loadK hF hM); exact rfl; exact rfl; (repeat (first | exact List.mem_cons_self | refine List.mem_cons_of_mem _ ?_)); exact rfl; exact rfl; clear hF a; intro a hF) | ((with_reducible apply s_alloc hF hM); exact rfl; exact rfl; exact rfl; clear hF hM a; intro b w a hM hF) | (with_reducible refine w_skip ?_) | ((with_reducible apply c_dec hF); exact rfl; all_goals intro hc; all_goals (try (exfalso; omega)))))
      rw [Int.toNat_natCast, hAd] at hF
      (repeat' (first | (with_reducible refine s_nil ?_) | ((with_reducible apply s_loadA hF hM); exact rfl; exact rfl; (repeat (first | exact List.mem_cons_self | refine List.mem_cons_of_mem _ ?_)); exact rfl; exact rfl; exact rfl; (first | omega | (show (4 : Nat) ≤ _; simp) | (show (8 : Nat) ≤ _; simp)); clear hF a; intro a hF) | (with_reducible refine q_then_n ?_) | ((with_reducible apply s_pure hF); exact rfl; exact rfl; exact rfl; (first | exact trivial | omega | exact ⟨Int.natCast_nonneg _, Int.ofNat_lt.2 (by assumption)⟩ | decide); clear hF a; intro a hF) | ((with_reducible apply s_store hF hM); exact rfl; exact rfl; exact rfl; exact rfl; (repeat (first | exact Upd.z | apply Upd.s)); exact rfl; exact rfl; exact rfl; clear hM; intro w hM) | (with_reducible refine w_ret ?_)))
      (apply f_ret Try.results97 hF hM; (repeat (first | exact RL.nil | (apply RL.tmp; exact rfl) | (apply RL.cell; exact rfl; (repeat (first | exact List.mem_cons_self | refine List.mem_cons_of_mem _ ?_)); exact rfl))); refine Ret.mk hM.since ?_; dsimp only [resV])
      rfl
    | [], h => exfalso; rw [List.length_nil] at h; omega
    | [_], h => exfalso; simp at h; omega
    | [_, _], h => exfalso; simp at h; omega
    | [_, _, _], h => exfalso; simp at h; omega
  · rw [if_neg h4, show decide (i + 4 ≤ all.length) = false from decide_eq_false h4]
    refine f_start Try.func97 rfl Try.ntmps97 rfl rfl ?_; intro a hF
    (repeat' (first | (with_reducible refine w_seq ?_) | (with_reducible refine c_region ?_) | (with_reducible refine s_nil ?_) | (with_reducible refine q_then_n ?_) | ((with_reducible apply s_pure hF); exact rfl; exact rfl; exact rfl; (first | exact trivial | omega | exact ⟨Int.natCast_nonneg _, Int.ofNat_lt.2 (by assumption)⟩ | decide); clear hF a; intro a hF) | ((with_reducible apply s_loadK hF hM); exact rfl; exact rfl; (repeat (first | exact List.mem_cons_self | refine List.mem_cons_of_mem _ ?_)); exact rfl; exact rfl; clear hF a; intro a hF) | ((with_reducible apply s_store hF hM); exact rfl; exact rfl; exact rfl; exact rfl; (repeat (first | exact Upd.z | apply Upd.s)); exact rfl; exact rfl; exact rfl; clear hM; intro w hM) | ((with_reducible apply s_alloc hF hM); exact rfl; exact rfl; exact rfl; clear hF hM a; intro b w a hM hF) | (with_reducible refine w_ret ?_) | (with_reducible refine q_then_r ?_) | ((with_reducible apply c_dec hF); exact rfl; all_goals intro hc; all_goals (try (exfalso; omega)))))
    (apply f_ret Try.results97 hF hM; (repeat (first | exact RL.nil | (apply RL.tmp; exact rfl) | (apply RL.cell; exact rfl; (repeat (first | exact List.mem_cons_self | refine List.mem_cons_of_mem _ ?_)); exact rfl))); refine Ret.mk hM.since ?_; dsimp only [resV])
    rfl
theorem length_c (p : Nat) (q : Int) (hq : q = p) (hp : p < t) (ht : t ≤ all.length) : Calls Try.prog 98 ⟨[.pointer (some ⟨b, 0, none⟩), .int .i64 q]⟩ W (Ret W fun v _ => v = .int .i64 (mlen all p t)) := by
  subst hq
  have hM := ((Mm.start hl).known hv).known hb
  refine f_start Try.func98 rfl Try.ntmps98 rfl rfl ?_; intro a hF
  (repeat' (first | (with_reducible refine w_seq ?_) | (with_reducible refine c_region ?_) | (with_reducible refine s_nil ?_) | (with_reducible refine q_then_n ?_) | ((with_reducible apply s_pure hF); exact rfl; exact rfl; exact rfl; (first | exact trivial | omega | exact ⟨Int.natCast_nonneg _, Int.ofNat_lt.2 (by assumption)⟩ | decide); clear hF a; intro a hF) | (with_reducible refine w_block ?_)))
  refine c_loop (m := 131) (fun m a w' => ∃ n : Nat, m + n = 131 ∧ mlen all p t = mlenF all p t m n ∧
    Fr 49 [] [(5, .int .i64 n), (0, .pointer (some ⟨b, 0, none⟩)), (1, .int .i64 p)] a ∧ Mm own W [] [] [BxF b [tv, wv, .slice a0 all.length c0, .int .i64 t, .map (some mb)] 133, RdF (Value.int .u8) a0 all] w') ⟨0, rfl, rfl, hF.sub (by repeat (first | exact Sub.nil | refine Sub.cons rfl (by first | with_reducible rfl | (refine congrArg (Value.int _) ?_; omega) | exact rfl) ?_)), hM⟩ ?_
  clear hF hM a
  rintro m a w' ⟨n, hm, hml, hF, hM⟩
  by_cases h1 : n < 131
  · obtain ⟨m, rfl⟩ : ∃ k, m = k + 1 := ⟨m - 1, by omega⟩
    by_cases h2 : t + n < all.length
    · obtain ⟨x1, hx1⟩ := get_of_lt (l := all) (i := p + n) (by omega)
      obtain ⟨x2, hx2⟩ := get_of_lt h2
      rw [mlenF, hx1, hx2] at hml
      obtain ⟨ad, rfl⟩ : ∃ ad, a0 = some ad := rd_some hM (by (repeat (first | exact List.mem_cons_self | refine List.mem_cons_of_mem _ ?_))) hx1
      have hx1' : all[((p : Int) + (n : Int)).toNat]? = some x1 := by rw [show ((p : Int) + (n : Int)).toNat = p + n by omega]; exact hx1
      have hx2' : all[((t : Int) + (n : Int)).toNat]? = some x2 := by rw [show ((t : Int) + (n : Int)).toNat = t + n by omega]; exact hx2
      with_reducible refine w_seq ?_
      with_reducible refine w_seq ?_
      refine c_draw (fun i => Nat.ble 40 i) hM ?_; clear hM; intro w hM
      (first | (refine t_pure (i := 0) hF rfl rfl rfl rfl (by kernel_rfl) hM.sm (fun _ _ _ h => h) ?_ ?_; (first | exact trivial | omega | decide); clear hF a; intro a hF))
      (first | (refine t_pure (i := 1) hF rfl rfl rfl rfl (by kernel_rfl) hM.sm (fun _ _ _ h => h) ?_ ?_; (first | exact trivial | omega | decide); clear hF a; intro a hF))
      rw [show decide ((n : Int) < 131) = true from decide_eq_true (by omega)] at hF
      (first | (refine t_pure (i := 2) hF rfl rfl rfl rfl (by kernel_rfl) (hM.sm.sub (fun x hx => by repeat (first | exact hx | refine List.mem_cons_of_mem _ ?_)) (fun _ h => by repeat (first | exact h | refine List.mem_cons_of_mem _ ?_))) (fun _ _ _ h => h) ?_ ?_; (first | exact trivial | omega | decide); clear hF a; intro a hF))
      (first | (refine t_pure (i := 3) hF rfl rfl rfl rfl (by kernel_rfl) (hM.sm.sub (fun x hx => by repeat (first | exact hx | refine List.mem_cons_of_mem _ ?_)) (fun _ h => by repeat (first | exact h | refine List.mem_cons_of_mem _ ?_))) (fun _ _ _ h => h) ?_ ?_; (first | exact trivial | omega | decide); clear hF a; intro a hF))
      (first | (refine t_pure (i := 4) hF rfl rfl rfl rfl (by kernel_rfl) (hM.sm.sub (fun x hx => by repeat (first | exact hx | refine List.mem_cons_of_mem _ ?_)) (fun _ h => by repeat (first | exact h | refine List.mem_cons_of_mem _ ?_))) (fun _ _ _ h => h) ?_ ?_; (first | exact trivial | omega | decide); clear hF a; intro a hF))
      (first | (refine t_pure (i := 5) hF rfl rfl rfl rfl (by kernel_rfl) (hM.sm.sub (fun x hx => by repeat (first | exact hx | refine List.mem_cons_of_mem _ ?_)) (fun _ h => by repeat (first | exact h | refine List.mem_cons_of_mem _ ?_))) (fun _ _ _ h => h) ?_ ?_; (first | exact trivial | omega | decide); clear hF a; intro a hF))
      (first | (apply t_loadK (i := 6) hF rfl rfl rfl; (repeat (first | exact List.mem_cons_self | refine List.mem_cons_of_mem _ ?_)); exact rfl; exact rfl; kernel_rfl; exact (hM.sm.sub (fun x hx => by repeat (first | exact hx | refine List.mem_cons_of_mem _ ?_)) (fun _ h => by repeat (first | exact h | refine List.mem_cons_of_mem _ ?_))); exact (fun _ _ _ h => h); clear hF a; intro a hF))
      (first | (refine t_pure (i := 7) hF rfl rfl rfl rfl (by kernel_rfl) (hM.sm.sub (fun x hx => by repeat (first | exact hx | refine List.mem_cons_of_mem _ ?_)) (fun _ h => by repeat (first | exact h | refine List.mem_cons_of_mem _ ?_))) (fun _ _ _ h => h) ?_ ?_; (first | exact trivial | omega | decide); clear hF a; intro a hF))
      (first | (refine t_pure (i := 8) hF rfl rfl rfl rfl (by kernel_rfl) (hM.sm.sub (fun x hx => by repeat (first | exact hx | refine List.mem_cons_of_mem _ ?_)) (fun _ h => by repeat (first | exact h | refine List.mem_cons_of_mem _ ?_))) (fun _ _ _ h => h) ?_ ?_; (first | exact trivial | omega | decide); clear hF a; intro a hF))
      (first | (refine t_pure (i := 9) hF rfl rfl rfl rfl (by kernel_rfl) (hM.sm.sub (fun x hx => by repeat (first | exact hx | refine List.mem_cons_of_mem _ ?_)) (fun _ h => by repeat (first | exact h | refine List.mem_cons_of_mem _ ?_))) (fun _ _ _ h => h) ?_ ?_; (first | exact trivial | omega | decide); clear hF a; intro a hF))
      (first | (refine t_pure (i := 10) hF rfl rfl rfl rfl (by kernel_rfl) (hM.sm.sub (fun x hx => by repeat (first | exact hx | refine List.mem_cons_of_mem _ ?_)) (fun _ h => by repeat (first | exact h | refine List.mem_cons_of_mem _ ?_))) (fun _ _ _ h => h) ?_ ?_; (first | exact trivial | omega | decide); clear hF a; intro a hF))
      (first | (refine t_pure (i := 11) hF rfl rfl rfl rfl (by kernel_rfl) (hM.sm.sub (fun x hx => by repeat (first | exact hx | refine List.mem_cons_of_mem _ ?_)) (fun _ h => by repeat (first | exact h | refine List.mem_cons_of_mem _ ?_))) (fun _ _ _ h => h) ?_ ?_; (first | exact trivial | omega | decide); clear hF a; intro a hF))
      (first | (apply t_loadK (i := 12) hF rfl rfl rfl; (repeat (first | exact List.mem_cons_self | refine List.mem_cons_of_mem _ ?_)); exact rfl; exact rfl; kernel_rfl; exact (hM.sm.sub (fun x hx => by repeat (first | exact hx | refine List.mem_cons_of_mem _ ?_)) (fun _ h => by repeat (first | exact h | refine List.mem_cons_of_mem _ ?_))); exact (fun _ _ _ h => h); clear hF a; intro a hF))
      (first | (refine t_pure (i := 13) hF rfl rfl rfl rfl (by kernel_rfl) (hM.sm.sub (fun x hx => by repeat (first | exact hx | refine List.mem_cons_of_mem _ ?_)) (fun _ h => by repeat (first | exact h | refine List.mem_cons_of_mem _ ?_))) (fun _ _ _ h => h) ?_ ?_; (first | exact trivial | omega | decide); clear hF a; intro a hF))
      (first | (refine t_pure (i := 14) hF rfl rfl rfl rfl (by kernel_rfl) (hM.sm.sub (fun x hx => by repeat (first | exact hx | refine List.mem_cons_of_mem _ ?_)) (fun _ h => by repeat (first | exact h | refine List.mem_cons_of_mem _ ?_))) (fun _ _ _ h => h) ?_ ?_; (first | exact trivial | omega | decide); clear hF a; intro a hF))
      rw [show decide ((t : Int) + (n : Int) < (all.length : Int)) = true from decide_eq_true (by omega)] at hF
      (first | (refine t_pure (i := 15) hF rfl rfl rfl rfl (by kernel_rfl) (hM.sm.sub (fun x hx => by repeat (first | exact hx | refine List.mem_cons_of_mem _ ?_)) (fun _ h => by repeat (first | exact h | refine List.mem_cons_of_mem _ ?_))) (fun _ _ _ h => h) ?_ ?_; (first | exact trivial | omega | decide); clear hF a; intro a hF))
      (first | (refine t_pure (i := 16) hF rfl rfl rfl rfl (by kernel_rfl) (hM.sm.sub (fun x hx => by repeat (first | exact hx | refine List.mem_cons_of_mem _ ?_)) (fun _ h => by repeat (first | exact h | refine List.mem_cons_of_mem _ ?_))) (fun _ _ _ h => h) ?_ ?_; (first | exact trivial | omega | decide); clear hF a; intro a hF))
      (first | (refine t_pure (i := 17) hF rfl rfl rfl rfl (by kernel_rfl) (hM.sm.sub (fun x hx => by repeat (first | exact hx | refine List.mem_cons_of_mem _ ?_)) (fun _ h => by repeat (first | exact h | refine List.mem_cons_of_mem _ ?_))) (fun _ _ _ h => h) ?_ ?_; (first | exact trivial | omega | decide); clear hF a; intro a hF))
      (first | (refine t_pure (i := 18) hF rfl rfl rfl rfl (by kernel_rfl) (hM.sm.sub (fun x hx => by repeat (first | exact hx | refine List.mem_cons_of_mem _ ?_)) (fun _ h => by repeat (first | exact h | refine List.mem_cons_of_mem _ ?_))) (fun _ _ _ h => h) ?_ ?_; (first | exact trivial | omega | decide); clear hF a; intro a hF))
      (first | (refine t_pure (i := 19) hF rfl rfl rfl rfl (by kernel_rfl) (hM.sm.sub (fun x hx => by repeat (first | exact hx | refine List.mem_cons_of_mem _ ?_)) (fun _ h => by repeat (first | exact h | refine List.mem_cons_of_mem _ ?_))) (fun _ _ _ h => h) ?_ ?_; (first | exact trivial | omega | decide); clear hF a; intro a hF))
      (first | (apply t_loadK (i := 20) hF rfl rfl rfl; (repeat (first | exact List.mem_cons_self | refine List.mem_cons_of_mem _ ?_)); exact rfl; exact rfl; kernel_rfl; exact (hM.sm.sub (fun x hx => by repeat (first | exact hx | refine List.mem_cons_of_mem _ ?_)) (fun _ h => by repeat (first | exact h | refine List.mem_cons_of_mem _ ?_))); exact (fun _ _ _ h => h); clear hF a; intro a hF))
      (first | (refine t_pure (i := 21) hF rfl rfl rfl rfl (by kernel_rfl) (hM.sm.sub (fun x hx => by repeat (first | exact hx | refine List.mem_cons_of_mem _ ?_)) (fun _ h => by repeat (first | exact h | refine List.mem_cons_of_mem _ ?_))) (fun _ _ _ h => h) ?_ ?_; (first | exact trivial | omega | decide); clear hF a; intro a hF))
      (first | (refine t_pure (i := 22) hF rfl rfl rfl rfl (by kernel_rfl) (hM.sm.sub (fun x hx => by repeat (first | exact hx | refine List.mem_cons_of_mem _ ?_)) (fun _ h => by repeat (first | exact h | refine List.mem_cons_of_mem _ ?_))) (fun _ _ _ h => h) ?_ ?_; (first | exact trivial | omega | decide); clear hF a; intro a hF))
      (first | (refine t_pure (i := 23) hF rfl rfl rfl rfl (by kernel_rfl) (hM.sm.sub (fun x hx => by repeat (first | exact hx | refine List.mem_cons_of_mem _ ?_)) (fun _ h => by repeat (first | exact h | refine List.mem_cons_of_mem _ ?_))) (fun _ _ _ h => h) ?_ ?_; (first | exact trivial | omega | decide); clear hF a; intro a hF))
      (first | (refine t_pure (i := 24) hF rfl rfl rfl rfl (by kernel_rfl) (hM.sm.sub (fun x hx => by repeat (first | exact hx | refine List.mem_cons_of_mem _ ?_)) (fun _ h => by repeat (first | exact h | refine List.mem_cons_of_mem _ ?_))) (fun _ _ _ h => h) ?_ ?_; (first | exact trivial | omega | decide); clear hF a; intro a hF))
      (first | (apply t_loadF (i := 25) hF rfl rfl rfl; (repeat (first | exact List.mem_cons_self | refine List.mem_cons_of_mem _ ?_)); (first | with_reducible assumption | (simp only [Int.toNat_natCast]; with_reducible assumption)); exact rfl; exact rfl; kernel_rfl; exact (hM.sm.sub (fun x hx => by repeat (first | exact hx | refine List.mem_cons_of_mem _ ?_)) (fun _ h => by repeat (first | exact h | refine List.mem_cons_of_mem _ ?_))); exact (fun _ _ _ h => h); clear hF a; intro a hF))
      (first | (refine t_pure (i := 26) hF rfl rfl rfl rfl (by kernel_rfl) (hM.sm.sub (fun x hx => by repeat (first | exact hx | refine List.mem_cons_of_mem _ ?_)) (fun _ h => by repeat (first | exact h | refine List.mem_cons_of_mem _ ?_))) (fun _ _ _ h => h) ?_ ?_; (first | exact trivial | omega | decide); clear hF a; intro a hF))
      (first | (refine t_pure (i := 27) hF rfl rfl rfl rfl (by kernel_rfl) (hM.sm.sub (fun x hx => by repeat (first | exact hx | refine List.mem_cons_of_mem _ ?_)) (fun _ h => by repeat (first | exact h | refine List.mem_cons_of_mem _ ?_))) (fun _ _ _ h => h) ?_ ?_; (first | exact trivial | omega | decide); clear hF a; intro a hF))
      (first | (refine t_pure (i := 28) hF rfl rfl rfl rfl (by kernel_rfl) (hM.sm.sub (fun x hx => by repeat (first | exact hx | refine List.mem_cons_of_mem _ ?_)) (fun _ h => by repeat (first | exact h | refine List.mem_cons_of_mem _ ?_))) (fun _ _ _ h => h) ?_ ?_; (first | exact trivial | omega | decide); clear hF a; intro a hF))
      (first | (apply t_loadK (i := 29) hF rfl rfl rfl; (repeat (first | exact List.mem_cons_self | refine List.mem_cons_of_mem _ ?_)); exact rfl; exact rfl; kernel_rfl; exact (hM.sm.sub (fun x hx => by repeat (first | exact hx | refine List.mem_cons_of_mem _ ?_)) (fun _ h => by repeat (first | exact h | refine List.mem_cons_of_mem _ ?_))); exact (fun _ _ _ h => h); clear hF a; intro a hF))
      (first | (refine t_pure (i := 30) hF rfl rfl rfl rfl (by kernel_rfl) (hM.sm.sub (fun x hx => by repeat (first | exact hx | refine List.mem_cons_of_mem _ ?_)) (fun _ h => by repeat (first | exact h | refine List.mem_cons_of_mem _ ?_))) (fun _ _ _ h => h) ?_ ?_; (first | exact trivial | omega | decide); clear hF a; intro a hF))
      (first | (refine t_pure (i := 31) hF rfl rfl rfl rfl (by kernel_rfl) (hM.sm.sub (fun x hx => by repeat (first | exact hx | refine List.mem_cons_of_mem _ ?_)) (fun _ h => by repeat (first | exact h | refine List.mem_cons_of_mem _ ?_))) (fun _ _ _ h => h) ?_ ?_; (first | exact trivial | omega | decide); clear hF a; intro a hF))
      (first | (refine t_pure (i := 32) hF rfl rfl rfl rfl (by kernel_rfl) (hM.sm.sub (fun x hx => by repeat (first | exact hx | refine List.mem_cons_of_mem _ ?_)) (fun _ h => by repeat (first | exact h | refine List.mem_cons_of_mem _ ?_))) (fun _ _ _ h => h) ?_ ?_; (first | exact trivial | omega | decide); clear hF a; intro a hF))
      (first | (apply t_loadK (i := 33) hF rfl rfl rfl; (repeat (first | exact List.mem_cons_self | refine List.mem_cons_of_mem _ ?_)); exact rfl; exact rfl; kernel_rfl; exact (hM.sm.sub (fun x hx => by repeat (first | exact hx | refine List.mem_cons_of_mem _ ?_)) (fun _ h => by repeat (first | exact h | refine List.mem_cons_of_mem _ ?_))); exact (fun _ _ _ h => h); clear hF a; intro a hF))
      (first | (refine t_pure (i := 34) hF rfl rfl rfl rfl (by kernel_rfl) (hM.sm.sub (fun x hx => by repeat (first | exact hx | refine List.mem_cons_of_mem _ ?_)) (fun _ h => by repeat (first | exact h | refine List.mem_cons_of_mem _ ?_))) (fun _ _ _ h => h) ?_ ?_; (first | exact trivial | omega | decide); clear hF a; intro a hF))
      (first | (refine t_pure (i := 35) hF rfl rfl rfl rfl (by kernel_rfl) (hM.sm.sub (fun x hx => by repeat (first | exact hx | refine List.mem_cons_of_mem _ ?_)) (fun _ h => by repeat (first | exact h | refine List.mem_cons_of_mem _ ?_))) (fun _ _ _ h => h) ?_ ?_; (first | exact trivial | omega | decide); clear hF a; intro a hF))
      (first | (refine t_pure (i := 36) hF rfl rfl rfl rfl (by kernel_rfl) (hM.sm.sub (fun x hx => by repeat (first | exact hx | refine List.mem_cons_of_mem _ ?_)) (fun _ h => by repeat (first | exact h | refine List.mem_cons_of_mem _ ?_))) (fun _ _ _ h => h) ?_ ?_; (first | exact trivial | omega | decide); clear hF a; intro a hF))
      (first | (apply t_loadF (i := 37) hF rfl rfl rfl; (repeat (first | exact List.mem_cons_self | refine List.mem_cons_of_mem _ ?_)); (first | with_reducible assumption | (simp only [Int.toNat_natCast]; with_reducible assumption)); exact rfl; exact rfl; kernel_rfl; exact (hM.sm.sub (fun x hx => by repeat (first | exact hx | refine List.mem_cons_of_mem _ ?_)) (fun _ h => by repeat (first | exact h | refine List.mem_cons_of_mem _ ?_))); exact (fun _ _ _ h => h); clear hF a; intro a hF))
      (first | (refine t_pure (i := 38) hF rfl rfl rfl rfl (by kernel_rfl) (hM.sm.sub (fun x hx => by repeat (first | exact hx | refine List.mem_cons_of_mem _ ?_)) (fun _ h => by repeat (first | exact h | refine List.mem_cons_of_mem _ ?_))) (fun _ _ _ h => h) ?_ ?_; (first | exact trivial | omega | decide); clear hF a; intro a hF))
      (first | (refine t_pure (i := 39) hF rfl rfl rfl rfl (by kernel_rfl) (hM.sm.sub (fun x hx => by repeat (first | exact hx | refine List.mem_cons_of_mem _ ?_)) (fun _ h => by repeat (first | exact h | refine List.mem_cons_of_mem _ ?_))) (fun _ _ _ h => h) ?_ ?_; (first | exact trivial | omega | decide); clear hF a; intro a hF))
      refine t_done (by kernel_rfl) ?_
      (repeat' (first | (with_reducible refine w_seq ?_) | (with_reducible refine c_region ?_) | (with_reducible refine s_nil ?_) | (with_reducible refine q_then_n ?_) | ((with_reducible apply s_pure hF); exact rfl; exact rfl; exact rfl; (first | exact trivial | omega | exact ⟨Int.natCast_nonneg _, Int.ofNat_lt.2 (by assumption)⟩ | decide); clear hF a; intro a hF) | (with_reducible refine w_skip ?_) | (with_reducible refine w_block ?_) | (with_reducible refine w_exit ?_) | (with_reducible refine w_ret ?_) | (with_reducible refine q_then_x ?_) | (with_reducible refine q_blk_n ?_) | (with_reducible refine q_blk_x ?_) | ((with_reducible apply c_dec hF); exact rfl; all_goals intro hc; all_goals (try (exfalso; omega)))))
      · subst hc
        rw [if_pos ⟨h2, rfl⟩] at hml
        exact ⟨m, by omega, n + 1, by omega, hml, hF.sub (by repeat (first | exact Sub.nil | refine Sub.cons rfl (by first | with_reducible rfl | (refine congrArg (Value.int _) ?_; omega) | exact rfl) ?_)), hM⟩
      · rw [if_neg (by rintro ⟨_, e⟩; injection e with e; exact hc e)] at hml
        (apply f_ret Try.results98 hF hM; (repeat (first | exact RL.nil | (apply RL.tmp; exact rfl) | (apply RL.cell; exact rfl; (repeat (first | exact List.mem_cons_self | refine List.mem_cons_of_mem _ ?_)); exact rfl))); refine Ret.mk hM.since ?_; dsimp only [resV])
        rw [hml]
    · rw [mlenF, if_neg (by omega)] at hml
      with_reducible refine w_seq ?_
      with_reducible refine w_seq ?_
      refine c_draw (fun i => Nat.ble 40 i) hM ?_; clear hM; intro w hM
      (first | (refine t_pure (i := 0) hF rfl rfl rfl rfl (by kernel_rfl) hM.sm (fun _ _ _ h => h) ?_ ?_; (first | exact trivial | omega | decide); clear hF a; intro a hF))
      (first | (refine t_pure (i := 1) hF rfl rfl rfl rfl (by kernel_rfl) hM.sm (fun _ _ _ h => h) ?_ ?_; (first | exact trivial | omega | decide); clear hF a; intro a hF))
      rw [show decide ((n : Int) < 131) = true from decide_eq_true (by omega)] at hF
      (first | (refine t_pure (i := 2) hF rfl rfl rfl rfl (by kernel_rfl) (hM.sm.sub (fun x hx => by repeat (first | exact hx | refine List.mem_cons_of_mem _ ?_)) (fun _ h => by repeat (first | exact h | refine List.mem_cons_of_mem _ ?_))) (fun _ _ _ h => h) ?_ ?_; (first | exact trivial | omega | decide); clear hF a; intro a hF))
      (first | (refine t_pure (i := 3) hF rfl rfl rfl rfl (by kernel_rfl) (hM.sm.sub (fun x hx => by repeat (first | exact hx | refine List.mem_cons_of_mem _ ?_)) (fun _ h => by repeat (first | exact h | refine List.mem_cons_of_mem _ ?_))) (fun _ _ _ h => h) ?_ ?_; (first | exact trivial | omega | decide); clear hF a; intro a hF))
      (first | (refine t_pure (i := 4) hF rfl rfl rfl rfl (by kernel_rfl) (hM.sm.sub (fun x hx => by repeat (first | exact hx | refine List.mem_cons_of_mem _ ?_)) (fun _ h => by repeat (first | exact h | refine List.mem_cons_of_mem _ ?_))) (fun _ _ _ h => h) ?_ ?_; (first | exact trivial | omega | decide); clear hF a; intro a hF))
      (first | (refine t_pure (i := 5) hF rfl rfl rfl rfl (by kernel_rfl) (hM.sm.sub (fun x hx => by repeat (first | exact hx | refine List.mem_cons_of_mem _ ?_)) (fun _ h => by repeat (first | exact h | refine List.mem_cons_of_mem _ ?_))) (fun _ _ _ h => h) ?_ ?_; (first | exact trivial | omega | decide); clear hF a; intro a hF))
      (first | (apply t_loadK (i := 6) hF rfl rfl rfl; (repeat (first | exact List.mem_cons_self | refine List.mem_cons_of_mem _ ?_)); exact rfl; exact rfl; kernel_rfl; exact (hM.sm.sub (fun x hx => by repeat (first | exact hx | refine List.mem_cons_of_mem _ ?_)) (fun _ h => by repeat (first | exact h | refine List.mem_cons_of_mem _ ?_))); exact (fun _ _ _ h => h); clear hF a; intro a hF))
      (first | (refine t_pure (i := 7) hF rfl rfl rfl rfl (by kernel_rfl) (hM.sm.sub (fun x hx => by repeat (first | exact hx | refine List.mem_cons_of_mem _ ?_)) (fun _ h => by repeat (first | exact h | refine List.mem_cons_of_mem _ ?_))) (fun _ _ _ h => h) ?_ ?_; (first | exact trivial | omega | decide); clear hF a; intro a hF))
      (first | (refine t_pure (i := 8) hF rfl rfl rfl rfl (by kernel_rfl) (hM.sm.sub (fun x hx => by repeat (first | exact hx | refine List.mem_cons_of_mem _ ?_)) (fun _ h => by repeat (first | exact h | refine List.mem_cons_of_mem _ ?_))) (fun _ _ _ h => h) ?_ ?_; (first | exact trivial | omega | decide); clear hF a; intro a hF))
      (first | (refine t_pure (i := 9) hF rfl rfl rfl rfl (by kernel_rfl) (hM.sm.sub (fun x hx => by repeat (first | exact hx | refine List.mem_cons_of_mem _ ?_)) (fun _ h => by repeat (first | exact h | refine List.mem_cons_of_mem _ ?_))) (fun _ _ _ h => h) ?_ ?_; (first | exact trivial | omega | decide); clear hF a; intro a hF))
      (first | (refine t_pure (i := 10) hF rfl rfl rfl rfl (by kernel_rfl) (hM.sm.sub (fun x hx => by repeat (first | exact hx | refine List.mem_cons_of_mem _ ?_)) (fun _ h => by repeat (first | exact h | refine List.mem_cons_of_mem _ ?_))) (fun _ _ _ h => h) ?_ ?_; (first | exact trivial | omega | decide); clear hF a; intro a hF))
      (first | (refine t_pure (i := 11) hF rfl rfl rfl rfl (by kernel_rfl) (hM.sm.sub (fun x hx => by repeat (first | exact hx | refine List.mem_cons_of_mem _ ?_)) (fun _ h => by repeat (first | exact h | refine List.mem_cons_of_mem _ ?_))) (fun _ _ _ h => h) ?_ ?_; (first | exact trivial | omega | decide); clear hF a; intro a hF))
      (first | (apply t_loadK (i := 12) hF rfl rfl rfl; (repeat (first | exact List.mem_cons_self | refine List.mem_cons_of_mem _ ?_)); exact rfl; exact rfl; kernel_rfl; exact (hM.sm.sub (fun x hx => by repeat (first | exact hx | refine List.mem_cons_of_mem _ ?_)) (fun _ h => by repeat (first | exact h | refine List.mem_cons_of_mem _ ?_))); exact (fun _ _ _ h => h); clear hF a; intro a hF))
      (first | (refine t_pure (i := 13) hF rfl rfl rfl rfl (by kernel_rfl) (hM.sm.sub (fun x hx => by repeat (first | exact hx | refine List.mem_cons_of_mem _ ?_)) (fun _ h => by repeat (first | exact h | refine List.mem_cons_of_mem _ ?_))) (fun _ _ _ h => h) ?_ ?_; (first | exact trivial | omega | decide); clear hF a; intro a hF))
      (first | (refine t_pure (i := 14) hF rfl rfl rfl rfl (by kernel_rfl) (hM.sm.sub (fun x hx => by repeat (first | exact hx | refine List.mem_cons_of_mem _ ?_)) (fun _ h => by repeat (first | exact h | refine List.mem_cons_of_mem _ ?_))) (fun _ _ _ h => h) ?_ ?_; (first | exact trivial | omega | decide); clear hF a; intro a hF))
      rw [show decide ((t : Int) + (n : Int) < (all.length : Int)) = false from decide_eq_false (by omega)] at hF
      (first | (refine t_pure (i := 15) hF rfl rfl rfl rfl (by kernel_rfl) (hM.sm.sub (fun x hx => by repeat (first | exact hx | refine List.mem_cons_of_mem _ ?_)) (fun _ h => by repeat (first | exact h | refine List.mem_cons_of_mem _ ?_))) (fun _ _ _ h => h) ?_ ?_; (first | exact trivial | omega | decide); clear hF a; intro a hF))
      (first | (refine t_pure (i := 16) hF rfl rfl rfl rfl (by kernel_rfl) (hM.sm.sub (fun x hx => by repeat (first | exact hx | refine List.mem_cons_of_mem _ ?_)) (fun _ h => by repeat (first | exact h | refine List.mem_cons_of_mem _ ?_))) (fun _ _ _ h => h) ?_ ?_; (first | exact trivial | omega | decide); clear hF a; intro a hF))
      (first | (refine t_skip (i := 17) hF rfl rfl rfl (by kernel_rfl) (hM.sm.sub (fun x hx => by repeat (first | exact hx | refine List.mem_cons_of_mem _ ?_)) (fun _ h => by repeat (first | exact h | refine List.mem_cons_of_mem _ ?_))) (fun _ _ _ h => h) ?_; clear hF a; intro a hF))
      (first | (refine t_skip (i := 18) hF rfl rfl rfl (by kernel_rfl) (hM.sm.sub (fun x hx => by repeat (first | exact hx | refine List.mem_cons_of_mem _ ?_)) (fun _ h => by repeat (first | exact h | refine List.mem_cons_of_mem _ ?_))) (fun _ _ _ h => h) ?_; clear hF a; intro a hF))
      (first | (refine t_skip (i := 19) hF rfl rfl rfl (by kernel_rfl) (hM.sm.sub (fun x hx => by repeat (first | exact hx | refine List.mem_cons_of_mem _ ?_)) (fun _ h => by repeat (first | exact h | refine List.mem_cons_of_mem _ ?_))) (fun _ _ _ h => h) ?_; clear hF a; intro a hF))
      (first | (refine t_skip (i := 20) hF rfl rfl rfl (by kernel_rfl) (hM.sm.sub (fun x hx => by repeat (first | exact hx | refine List.mem_cons_of_mem _ ?_)) (fun _ h => by repeat (first | exact h | refine List.mem_cons_of_mem _ ?_))) (fun _ _ _ h => h) ?_; clear hF a; intro a hF))
      (first | (refine t_skip (i := 21) hF rfl rfl rfl (by kernel_rfl) (hM.sm.sub (fun x hx => by repeat (first | exact hx | refine List.mem_cons_of_mem _ ?_)) (fun _ h => by repeat (first | exact h | refine List.mem_cons_of_mem _ ?_))) (fun _ _ _ h => h) ?_; clear hF a; intro a hF))
      (first | (refine t_skip (i := 22) hF rfl rfl rfl (by kernel_rfl) (hM.sm.sub (fun x hx => by repeat (first | exact hx | refine List.mem_cons_of_mem _ ?_)) (fun _ h => by repeat (first | exact h | refine List.mem_cons_of_mem _ ?_))) (fun _ _ _ h => h) ?_; clear hF a; intro a hF))
      (first | (refine t_skip (i := 23) hF rfl rfl rfl (by kernel_rfl) (hM.sm.sub (fun x hx => by repeat (first | exact hx | refine List.mem_cons_of_mem _ ?_)) (fun _ h => by repeat (first | exact h | refine List.mem_cons_of_mem _ ?_))) (fun _ _ _ h => h) ?_; clear hF a; intro a hF))
      (first | (refine t_skip (i := 24) hF rfl rfl rfl (by kernel_rfl) (hM.sm.sub (fun x hx => by repeat (first | exact hx | refine List.mem_cons_of_mem _ ?_)) (fun _ h => by repeat (first | exact h | refine List.mem_cons_of_mem _ ?_))) (fun _ _ _ h => h) ?_; clear hF a; intro a hF))
      (first | (refine t_skip (i := 25) hF rfl rfl rfl (by kernel_rfl) (hM.sm.sub (fun x hx => by repeat (first | exact hx | refine List.mem_cons_of_mem _ ?_)) (fun _ h => by repeat (first | exact h | refine List.mem_cons_of_mem _ ?_))) (fun _ _ _ h => h) ?_; clear hF a; intro a hF))
      (first | (refine t_skip (i := 26) hF rfl rfl rfl (by kernel_rfl) (hM.sm.sub (fun x hx => by repeat (first | exact hx | refine List.mem_cons_of_mem _ ?_)) (fun _ h => by repeat (first | exact h | refine List.mem_cons_of_mem _ ?_))) (fun _ _ _ h => h) ?_; clear hF a; intro a hF))
      (first | (refine t_skip (i := 27) hF rfl rfl rfl (by kernel_rfl) (hM.sm.sub (fun x hx => by repeat (first | exact hx | refine List.mem_cons_of_mem _ ?_)) (fun _ h => by repeat (first | exact h | refine List.mem_cons_of_mem _ ?_))) (fun _ _ _ h => h) ?_; clear hF a; intro a hF))
      (first | (refine t_skip (i := 28) hF rfl rfl rfl (by kernel_rfl) (hM.sm.sub (fun x hx => by repeat (first | exact hx | refine List.mem_cons_of_mem _ ?_)) (fun _ h => by repeat (first | exact h | refine List.mem_cons_of_mem _ ?_))) (fun _ _ _ h => h) ?_; clear hF a; intro a hF))
      (first | (refine t_skip (i := 29) hF rfl rfl rfl (by kernel_rfl) (hM.sm.sub (fun x hx => by repeat (first | exact hx | refine List.mem_cons_of_mem _ ?_)) (fun _ h => by repeat (first | exact h | refine List.mem_cons_of_mem _ ?_))) (fun _ _ _ h => h) ?_; clear hF a; intro a hF))
      (first | (refine t_skip (i := 30) hF rfl rfl rfl (by kernel_rfl) (hM.sm.sub (fun x hx => by repeat (first | exact hx | refine List.mem_cons_of_mem _ ?_)) (fun _ h => by repeat (first | exact h | refine List.mem_cons_of_mem _ ?_))) (fun _ _ _ h => h) ?_; clear hF a; intro a hF))
      (first | (refine t_skip (i := 31) hF rfl rfl rfl (by kernel_rfl) (hM.sm.sub (fun x hx => by repeat (first | exact hx | refine List.mem_cons_of_mem _ ?_)) (fun _ h => by repeat (first | exact h | refine List.mem_cons_of_mem _ ?_))) (fun _ _ _ h => h) ?_; clear hF a; intro a hF))
      (first | (refine t_skip (i := 32) hF rfl rfl rfl (by kernel_rfl) (hM.sm.sub (fun x hx => by repeat (first | exact hx | refine List.mem_cons_of_mem _ ?_)) (fun _ h => by repeat (first | exact h | refine List.mem_cons_of_mem _ ?_))) (fun _ _ _ h => h) ?_; clear hF a; intro a hF))
      (first | (refine t_skip (i := 33) hF rfl rfl rfl (by kernel_rfl) (hM.sm.sub (fun x hx => by repeat (first | exact hx | refine List.mem_cons_of_mem _ ?_)) (fun _ h => by repeat (first | exact h | refine List.mem_cons_of_mem _ ?_))) (fun _ _ _ h => h) ?_; clear hF a; intro a hF))
      (first | (refine t_skip (i := 34) hF rfl rfl rfl (by kernel_rfl) (hM.sm.sub (fun x hx => by repeat (first | exact hx | refine List.mem_cons_of_mem _ ?_)) (fun _ h => by repeat (first | exact h | refine List.mem_cons_of_mem _ ?_))) (fun _ _ _ h => h) ?_; clear hF a; intro a hF))
      (first | (refine t_skip (i := 35) hF rfl rfl rfl (by kernel_rfl) (hM.sm.sub (fun x hx => by repeat (first | exact hx | refine List.mem_cons_of_mem _ ?_)) (fun _ h => by repeat (first | exact h | refine List.mem_cons_of_mem _ ?_))) (fun _ _ _ h => h) ?_; clear hF a; intro a hF))
      (first | (refine t_skip (i := 36) hF rfl rfl rfl (by kernel_rfl) (hM.sm.sub (fun x hx => by repeat (first | exact hx | refine List.mem_cons_of_mem _ ?_)) (fun _ h => by repeat (first | exact h | refine List.mem_cons_of_mem _ ?_))) (fun _ _ _ h => h) ?_; clear hF a; intro a hF))
      (first | (refine t_skip (i := 37) hF rfl rfl rfl (by kernel_rfl) (hM.sm.sub (fun x hx => by repeat (first | exact hx | refine List.mem_cons_of_mem _ ?_)) (fun _ h => by repeat (first | exact h | refine List.mem_cons_of_mem _ ?_))) (fun _ _ _ h => h) ?_; clear hF a; intro a hF))
      (first | (refine t_skip (i := 38) hF rfl rfl rfl (by kernel_rfl) (hM.sm.sub (fun x hx => by repeat (first | exact hx | refine List.mem_cons_of_mem _ ?_)) (fun _ h => by repeat (first | exact h | refine List.mem_cons_of_mem _ ?_))) (fun _ _ _ h => h) ?_; clear hF a; intro a hF))
      (first | (refine t_pure (i := 39) hF rfl rfl rfl rfl (by kernel_rfl) (hM.sm.sub (fun x hx => by repeat (first | exact hx | refine List.mem_cons_of_mem _ ?_)) (fun _ h => by repeat (first | exact h | refine List.mem_cons_of_mem _ ?_))) (fun _ _ _ h => h) ?_ ?_; (first | exact trivial | omega | decide); clear hF a; intro a hF))
      refine t_done (by kernel_rfl) ?_
      (repeat' (first | (with_reducible refine w_seq ?_) | (with_reducible refine c_region ?_) | (with_reducible refine s_nil ?_) | (with_reducible refine q_then_n ?_) | ((with_reducible apply s_pure hF); exact rfl; exact rfl; exact rfl; (first | exact trivial | omega | exact ⟨Int.natCast_nonneg _, Int.ofNat_lt.2 (by assumption)⟩ | decide); clear hF a; intro a hF) | (with_reducible refine w_exit ?_) | (with_reducible refine w_ret ?_) | (with_reducible refine q_then_x ?_) | (with_reducible refine q_blk_x ?_) | ((with_reducible apply c_false2 hF); exact rfl; (first | with_reducible rfl | (refine congrArg Value.bool ?_; focus (simp; done))))))
      (apply f_ret Try.results98 hF hM; (repeat (first | exact RL.nil | (apply RL.tmp; exact rfl) | (apply RL.cell; exact rfl; (repeat (first | exact List.mem_cons_self | refine List.mem_cons_of_mem _ ?_)); exact rfl))); refine Ret.mk hM.since ?_; dsimp only [resV])
      rw [hml]
  · obtain rfl : m = 0 := by omega
    with_reducible refine w_seq ?_
    with_reducible refine w_seq ?_
    refine c_draw (fun i => Nat.ble 40 i) hM ?_; clear hM; intro w hM
    (first | (refine t_pure (i := 0) hF rfl rfl rfl rfl (by kernel_rfl) hM.sm (fun _ _ _ h => h) ?_ ?_; (first | exact trivial | omega | decide); clear hF a; intro a hF))
    (first | (refine t_pure (i := 1) hF rfl rfl rfl rfl (by kernel_rfl) hM.sm (fun _ _ _ h => h) ?_ ?_; (first | exact trivial | omega | decide); clear hF a; intro a hF))
    rw [show decide ((n : Int) < 131) = false from decide_eq_false (by omega)] at hF
    (first | (refine t_pure (i := 2) hF rfl rfl rfl rfl (by kernel_rfl) (hM.sm.sub (fun x hx => by repeat (first | exact hx | refine List.mem_cons_of_mem _ ?_)) (fun _ h => by repeat (first | exact h | refine List.mem_cons_of_mem _ ?_))) (fun _ _ _ h => h) ?_ ?_; (first | exact trivial | omega | decide); clear hF a; intro a hF))
    (first | (refine t_skip (i := 3) hF rfl rfl rfl (by kernel_rfl) (hM.sm.sub (fun x hx => by repeat (first | exact hx | refine List.mem_cons_of_mem _ ?_)) (fun _ h => by repeat (first | exact h | refine List.mem_cons_of_mem _ ?_))) (fun _ _ _ h => h) ?_; clear hF a; intro a hF))
    (first | (refine t_skip (i := 4) hF rfl rfl rfl (by kernel_rfl) (hM.sm.sub (fun x hx => by repeat (first | exact hx | refine List.mem_cons_of_mem _ ?_)) (fun _ h => by repeat (first | exact h | refine List.mem_cons_of_mem _ ?_))) (fun _ _ _ h => h) ?_; clear hF a; intro a hF))
    (first | (refine t_skip (i := 5) hF rfl rfl rfl (by kernel_rfl) (hM.sm.sub (fun x hx => by repeat (first | exact hx | refine List.mem_cons_of_mem _ ?_)) (fun _ h => by repeat (first | exact h | refine List.mem_cons_of_mem _ ?_))) (fun _ _ _ h => h) ?_; clear hF a; intro a hF))
    (first | (refine t_skip (i := 6) hF rfl rfl rfl (by kernel_rfl) (hM.sm.sub (fun x hx => by repeat (first | exact hx | refine List.mem_cons_of_mem _ ?_)) (fun _ h => by repeat (first | exact h | refine List.mem_cons_of_mem _ ?_))) (fun _ _ _ h => h) ?_; clear hF a; intro a hF))
    (first | (refine t_skip (i := 7) hF rfl rfl rfl (by kernel_rfl) (hM.sm.sub (fun x hx => by repeat (first | exact hx | refine List.mem_cons_of_mem _ ?_)) (fun _ h => by repeat (first | exact h | refine List.mem_cons_of_mem _ ?_))) (fun _ _ _ h => h) ?_; clear hF a; intro a hF))
    (first | (refine t_skip (i := 8) hF rfl rfl rfl (by kernel_rfl) (hM.sm.sub (fun x hx => by repeat (first | exact hx | refine List.mem_cons_of_mem _ ?_)) (fun _ h => by repeat (first | exact h | refine List.mem_cons_of_mem _ ?_))) (fun _ _ _ h => h) ?_; clear hF a; intro a hF))
    (first | (refine t_skip (i := 9) hF rfl rfl rfl (by kernel_rfl) (hM.sm.sub (fun x hx => by repeat (first | exact hx | refine List.mem_cons_of_mem _ ?_)) (fun _ h => by repeat (first | exact h | refine List.mem_cons_of_mem _ ?_))) (fun _ _ _ h => h) ?_; clear hF a; intro a hF))
    (first | (refine t_skip (i := 10) hF rfl rfl rfl (by kernel_rfl) (hM.sm.sub (fun x hx => by repeat (first | exact hx | refine List.mem_cons_of_mem _ ?_)) (fun _ h => by repeat (first | exact h | refine List.mem_cons_of_mem _ ?_))) (fun _ _ _ h => h) ?_; clear hF a; intro a hF))
    (first | (refine t_skip (i := 11) hF rfl rfl rfl (by kernel_rfl) (hM.sm.sub (fun x hx => by repeat (first | exact hx | refine List.mem_cons_of_mem _ ?_)) (fun _ h => by repeat (first | exact h | refine List.mem_cons_of_mem _ ?_))) (fun _ _ _ h => h) ?_; clear hF a; intro a hF))
    (first | (refine t_skip (i := 12) hF rfl rfl rfl (by kernel_rfl) (hM.sm.sub (fun x hx => by repeat (first | exact hx | refine List.mem_cons_of_mem _ ?_)) (fun _ h => by repeat (first | exact h | refine List.mem_cons_of_mem _ ?_))) (fun _ _ _ h => h) ?_; clear hF a; intro a hF))
    (first | (refine t_skip (i := 13) hF rfl rfl rfl (by kernel_rfl) (hM.sm.sub (fun x hx => by repeat (first | exact hx | refine List.mem_cons_of_mem _ ?_)) (fun _ h => by repeat (first | exact h | refine List.mem_cons_of_mem _ ?_))) (fun _ _ _ h => h) ?_; clear hF a; intro a hF))
    (first | (refine t_skip (i := 14) hF rfl rfl rfl (by kernel_rfl) (hM.sm.sub (fun x hx => by repeat (first | exact hx | refine List.mem_cons_of_mem _ ?_)) (fun _ h => by repeat (first | exact h | refine List.mem_cons_of_mem _ ?_))) (fun _ _ _ h => h) ?_; clear hF a; intro a hF))
    (first | (refine t_pure (i := 15) hF rfl rfl rfl rfl (by kernel_rfl) (hM.sm.sub (fun x hx => by repeat (first | exact hx | refine List.mem_cons_of_mem _ ?_)) (fun _ h => by repeat (first | exact h | refine List.mem_cons_of_mem _ ?_))) (fun _ _ _ h => h) ?_ ?_; (first | exact trivial | omega | decide); clear hF a; intro a hF))
    (first | (refine t_pure (i := 16) hF rfl rfl rfl rfl (by kernel_rfl) (hM.sm.sub (fun x hx => by repeat (first | exact hx | refine List.mem_cons_of_mem _ ?_)) (fun _ h => by repeat (first | exact h | refine List.mem_cons_of_mem _ ?_))) (fun _ _ _ h => h) ?_ ?_; (first | exact trivial | omega | decide); clear hF a; intro a hF))
    (first | (refine t_skip (i := 17) hF rfl rfl rfl (by kernel_rfl) (hM.sm.sub (fun x hx => by repeat (first | exact hx | refine List.mem_cons_of_mem _ ?_)) (fun _ h => by repeat (first | exact h | refine List.mem_cons_of_mem _ ?_))) (fun _ _ _ h => h) ?_; clear hF a; intro a hF))
    (first | (refine t_skip (i := 18) hF rfl rfl rfl (by kernel_rfl) (hM.sm.sub (fun x hx => by repeat (first | exact hx | refine List.mem_cons_of_mem _ ?_)) (fun _ h => by repeat (first | exact h | refine List.mem_cons_of_mem _ ?_))) (fun _ _ _ h => h) ?_; clear hF a; intro a hF))
    (first | (refine t_skip (i := 19) hF rfl rfl rfl (by kernel_rfl) (hM.sm.sub (fun x hx => by repeat (first | exact hx | refine List.mem_cons_of_mem _ ?_)) (fun _ h => by repeat (first | exact h | refine List.mem_cons_of_mem _ ?_))) (fun _ _ _ h => h) ?_; clear hF a; intro a hF))
    (first | (refine t_skip (i := 20) hF rfl rfl rfl (by kernel_rfl) (hM.sm.sub (fun x hx => by repeat (first | exact hx | refine List.mem_cons_of_mem _ ?_)) (fun _ h => by repeat (first | exact h | refine List.mem_cons_of_mem _ ?_))) (fun _ _ _ h => h) ?_; clear hF a; intro a hF))
    (first | (refine t_skip (i := 21) hF rfl rfl rfl (by kernel_rfl) (hM.sm.sub (fun x hx => by repeat (first | exact hx | refine List.mem_cons_of_mem _ ?_)) (fun _ h => by repeat (first | exact h | refine List.mem_cons_of_mem _ ?_))) (fun _ _ _ h => h) ?_; clear hF a; intro a hF))
    (first | (refine t_skip (i := 22) hF rfl rfl rfl (by kernel_rfl) (hM.sm.sub (fun x hx => by repeat (first | exact hx | refine List.mem_cons_of_mem _ ?_)) (fun _ h => by repeat (first | exact h | refine List.mem_cons_of_mem _ ?_))) (fun _ _ _ h => h) ?_; clear hF a; intro a hF))
    (first | (refine t_skip (i := 23) hF rfl rfl rfl (by kernel_rfl) (hM.sm.sub (fun x hx => by repeat (first | exact hx | refine List.mem_cons_of_mem _ ?_)) (fun _ h => by repeat (first | exact h | refine List.mem_cons_of_mem _ ?_))) (fun _ _ _ h => h) ?_; clear hF a; intro a hF))
    (first | (refine t_skip (i := 24) hF rfl rfl rfl (by kernel_rfl) (hM.sm.sub (fun x hx => by repeat (first | exact hx | refine List.mem_cons_of_mem _ ?_)) (fun _ h => by repeat (first | exact h | refine List.mem_cons_of_mem _ ?_))) (fun _ _ _ h => h) ?_; clear hF a; intro a hF))
    (first | (refine t_skip (i := 25) hF rfl rfl rfl (by kernel_rfl) (hM.sm.sub (fun x hx => by repeat (first | exact hx | refine List.mem_cons_of_mem _ ?_)) (fun _ h => by repeat (first | exact h | refine List.mem_cons_of_mem _ ?_))) (fun _ _ _ h => h) ?_; clear hF a; intro a hF))
    (first | (refine t_skip (i := 26) hF rfl rfl rfl (by kernel_rfl) (hM.sm.sub (fun x hx => by repeat (first | exact hx | refine List.mem_cons_of_mem _ ?_)) (fun _ h => by repeat (first | exact h | refine List.mem_cons_of_mem _ ?_))) (fun _ _ _ h => h) ?_; clear hF a; intro a hF))
    (first | (refine t_skip (i := 27) hF rfl rfl rfl (by kernel_rfl) (hM.sm.sub (fun x hx => by repeat (first | exact hx | refine List.mem_cons_of_mem _ ?_)) (fun _ h => by repeat (first | exact h | refine List.mem_cons_of_mem _ ?_))) (fun _ _ _ h => h) ?_; clear hF a; intro a hF))
    (first | (refine t_skip (i := 28) hF rfl rfl rfl (by kernel_rfl) (hM.sm.sub (fun x hx => by repeat (first | exact hx | refine List.mem_cons_of_mem _ ?_)) (fun _ h => by repeat (first | exact h | refine List.mem_cons_of_mem _ ?_))) (fun _ _ _ h => h) ?_; clear hF a; intro a hF))
    (first | (refine t_skip (i := 29) hF rfl rfl rfl (by kernel_rfl) (hM.sm.sub (fun x hx => by repeat (first | exact hx | refine List.mem_cons_of_mem _ ?_)) (fun _ h => by repeat (first | exact h | refine List.mem_cons_of_mem _ ?_))) (fun _ _ _ h => h) ?_; clear hF a; intro a hF))
    (first | (refine t_skip (i := 30) hF rfl rfl rfl (by kernel_rfl) (hM.sm.sub (fun x hx => by repeat (first | exact hx | refine List.mem_cons_of_mem _ ?_)) (fun _ h => by repeat (first | exact h | refine List.mem_cons_of_mem _ ?_))) (fun _ _ _ h => h) ?_; clear hF a; intro a hF))
    (first | (refine t_skip (i := 31) hF rfl rfl rfl (by kernel_rfl) (hM.sm.sub (fun x hx => by repeat (first | exact hx | refine List.mem_cons_of_mem _ ?_)) (fun _ h => by repeat (first | exact h | refine List.mem_cons_of_mem _ ?_))) (fun _ _ _ h => h) ?_; clear hF a; intro a hF))
    (first | (refine t_skip (i := 32) hF rfl rfl rfl (by kernel_rfl) (hM.sm.sub (fun x hx => by repeat (first | exact hx | refine List.mem_cons_of_mem _ ?_)) (fun _ h => by repeat (first | exact h | refine List.mem_cons_of_mem _ ?_))) (fun _ _ _ h => h) ?_; clear hF a; intro a hF))
    (first | (refine t_skip (i := 33) hF rfl rfl rfl (by kernel_rfl) (hM.sm.sub (fun x hx => by repeat (first | exact hx | refine List.mem_cons_of_mem _ ?_)) (fun _ h => by repeat (first | exact h | refine List.mem_cons_of_mem _ ?_))) (fun _ _ _ h => h) ?_; clear hF a; intro a hF))
    (first | (refine t_skip (i := 34) hF rfl rfl rfl (by kernel_rfl) (hM.sm.sub (fun x hx => by repeat (first | exact hx | refine List.mem_cons_of_mem _ ?_)) (fun _ h => by repeat (first | exact h | refine List.mem_cons_of_mem _ ?_))) (fun _ _ _ h => h) ?_; clear hF a; intro a hF))
    (first | (refine t_skip (i := 35) hF rfl rfl rfl (by kernel_rfl) (hM.sm.sub (fun x hx => by repeat (first | exact hx | refine List.mem_cons_of_mem _ ?_)) (fun _ h => by repeat (first | exact h | refine List.mem_cons_of_mem _ ?_))) (fun _ _ _ h => h) ?_; clear hF a; intro a hF))
    (first | (refine t_skip (i := 36) hF rfl rfl rfl (by kernel_rfl) (hM.sm.sub (fun x hx => by repeat (first | exact hx | refine List.mem_cons_of_mem _ ?_)) (fun _ h => by repeat (first | exact h | refine List.mem_cons_of_mem _ ?_))) (fun _ _ _ h => h) ?_; clear hF a; intro a hF))
    (first | (refine t_skip (i := 37) hF rfl rfl rfl (by kernel_rfl) (hM.sm.sub (fun x hx => by repeat (first | exact hx | refine List.mem_cons_of_mem _ ?_)) (fun _ h => by repeat (first | exact h | refine List.mem_cons_of_mem _ ?_))) (fun _ _ _ h => h) ?_; clear hF a; intro a hF))
    (first | (refine t_skip (i := 38) hF rfl rfl rfl (by kernel_rfl) (hM.sm.sub (fun x hx => by repeat (first | exact hx | refine List.mem_cons_of_mem _ ?_)) (fun _ h => by repeat (first | exact h | refine List.mem_cons_of_mem _ ?_))) (fun _ _ _ h => h) ?_; clear hF a; intro a hF))
    (first | (refine t_pure (i := 39) hF rfl rfl rfl rfl (by kernel_rfl) (hM.sm.sub (fun x hx => by repeat (first | exact hx | refine List.mem_cons_of_mem _ ?_)) (fun _ h => by repeat (first | exact h | refine List.mem_cons_of_mem _ ?_))) (fun _ _ _ h => h) ?_ ?_; (first | exact trivial | omega | decide); clear hF a; intro a hF))
    refine t_done (by kernel_rfl) ?_
    (repeat' (first | (with_reducible refine w_seq ?_) | (with_reducible refine c_region ?_) | (with_reducible refine s_nil ?_) | (with_reducible refine q_then_n ?_) | ((with_reducible apply s_pure hF); exact rfl; exact rfl; exact rfl; (first | exact trivial | omega | exact ⟨Int.natCast_nonneg _, Int.ofNat_lt.2 (by assumption)⟩ | decide); clear hF a; intro a hF) | (with_reducible refine w_exit ?_) | (with_reducible refine w_ret ?_) | (with_reducible refine q_then_x ?_) | (with_reducible refine q_blk_x ?_) | ((with_reducible apply c_false2 hF); exact rfl; (first | with_reducible rfl | (refine congrArg Value.bool ?_; focus (simp; done))))))
    (apply f_ret Try.results98 hF hM; (repeat (first | exact RL.nil | (apply RL.tmp; exact rfl) | (apply RL.cell; exact rfl; (repeat (first | exact List.mem_cons_self | refine List.mem_cons_of_mem _ ?_)); exact rfl))); refine Ret.mk hM.since ?_; dsimp only [resV])
    rw [hml]
    rfl
end
end Go.Proofs.Ytadfdpkhehdikaa


/- dictionary: places of keys, and how one is noted. -/
namespace Go.Proofs.Ytadfdpkhehdikaa
open Go.RowKit Go.Shelf
/-- Keys, the slices that the map holds for them, and the places in these. -/
abbrev Pl := List (List Int × Value × List Nat)
def nE (p : Nat) : Value := .int .i64 p
def esOf (E : Pl) : List (List Int × Value) := E.map fun e => (e.1, e.2.1)
def rowsE (E : Pl) : List Ent := E.map fun e => ⟨3, 1, e.2.1, e.2.2.length, e.2.2.map nE⟩
def kA (ys : List Int) : Value := .agg (ys.map (Value.int .u8)).toArray
def PlOk (E : Pl) : Prop := ∀ e ∈ E, e.1.length = 4
def lookP (k : List Int) : Pl → List Nat
  | [] => []
  | e :: r => if k = e.1 then e.2.2 else lookP k r
theorem PlOk.es {E : Pl} (h : PlOk E) : ∀ e ∈ esOf E, e.1.length = 4 := by
  intro e he
  obtain ⟨x, hx, rfl⟩ := List.mem_map.1 he
  exact h x hx
theorem lookP_get {k : List Int} : ∀ {E : Pl} {i j : Nat}, kfind k (esOf E) i = some j → i ≤ j ∧ ∃ sv, E[j - i]? = some (k, sv, lookP k E)
  | [], _, _, h => by cases h
  | e :: r, i, j, h => by
    rw [esOf, List.map_cons, kfind] at h
    rw [lookP]
    by_cases hx : k = e.1
    · rw [if_pos hx] at h ⊢
      injection h with h
      subst h
      exact ⟨Nat.le_refl _, e.2.1, by rw [Nat.sub_self, List.getElem?_cons_zero, hx]⟩
    · rw [if_neg hx] at h ⊢
      obtain ⟨h1, sv, h2⟩ := lookP_get (E := r) h
      refine ⟨by omega, sv, ?_⟩
      rw [show j - i = (j - (i + 1)) + 1 by omega, List.getElem?_cons_succ]
      exact h2
theorem lookP_none {k : List Int} : ∀ {E : Pl} {i : Nat}, kfind k (esOf E) i = none → lookP k E = []
  | [], _, _ => rfl
  | e :: r, i, h => by
    rw [esOf, List.map_cons, kfind] at h
    rw [lookP]
    by_cases hx : k = e.1
    · rw [if_pos hx] at h; cases h
    · rw [if_neg hx] at h ⊢
      exact lookP_none (E := r) h
theorem lookP_set {k : List Int} (k' : List Int) (sv : Value) (ps : List Nat) : ∀ {E : Pl} {i j : Nat}, kfind k (esOf E) i = some j → lookP k' (E.set (j - i) (k, sv, ps)) = if k' = k then ps else lookP k' E
  | [], _, _, h => by cases h
  | e :: r, i, j, h => by
    rw [esOf, List.map_cons, kfind] at h
    by_cases hx : k = e.1
    · rw [if_pos hx] at h
      injection h with h
      subst h
      rw [Nat.sub_self, List.set_cons_zero, lookP, lookP]
      subst hx
      split <;> rfl
    · rw [if_neg hx] at h
      have h1 := (lookP_get (E := r) h).1
      rw [show j - i = (j - (i + 1)) + 1 by omega, List.set_cons_succ, lookP, lookP, lookP_set k' sv ps (E := r) h]
      by_cases h3 : k' = e.1
      · rw [if_pos h3, if_pos h3, if_neg (by rw [h3]; exact fun q => hx q.symm)]
      · rw [if_neg h3, if_neg h3]
theorem lookP_app {k : List Int} (k' : List Int) (sv : Value) (ps : List Nat) : ∀ {E : Pl} {i : Nat}, kfind k (esOf E) i = none → lookP k' (E ++ [(k, sv, ps)]) = if k' = k then ps else lookP k' E
  | [], _, _ => by simp [lookP]
  | e :: r, i, h => by
    rw [esOf, List.map_cons, kfind] at h
    by_cases hx : k = e.1
    · rw [if_pos hx] at h; cases h
    · rw [if_neg hx] at h
      rw [List.cons_append, lookP, lookP, lookP_app k' sv ps (E := r) h]
      by_cases h3 : k' = e.1
      · rw [if_pos h3, if_pos h3, if_neg (by rw [h3]; exact fun q => hx q.symm)]
      · rw [if_neg h3, if_neg h3]
theorem esOf_get (E : Pl) (i : Nat) : (esOf E)[i]? = (E[i]?).map fun e => (e.1, e.2.1) := by simp [esOf]
theorem rowsE_get (E : Pl) (i : Nat) : (rowsE E)[i]? = (E[i]?).map fun e => ⟨3, 1, e.2.1, e.2.2.length, e.2.2.map nE⟩ := by simp [rowsE]
theorem esOf_set (E : Pl) (i : Nat) (e : List Int × Value × List Nat) : esOf (E.set i e) = (esOf E).set i (e.1, e.2.1) := by simp [esOf, List.map_set]
theorem rowsE_set (E : Pl) (i : Nat) (e : List Int × Value × List Nat) : rowsE (E.set i e) = (rowsE E).set i ⟨3, 1, e.2.1, e.2.2.length, e.2.2.map nE⟩ := by simp [rowsE, List.map_set]
theorem Kth.of {α : Type} {x : α} : ∀ {l : List α} {k : Nat}, l[k]? = some x → Kth l k x
  | [], _, h => by simp at h
  | y :: l, 0, h => by
    rw [List.getElem?_cons_zero] at h
    injection h with h
    subst h
    exact .z
  | y :: l, k + 1, h => by
    rw [List.getElem?_cons_succ] at h
    exact .s (Kth.of h)
/-- The entry of a key, laid if it lacks: entries, place, slice, places. -/
theorem pl_add {own : Nat → Prop} {w w0 : World} {bs : List BoxE} {L1 : List Ent} {Fs : List (World → Prop)} {E : Pl} (hM : Mm own w0 bs (L1 ++ rowsE E) Fs w) (hE : PlOk E) (k : List Int) (hk : k.length = 4) :
    ∃ (E1 : Pl) (j : Nat) (sv : Value), Mm own w0 bs (L1 ++ rowsE E1) Fs w ∧ PlOk E1 ∧ kadd k (.slice none 0 0) (esOf E) = (esOf E1, j, sv) ∧ E1[j]? = some (k, sv, lookP k E) ∧
      (∀ sv' ps k', lookP k' (E1.set j (k, sv', ps)) = if k' = k then ps else lookP k' E) ∧ ∀ sv' ps, PlOk (E1.set j (k, sv', ps)) := by
  unfold kadd
  cases h : kfind k (esOf E) 0 with
  | some j =>
    obtain ⟨_, sv, h2⟩ := lookP_get h
    rw [Nat.sub_zero] at h2
    refine ⟨E, j, sv, hM, hE, ?_, h2, fun sv' ps k' => ?_, fun sv' ps e he => ?_⟩
    · simp [esOf_get, h2]
    · have := lookP_set k' sv' ps h
      rwa [Nat.sub_zero] at this
    · rcases List.mem_or_eq_of_mem_set he with he | rfl
      · exact hE e he
      · exact hk
  | none =>
    have h0 := lookP_none h
    have hok : ∀ sv' ps, PlOk (E ++ [(k, sv', ps)]) := by
      intro sv' ps e he
      rcases List.mem_append.1 he with he | he
      · exact hE e he
      · rw [List.mem_singleton] at he
        subst he
        exact hk
    refine ⟨E ++ [(k, .slice none 0 0, [])], E.length, .slice none 0 0, (hM.nilRow 3 1).permL ?_, hok _ _, ?_, ?_, fun sv' ps k' => ?_, fun sv' ps => ?_⟩
    · simp only [rowsE, List.map_append, List.map_cons, List.map_nil, List.length_nil]
      rw [← List.append_assoc]
      exact List.perm_append_singleton _ _
    · simp [esOf]
    · rw [h0]; simp
    · rw [List.set_append_right _ _ (Nat.le_refl _), Nat.sub_self, List.set_cons_zero, lookP_app k' sv' ps h]
    · rw [List.set_append_right _ _ (Nat.le_refl _), Nat.sub_self, List.set_cons_zero]
      exact hok _ _
theorem Mm.litCells {own : Nat → Prop} {w w0 : World} {bs : List BoxE} {L : List Ent} {Fs : List (World → Prop)} (hM : Mm own w0 bs L Fs w) {b : Nat} {ys : List Value} {T : TypeId} (h : (⟨b, ⟨ys⟩, T⟩ : BoxE) ∈ bs) : ∀ (j : Nat) (u : Value), ys[j]? = some u → w.cell? ((⟨b, 0, none⟩ : Addr).add j) = some u := by
  intro j u hu
  rw [add_lit, (Box.rules (hM.mem.box _ h)).1]
  simpa using hu
section
variable (all : List Int) (hlen : all.length ≤ 1000000) (a0 : Option Addr) (c0 : Nat) (hc0 : all.length ≤ c0) (b t mb : Nat) (tv wv : Value) {own : Nat → Prop} {w0 W : World} {bs : List BoxE} {L1 : List Ent} {E : Pl} {Fs : List (World → Prop)} (hE : PlOk E) (hEl : ∀ k, (lookP k E).length ≤ 1000000) (hb0 : w0.heap.size ≤ mb) (hcf : ∀ f ∈ Fs, Cf f)
  (hM : Mm own w0 (⟨b, ⟨[tv, wv, .slice a0 all.length c0, .int .i64 t, .map (some mb)]⟩, 133⟩ :: bs) (L1 ++ rowsE E) (MpE kA mb (esOf E) :: RdF (Value.int .u8) a0 all :: Fs) W)
include hlen hc0 hE hEl hb0 hcf hM
set_option maxRecDepth 20000 in
theorem note_c (i : Nat) (q : Int) (hq : q = i) (hi : i ≤ 1000000) : Calls Try.prog 59 ⟨[.pointer (some ⟨b, 0, none⟩), .int .i64 q]⟩ W (Rtn fun _ w' => ∃ E' : Pl, PlOk E' ∧ (∀ k, lookP k E' = if i + 4 ≤ all.length ∧ k = keyV all i then lookP k E ++ [i] else lookP k E) ∧
    Mm own w0 (⟨b, ⟨[tv, wv, .slice a0 all.length c0, .int .i64 t, .map (some mb)]⟩, 133⟩ :: bs) (L1 ++ rowsE E') (MpE kA mb (esOf E') :: RdF (Value.int .u8) a0 all :: Fs) w') := by
  subst hq
  have hkl := keyV_len all i
  refine f_start Try.func59 rfl Try.ntmps59 rfl rfl ?_; intro a hF
  (repeat (first | (with_reducible refine w_seq ?_) | (with_reducible refine c_region ?_) | ((with_reducible apply s_call (f := 97) hF hM); exact rfl; exact rfl; exact rfl; exact rfl; exact rfl; exact (key_c all hlen a0 c0 hc0 b t mb tv wv own _ (fun b h => hM.lt b (.inl h)) (hM.boxFact (by (repeat (first | exact List.mem_cons_self | refine List.mem_cons_of_mem _ ?_)))) (hM.factOut (by (repeat (first | exact List.mem_cons_self | refine List.mem_cons_of_mem _ ?_)))) i _ rfl hi); clear hF hM a; rintro v w a rfl - hM hF) | ((with_reducible apply s_pure hF); exact rfl; exact rfl; exact rfl; (first | exact trivial | omega | exact ⟨Int.natCast_nonneg _, Int.ofNat_lt.2 (by assumption)⟩ | decide); clear hF a; intro a hF) | ((with_reducible apply s_alloc hF hM); exact rfl; exact rfl; exact rfl; clear hF hM a; intro b w a hM hF)))
  generalize hkv : keyV all i = k at *
  obtain ⟨k0, k1, k2, k3, rfl⟩ : ∃ k0 k1 k2 k3, k = [k0, k1, k2, k3] := by
    match k, hkl with
    | [k0, k1, k2, k3], _ => exact ⟨k0, k1, k2, k3, rfl⟩
  (repeat (first | (with_reducible refine w_seq ?_) | (with_reducible refine c_region ?_) | (with_reducible refine s_nil ?_) | (with_reducible refine q_then_n ?_) | ((with_reducible apply s_pure hF); exact rfl; exact rfl; exact rfl; (first | exact trivial | omega | exact ⟨Int.natCast_nonneg _, Int.ofNat_lt.2 (by assumption)⟩ | decide); clear hF a; intro a hF) | ((with_reducible apply s_store hF hM); exact rfl; exact rfl; exact rfl; exact rfl; (repeat (first | exact Upd.z | apply Upd.s)); exact rfl; exact rfl; exact rfl; clear hM; intro w hM)))
  by_cases h4 : i + 4 ≤ all.length
  · rw [decide_eq_true h4] at hF
    (repeat (first | ((with_reducible apply c_true2 hF); exact rfl; (first | with_reducible rfl | (refine congrArg Value.bool ?_; focus (simp; done))))))
    have hcf' : ∀ f ∈ RdF (Value.int .u8) a0 all :: Fs, Cf f := fun f hf => by
      rcases List.mem_cons.1 hf with rfl | hf
      · exact Cf.rd
      · exact hcf f hf
    obtain ⟨E1, j, sv, hM1, hE1, hkadd, hj, hlk, hok⟩ := pl_add (L1 := L1) hM hE [k0, k1, k2, k3] hkl
    clear hM
    have hM := hM1
    clear hM1
    have hml := hEl [k0, k1, k2, k3]
    generalize hpk : lookP [k0, k1, k2, k3] E = pk at *
    have hrow : (L1 ++ rowsE E1)[L1.length + j]? = some ⟨3, 1, sv, pk.length, pk.map nE⟩ := by
      rw [List.getElem?_append_right (by omega), Nat.add_sub_cancel_left, rowsE_get, hj]
      rfl
    refine c_drawF (fun i => Nat.ble 11 i) (fun x hx => hx) (fun f hf => List.mem_cons_of_mem _ (hf)) hM ?_; clear hM; intro w hM
    (first | (refine t_pure (i := 0) hF rfl rfl rfl rfl (by kernel_rfl) (hM.sm.sub (fun x hx => by repeat (first | exact hx | refine List.mem_cons_of_mem _ ?_)) (fun _ h => by repeat (first | exact h | refine List.mem_cons_of_mem _ ?_))) (fun _ _ _ h => h) ?_ ?_; (first | exact trivial | omega | decide); clear hF a; intro a hF))
    (first | (refine t_pure (i := 1) hF rfl rfl rfl rfl (by kernel_rfl) (hM.sm.sub (fun x hx => by repeat (first | exact hx | refine List.mem_cons_of_mem _ ?_)) (fun _ h => by repeat (first | exact h | refine List.mem_cons_of_mem _ ?_))) (fun _ _ _ h => h) ?_ ?_; (first | exact trivial | omega | decide); clear hF a; intro a hF))
    (first | (refine t_pure (i := 2) hF rfl rfl rfl rfl (by kernel_rfl) (hM.sm.sub (fun x hx => by repeat (first | exact hx | refine List.mem_cons_of_mem _ ?_)) (fun _ h => by repeat (first | exact h | refine List.mem_cons_of_mem _ ?_))) (fun _ _ _ h => h) ?_ ?_; (first | exact trivial | omega | decide); clear hF a; intro a hF))
    (first | (apply t_load (i := 3) hF rfl rfl rfl; (repeat (first | exact List.mem_cons_self | refine List.mem_cons_of_mem _ ?_)); exact rfl; exact rfl; kernel_rfl; exact (hM.sm.sub (fun x hx => by repeat (first | exact hx | refine List.mem_cons_of_mem _ ?_)) (fun _ h => by repeat (first | exact h | refine List.mem_cons_of_mem _ ?_))); exact (fun _ _ _ h => h); clear hF a; intro a hF))
    (first | (apply t_load (i := 4) hF rfl rfl rfl; (repeat (first | exact List.mem_cons_self | refine List.mem_cons_of_mem _ ?_)); exact rfl; exact rfl; kernel_rfl; exact (hM.sm.sub (fun x hx => by repeat (first | exact hx | refine List.mem_cons_of_mem _ ?_)) (fun _ h => by repeat (first | exact h | refine List.mem_cons_of_mem _ ?_))); exact (fun _ _ _ h => h); clear hF a; intro a hF))
    (first | (refine t_pure (i := 5) hF rfl rfl rfl rfl (by kernel_rfl) (hM.sm.sub (fun x hx => by repeat (first | exact hx | refine List.mem_cons_of_mem _ ?_)) (fun _ h => by repeat (first | exact h | refine List.mem_cons_of_mem _ ?_))) (fun _ _ _ h => h) ?_ ?_; (first | exact trivial | omega | decide); clear hF a; intro a hF))
    refine t_one (i := 6) hF rfl (by kernel_rfl) rfl ?_
    intro K hK
    (refine x_lit hF hM rfl rfl rfl ?_; clear hF hM a; intro bl w a hM hF)
    refine hK _ _ (fun _ => (hM.sm.sub (fun x hx => by repeat (first | exact hx | refine List.mem_cons_of_mem _ ?_)) (fun _ h => by repeat (first | exact h | refine List.mem_cons_of_mem _ ?_)))) ?_; clear hK
    refine t_one (i := 7) hF rfl (by kernel_rfl) rfl ?_
    intro K hK
    (refine e_mapEntry (ek := kA) (z := .slice none 0 0) (keyOk_arr (k := .u8) (m := 4) (e := 5) (kt := 179) rfl rfl rfl rfl) hF hM rfl (x := [k0, k1, k2, k3]) rfl rfl hkl hE.es hb0 hcf' rfl ?_; clear hF hM a; intro w a hM hF; rw [hkadd] at hM hF; (try dsimp only at hM hF))
    refine hK _ _ (fun _ => (hM.sm.sub (fun x hx => by repeat (first | exact hx | refine List.mem_cons_of_mem _ ?_)) (fun _ h => by repeat (first | exact h | refine List.mem_cons_of_mem _ ?_)))) ?_; clear hK
    (first | (refine t_pure (i := 8) hF rfl rfl rfl rfl (by kernel_rfl) (hM.sm.sub (fun x hx => by repeat (first | exact hx | refine List.mem_cons_of_mem _ ?_)) (fun _ h => by repeat (first | exact h | refine List.mem_cons_of_mem _ ?_))) (fun _ _ _ h => h) ?_ ?_; (first | exact trivial | omega | decide); clear hF a; intro a hF))
    (first | (refine t_pure (i := 10) hF rfl rfl rfl rfl (by kernel_rfl) (hM.sm.sub (fun x hx => by repeat (first | exact hx | refine List.mem_cons_of_mem _ ?_)) (fun _ h => by repeat (first | exact h | refine List.mem_cons_of_mem _ ?_))) (fun _ _ _ h => h) ?_ ?_; (first | exact trivial | omega | decide); clear hF a; intro a hF))
    refine t_one (i := 9) hF rfl (by kernel_rfl) rfl ?_
    intro K hK
    (refine e_app (k := L1.length + j) (ys := [.int .i64 i]) hF hM rfl rfl rfl (Kth.of hrow) rfl (hM.litCells List.mem_cons_self) (one_int _ _) (by decide) ⟨by omega, by omega⟩ ?_; clear hrow; intro gA cap w hM; replace hF := hF.put (d := 22) rfl (.slice (some ⟨gA, 0, none⟩) (pk.length + 1) cap); generalize a.put (some 22) _ = a at *)
    refine hK _ _ (fun _ => (hM.sm.sub (fun x hx => by repeat (first | exact hx | refine List.mem_cons_of_mem _ ?_)) (fun _ h => by repeat (first | exact h | refine List.mem_cons_of_mem _ ?_)))) ?_; clear hK
    refine t_one (i := 11) hF rfl (by kernel_rfl) rfl ?_
    intro K hK
    (refine e_entryStore hF hM rfl rfl rfl (x := [k0, k1, k2, k3]) (by rw [esOf_get, hj]; rfl) hb0 hcf' ?_; clear hM; intro w hM)
    refine hK _ _ (fun h => by cases h) ?_; clear hK
    refine t_done (by kernel_rfl) ?_
    (repeat (first | fail))
    (apply f_end Try.results59 hF hM; (repeat (first | exact RL.nil | (apply RL.tmp; exact rfl) | (apply RL.cell; exact rfl; (repeat (first | exact List.mem_cons_self | refine List.mem_cons_of_mem _ ?_)); exact rfl))); refine Both.mk ?_; try dsimp only [resV])
    refine ⟨E1.set j ([k0, k1, k2, k3], .slice (some ⟨gA, 0, none⟩) (pk.length + 1) cap, pk ++ [i]), hok _ _, fun k => ?_, ?_⟩
    · rw [hlk]
      by_cases hk : k = [k0, k1, k2, k3]
      · rw [if_pos hk, if_pos ⟨h4, hk⟩, hk, hpk]
      · rw [if_neg hk, if_neg (fun h => hk h.2)]
    · rw [esOf_set, rowsE_set, List.length_append, List.map_append]
      rw [List.set_append_right _ _ (Nat.le_add_right _ _), Nat.add_sub_cancel_left] at hM
      exact hM.sub (.cons _ (.cons _ (.refl _))) (.refl _) (fun _ h => h)
  · rw [decide_eq_false h4] at hF
    (repeat (first | (with_reducible refine w_skip ?_) | ((with_reducible apply c_false2 hF); exact rfl; (first | with_reducible rfl | (refine congrArg Value.bool ?_; focus (simp; done))))))
    (apply f_end Try.results59 hF hM; (repeat (first | exact RL.nil | (apply RL.tmp; exact rfl) | (apply RL.cell; exact rfl; (repeat (first | exact List.mem_cons_self | refine List.mem_cons_of_mem _ ?_)); exact rfl))); refine Both.mk ?_; try dsimp only [resV])
    exact ⟨E, hE, fun k => by rw [if_neg (fun h => h4 h.1)], hM.sub (.cons _ (.refl _)) (.refl _) (fun _ h => h)⟩
end
end Go.Proofs.Ytadfdpkhehdikaa


/- dictionary: the best match at a place. -/
namespace Go.Proofs.Ytadfdpkhehdikaa
open Go.RowKit Go.Shelf
theorem mlenF_ge {all : List Int} {p t : Nat} : ∀ (f n k : Nat), k ≤ n + f → n ≤ k → (k ≤ mlenF all p t f n ↔ ∀ j, n ≤ j → j < k → t + j < all.length ∧ all[p + j]? = all[t + j]?)
  | 0, n, k, h, h2 => by
    rw [mlenF]
    exact ⟨fun _ j h3 h4 => by omega, fun _ => by omega⟩
  | f + 1, n, k, h, h2 => by
    rw [mlenF]
    by_cases hk : k = n
    · subst hk
      refine ⟨fun _ j h3 h4 => by omega, fun _ => ?_⟩
      split
      · have := (mlenF_le all p t f (k + 1)).1; omega
      · exact Nat.le_refl _
    · split
      · rename_i hc
        rw [mlenF_ge f (n + 1) k (by omega) (by omega)]
        refine ⟨fun h3 j h4 h5 => ?_, fun h3 j h4 h5 => h3 j (by omega) h5⟩
        by_cases hj : j = n
        · subst hj; exact hc
        · exact h3 j (by omega) h5
      · rename_i hc
        refine ⟨fun h3 => by omega, fun h3 => absurd (h3 n (Nat.le_refl _) (by omega)) hc⟩
theorem mlen_ge {all : List Int} {p t k : Nat} (hk : k ≤ 131) : k ≤ mlen all p t ↔ ∀ j < k, t + j < all.length ∧ all[p + j]? = all[t + j]? := by
  unfold mlen
  rw [mlenF_ge 131 0 k (by omega) (by omega)]
  exact ⟨fun h j hj => h j (by omega) hj, fun h j _ hj => h j hj⟩
theorem keyV_get {all : List Int} {i j : Nat} (h : i + 4 ≤ all.length) (hj : j < 4) : (keyV all i)[j]? = all[i + j]? := by
  unfold keyV
  rw [if_pos h, List.getElem?_take, if_pos hj, List.getElem?_drop]
/-- Four bytes the same: the same key. -/
theorem mlen_key {all : List Int} {p t : Nat} (hp : p < t) : 4 ≤ mlen all p t ↔ t + 4 ≤ all.length ∧ keyV all p = keyV all t := by
  rw [mlen_ge (by omega)]
  constructor
  · intro h
    have h3 := (h 3 (by omega)).1
    refine ⟨by omega, ?_⟩
    apply List.ext_getElem?
    intro j
    by_cases hj : j < 4
    · rw [keyV_get (by omega) hj, keyV_get (by omega) hj]
      exact (h j hj).2
    · rw [List.getElem?_eq_none (by rw [keyV_len]; omega), List.getElem?_eq_none (by rw [keyV_len]; omega)]
  · rintro ⟨h1, h2⟩ j hj
    refine ⟨by omega, ?_⟩
    rw [← keyV_get (by omega) hj, ← keyV_get (by omega) hj, h2]
/-- The best match among the nearest D distances. -/
def bstep (all : List Int) (t : Nat) (s : Nat × Nat) (d : Nat) : Nat × Nat := if 4 ≤ mlen all (t - d) t ∧ s.2 < mlen all (t - d) t then (d, mlen all (t - d) t) else s
def bestTo (all : List Int) (t : Nat) : Nat → Nat × Nat
  | 0 => (0, 0)
  | D + 1 => bstep all t (bestTo all t D) (D + 1)
def best (all : List Int) (t : Nat) : Nat × Nat := bestTo all t (min 4096 t)
theorem bestTo_skip {all : List Int} {t D : Nat} : ∀ {D' : Nat}, D ≤ D' → (∀ d, D < d → d ≤ D' → ¬ 4 ≤ mlen all (t - d) t) → bestTo all t D' = bestTo all t D
  | 0, h, _ => by rw [show D = 0 by omega]
  | D' + 1, h, h2 => by
    by_cases e : D = D' + 1
    · rw [e]
    · rw [bestTo, bstep, if_neg (fun h3 => h2 (D' + 1) (by omega) (by omega) h3.1)]
      exact bestTo_skip (by omega) (fun d h3 h4 => h2 d h3 (by omega))
theorem bestTo_le (all : List Int) (t : Nat) : ∀ D : Nat, (bestTo all t D).2 ≤ 131
  | 0 => by simp [bestTo]
  | D + 1 => by
    rw [bestTo, bstep]
    split
    · exact mlen_le _ _ _
    · exact bestTo_le all t D
theorem bestTo_full {all : List Int} {t D : Nat} (h : 131 ≤ (bestTo all t D).2) : ∀ {D' : Nat}, D ≤ D' → bestTo all t D' = bestTo all t D
  | 0, h1 => by rw [show D = 0 by omega]
  | D' + 1, h1 => by
    by_cases e : D = D' + 1
    · rw [e]
    · have := bestTo_full h (D' := D') (by omega)
      rw [bestTo, bstep, this, if_neg ?_]
      have := mlen_le all (t - (D' + 1)) t
      omega
/-- The places before n with a key. -/
def plc (all : List Int) (n : Nat) (k : List Int) : List Nat := (List.range n).filter fun i => decide (i + 4 ≤ all.length ∧ keyV all i = k)
theorem plc_succ (all : List Int) (n : Nat) (k : List Int) : plc all (n + 1) k = if n + 4 ≤ all.length ∧ k = keyV all n then plc all n k ++ [n] else plc all n k := by
  unfold plc
  rw [List.range_succ, List.filter_append]
  by_cases h : n + 4 ≤ all.length ∧ k = keyV all n
  · rw [if_pos h, List.filter_cons_of_pos (by simp [h.1, h.2]), List.filter_nil]
  · rw [if_neg h, List.filter_cons_of_neg (by simp only [decide_eq_true_eq]; exact fun q => h ⟨q.1, q.2.symm⟩), List.filter_nil, List.append_nil]
theorem plc_len (all : List Int) (n : Nat) (k : List Int) : (plc all n k).length ≤ n := by
  unfold plc
  exact Nat.le_trans (List.length_filter_le _ _) (by simp)
theorem plc_mem {all : List Int} {n : Nat} {k : List Int} {p : Nat} : p ∈ plc all n k ↔ p < n ∧ p + 4 ≤ all.length ∧ keyV all p = k := by
  unfold plc
  simp
theorem plc_sorted (all : List Int) (n : Nat) (k : List Int) {i j : Nat} {x y : Nat} (h : i ≤ j) (hx : (plc all n k)[i]? = some x) (hy : (plc all n k)[j]? = some y) : x ≤ y := by
  have hs : (plc all n k).Pairwise (· < ·) := List.Pairwise.filter _ List.pairwise_lt_range
  rcases Nat.lt_or_eq_of_le h with h | rfl
  · obtain ⟨h1, rfl⟩ := List.getElem?_eq_some_iff.1 hx
    obtain ⟨h2, rfl⟩ := List.getElem?_eq_some_iff.1 hy
    exact Nat.le_of_lt (List.pairwise_iff_getElem.1 hs i j h1 h2 h)
  · rw [hx] at hy; injection hy with hy; omega
section
variable (all : List Int) (hlen : all.length ≤ 1000000) (a0 : Option Addr) (c0 : Nat) (hc0 : all.length ≤ c0) (eb t mb : Nat) (tv wv : Value) (own : Nat → Prop) (W : World) (hl : ∀ b, own b → b < W.heap.size) (hb : Has own W (BxF eb [tv, wv, .slice a0 all.length c0, .int .i64 t, .map (some mb)] 133)) (hv : Has own W (RdF (Value.int .u8) a0 all))
  (E : Pl) (hE : PlOk E) (hm : Has own W (MpE kA mb (esOf E))) (ps : List Nat) (hps : ps = plc all t (keyV all t)) (ao : Option Addr) (cp : Nat) (hsv : (kadd (keyV all t) (.slice none 0 0) (esOf E)).2.2 = .slice ao ps.length cp) (hr : Has own W (RdF nE ao ps))
include hlen hc0 hl hb hv hE hm hps hsv hr
set_option maxRecDepth 20000 in
theorem best_c (ht : t ≤ all.length) : Calls Try.prog 60 ⟨[.pointer (some ⟨eb, 0, none⟩)]⟩ W (Ret W fun v _ => v = .tuple #[.int .i64 (best all t).1, .int .i64 (best all t).2]) := by
  have hM := (((Mm.start hl).known hv).known hb).known hm
  replace hM := hM.known hr
  have hkl := keyV_len all t
  have hpl : ps.length ≤ t := hps ▸ plc_len _ _ _
  refine f_start Try.func60 rfl Try.ntmps60 rfl rfl ?_; intro a hF
  (repeat (first | (with_reducible refine w_seq ?_) | (with_reducible refine c_region ?_) | (with_reducible refine s_nil ?_) | ((with_reducible apply s_call (f := 97) hF hM); exact rfl; exact rfl; exact rfl; exact rfl; exact rfl; exact (key_c all hlen a0 c0 hc0 eb t mb tv wv _ _ hM.lt (hM.facts _ (by (repeat (first | exact List.mem_cons_self | refine List.mem_cons_of_mem _ ?_)))) (hM.facts _ (by (repeat (first | exact List.mem_cons_self | refine List.mem_cons_of_mem _ ?_)))) t _ rfl (by omega)); clear hF hM a; rintro v w a rfl - hM hF) | (with_reducible refine q_then_n ?_) | ((with_reducible apply s_pure hF); exact rfl; exact rfl; exact rfl; (first | exact trivial | omega | exact ⟨Int.natCast_nonneg _, Int.ofNat_lt.2 (by assumption)⟩ | decide); clear hF a; intro a hF) | ((with_reducible apply s_loadK hF hM); exact rfl; exact rfl; (repeat (first | exact List.mem_cons_self | refine List.mem_cons_of_mem _ ?_)); exact rfl; exact rfl; clear hF a; intro a hF) | ((with_reducible apply s_alloc hF hM); exact rfl; exact rfl; exact rfl; clear hF hM a; intro b w a hM hF)))
  generalize hkv : keyV all t = k at *
  obtain ⟨k0, k1, k2, k3, rfl⟩ : ∃ k0 k1 k2 k3, k = [k0, k1, k2, k3] := by
    match k, hkl with
    | [k0, k1, k2, k3], _ => exact ⟨k0, k1, k2, k3, rfl⟩
  (repeat (first | (with_reducible refine w_seq ?_) | (with_reducible refine c_region ?_) | (with_reducible refine s_nil ?_) | (with_reducible refine q_then_n ?_) | ((with_reducible apply s_pure hF); exact rfl; exact rfl; exact rfl; (first | exact trivial | omega | exact ⟨Int.natCast_nonneg _, Int.ofNat_lt.2 (by assumption)⟩ | decide); clear hF a; intro a hF) | ((with_reducible apply s_store hF hM); exact rfl; exact rfl; exact rfl; exact rfl; (repeat (first | exact Upd.z | apply Upd.s)); exact rfl; exact rfl; exact rfl; clear hM; intro w hM)))
  by_cases h4 : t + 4 ≤ all.length
  · rw [decide_eq_true h4] at hF
    (repeat (first | (with_reducible refine w_seq ?_) | (with_reducible refine c_region ?_) | (with_reducible refine s_nil ?_) | (with_reducible refine q_then_n ?_) | ((with_reducible apply s_pure hF); exact rfl; exact rfl; exact rfl; (first | exact trivial | omega | exact ⟨Int.natCast_nonneg _, Int.ofNat_lt.2 (by assumption)⟩ | decide); clear hF a; intro a hF) | (with_reducible refine w_skip ?_) | ((with_reducible apply c_false2 hF); exact rfl; (first | with_reducible rfl | (refine congrArg Value.bool ?_; focus (simp; done))))))
    refine c_draw (fun i => Nat.ble 7 i) hM ?_; clear hM; intro w hM
    (first | (refine t_pure (i := 0) hF rfl rfl rfl rfl (by kernel_rfl) hM.sm (fun _ _ _ h => h) ?_ ?_; (first | exact trivial | omega | decide); clear hF a; intro a hF))
    (first | (refine t_pure (i := 1) hF rfl rfl rfl rfl (by kernel_rfl) hM.sm (fun _ _ _ h => h) ?_ ?_; (first | exact trivial | omega | decide); clear hF a; intro a hF))
    (first | (refine t_pure (i := 2) hF rfl rfl rfl rfl (by kernel_rfl) hM.sm (fun _ _ _ h => h) ?_ ?_; (first | exact trivial | omega | decide); clear hF a; intro a hF))
    (first | (apply t_loadK (i := 3) hF rfl rfl rfl; (repeat (first | exact List.mem_cons_self | refine List.mem_cons_of_mem _ ?_)); exact rfl; exact rfl; kernel_rfl; exact hM.sm; exact (fun _ _ _ h => h); clear hF a; intro a hF))
    (first | (apply t_load (i := 4) hF rfl rfl rfl; (repeat (first | exact List.mem_cons_self | refine List.mem_cons_of_mem _ ?_)); exact rfl; exact rfl; kernel_rfl; exact hM.sm; exact (fun _ _ _ h => h); clear hF a; intro a hF))
    refine t_one (i := 5) hF rfl (by kernel_rfl) rfl ?_
    intro K hK
    (refine upon_value (e_lookupE (ek := kA) (z := .slice none 0 0) (keyOk_arr (k := .u8) (m := 4) (e := 5) (kt := 179) rfl rfl rfl rfl) hF hM rfl (x := [k0, k1, k2, k3]) rfl rfl (by (repeat (first | exact List.mem_cons_self | refine List.mem_cons_of_mem _ ?_))) hkl hE.es) ?_; rw [hsv]; replace hF := hF.put (d := 27) rfl (.slice ao ps.length cp); generalize a.put (some 27) _ = a at *)
    refine hK _ _ (fun _ => (hM.sm.sub (fun x hx => by repeat (first | exact hx | refine List.mem_cons_of_mem _ ?_)) (fun _ h => by repeat (first | exact h | refine List.mem_cons_of_mem _ ?_)))) ?_; clear hK
    (first | (refine t_pure (i := 6) hF rfl rfl rfl rfl (by kernel_rfl) (hM.sm.sub (fun x hx => by repeat (first | exact hx | refine List.mem_cons_of_mem _ ?_)) (fun _ h => by repeat (first | exact h | refine List.mem_cons_of_mem _ ?_))) (fun _ _ _ h => h) ?_ ?_; (first | exact trivial | omega | decide); clear hF a; intro a hF))
    refine t_done (by kernel_rfl) ?_
    (repeat (first | (with_reducible refine w_seq ?_) | (with_reducible refine c_region ?_) | (with_reducible refine s_nil ?_) | (with_reducible refine q_then_n ?_) | ((with_reducible apply s_pure hF); exact rfl; exact rfl; exact rfl; (first | exact trivial | omega | exact ⟨Int.natCast_nonneg _, Int.ofNat_lt.2 (by assumption)⟩ | decide); clear hF a; intro a hF) | (with_reducible refine w_block ?_)))
    refine c_loop (m := ps.length) (fun r a w' => ∃ D : Nat, r ≤ ps.length ∧ D ≤ min 4096 t ∧ (∀ j x, ps[j]? = some x → j < r → x + D < t) ∧ (∀ j x, ps[j]? = some x → r ≤ j → t ≤ x + D) ∧
      Fr 72 [] [(6, .int .i64 (bestTo all t D).1), (7, .int .i64 (bestTo all t D).2), (9, .int .i64 ((r : Int) - 1)), (8, .slice ao ps.length cp), (0, .pointer (some ⟨eb, 0, none⟩))] a ∧
      Mm own W [] [] [RdF nE ao ps, MpE kA mb (esOf E), BxF eb [tv, wv, .slice a0 all.length c0, .int .i64 t, .map (some mb)] 133, RdF (Value.int .u8) a0 all] w')
      ⟨0, Nat.le_refl _, by omega, fun j x hx _ => ?_, fun j x hx hj => ?_, hF.sub (by repeat (first | exact Sub.nil | refine Sub.cons rfl (by first | with_reducible rfl | (refine congrArg (Value.int _) ?_; omega) | exact rfl) ?_)), hM.sub (List.nil_sublist _) (.refl _) (fun _ h => h)⟩ ?_
    · have := (plc_mem.1 (hps ▸ List.mem_of_getElem? hx)).1; omega
    · have := (List.getElem?_eq_some_iff.1 hx).1; omega
    clear hF hM a
    rintro r a w' ⟨D, hrl, hD, hlo, hhi, hF, hM⟩
    have hnext : ∀ D', D ≤ D' → D' ≤ t → (∀ j x, ps[j]? = some x → j < r → x + D' < t) → bestTo all t D' = bestTo all t D := by
      intro D' h1 h2 h3
      refine bestTo_skip h1 (fun d h5 h6 h7 => ?_)
      obtain ⟨h8, h9⟩ := (mlen_key (by omega)).1 h7
      have hmem : t - d ∈ ps := by rw [hps]; exact plc_mem.2 ⟨by omega, by omega, by rw [h9, hkv]⟩
      obtain ⟨j, hj⟩ := List.mem_iff_getElem?.1 hmem
      by_cases hjr : j < r
      · have := h3 j _ hj hjr; omega
      · have := hhi j _ hj (by omega); omega
    cases r with
    | zero =>
      have hbest : best all t = bestTo all t D := hnext _ hD (by omega) (fun j x _ h => by omega)
      with_reducible refine w_seq ?_
      with_reducible refine w_seq ?_
      refine c_draw (fun i => Nat.ble 18 i) hM ?_; clear hM; intro w hM
      (first | (refine t_pure (i := 0) hF rfl rfl rfl rfl (by kernel_rfl) hM.sm (fun _ _ _ h => h) ?_ ?_; (first | exact trivial | omega | decide); clear hF a; intro a hF))
      (first | (refine t_pure (i := 1) hF rfl rfl rfl rfl (by kernel_rfl) hM.sm (fun _ _ _ h => h) ?_ ?_; (first | exact trivial | omega | decide); clear hF a; intro a hF))
      rw [show decide ((((0 : Nat) : Int) - 1) ≥ 0) = false from decide_eq_false (by omega)] at hF
      (first | (refine t_pure (i := 2) hF rfl rfl rfl rfl (by kernel_rfl) (hM.sm.sub (fun x hx => by repeat (first | exact hx | refine List.mem_cons_of_mem _ ?_)) (fun _ h => by repeat (first | exact h | refine List.mem_cons_of_mem _ ?_))) (fun _ _ _ h => h) ?_ ?_; (first | exact trivial | omega | decide); clear hF a; intro a hF))
      (first | (refine t_skip (i := 3) hF rfl rfl rfl (by kernel_rfl) (hM.sm.sub (fun x hx => by repeat (first | exact hx | refine List.mem_cons_of_mem _ ?_)) (fun _ h => by repeat (first | exact h | refine List.mem_cons_of_mem _ ?_))) (fun _ _ _ h => h) ?_; clear hF a; intro a hF))
      (first | (refine t_skip (i := 4) hF rfl rfl rfl (by kernel_rfl) (hM.sm.sub (fun x hx => by repeat (first | exact hx | refine List.mem_cons_of_mem _ ?_)) (fun _ h => by repeat (first | exact h | refine List.mem_cons_of_mem _ ?_))) (fun _ _ _ h => h) ?_; clear hF a; intro a hF))
      (first | (refine t_skip (i := 5) hF rfl rfl rfl (by kernel_rfl) (hM.sm.sub (fun x hx => by repeat (first | exact hx | refine List.mem_cons_of_mem _ ?_)) (fun _ h => by repeat (first | exact h | refine List.mem_cons_of_mem _ ?_))) (fun _ _ _ h => h) ?_; clear hF a; intro a hF))
      (first | (refine t_skip (i := 6) hF rfl rfl rfl (by kernel_rfl) (hM.sm.sub (fun x hx => by repeat (first | exact hx | refine List.mem_cons_of_mem _ ?_)) (fun _ h => by repeat (first | exact h | refine List.mem_cons_of_mem _ ?_))) (fun _ _ _ h => h) ?_; clear hF a; intro a hF))
      (first | (refine t_skip (i := 7) hF rfl rfl rfl (by kernel_rfl) (hM.sm.sub (fun x hx => by repeat (first | exact hx | refine List.mem_cons_of_mem _ ?_)) (fun _ h => by repeat (first | exact h | refine List.mem_cons_of_mem _ ?_))) (fun _ _ _ h => h) ?_; clear hF a; intro a hF))
      (first | (refine t_skip (i := 8) hF rfl rfl rfl (by kernel_rfl) (hM.sm.sub (fun x hx => by repeat (first | exact hx | refine List.mem_cons_of_mem _ ?_)) (fun _ h => by repeat (first | exact h | refine List.mem_cons_of_mem _ ?_))) (fun _ _ _ h => h) ?_; clear hF a; intro a hF))
      (first | (refine t_skip (i := 9) hF rfl rfl rfl (by kernel_rfl) (hM.sm.sub (fun x hx => by repeat (first | exact hx | refine List.mem_cons_of_mem _ ?_)) (fun _ h => by repeat (first | exact h | refine List.mem_cons_of_mem _ ?_))) (fun _ _ _ h => h) ?_; clear hF a; intro a hF))
      (first | (refine t_skip (i := 10) hF rfl rfl rfl (by kernel_rfl) (hM.sm.sub (fun x hx => by repeat (first | exact hx | refine List.mem_cons_of_mem _ ?_)) (fun _ h => by repeat (first | exact h | refine List.mem_cons_of_mem _ ?_))) (fun _ _ _ h => h) ?_; clear hF a; intro a hF))
      (first | (refine t_skip (i := 11) hF rfl rfl rfl (by kernel_rfl) (hM.sm.sub (fun x hx => by repeat (first | exact hx | refine List.mem_cons_of_mem _ ?_)) (fun _ h => by repeat (first | exact h | refine List.mem_cons_of_mem _ ?_))) (fun _ _ _ h => h) ?_; clear hF a; intro a hF))
      (first | (refine t_skip (i := 12) hF rfl rfl rfl (by kernel_rfl) (hM.sm.sub (fun x hx => by repeat (first | exact hx | refine List.mem_cons_of_mem _ ?_)) (fun _ h => by repeat (first | exact h | refine List.mem_cons_of_mem _ ?_))) (fun _ _ _ h => h) ?_; clear hF a; intro a hF))
      (first | (refine t_pure (i := 13) hF rfl rfl rfl rfl (by kernel_rfl) (hM.sm.sub (fun x hx => by repeat (first | exact hx | refine List.mem_cons_of_mem _ ?_)) (fun _ h => by repeat (first | exact h | refine List.mem_cons_of_mem _ ?_))) (fun _ _ _ h => h) ?_ ?_; (first | exact trivial | omega | decide); clear hF a; intro a hF))
      (first | (refine t_pure (i := 14) hF rfl rfl rfl rfl (by kernel_rfl) (hM.sm.sub (fun x hx => by repeat (first | exact hx | refine List.mem_cons_of_mem _ ?_)) (fun _ h => by repeat (first | exact h | refine List.mem_cons_of_mem _ ?_))) (fun _ _ _ h => h) ?_ ?_; (first | exact trivial | omega | decide); clear hF a; intro a hF))
      (first | (refine t_skip (i := 15) hF rfl rfl rfl (by kernel_rfl) (hM.sm.sub (fun x hx => by repeat (first | exact hx | refine List.mem_cons_of_mem _ ?_)) (fun _ h => by repeat (first | exact h | refine List.mem_cons_of_mem _ ?_))) (fun _ _ _ h => h) ?_; clear hF a; intro a hF))
      (first | (refine t_skip (i := 16) hF rfl rfl rfl (by kernel_rfl) (hM.sm.sub (fun x hx => by repeat (first | exact hx | refine List.mem_cons_of_mem _ ?_)) (fun _ h => by repeat (first | exact h | refine List.mem_cons_of_mem _ ?_))) (fun _ _ _ h => h) ?_; clear hF a; intro a hF))
      (first | (refine t_pure (i := 17) hF rfl rfl rfl rfl (by kernel_rfl) (hM.sm.sub (fun x hx => by repeat (first | exact hx | refine List.mem_cons_of_mem _ ?_)) (fun _ h => by repeat (first | exact h | refine List.mem_cons_of_mem _ ?_))) (fun _ _ _ h => h) ?_ ?_; (first | exact trivial | omega | decide); clear hF a; intro a hF))
      refine t_done (by kernel_rfl) ?_
      (repeat' (first | (with_reducible refine w_seq ?_) | (with_reducible refine c_region ?_) | (with_reducible refine s_nil ?_) | (with_reducible refine q_then_n ?_) | ((with_reducible apply s_pure hF); exact rfl; exact rfl; exact rfl; (first | exact trivial | omega | exact ⟨Int.natCast_nonneg _, Int.ofNat_lt.2 (by assumption)⟩ | decide); clear hF a; intro a hF) | (with_reducible refine w_exit ?_) | (with_reducible refine w_ret ?_) | (with_reducible refine q_then_x ?_) | (with_reducible refine q_blk_x ?_) | ((with_reducible apply c_false2 hF); exact rfl; (first | with_reducible rfl | (refine congrArg Value.bool ?_; focus (simp; done))))))
      (apply f_ret Try.results60 hF hM; (repeat (first | exact RL.nil | (apply RL.tmp; exact rfl) | (apply RL.cell; exact rfl; (repeat (first | exact List.mem_cons_self | refine List.mem_cons_of_mem _ ?_)); exact rfl))); refine Ret.mk hM.since ?_; dsimp only [resV])
      rw [hbest]
    | succ r =>
      obtain ⟨x, hx⟩ := get_of_lt (l := ps) (i := r) (by omega)
      have hxt := hlo r x hx (by omega)
      have hx' : ps[(((r + 1 : Nat) : Int) - 1).toNat]? = some x := by rw [show (((r + 1 : Nat) : Int) - 1).toNat = r by omega]; exact hx
      obtain ⟨ad, rfl⟩ : ∃ ad, ao = some ad := rd_some hM (by (repeat (first | exact List.mem_cons_self | refine List.mem_cons_of_mem _ ?_))) hx
      have hxk := (plc_mem.1 (hps ▸ List.mem_of_getElem? hx)).2
      have hsort : ∀ j y, ps[j]? = some y → j < r + 1 → y ≤ x := fun j y hy hj => plc_sorted all t _ (show j ≤ r by omega) (hps ▸ hy) (hps ▸ hx)
      by_cases h96 : t ≤ x + 4096
      · by_cases h131 : (bestTo all t D).2 < 131
        · have hstep : bestTo all t (t - x) = if (bestTo all t D).2 < mlen all x t then (t - x, mlen all x t) else bestTo all t D := by
            have h1 := hnext (t - x - 1) (by omega) (by omega) (fun j y hy hj => by have := hsort j y hy hj; omega)
            have h2 : 4 ≤ mlen all x t := (mlen_key (by omega)).2 ⟨h4, by rw [hxk.2, hkv]⟩
            obtain ⟨q, hq⟩ : ∃ q, t - x = q + 1 := ⟨t - x - 1, by omega⟩
            rw [hq, bestTo, bstep, show q = t - x - 1 by omega, h1, show t - (t - x - 1 + 1) = x by omega, show t - x - 1 + 1 = t - x by omega]
            by_cases h3 : (bestTo all t D).2 < mlen all x t
            · rw [if_pos ⟨h2, h3⟩, if_pos h3]
            · rw [if_neg (fun h => h3 h.2), if_neg h3]
          have hlo' : ∀ j y, ps[j]? = some y → j < r → y + (t - x) < t := by
            intro j y hy hj
            have h1 : y ≤ x := hsort j y hy (by omega)
            have h2 : y ≠ x := by
              intro e
              have hs : ps.Pairwise (· < ·) := by rw [hps]; exact List.Pairwise.filter _ List.pairwise_lt_range
              obtain ⟨p1, p2⟩ := List.getElem?_eq_some_iff.1 hy
              obtain ⟨p3, p4⟩ := List.getElem?_eq_some_iff.1 hx
              have := List.pairwise_iff_getElem.1 hs j r p1 p3 hj
              omega
            omega
          have hhi' : ∀ j y, ps[j]? = some y → r ≤ j → t ≤ y + (t - x) := by
            intro j y hy hj
            by_cases e : j = r
            · subst e; rw [hx] at hy; injection hy with hy; omega
            · have := hhi j y hy (by omega); omega
          with_reducible refine w_seq ?_
          with_reducible refine w_seq ?_
          refine c_draw (fun i => Nat.ble 18 i) hM ?_; clear hM; intro w hM
          (first | (refine t_pure (i := 0) hF rfl rfl rfl rfl (by kernel_rfl) hM.sm (fun _ _ _ h => h) ?_ ?_; (first | exact trivial | omega | decide); clear hF a; intro a hF))
          (first | (refine t_pure (i := 1) hF rfl rfl rfl rfl (by kernel_rfl) hM.sm (fun _ _ _ h => h) ?_ ?_; (first | exact trivial | omega | decide); clear hF a; intro a hF))
          rw [show decide ((((r + 1 : Nat) : Int) - 1) ≥ 0) = true from decide_eq_true (by omega)] at hF
          (first | (refine t_pure (i := 2) hF rfl rfl rfl rfl (by kernel_rfl) (hM.sm.sub (fun x hx => by repeat (first | exact hx | refine List.mem_cons_of_mem _ ?_)) (fun _ h => by repeat (first | exact h | refine List.mem_cons_of_mem _ ?_))) (fun _ _ _ h => h) ?_ ?_; (first | exact trivial | omega | decide); clear hF a; intro a hF))
          (first | (refine t_pure (i := 3) hF rfl rfl rfl rfl (by kernel_rfl) (hM.sm.sub (fun x hx => by repeat (first | exact hx | refine List.mem_cons_of_mem _ ?_)) (fun _ h => by repeat (first | exact h | refine List.mem_cons_of_mem _ ?_))) (fun _ _ _ h => h) ?_ ?_; (first | exact trivial | omega | decide); clear hF a; intro a hF))
          (first | (refine t_pure (i := 4) hF rfl rfl rfl rfl (by kernel_rfl) (hM.sm.sub (fun x hx => by repeat (first | exact hx | refine List.mem_cons_of_mem _ ?_)) (fun _ h => by repeat (first | exact h | refine List.mem_cons_of_mem _ ?_))) (fun _ _ _ h => h) ?_ ?_; (first | exact trivial | omega | decide); clear hF a; intro a hF))
          (first | (refine t_pure (i := 5) hF rfl rfl rfl rfl (by kernel_rfl) (hM.sm.sub (fun x hx => by repeat (first | exact hx | refine List.mem_cons_of_mem _ ?_)) (fun _ h => by repeat (first | exact h | refine List.mem_cons_of_mem _ ?_))) (fun _ _ _ h => h) ?_ ?_; (first | exact trivial | omega | decide); clear hF a; intro a hF))
          (first | (apply t_loadK (i := 6) hF rfl rfl rfl; (repeat (first | exact List.mem_cons_self | refine List.mem_cons_of_mem _ ?_)); exact rfl; exact rfl; kernel_rfl; exact (hM.sm.sub (fun x hx => by repeat (first | exact hx | refine List.mem_cons_of_mem _ ?_)) (fun _ h => by repeat (first | exact h | refine List.mem_cons_of_mem _ ?_))); exact (fun _ _ _ h => h); clear hF a; intro a hF))
          (first | (refine t_pure (i := 7) hF rfl rfl rfl rfl (by kernel_rfl) (hM.sm.sub (fun x hx => by repeat (first | exact hx | refine List.mem_cons_of_mem _ ?_)) (fun _ h => by repeat (first | exact h | refine List.mem_cons_of_mem _ ?_))) (fun _ _ _ h => h) ?_ ?_; (first | exact trivial | omega | decide); clear hF a; intro a hF))
          (first | (refine t_pure (i := 8) hF rfl rfl rfl rfl (by kernel_rfl) (hM.sm.sub (fun x hx => by repeat (first | exact hx | refine List.mem_cons_of_mem _ ?_)) (fun _ h => by repeat (first | exact h | refine List.mem_cons_of_mem _ ?_))) (fun _ _ _ h => h) ?_ ?_; (first | exact trivial | omega | decide); clear hF a; intro a hF))
          (first | (refine t_pure (i := 9) hF rfl rfl rfl rfl (by kernel_rfl) (hM.sm.sub (fun x hx => by repeat (first | exact hx | refine List.mem_cons_of_mem _ ?_)) (fun _ h => by repeat (first | exact h | refine List.mem_cons_of_mem _ ?_))) (fun _ _ _ h => h) ?_ ?_; (first | exact trivial | omega | decide); clear hF a; intro a hF))
          (first | (apply t_loadF (i := 10) hF rfl rfl rfl; (repeat (first | exact List.mem_cons_self | refine List.mem_cons_of_mem _ ?_)); (first | with_reducible assumption | (simp only [Int.toNat_natCast]; with_reducible assumption)); exact rfl; exact rfl; kernel_rfl; exact (hM.sm.sub (fun x hx => by repeat (first | exact hx | refine List.mem_cons_of_mem _ ?_)) (fun _ h => by repeat (first | exact h | refine List.mem_cons_of_mem _ ?_))); exact (fun _ _ _ h => h); clear hF a; intro a hF))
          (first | (refine t_pure (i := 11) hF rfl rfl rfl rfl (by kernel_rfl) (hM.sm.sub (fun x hx => by repeat (first | exact hx | refine List.mem_cons_of_mem _ ?_)) (fun _ h => by repeat (first | exact h | refine List.mem_cons_of_mem _ ?_))) (fun _ _ _ h => h) ?_ ?_; (first | exact trivial | omega | decide); clear hF a; intro a hF))
          (first | (refine t_pure (i := 12) hF rfl rfl rfl rfl (by kernel_rfl) (hM.sm.sub (fun x hx => by repeat (first | exact hx | refine List.mem_cons_of_mem _ ?_)) (fun _ h => by repeat (first | exact h | refine List.mem_cons_of_mem _ ?_))) (fun _ _ _ h => h) ?_ ?_; (first | exact trivial | omega | decide); clear hF a; intro a hF))
          rw [show decide ((t : Int) - (x : Int) ≤ 4096) = true from decide_eq_true (by omega)] at hF
          (first | (refine t_pure (i := 13) hF rfl rfl rfl rfl (by kernel_rfl) (hM.sm.sub (fun x hx => by repeat (first | exact hx | refine List.mem_cons_of_mem _ ?_)) (fun _ h => by repeat (first | exact h | refine List.mem_cons_of_mem _ ?_))) (fun _ _ _ h => h) ?_ ?_; (first | exact trivial | omega | decide); clear hF a; intro a hF))
          (first | (refine t_pure (i := 14) hF rfl rfl rfl rfl (by kernel_rfl) (hM.sm.sub (fun x hx => by repeat (first | exact hx | refine List.mem_cons_of_mem _ ?_)) (fun _ h => by repeat (first | exact h | refine List.mem_cons_of_mem _ ?_))) (fun _ _ _ h => h) ?_ ?_; (first | exact trivial | omega | decide); clear hF a; intro a hF))
          (first | (refine t_pure (i := 15) hF rfl rfl rfl rfl (by kernel_rfl) (hM.sm.sub (fun x hx => by repeat (first | exact hx | refine List.mem_cons_of_mem _ ?_)) (fun _ h => by repeat (first | exact h | refine List.mem_cons_of_mem _ ?_))) (fun _ _ _ h => h) ?_ ?_; (first | exact trivial | omega | decide); clear hF a; intro a hF))
          (first | (refine t_pure (i := 16) hF rfl rfl rfl rfl (by kernel_rfl) (hM.sm.sub (fun x hx => by repeat (first | exact hx | refine List.mem_cons_of_mem _ ?_)) (fun _ h => by repeat (first | exact h | refine List.mem_cons_of_mem _ ?_))) (fun _ _ _ h => h) ?_ ?_; (first | exact trivial | omega | decide); clear hF a; intro a hF))
          rw [show decide (((bestTo all t D).2 : Int) < 131) = true from decide_eq_true (by omega)] at hF
          (first | (refine t_pure (i := 17) hF rfl rfl rfl rfl (by kernel_rfl) (hM.sm.sub (fun x hx => by repeat (first | exact hx | refine List.mem_cons_of_mem _ ?_)) (fun _ h => by repeat (first | exact h | refine List.mem_cons_of_mem _ ?_))) (fun _ _ _ h => h) ?_ ?_; (first | exact trivial | omega | decide); clear hF a; intro a hF))
          refine t_done (by kernel_rfl) ?_
          have hn := bestTo_le all t D
          have hL := mlen_le all x t
          (repeat (first | (with_reducible refine w_seq ?_) | (with_reducible refine c_region ?_) | (with_reducible refine s_nil ?_) | ((with_reducible apply s_call (f := 98) hF hM); exact rfl; exact rfl; exact rfl; exact rfl; exact rfl; exact (length_c all hlen _ c0 hc0 eb t mb tv wv _ _ hM.lt (hM.facts _ (by (repeat (first | exact List.mem_cons_self | refine List.mem_cons_of_mem _ ?_)))) (hM.facts _ (by (repeat (first | exact List.mem_cons_self | refine List.mem_cons_of_mem _ ?_)))) x _ rfl (by omega) (by omega)); clear hF hM a; rintro v w a rfl - hM hF) | (with_reducible refine q_then_n ?_) | ((with_reducible apply s_pure hF); exact rfl; exact rfl; exact rfl; (first | exact trivial | omega | exact ⟨Int.natCast_nonneg _, Int.ofNat_lt.2 (by assumption)⟩ | decide); clear hF a; intro a hF) | ((with_reducible apply s_loadF hF hM); exact rfl; exact rfl; (repeat (first | exact List.mem_cons_self | refine List.mem_cons_of_mem _ ?_)); exact rfl; exact rfl; (first | with_reducible assumption | (simp only [Int.toNat_natCast]; with_reducible assumption)); clear hF a; intro a hF) | (with_reducible refine w_skip ?_) | (with_reducible refine w_block ?_) | ((with_reducible apply c_true2 hF); exact rfl; (first | with_reducible rfl | (refine congrArg Value.bool ?_; focus (simp; done))))))
          by_cases hgt : (bestTo all t D).2 < mlen all x t
          · rw [if_pos hgt] at hstep
            (repeat' (first | ((with_reducible apply c_dec hF); exact rfl; all_goals intro hc; all_goals (try (exfalso; omega)))))
            refine c_draw (fun i => Nat.ble 12 i) hM ?_; clear hM; intro w hM
            (first | (refine t_pure (i := 0) hF rfl rfl rfl rfl (by kernel_rfl) hM.sm (fun _ _ _ h => h) ?_ ?_; (first | exact trivial | omega | decide); clear hF a; intro a hF))
            (first | (refine t_pure (i := 1) hF rfl rfl rfl rfl (by kernel_rfl) hM.sm (fun _ _ _ h => h) ?_ ?_; (first | exact trivial | omega | decide); clear hF a; intro a hF))
            (first | (refine t_pure (i := 2) hF rfl rfl rfl rfl (by kernel_rfl) hM.sm (fun _ _ _ h => h) ?_ ?_; (first | exact trivial | omega | decide); clear hF a; intro a hF))
            (first | (apply t_loadK (i := 3) hF rfl rfl rfl; (repeat (first | exact List.mem_cons_self | refine List.mem_cons_of_mem _ ?_)); exact rfl; exact rfl; kernel_rfl; exact hM.sm; exact (fun _ _ _ h => h); clear hF a; intro a hF))
            (first | (refine t_pure (i := 4) hF rfl rfl rfl rfl (by kernel_rfl) hM.sm (fun _ _ _ h => h) ?_ ?_; (first | exact trivial | omega | decide); clear hF a; intro a hF))
            (first | (refine t_pure (i := 5) hF rfl rfl rfl rfl (by kernel_rfl) hM.sm (fun _ _ _ h => h) ?_ ?_; (first | exact trivial | omega | decide); clear hF a; intro a hF))
            (first | (refine t_pure (i := 6) hF rfl rfl rfl rfl (by kernel_rfl) hM.sm (fun _ _ _ h => h) ?_ ?_; (first | exact trivial | omega | decide); clear hF a; intro a hF))
            (first | (apply t_loadF (i := 7) hF rfl rfl rfl; (repeat (first | exact List.mem_cons_self | refine List.mem_cons_of_mem _ ?_)); (first | with_reducible assumption | (simp only [Int.toNat_natCast]; with_reducible assumption)); exact rfl; exact rfl; kernel_rfl; exact hM.sm; exact (fun _ _ _ h => h); clear hF a; intro a hF))
            (first | (refine t_pure (i := 8) hF rfl rfl rfl rfl (by kernel_rfl) hM.sm (fun _ _ _ h => h) ?_ ?_; (first | exact trivial | omega | decide); clear hF a; intro a hF))
            (first | (refine t_pure (i := 9) hF rfl rfl rfl rfl (by kernel_rfl) hM.sm (fun _ _ _ h => h) ?_ ?_; (first | exact trivial | omega | decide); clear hF a; intro a hF))
            (first | (refine t_pure (i := 10) hF rfl rfl rfl rfl (by kernel_rfl) hM.sm (fun _ _ _ h => h) ?_ ?_; (first | exact trivial | omega | decide); clear hF a; intro a hF))
            (first | (refine t_pure (i := 11) hF rfl rfl rfl rfl (by kernel_rfl) hM.sm (fun _ _ _ h => h) ?_ ?_; (first | exact trivial | omega | decide); clear hF a; intro a hF))
            refine t_done (by kernel_rfl) ?_
            (repeat' (first | (with_reducible refine c_region ?_) | (with_reducible refine s_nil ?_) | (with_reducible refine q_then_n ?_) | ((with_reducible apply s_pure hF); exact rfl; exact rfl; exact rfl; (first | exact trivial | omega | exact ⟨Int.natCast_nonneg _, Int.ofNat_lt.2 (by assumption)⟩ | decide); clear hF a; intro a hF) | (with_reducible refine q_blk_n ?_)))
            refine ⟨r, by omega, t - x, by omega, by omega, hlo', hhi', ?_, hM⟩
            rw [hstep]
            exact hF.sub (by repeat (first | exact Sub.nil | refine Sub.cons rfl (by first | with_reducible rfl | (refine congrArg (Value.int _) ?_; omega) | exact rfl) ?_))
          · rw [if_neg hgt] at hstep
            (repeat' (first | (with_reducible refine c_region ?_) | (with_reducible refine s_nil ?_) | (with_reducible refine q_then_n ?_) | ((with_reducible apply s_pure hF); exact rfl; exact rfl; exact rfl; (first | exact trivial | omega | exact ⟨Int.natCast_nonneg _, Int.ofNat_lt.2 (by assumption)⟩ | decide); clear hF a; intro a hF) | (with_reducible refine w_skip ?_) | (with_reducible refine q_blk_n ?_) | ((with_reducible apply c_dec hF); exact rfl; all_goals intro hc; all_goals (try (exfalso; omega)))))
            refine ⟨r, by omega, t - x, by omega, by omega, hlo', hhi', ?_, hM⟩
            rw [hstep]
            exact hF.sub (by repeat (first | exact Sub.nil | refine Sub.cons rfl (by first | with_reducible rfl | (refine congrArg (Value.int _) ?_; omega) | exact rfl) ?_))
        · have hbest : best all t = bestTo all t D := bestTo_full (by omega) hD
          with_reducible refine w_seq ?_
          with_reducible refine w_seq ?_
          refine c_draw (fun i => Nat.ble 18 i) hM ?_; clear hM; intro w hM
          (first | (refine t_pure (i := 0) hF rfl rfl rfl rfl (by kernel_rfl) hM.sm (fun _ _ _ h => h) ?_ ?_; (first | exact trivial | omega | decide); clear hF a; intro a hF))
          (first | (refine t_pure (i := 1) hF rfl rfl rfl rfl (by kernel_rfl) hM.sm (fun _ _ _ h => h) ?_ ?_; (first | exact trivial | omega | decide); clear hF a; intro a hF))
          rw [show decide ((((r + 1 : Nat) : Int) - 1) ≥ 0) = true from decide_eq_true (by omega)] at hF
          (first | (refine t_pure (i := 2) hF rfl rfl rfl rfl (by kernel_rfl) (hM.sm.sub (fun x hx => by repeat (first | exact hx | refine List.mem_cons_of_mem _ ?_)) (fun _ h => by repeat (first | exact h | refine List.mem_cons_of_mem _ ?_))) (fun _ _ _ h => h) ?_ ?_; (first | exact trivial | omega | decide); clear hF a; intro a hF))
          (first | (refine t_pure (i := 3) hF rfl rfl rfl rfl (by kernel_rfl) (hM.sm.sub (fun x hx => by repeat (first | exact hx | refine List.mem_cons_of_mem _ ?_)) (fun _ h => by repeat (first | exact h | refine List.mem_cons_of_mem _ ?_))) (fun _ _ _ h => h) ?_ ?_; (first | exact trivial | omega | decide); clear hF a; intro a hF))
          (first | (refine t_pure (i := 4) hF rfl rfl rfl rfl (by kernel_rfl) (hM.sm.sub (fun x hx => by repeat (first | exact hx | refine List.mem_cons_of_mem _ ?_)) (fun _ h => by repeat (first | exact h | refine List.mem_cons_of_mem _ ?_))) (fun _ _ _ h => h) ?_ ?_; (first | exact trivial | omega | decide); clear hF a; intro a hF))
          (first | (refine t_pure (i := 5) hF rfl rfl rfl rfl (by kernel_rfl) (hM.sm.sub (fun x hx => by repeat (first | exact hx | refine List.mem_cons_of_mem _ ?_)) (fun _ h => by repeat (first | exact h | refine List.mem_cons_of_mem _ ?_))) (fun _ _ _ h => h) ?_ ?_; (first | exact trivial | omega | decide); clear hF a; intro a hF))
          (first | (apply t_loadK (i := 6) hF rfl rfl rfl; (repeat (first | exact List.mem_cons_self | refine List.mem_cons_of_mem _ ?_)); exact rfl; exact rfl; kernel_rfl; exact (hM.sm.sub (fun x hx => by repeat (first | exact hx | refine List.mem_cons_of_mem _ ?_)) (fun _ h => by repeat (first | exact h | refine List.mem_cons_of_mem _ ?_))); exact (fun _ _ _ h => h); clear hF a; intro a hF))
          (first | (refine t_pure (i := 7) hF rfl rfl rfl rfl (by kernel_rfl) (hM.sm.sub (fun x hx => by repeat (first | exact hx | refine List.mem_cons_of_mem _ ?_)) (fun _ h => by repeat (first | exact h | refine List.mem_cons_of_mem _ ?_))) (fun _ _ _ h => h) ?_ ?_; (first | exact trivial | omega | decide); clear hF a; intro a hF))
          (first | (refine t_pure (i := 8) hF rfl rfl rfl rfl (by kernel_rfl) (hM.sm.sub (fun x hx => by repeat (first | exact hx | refine List.mem_cons_of_mem _ ?_)) (fun _ h => by repeat (first | exact h | refine List.mem_cons_of_mem _ ?_))) (fun _ _ _ h => h) ?_ ?_; (first | exact trivial | omega | decide); clear hF a; intro a hF))
          (first | (refine t_pure (i := 9) hF rfl rfl rfl rfl (by kernel_rfl) (hM.sm.sub (fun x hx => by repeat (first | exact hx | refine List.mem_cons_of_mem _ ?_)) (fun _ h => by repeat (first | exact h | refine List.mem_cons_of_mem _ ?_))) (fun _ _ _ h => h) ?_ ?_; (first | exact trivial | omega | decide); clear hF a; intro a hF))
          (first | (apply t_loadF (i := 10) hF rfl rfl rfl; (repeat (first | exact List.mem_cons_self | refine List.mem_cons_of_mem _ ?_)); (first | with_reducible assumption | (simp only [Int.toNat_natCast]; with_reducible assumption)); exact rfl; exact rfl; kernel_rfl; exact (hM.sm.sub (fun x hx => by repeat (first | exact hx | refine List.mem_cons_of_mem _ ?_)) (fun _ h => by repeat (first | exact h | refine List.mem_cons_of_mem _ ?_))); exact (fun _ _ _ h => h); clear hF a; intro a hF))
          (first | (refine t_pure (i := 11) hF rfl rfl rfl rfl (by kernel_rfl) (hM.sm.sub (fun x hx => by repeat (first | exact hx | refine List.mem_cons_of_mem _ ?_)) (fun _ h => by repeat (first | exact h | refine List.mem_cons_of_mem _ ?_))) (fun _ _ _ h => h) ?_ ?_; (first | exact trivial | omega | decide); clear hF a; intro a hF))
          (first | (refine t_pure (i := 12) hF rfl rfl rfl rfl (by kernel_rfl) (hM.sm.sub (fun x hx => by repeat (first | exact hx | refine List.mem_cons_of_mem _ ?_)) (fun _ h => by repeat (first | exact h | refine List.mem_cons_of_mem _ ?_))) (fun _ _ _ h => h) ?_ ?_; (first | exact trivial | omega | decide); clear hF a; intro a hF))
          rw [show decide ((t : Int) - (x : Int) ≤ 4096) = true from decide_eq_true (by omega)] at hF
          (first | (refine t_pure (i := 13) hF rfl rfl rfl rfl (by kernel_rfl) (hM.sm.sub (fun x hx => by repeat (first | exact hx | refine List.mem_cons_of_mem _ ?_)) (fun _ h => by repeat (first | exact h | refine List.mem_cons_of_mem _ ?_))) (fun _ _ _ h => h) ?_ ?_; (first | exact trivial | omega | decide); clear hF a; intro a hF))
          (first | (refine t_pure (i := 14) hF rfl rfl rfl rfl (by kernel_rfl) (hM.sm.sub (fun x hx => by repeat (first | exact hx | refine List.mem_cons_of_mem _ ?_)) (fun _ h => by repeat (first | exact h | refine List.mem_cons_of_mem _ ?_))) (fun _ _ _ h => h) ?_ ?_; (first | exact trivial | omega | decide); clear hF a; intro a hF))
          (first | (refine t_pure (i := 15) hF rfl rfl rfl rfl (by kernel_rfl) (hM.sm.sub (fun x hx => by repeat (first | exact hx | refine List.mem_cons_of_mem _ ?_)) (fun _ h => by repeat (first | exact h | refine List.mem_cons_of_mem _ ?_))) (fun _ _ _ h => h) ?_ ?_; (first | exact trivial | omega | decide); clear hF a; intro a hF))
          (first | (refine t_pure (i := 16) hF rfl rfl rfl rfl (by kernel_rfl) (hM.sm.sub (fun x hx => by repeat (first | exact hx | refine List.mem_cons_of_mem _ ?_)) (fun _ h => by repeat (first | exact h | refine List.mem_cons_of_mem _ ?_))) (fun _ _ _ h => h) ?_ ?_; (first | exact trivial | omega | decide); clear hF a; intro a hF))
          rw [show decide (((bestTo all t D).2 : Int) < 131) = false from decide_eq_false (by omega)] at hF
          (first | (refine t_pure (i := 17) hF rfl rfl rfl rfl (by kernel_rfl) (hM.sm.sub (fun x hx => by repeat (first | exact hx | refine List.mem_cons_of_mem _ ?_)) (fun _ h => by repeat (first | exact h | refine List.mem_cons_of_mem _ ?_))) (fun _ _ _ h => h) ?_ ?_; (first | exact trivial | omega | decide); clear hF a; intro a hF))
          refine t_done (by kernel_rfl) ?_
          (repeat' (first | (with_reducible refine w_seq ?_) | (with_reducible refine c_region ?_) | (with_reducible refine s_nil ?_) | (with_reducible refine q_then_n ?_) | ((with_reducible apply s_pure hF); exact rfl; exact rfl; exact rfl; (first | exact trivial | omega | exact ⟨Int.natCast_nonneg _, Int.ofNat_lt.2 (by assumption)⟩ | decide); clear hF a; intro a hF) | (with_reducible refine w_exit ?_) | (with_reducible refine w_ret ?_) | (with_reducible refine q_then_x ?_) | (with_reducible refine q_blk_x ?_) | ((with_reducible apply c_false2 hF); exact rfl; (first | with_reducible rfl | (refine congrArg Value.bool ?_; focus (simp; done))))))
          (apply f_ret Try.results60 hF hM; (repeat (first | exact RL.nil | (apply RL.tmp; exact rfl) | (apply RL.cell; exact rfl; (repeat (first | exact List.mem_cons_self | refine List.mem_cons_of_mem _ ?_)); exact rfl))); refine Ret.mk hM.since ?_; dsimp only [resV])
          rw [hbest]
      · have hbest : best all t = bestTo all t D := hnext _ hD (by omega) (fun j y hy hj => by have := hsort j y hy hj; omega)
        with_reducible refine w_seq ?_
        with_reducible refine w_seq ?_
        refine c_draw (fun i => Nat.ble 18 i) hM ?_; clear hM; intro w hM
        (first | (refine t_pure (i := 0) hF rfl rfl rfl rfl (by kernel_rfl) hM.sm (fun _ _ _ h => h) ?_ ?_; (first | exact trivial | omega | decide); clear hF a; intro a hF))
        (first | (refine t_pure (i := 1) hF rfl rfl rfl rfl (by kernel_rfl) hM.sm (fun _ _ _ h => h) ?_ ?_; (first | exact trivial | omega | decide); clear hF a; intro a hF))
        rw [show decide ((((r + 1 : Nat) : Int) - 1) ≥ 0) = true from decide_eq_true (by omega)] at hF
        (first | (refine t_pure (i := 2) hF rfl rfl rfl rfl (by kernel_rfl) (hM.sm.sub (fun x hx => by repeat (first | exact hx | refine List.mem_cons_of_mem _ ?_)) (fun _ h => by repeat (first | exact h | refine List.mem_cons_of_mem _ ?_))) (fun _ _ _ h => h) ?_ ?_; (first | exact trivial | omega | decide); clear hF a; intro a hF))
        (first | (refine t_pure (i := 3) hF rfl rfl rfl rfl (by kernel_rfl) (hM.sm.sub (fun x hx => by repeat (first | exact hx | refine List.mem_cons_of_mem _ ?_)) (fun _ h => by repeat (first | exact h | refine List.mem_cons_of_mem _ ?_))) (fun _ _ _ h => h) ?_ ?_; (first | exact trivial | omega | decide); clear hF a; intro a hF))
        (first | (refine t_pure (i := 4) hF rfl rfl rfl rfl (by kernel_rfl) (hM.sm.sub (fun x hx => by repeat (first | exact hx | refine List.mem_cons_of_mem _ ?_)) (fun _ h => by repeat (first | exact h | refine List.mem_cons_of_mem _ ?_))) (fun _ _ _ h => h) ?_ ?_; (first | exact trivial | omega | decide); clear hF a; intro a hF))
        (first | (refine t_pure (i := 5) hF rfl rfl rfl rfl (by kernel_rfl) (hM.sm.sub (fun x hx => by repeat (first | exact hx | refine List.mem_cons_of_mem _ ?_)) (fun _ h => by repeat (first | exact h | refine List.mem_cons_of_mem _ ?_))) (fun _ _ _ h => h) ?_ ?_; (first | exact trivial | omega | decide); clear hF a; intro a hF))
        (first | (apply t_loadK (i := 6) hF rfl rfl rfl; (repeat (first | exact List.mem_cons_self | refine List.mem_cons_of_mem _ ?_)); exact rfl; exact rfl; kernel_rfl; exact (hM.sm.sub (fun x hx => by repeat (first | exact hx | refine List.mem_cons_of_mem _ ?_)) (fun _ h => by repeat (first | exact h | refine List.mem_cons_of_mem _ ?_))); exact (fun _ _ _ h => h); clear hF a; intro a hF))
        (first | (refine t_pure (i := 7) hF rfl rfl rfl rfl (by kernel_rfl) (hM.sm.sub (fun x hx => by repeat (first | exact hx | refine List.mem_cons_of_mem _ ?_)) (fun _ h => by repeat (first | exact h | refine List.mem_cons_of_mem _ ?_))) (fun _ _ _ h => h) ?_ ?_; (first | exact trivial | omega | decide); clear hF a; intro a hF))
        (first | (refine t_pure (i := 8) hF rfl rfl rfl rfl (by kernel_rfl) (hM.sm.sub (fun x hx => by repeat (first | exact hx | refine List.mem_cons_of_mem _ ?_)) (fun _ h => by repeat (first | exact h | refine List.mem_cons_of_mem _ ?_))) (fun _ _ _ h => h) ?_ ?_; (first | exact trivial | omega | decide); clear hF a; intro a hF))
        (first | (refine t_pure (i := 9) hF rfl rfl rfl rfl (by kernel_rfl) (hM.sm.sub (fun x hx => by repeat (first | exact hx | refine List.mem_cons_of_mem _ ?_)) (fun _ h => by repeat (first | exact h | refine List.mem_cons_of_mem _ ?_))) (fun _ _ _ h => h) ?_ ?_; (first | exact trivial | omega | decide); clear hF a; intro a hF))
        (first | (apply t_loadF (i := 10) hF rfl rfl rfl; (repeat (first | exact List.mem_cons_self | refine List.mem_cons_of_mem _ ?_)); (first | with_reducible assumption | (simp only [Int.toNat_natCast]; with_reducible assumption)); exact rfl; exact rfl; kernel_rfl; exact (hM.sm.sub (fun x hx => by repeat (first | exact hx | refine List.mem_cons_of_mem _ ?_)) (fun _ h => by repeat (first | exact h | refine List.mem_cons_of_mem _ ?_))); exact (fun _ _ _ h => h); clear hF a; intro a hF))
        (first | (refine t_pure (i := 11) hF rfl rfl rfl rfl (by kernel_rfl) (hM.sm.sub (fun x hx => by repeat (first | exact hx | refine List.mem_cons_of_mem _ ?_)) (fun _ h => by repeat (first | exact h | refine List.mem_cons_of_mem _ ?_))) (fun _ _ _ h => h) ?_ ?_; (first | exact trivial | omega | decide); clear hF a; intro a hF))
        (first | (refine t_pure (i := 12) hF rfl rfl rfl rfl (by kernel_rfl) (hM.sm.sub (fun x hx => by repeat (first | exact hx | refine List.mem_cons_of_mem _ ?_)) (fun _ h => by repeat (first | exact h | refine List.mem_cons_of_mem _ ?_))) (fun _ _ _ h => h) ?_ ?_; (first | exact trivial | omega | decide); clear hF a; intro a hF))
        rw [show decide ((t : Int) - (x : Int) ≤ 4096) = false from decide_eq_false (by omega)] at hF
        (first | (refine t_pure (i := 13) hF rfl rfl rfl rfl (by kernel_rfl) (hM.sm.sub (fun x hx => by repeat (first | exact hx | refine List.mem_cons_of_mem _ ?_)) (fun _ h => by repeat (first | exact h | refine List.mem_cons_of_mem _ ?_))) (fun _ _ _ h => h) ?_ ?_; (first | exact trivial | omega | decide); clear hF a; intro a hF))
        (first | (refine t_pure (i := 14) hF rfl rfl rfl rfl (by kernel_rfl) (hM.sm.sub (fun x hx => by repeat (first | exact hx | refine List.mem_cons_of_mem _ ?_)) (fun _ h => by repeat (first | exact h | refine List.mem_cons_of_mem _ ?_))) (fun _ _ _ h => h) ?_ ?_; (first | exact trivial | omega | decide); clear hF a; intro a hF))
        (first | (refine t_skip (i := 15) hF rfl rfl rfl (by kernel_rfl) (hM.sm.sub (fun x hx => by repeat (first | exact hx | refine List.mem_cons_of_mem _ ?_)) (fun _ h => by repeat (first | exact h | refine List.mem_cons_of_mem _ ?_))) (fun _ _ _ h => h) ?_; clear hF a; intro a hF))
        (first | (refine t_skip (i := 16) hF rfl rfl rfl (by kernel_rfl) (hM.sm.sub (fun x hx => by repeat (first | exact hx | refine List.mem_cons_of_mem _ ?_)) (fun _ h => by repeat (first | exact h | refine List.mem_cons_of_mem _ ?_))) (fun _ _ _ h => h) ?_; clear hF a; intro a hF))
        (first | (refine t_pure (i := 17) hF rfl rfl rfl rfl (by kernel_rfl) (hM.sm.sub (fun x hx => by repeat (first | exact hx | refine List.mem_cons_of_mem _ ?_)) (fun _ h => by repeat (first | exact h | refine List.mem_cons_of_mem _ ?_))) (fun _ _ _ h => h) ?_ ?_; (first | exact trivial | omega | decide); clear hF a; intro a hF))
        refine t_done (by kernel_rfl) ?_
        (repeat' (first | (with_reducible refine w_seq ?_) | (with_reducible refine c_region ?_) | (with_reducible refine s_nil ?_) | (with_reducible refine q_then_n ?_) | ((with_reducible apply s_pure hF); exact rfl; exact rfl; exact rfl; (first | exact trivial | omega | exact ⟨Int.natCast_nonneg _, Int.ofNat_lt.2 (by assumption)⟩ | decide); clear hF a; intro a hF) | (with_reducible refine w_exit ?_) | (with_reducible refine w_ret ?_) | (with_reducible refine q_then_x ?_) | (with_reducible refine q_blk_x ?_) | ((with_reducible apply c_false2 hF); exact rfl; (first | with_reducible rfl | (refine congrArg Value.bool ?_; focus (simp; done))))))
        (apply f_ret Try.results60 hF hM; (repeat (first | exact RL.nil | (apply RL.tmp; exact rfl) | (apply RL.cell; exact rfl; (repeat (first | exact List.mem_cons_self | refine List.mem_cons_of_mem _ ?_)); exact rfl))); refine Ret.mk hM.since ?_; dsimp only [resV])
        rw [hbest]
  · rw [decide_eq_false h4] at hF
    (repeat (first | (with_reducible refine w_seq ?_) | (with_reducible refine c_region ?_) | (with_reducible refine s_nil ?_) | (with_reducible refine q_then_n ?_) | ((with_reducible apply s_pure hF); exact rfl; exact rfl; exact rfl; (first | exact trivial | omega | exact ⟨Int.natCast_nonneg _, Int.ofNat_lt.2 (by assumption)⟩ | decide); clear hF a; intro a hF) | (with_reducible refine w_ret ?_) | (with_reducible refine q_then_r ?_) | ((with_reducible apply c_true2 hF); exact rfl; (first | with_reducible rfl | (refine congrArg Value.bool ?_; focus (simp; done))))))
    (apply f_ret Try.results60 hF hM; (repeat (first | exact RL.nil | (apply RL.tmp; exact rfl) | (apply RL.cell; exact rfl; (repeat (first | exact List.mem_cons_self | refine List.mem_cons_of_mem _ ?_)); exact rfl))); refine Ret.mk hM.since ?_; dsimp only [resV])
    have h0 : best all t = (0, 0) := bestTo_skip (D := 0) (by omega) (fun d h1 h2 h3 => h4 ((mlen_key (by omega)).1 h3).1)
    rw [h0]
    rfl
end
end Go.Proofs.Ytadfdpkhehdikaa


/- dictionary: literals and matches are put out. -/
namespace Go.Proofs.Ytadfdpkhehdikaa
open Go.RowKit Go.Shelf
theorem sadr_z (a : Option Addr) (c n : Nat) : sadr a 0 c n = a := by
  unfold sadr
  cases a with
  | none => simp
  | some ad =>
    obtain ⟨b, o, s⟩ := ad
    cases s <;> simp [Addr.add]
/-- Literals as tokens. -/
def litsB : Nat → List Int → List Int
  | 0, _ => []
  | f + 1, l => if l = [] then [] else ((min l.length 127 : Nat) : Int) :: (l.take (min l.length 127) ++ litsB f (l.drop (min l.length 127)))
def litz (l : List Int) : List Int := litsB l.length l
theorem litsB_nil : ∀ f, litsB f [] = []
  | 0 => rfl
  | f + 1 => by rw [litsB, if_pos rfl]
theorem litsB_len : ∀ (f : Nat) (l : List Int), (litsB f l).length ≤ 2 * l.length
  | 0, _ => by simp [litsB]
  | f + 1, l => by
    rw [litsB]
    split
    · simp
    · rename_i h
      have h1 : 0 < l.length := List.length_pos_iff.2 h
      have h2 := litsB_len f (l.drop (min l.length 127))
      simp only [List.length_cons, List.length_append, List.length_take, List.length_drop] at h2 ⊢
      omega
theorem litz_len (l : List Int) : (litz l).length ≤ 2 * l.length := litsB_len _ _
theorem one_map' (l : List Int) : ∀ v ∈ l.map (Value.int .u8), v.oneCell' = true := by
  intro v hv
  obtain ⟨y, _, rfl⟩ := List.mem_map.1 hv
  rfl
section
variable {own : Nat → Prop} {w0 W : World} {bs : List BoxE} {L : List Ent} {Fs : List (World → Prop)} (eb : Nat) (tv wv x1 x2 x3 : Value) (toks wt : List Int) (m1 : Nat) (hm1 : m1 = toks.length) {Ew : Ent} (hW : OffR 5 1 wv wt.length (wt.map (Value.int .u8)) Ew) (hwl : wt.length ≤ 1000000) (htl : toks.length ≤ 1000000000)
  (hM : Mm own w0 (⟨eb, ⟨[tv, wv, x1, x2, x3]⟩, 133⟩ :: bs) (⟨5, 1, tv, m1, toks.map (Value.int .u8)⟩ :: Ew :: L) Fs W)
include hm1 hW hwl htl hM
set_option maxRecDepth 20000 in
theorem literal_c (x : Int) : Calls Try.prog 62 ⟨[.pointer (some ⟨eb, 0, none⟩), .int .u8 x]⟩ W (Rtn fun _ w' => ∃ wv' Ew', OffR 5 1 wv' (wt.length + 1) ((wt ++ [x]).map (Value.int .u8)) Ew' ∧
    Mm own w0 (⟨eb, ⟨[tv, wv', x1, x2, x3]⟩, 133⟩ :: bs) (⟨5, 1, tv, m1, toks.map (Value.int .u8)⟩ :: Ew' :: L) Fs w') := by
  refine f_start Try.func62 rfl Try.ntmps62 rfl rfl ?_; intro a hF
  (repeat (first | (with_reducible refine c_region ?_) | ((with_reducible apply s_pure hF); exact rfl; exact rfl; exact rfl; (first | exact trivial | omega | exact ⟨Int.natCast_nonneg _, Int.ofNat_lt.2 (by assumption)⟩ | decide); clear hF a; intro a hF) | ((with_reducible apply s_load hF hM); exact rfl; exact rfl; (repeat (first | exact List.mem_cons_self | refine List.mem_cons_of_mem _ ?_)); exact rfl; exact rfl; clear hF a; intro a hF) | ((with_reducible apply s_lit hF hM); exact rfl; exact rfl; exact rfl; exact rfl; clear hF hM a; intro bl w a hM hF)))
  apply s_appO 1 hF hM hW
  · exact rfl
  · exact rfl
  · exact rfl
  · exact rfl
  · exact .s .z
  · exact rfl
  · exact rfl
  · exact rfl
  · exact rfl
  · omega
  clear hF hM a
  intro wv' Ew' w a hW' hM hF
  dsimp only [List.set] at hM
  obtain ⟨ao', c', rfl, _⟩ := OffR.shape hM (k := 1) rfl hW'
  (repeat (first | (with_reducible refine s_nil ?_) | ((with_reducible apply s_pure hF); exact rfl; exact rfl; exact rfl; (first | exact trivial | omega | exact ⟨Int.natCast_nonneg _, Int.ofNat_lt.2 (by assumption)⟩ | decide); clear hF a; intro a hF) | ((with_reducible apply s_store hF hM); exact rfl; exact rfl; exact rfl; exact rfl; (repeat (first | exact Upd.z | apply Upd.s)); exact rfl; exact rfl; exact rfl; clear hM; intro w hM)))
  (apply f_end Try.results62 hF hM; (repeat (first | exact RL.nil | (apply RL.tmp; exact rfl) | (apply RL.cell; exact rfl; (repeat (first | exact List.mem_cons_self | refine List.mem_cons_of_mem _ ?_)); exact rfl))); refine Both.mk ?_; try dsimp only [resV])
  exact ⟨_, Ew', by rw [List.map_append]; exact hW', hM⟩
set_option maxRecDepth 20000 in
theorem flush_c : Calls Try.prog 63 ⟨[.pointer (some ⟨eb, 0, none⟩)]⟩ W (Rtn fun _ w' => ∃ tv' wv' Ew', OffR 5 1 wv' 0 [] Ew' ∧
    Mm own w0 (⟨eb, ⟨[tv', wv', x1, x2, x3]⟩, 133⟩ :: bs) (⟨5, 1, tv', (toks ++ litz wt).length, (toks ++ litz wt).map (Value.int .u8)⟩ :: Ew' :: L) Fs w') := by
  subst hm1
  refine f_start Try.func63 rfl Try.ntmps63 rfl rfl ?_; intro a hF
  (repeat (first | (with_reducible refine w_block ?_)))
  refine c_loop (m := wt.length) (fun m a w' => ∃ (tk cur : List Int) (tv2 wv2 : Value) (Ew2 : Ent), toks ++ litz wt = tk ++ litsB m cur ∧ cur.length ≤ m ∧ m ≤ wt.length ∧ tk.length + 2 * cur.length ≤ toks.length + 2 * wt.length ∧ OffR 5 1 wv2 cur.length (cur.map (Value.int .u8)) Ew2 ∧
    Fr 42 [] [(0, .pointer (some ⟨eb, 0, none⟩))] a ∧
    Mm own w0 (⟨eb, ⟨[tv2, wv2, x1, x2, x3]⟩, 133⟩ :: bs) (⟨5, 1, tv2, tk.length, tk.map (Value.int .u8)⟩ :: Ew2 :: L) Fs w')
    ⟨toks, wt, tv, wv, Ew, rfl, Nat.le_refl _, Nat.le_refl _, Nat.le_refl _, hW, hF.sub (by repeat (first | exact Sub.nil | refine Sub.cons rfl (by first | with_reducible rfl | (refine congrArg (Value.int _) ?_; omega) | exact rfl) ?_)), hM⟩ ?_
  clear hF hM a hW
  rintro m a w' ⟨tk, cur, tv2, wv2, Ew2, he, hcm, hmw, htk, hW, hF, hM⟩
  obtain ⟨ao, c, rfl, hcc, hsome⟩ := OffR.shape hM (k := 1) rfl hW
  by_cases h0 : 0 < cur.length
  · obtain ⟨ad, rfl⟩ := hsome h0
    obtain ⟨m, rfl⟩ : ∃ k, m = k + 1 := ⟨m - 1, by omega⟩
    have hne : cur ≠ [] := List.length_pos_iff.1 h0
    rw [litsB, if_neg hne] at he
    obtain ⟨q, hq⟩ : ∃ q, q = min cur.length 127 := ⟨_, rfl⟩
    rw [← hq] at he
    (repeat' (first | (with_reducible refine w_seq ?_) | (with_reducible refine c_region ?_) | (with_reducible refine s_nil ?_) | (with_reducible refine q_then_n ?_) | ((with_reducible apply s_pure hF); exact rfl; exact rfl; exact rfl; (first | exact trivial | omega | exact ⟨Int.natCast_nonneg _, Int.ofNat_lt.2 (by assumption)⟩ | decide); clear hF a; intro a hF) | ((with_reducible apply s_load hF hM); exact rfl; exact rfl; (repeat (first | exact List.mem_cons_self | refine List.mem_cons_of_mem _ ?_)); exact rfl; exact rfl; clear hF a; intro a hF) | (with_reducible refine w_skip ?_) | (with_reducible refine w_block ?_) | ((with_reducible apply c_dec hF); exact rfl; all_goals intro hc; all_goals (try (exfalso; omega)))))
    rw [show min (cur.length : Int) 127 = (q : Int) by omega] at hF
    have hcl := OffR.cells hM (k := 1) rfl hW rfl
    refine c_draw (fun i => Nat.ble 18 i) hM ?_; clear hM; intro w hM
    (first | (refine t_pure (i := 0) hF rfl rfl rfl rfl (by kernel_rfl) hM.sm (fun _ _ _ h => h) ?_ ?_; (first | exact trivial | omega | decide); clear hF a; intro a hF))
    (first | (refine t_pure (i := 1) hF rfl rfl rfl rfl (by kernel_rfl) hM.sm (fun _ _ _ h => h) ?_ ?_; (first | exact trivial | omega | decide); clear hF a; intro a hF))
    (first | (refine t_pure (i := 2) hF rfl rfl rfl rfl (by kernel_rfl) hM.sm (fun _ _ _ h => h) ?_ ?_; (first | exact trivial | omega | decide); clear hF a; intro a hF))
    (first | (refine t_pure (i := 3) hF rfl rfl rfl rfl (by kernel_rfl) hM.sm (fun _ _ _ h => h) ?_ ?_; (first | exact trivial | omega | decide); clear hF a; intro a hF))
    (first | (apply t_load (i := 4) hF rfl rfl rfl; (repeat (first | exact List.mem_cons_self | refine List.mem_cons_of_mem _ ?_)); exact rfl; exact rfl; kernel_rfl; exact hM.sm; exact (fun _ _ _ h => h); clear hF a; intro a hF))
    (first | (refine t_pure (i := 5) hF rfl rfl rfl rfl (by kernel_rfl) hM.sm (fun _ _ _ h => h) ?_ ?_; (first | exact trivial | omega | decide); clear hF a; intro a hF))
    (first | (refine t_pure (i := 6) hF rfl rfl rfl rfl (by kernel_rfl) hM.sm (fun _ _ _ h => h) ?_ ?_; (first | exact trivial | omega | decide); clear hF a; intro a hF))
    rw [show (q : Int) % 256 = (q : Int) by omega] at hF
    (first | (refine t_pure (i := 9) hF rfl rfl rfl rfl (by kernel_rfl) (hM.sm.sub (fun x hx => by repeat (first | exact hx | refine List.mem_cons_of_mem _ ?_)) (fun _ h => by repeat (first | exact h | refine List.mem_cons_of_mem _ ?_))) (fun _ _ _ h => h) ?_ ?_; (first | exact trivial | omega | decide); clear hF a; intro a hF))
    (first | (refine t_pure (i := 10) hF rfl rfl rfl rfl (by kernel_rfl) (hM.sm.sub (fun x hx => by repeat (first | exact hx | refine List.mem_cons_of_mem _ ?_)) (fun _ h => by repeat (first | exact h | refine List.mem_cons_of_mem _ ?_))) (fun _ _ _ h => h) ?_ ?_; (first | exact trivial | omega | decide); clear hF a; intro a hF))
    (first | (refine t_pure (i := 11) hF rfl rfl rfl rfl (by kernel_rfl) (hM.sm.sub (fun x hx => by repeat (first | exact hx | refine List.mem_cons_of_mem _ ?_)) (fun _ h => by repeat (first | exact h | refine List.mem_cons_of_mem _ ?_))) (fun _ _ _ h => h) ?_ ?_; (first | exact trivial | omega | decide); clear hF a; intro a hF))
    (first | (apply t_load (i := 12) hF rfl rfl rfl; (repeat (first | exact List.mem_cons_self | refine List.mem_cons_of_mem _ ?_)); exact rfl; exact rfl; kernel_rfl; exact (hM.sm.sub (fun x hx => by repeat (first | exact hx | refine List.mem_cons_of_mem _ ?_)) (fun _ h => by repeat (first | exact h | refine List.mem_cons_of_mem _ ?_))); exact (fun _ _ _ h => h); clear hF a; intro a hF))
    (first | (refine t_pure (i := 13) hF rfl rfl rfl rfl (by kernel_rfl) (hM.sm.sub (fun x hx => by repeat (first | exact hx | refine List.mem_cons_of_mem _ ?_)) (fun _ h => by repeat (first | exact h | refine List.mem_cons_of_mem _ ?_))) (fun _ _ _ h => h) ?_ ?_; (first | exact trivial | omega | decide); clear hF a; intro a hF))
    (first | (refine t_pure (i := 14) hF rfl rfl rfl rfl (by kernel_rfl) (hM.sm.sub (fun x hx => by repeat (first | exact hx | refine List.mem_cons_of_mem _ ?_)) (fun _ h => by repeat (first | exact h | refine List.mem_cons_of_mem _ ?_))) (fun _ _ _ h => h) ?_ ?_; (first | exact trivial | omega | decide); clear hF a; intro a hF))
    rw [show ((0 : Int)).toNat = 0 from rfl, sadr_z, Int.toNat_natCast, Nat.sub_zero] at hF
    refine t_one (i := 7) hF rfl (by kernel_rfl) rfl ?_
    intro K hK
    (refine x_lit hF hM rfl rfl rfl ?_; clear hF hM a; intro bl w a hM hF)
    refine hK _ _ (fun _ => (hM.sm.sub (fun x hx => by repeat (first | exact hx | refine List.mem_cons_of_mem _ ?_)) (fun _ h => by repeat (first | exact h | refine List.mem_cons_of_mem _ ?_)))) ?_; clear hK
    refine t_one (i := 8) hF rfl (by kernel_rfl) rfl ?_
    intro K hK
    (apply x_app hF hM rfl rfl rfl; (repeat (first | exact List.mem_cons_self | refine List.mem_cons_of_mem _ ?_)); (repeat (first | exact Kth.z | apply Kth.s)); exact rfl; exact rfl; exact rfl; exact rfl; omega; clear hF hM a; intro g cap w a hM hF; dsimp only [List.set] at hM)
    refine hK _ _ (fun _ => (hM.sm.sub (fun x hx => by repeat (first | exact hx | refine List.mem_cons_of_mem _ ?_)) (fun _ h => by repeat (first | exact h | refine List.mem_cons_of_mem _ ?_)))) ?_; clear hK
    refine t_one (i := 15) hF rfl (by kernel_rfl) rfl ?_
    intro K hK
    (have hcl := OffR.cells hM (k := 1) rfl hW rfl; refine e_app (k := 0) (ys := (cur.map (Value.int .u8)).take q) hF hM rfl rfl rfl .z (by rw [List.length_take, List.length_map]; omega) (fun j u hu => hcl j u (by rw [List.getElem?_take] at hu; split at hu; exact hu; cases hu)) (fun u hu => one_map' cur u (List.mem_of_mem_take hu)) (by omega) ⟨by omega, by omega⟩ ?_; clear hcl hM; intro gA cap w hM; dsimp only [List.set] at hM; replace hF := hF.put (d := 30) rfl (.slice (some ⟨gA, 0, none⟩) (tk.length + 1 + q) cap); generalize a.put (some 30) _ = a at *)
    refine hK _ _ (fun _ => (hM.sm.sub (fun x hx => by repeat (first | exact hx | refine List.mem_cons_of_mem _ ?_)) (fun _ h => by repeat (first | exact h | refine List.mem_cons_of_mem _ ?_)))) ?_; clear hK
    (first | (refine t_pure (i := 16) hF rfl rfl rfl rfl (by kernel_rfl) (hM.sm.sub (fun x hx => by repeat (first | exact hx | refine List.mem_cons_of_mem _ ?_)) (fun _ h => by repeat (first | exact h | refine List.mem_cons_of_mem _ ?_))) (fun _ _ _ h => h) ?_ ?_; (first | exact trivial | omega | decide); clear hF a; intro a hF))
    (first | (refine t_pure (i := 17) hF rfl rfl rfl rfl (by kernel_rfl) (hM.sm.sub (fun x hx => by repeat (first | exact hx | refine List.mem_cons_of_mem _ ?_)) (fun _ h => by repeat (first | exact h | refine List.mem_cons_of_mem _ ?_))) (fun _ _ _ h => h) ?_ ?_; (first | exact trivial | omega | decide); clear hF a; intro a hF))
    refine t_one (i := 18) hF rfl (by kernel_rfl) rfl ?_
    intro K hK
    (apply x_store hF hM rfl rfl rfl; (repeat (first | exact Upd.z | apply Upd.s)); exact rfl; exact rfl; exact rfl; clear hF hM a; intro w a hM hF)
    refine hK _ _ (fun h => by cases h) ?_; clear hK
    refine t_done (by kernel_rfl) ?_
    (repeat' (first | (with_reducible refine c_region ?_) | (with_reducible refine s_nil ?_) | (with_reducible refine q_then_n ?_) | ((with_reducible apply s_pure hF); exact rfl; exact rfl; exact rfl; (first | exact trivial | omega | exact ⟨Int.natCast_nonneg _, Int.ofNat_lt.2 (by assumption)⟩ | decide); clear hF a; intro a hF) | ((with_reducible apply s_load hF hM); exact rfl; exact rfl; (repeat (first | exact List.mem_cons_self | refine List.mem_cons_of_mem _ ?_)); exact rfl; exact rfl; clear hF a; intro a hF) | ((with_reducible apply s_store hF hM); exact rfl; exact rfl; exact rfl; exact rfl; (repeat (first | exact Upd.z | apply Upd.s)); exact rfl; exact rfl; exact rfl; clear hM; intro w hM) | (with_reducible refine q_blk_n ?_)))
    rw [Int.toNat_natCast, Int.toNat_natCast] at hM
    have hW2 := OffR.drop hM (k := 1) rfl hW q (by omega)
    refine ⟨m, by omega, tk ++ [(q : Int)] ++ cur.take q, cur.drop q, .slice (some ⟨gA, 0, none⟩) (tk.length + 1 + q) cap, .slice (sadr (some ad) q c 1) (cur.length - q) (c - q), Ew2, ?_, by rw [List.length_drop]; omega, by omega, ?_, ?_, hF.sub (by repeat (first | exact Sub.nil | refine Sub.cons rfl (by first | with_reducible rfl | (refine congrArg (Value.int _) ?_; omega) | exact rfl) ?_)), ?_⟩
    · rw [he]; simp
    · simp only [List.length_append, List.length_cons, List.length_nil, List.length_take, List.length_drop]; omega
    · rw [List.length_drop, List.map_drop]
      rw [Nat.mul_one] at hW2
      exact hW2
    · have hlen3 : (tk ++ [(q : Int)] ++ cur.take q).length = tk.length + 1 + q := by
        simp only [List.length_append, List.length_cons, List.length_nil, List.length_take]; omega
      rw [hlen3, List.map_append, List.map_append, List.map_take]
      exact hM.sub (.cons _ (.refl _)) (.refl _) (fun _ h => h)
  · obtain rfl : cur = [] := List.length_eq_zero_iff.1 (by omega)
    rw [litsB_nil, List.append_nil] at he
    (repeat' (first | (with_reducible refine w_seq ?_) | (with_reducible refine c_region ?_) | (with_reducible refine s_nil ?_) | (with_reducible refine q_then_n ?_) | ((with_reducible apply s_pure hF); exact rfl; exact rfl; exact rfl; (first | exact trivial | omega | exact ⟨Int.natCast_nonneg _, Int.ofNat_lt.2 (by assumption)⟩ | decide); clear hF a; intro a hF) | ((with_reducible apply s_load hF hM); exact rfl; exact rfl; (repeat (first | exact List.mem_cons_self | refine List.mem_cons_of_mem _ ?_)); exact rfl; exact rfl; clear hF a; intro a hF) | (with_reducible refine w_exit ?_) | (with_reducible refine q_then_x ?_) | (with_reducible refine q_blk_x ?_) | ((with_reducible apply c_false2 hF); exact rfl; (first | with_reducible rfl | (refine congrArg Value.bool ?_; focus (simp; done))))))
    (apply f_end Try.results63 hF hM; (repeat (first | exact RL.nil | (apply RL.tmp; exact rfl) | (apply RL.cell; exact rfl; (repeat (first | exact List.mem_cons_self | refine List.mem_cons_of_mem _ ?_)); exact rfl))); refine Both.mk ?_; try dsimp only [resV])
    rw [he]
    exact ⟨tv2, _, Ew2, hW, hM⟩
set_option maxRecDepth 20000 in
theorem match_c (d n : Nat) (hd : d ≤ 4096) (hn : 4 ≤ n ∧ n ≤ 131) : Calls Try.prog 61 ⟨[.pointer (some ⟨eb, 0, none⟩), .int .i64 d, .int .i64 n]⟩ W (Rtn fun _ w' => ∃ tv' wv' Ew', OffR 5 1 wv' 0 [] Ew' ∧
    Mm own w0 (⟨eb, ⟨[tv', wv', x1, x2, x3]⟩, 133⟩ :: bs) (⟨5, 1, tv', (toks ++ litz wt ++ [(124 + n : Int)] ++ puts d).length, (toks ++ litz wt ++ [(124 + n : Int)] ++ puts d).map (Value.int .u8)⟩ :: Ew' :: L) Fs w') := by
  have hll := litz_len wt
  refine f_start Try.func61 rfl Try.ntmps61 rfl rfl ?_; intro a hF
  have hTl : (toks ++ litz wt).length ≤ 2000000000 := by rw [List.length_append]; omega
  (repeat (first | (with_reducible refine w_seq ?_) | (with_reducible refine c_region ?_) | (with_reducible refine s_nil ?_) | ((with_reducible apply s_callM (f := 63) hF); exact rfl; exact rfl; exact rfl; exact rfl; exact rfl; exact (flush_c eb tv wv x1 x2 x3 toks wt m1 hm1 hW hwl htl hM); clear hF hM a; rintro v w a ⟨tv', wv', Ew', hW', hM⟩ hF; generalize toks ++ litz wt = T at *) | (with_reducible refine q_then_n ?_) | ((with_reducible apply s_pure hF); exact rfl; exact rfl; exact rfl; (first | exact trivial | omega | exact ⟨Int.natCast_nonneg _, Int.ofNat_lt.2 (by assumption)⟩ | decide); clear hF a; intro a hF) | ((with_reducible apply s_load hF hM); exact rfl; exact rfl; (repeat (first | exact List.mem_cons_self | refine List.mem_cons_of_mem _ ?_)); exact rfl; exact rfl; clear hF a; intro a hF) | ((with_reducible apply s_lit hF hM); exact rfl; exact rfl; exact rfl; exact rfl; clear hF hM a; intro bl w a hM hF) | ((with_reducible apply s_app hF hM); exact rfl; exact rfl; exact rfl; exact rfl; (repeat (first | exact Kth.z | apply Kth.s)); exact rfl; exact rfl; exact rfl; exact rfl; omega; clear hF hM a; intro g cap w a hM hF; dsimp only [List.set] at hM)))
  have hrow : T.map (Value.int .u8) ++ Value.int .u8 ((128 + (n : Int) - 4) % 256) :: [].append (zerosL [Value.int .u8 0] 0) = (T ++ [(124 + n : Int)]).map (Value.int .u8) := by
    rw [List.map_append, show (128 + (n : Int) - 4) % 256 = 124 + n by omega]
    rfl
  rw [hrow] at hM
  clear hrow
  have hpl := puts_len 2 d (by omega)
  have hP := PutInt_z d _ rfl (by omega) (some ⟨g, 0, none⟩) cap (T ++ [(124 + n : Int)]) (T.length + 1) List.length_append own _ (fun b h => hM.lt b (.inl h)) (hM.rowFact List.mem_cons_self) (by omega)
  (repeat (first | (with_reducible refine s_nil ?_) | ((with_reducible apply s_callO (f := 55) hF); exact rfl; exact rfl; exact rfl; exact rfl; exact rfl; exact (hP); clear hF a; rintro v wn a ⟨a2, c2, rfl, hO⟩ hS hF; replace hM := hM.addRows hS hO; clear hS hO; dsimp only [List.cons_append, List.nil_append] at hM) | ((with_reducible apply s_pure hF); exact rfl; exact rfl; exact rfl; (first | exact trivial | omega | exact ⟨Int.natCast_nonneg _, Int.ofNat_lt.2 (by assumption)⟩ | decide); clear hF a; intro a hF) | ((with_reducible apply s_store hF hM); exact rfl; exact rfl; exact rfl; exact rfl; (repeat (first | exact Upd.z | apply Upd.s)); exact rfl; exact rfl; exact rfl; clear hM; intro w hM)))
  (apply f_end Try.results61 hF hM; (repeat (first | exact RL.nil | (apply RL.tmp; exact rfl) | (apply RL.cell; exact rfl; (repeat (first | exact List.mem_cons_self | refine List.mem_cons_of_mem _ ?_)); exact rfl))); refine Both.mk ?_; try dsimp only [resV])
  refine ⟨.slice a2 (T.length + 1 + (puts d).length) c2, wv', Ew', hW', ?_⟩
  rw [show (T ++ [(124 + n : Int)] ++ puts d).length = T.length + 1 + (puts d).length by simp only [List.length_append, List.length_cons, List.length_nil]]
  exact hM.sub (.refl _) (.cons_cons _ (.cons _ (.refl _))) (fun _ h => h)
end
end Go.Proofs.Ytadfdpkhehdikaa


/- Deferred calls and recover. -/
namespace Go.Proofs.Ytadfdpkhehdikaa
open Go.RowKit Go.Shelf
section
variable {n : Nat} {ds : List Deferred} {l : List (Nat × Value)} {a : Act} {w w' w0 : World} {own : Nat → Prop} {bs : List BoxE} {L : List Ent} {Fs : List (World → Prop)}
variable {os rest : List Oper} {Q : Exit → Act → World → Prop} {K : Act → World → Prop}
variable {d : Nat} {op : Op} {ty : TypeId} {pos : String} {af : Array Edge} {g : Option (Nat × Bool)}
/-- A deferred call of a closure. -/
def defF (f : FuncId) (ca : List Value) : Deferred := { target := .fn (.func f) ⟨ca⟩, args := #[] }
theorem s_defer {f : FuncId} {X : Operand} {ts : Array TypeId} {ca : List Value} (hF : Fr n ds l a) (hg : wantO os l g = some true) (hX : ev l X = some (.func (.func f) #[] ⟨ca⟩))
    (kk : ∀ a, Fr n (defF f ca :: ds) l a → wl ⟨os⟩ Q rest a w) : wl ⟨os⟩ Q (⟨none, .defer ⟨.value X, ⟨[]⟩, ts⟩, ty, pos, af, g⟩ :: rest) a w := by
  refine s_op hF hg fun K hK => ?_
  have hr : (execOp a.eval ⟨none, .defer ⟨.value X, ⟨[]⟩, ts⟩, ty, pos, af, g⟩).run Try.prog w = .ok (.defer (defF f ca)) w := by
    simp [execOp, resolve, hF.eval hX, Deferred.ofValue, Sem.run_bind, Result.andThen, defF]
  unfold Oper.wp
  rw [hr]
  refine hK _ _ (kk _ ⟨hF.size, ?_, hF.get⟩)
  show _ :: a.defers = _
  rw [hF.defs]
theorem f_startD {f : FuncId} {fn : Func} {c : Code} {vs : List Value} {R : Ending → World → Prop} (hf : Try.prog.funcs[f]? = some fn) (hb : fn.body = some c) (hn : fn.ntmps = n) (hl : Nat.ble vs.length n = true) (hs : startO 0 vs = some l)
    (k : ∀ a, Fr n [] l a → Wk none c (bodyPostD Try.prog fn R) a w) : Calls Try.prog f ⟨vs⟩ w R := by
  have := Fr.start (vs := vs) hn hl
  rw [startO_ok hs] at this
  exact calls_of_wp_defers hf hb (k _ this)
/-- One deferred closure is left to run. -/
theorem leave1 {fn : Func} {R : Ending → World → Prop} {fd : FuncId} {ca : List Value} {u : FrameMode} (hdef : a.defers = [defF fd ca]) (hu : u ≠ .run) (he : memB entL fd = true)
    (hD : CallsD Try.prog fd ⟨ca⟩ u w fun e u' w' => (∃ v, e = .returned v) ∧ settle u' = .returning ∧ ∃ rv, (results fn a.tmps).run Try.prog w' = .ok rv w' ∧ R (.returned rv) w') : Leaves Try.prog fn a.tmps R a.defers u w := by
  rw [hdef]
  refine ⟨hu, .func fd, ⟨ca⟩, fd, ⟨ca⟩, rfl, ?_, ?_⟩
  · have := entL_ok (memB_ok he) ⟨ca⟩ w
    simp [defF, invoke, Sem.run_bind, this]
  · intro c cs hc
    obtain ⟨e, u', w', fr, ⟨⟨v, rfl⟩, h2, rv, h3, h4⟩, h5⟩ := hD c cs hc
    refine ⟨_, u', w', fr, ?_, h5⟩
    show Leaves Try.prog fn a.tmps R [] (settle u') w'
    rw [h2]
    exact ⟨rv, h3, h4⟩
theorem CallsD.mono {P : Program} {f : FuncId} {args : Array Value} {u : FrameMode} {w : World} {R R' : Ending → FrameMode → World → Prop} (h : CallsD P f args u w R) (hr : ∀ e u w, R e u w → R' e u w) : CallsD P f args u w R' := by
  intro c cs hc
  obtain ⟨e, u', w', fr, h1, h2⟩ := h c cs hc
  exact ⟨e, u', w', fr, hr _ _ _ h1, h2⟩
/-! recover -/
theorem wl_opsS {QS : Exit → Act → List Frame → World → Prop} {cs : List Frame} {ops : Array Oper} : ∀ {rest : List Oper} {k : Nat} {a : Act} {w : World}, (∀ j, rest[j]? = ops[k + j]?) → wl ops (fun e a w => QS e a cs w) rest a w → wpOpsS Try.prog ops QS (List.range' k rest.length) a cs w
  | [], _, _, _, _, h => h
  | o :: rest, k, a, w, hr, h => by
    have h0 : ops[k]? = some o := by simpa using (hr 0).symm
    have hr' : ∀ j, rest[j]? = ops[k + 1 + j]? := fun j => by have := hr (j + 1); simpa [Nat.add_assoc, Nat.add_comm 1 j] using this
    unfold wl at h
    rw [List.length_cons, List.range'_succ, wpOpsS, h0]
    simp only
    split
    · rename_i hw
      rw [if_pos hw] at h
      unfold Oper.wp at h
      generalize (execOp a.eval o).run Try.prog w = r at h ⊢
      cases r with
      | ok x w' =>
        cases x <;> simp only [Oper.upon] at h ⊢ <;> first
          | exact wl_opsS hr' h
          | exact h.elim
          | (refine Calls.mono h ?_; intro e w' h; cases e <;> first | exact wl_opsS hr' h | exact h)
          | (intro c cs'; obtain ⟨v, w', h1, h2⟩ := h c cs'; exact ⟨v, w', wl_opsS hr' h1, h2⟩)
      | halt x w' => cases x <;> simp only [Oper.upon] at h ⊢ <;> first | exact h | exact h.elim
    · rename_i hw
      rw [if_neg hw] at h
      exact wl_opsS hr' h
/-- A region that begins with recover. -/
theorem c_recover {QS : Exit → Act → List Frame → World → Prop} {cs cs' : List Frame} {v : Value} {id : Nat} {ts : Array TypeId} (hF : Fr n ds l a) (hd : Nat.blt d n = true) (hv : (recoverD cs = some (v, cs')) ∨ (recoverD cs = none ∧ v = .nilIface ∧ cs' = cs))
    (h : ∀ a, Fr n ds ((d, v) :: l) a → wl ⟨⟨some d, .call ⟨.builtin .recover, ⟨[]⟩, ts⟩, ty, pos, af, none⟩ :: rest⟩ (fun e a w => QS e a cs' w) rest a w) :
    (Code.region id ⟨⟨some d, .call ⟨.builtin .recover, ⟨[]⟩, ts⟩, ty, pos, af, none⟩ :: rest⟩ false).wpS Try.prog QS a cs w := by
  refine wpS_region ?_
  have hl : (⟨⟨some d, .call ⟨.builtin .recover, ⟨[]⟩, ts⟩, ty, pos, af, none⟩ :: rest⟩ : Array Oper).size = rest.length + 1 := by simp
  rw [hl, List.range_eq_range', List.range'_succ, wpOpsS]
  simp only [List.getElem?_toArray, List.getElem?_cons_zero, Region.wanted, if_true]
  have hx : (execOp a.eval ⟨some d, .call ⟨.builtin .recover, ⟨[]⟩, ts⟩, ty, pos, af, none⟩).run Try.prog w = .ok .recover w := by
    simp [execOp, resolve, invoke, builtin, Sem.run_bind, Result.andThen]
  rw [hx]
  simp only
  have hk := wl_opsS (k := 1) (QS := QS) (cs := cs') (ops := ⟨⟨some d, .call ⟨.builtin .recover, ⟨[]⟩, ts⟩, ty, pos, af, none⟩ :: rest⟩) (rest := rest) (fun j => by simp [Nat.add_comm 1 j]) (h _ (hF.put hd v))
  rcases hv with hv | ⟨hv, rfl, rfl⟩
  · rw [hv]; exact hk
  · rw [hv]; exact hk
theorem f_startS {f : FuncId} {fn : Func} {c : Code} {vs : List Value} {u : FrameMode} {R : Ending → FrameMode → World → Prop} (hf : Try.prog.funcs[f]? = some fn) (hb : fn.body = some c) (hn : fn.ntmps = n) (hl : Nat.ble vs.length n = true) (hs : startO 0 vs = some l)
    (k : ∀ (c₀ : Frame) (cs : List Frame), c₀.mode = u → ∀ a, Fr n [] l a → c.wpS Try.prog (bodyPostS Try.prog fn c₀ cs R) a (c₀ :: cs) w) : CallsD Try.prog f ⟨vs⟩ u w R := by
  have := Fr.start (vs := vs) hn hl
  rw [startO_ok hs] at this
  exact callsD_of_wpS hf hb fun c₀ cs hc => k c₀ cs hc _ this
end
end Go.Proofs.Ytadfdpkhehdikaa


/- Small laws that the texts of run lengths have too. -/
namespace Go.Proofs.Ytadfdpkhehdikaa
open Go.RowKit Go.Shelf
theorem row_capB {own : Nat → Prop} {w w0 : World} {bs : List BoxE} {L : List Ent} {Fs : List (World → Prop)} (hM : Mm own w0 bs L Fs w) {e : TypeId} {size : Nat} {a : Option Addr} {m c : Nat} {xs : List Value} (h : (⟨e, size, .slice a m c, m, xs⟩ : Ent) ∈ L) : m ≤ c := by
  rcases (hM.mem.own.own _ h).2 with ⟨h1, h2⟩ | ⟨g, cap, cur, h1, _, _, h2, _⟩
  · simp only at h2; omega
  · simp only [Value.slice.injEq] at h1
    have h3 : m ≤ cap := h2
    omega
theorem row_some {own : Nat → Prop} {w w0 : World} {bs : List BoxE} {L : List Ent} {Fs : List (World → Prop)} (hM : Mm own w0 bs L Fs w) {e : TypeId} {size : Nat} {a : Option Addr} {m c : Nat} {xs : List Value} (h : (⟨e, size, .slice a m c, m, xs⟩ : Ent) ∈ L) (h0 : 0 < m) : ∃ g, a = some ⟨g, 0, none⟩ := by
  rcases (hM.mem.own.own _ h).2 with ⟨h1, h2⟩ | ⟨g, cap, cur, h1, _⟩
  · have h3 : m = 0 := h2
    omega
  · simp only [Value.slice.injEq] at h1
    exact ⟨g, h1.1⟩
theorem rdN_nnU : ∀ (f i : Nat) (n : Int) (xs : List Int), 0 ≤ n → (∀ x ∈ xs, 0 ≤ x ∧ x < 256) → 0 ≤ (rdN xs f i n).1 ∧ (rdN xs f i n).1 ≤ 9007199254740991
  | 0, _, _, _, _, _ => by simp [rdN]
  | f + 1, i, n, xs, hn, hx => by
    rw [rdN]
    split
    · simp
    · rename_i b hb
      have hb0 := hx b (List.mem_of_getElem? hb)
      have hp : (0 : Int) ≤ b % 128 * 128 ^ i := Int.mul_nonneg (by omega) (Int.pow_nonneg (by decide))
      split
      · exact rdN_nnU f (i + 1) _ xs (by omega) hx
      · split
        · simp
        · rename_i h
          simp only
          omega
def By (xs : List Int) : Prop := ∀ x ∈ xs, 0 ≤ x ∧ x < 256
theorem By.take {xs : List Int} (h : By xs) (k : Nat) : By (xs.take k) := fun x hx => h x (List.mem_of_mem_take hx)
theorem By.drop {xs : List Int} (h : By xs) (k : Nat) : By (xs.drop k) := fun x hx => h x (List.mem_of_mem_drop hx)
end Go.Proofs.Ytadfdpkhehdikaa


/- bytes.Clone; dictionary.Encode. -/
namespace Go.Proofs.Ytadfdpkhehdikaa
open Go.RowKit Go.Shelf
set_option maxRecDepth 20000 in
theorem bclone_c (a0 : Option Addr) (c0 : Nat) (xs : List Int) (own : Nat → Prop) (W : World) (hl : ∀ b, own b → b < W.heap.size) (hv : Has own W (RdF (Value.int .u8) a0 xs)) (hb : xs.length ≤ 10000000000) :
    Calls Try.prog 58 ⟨[.slice a0 xs.length c0]⟩ W (Ret W fun v w' => ∃ a' c', v = .slice a' xs.length c' ∧ Owns w' W.heap.size [⟨5, 1, .slice a' xs.length c', xs.length, xs.map (Value.int .u8)⟩]) := by
  have hM := (Mm.start hl).known hv
  cases a0 with
  | none =>
    obtain rfl : xs = [] := by
      cases xs with
      | nil => rfl
      | cons x r => obtain ⟨ad, h⟩ := rd_some hM (by (repeat (first | exact List.mem_cons_self | refine List.mem_cons_of_mem _ ?_))) (k := 0) (x := x) rfl; cases h
    refine f_start Try.func58 rfl Try.ntmps58 rfl rfl ?_; intro a hF
    (repeat' (first | (with_reducible refine w_seq ?_) | (with_reducible refine c_region ?_) | (with_reducible refine s_nil ?_) | ((with_reducible apply s_eqn hF); exact rfl; exact rfl; exact rfl; exact rfl; exact rfl; exact rfl; clear hF a; intro a hF) | (with_reducible refine q_then_n ?_) | ((with_reducible apply s_pure hF); exact rfl; exact rfl; exact rfl; (first | exact trivial | omega | exact ⟨Int.natCast_nonneg _, Int.ofNat_lt.2 (by assumption)⟩ | decide); clear hF a; intro a hF) | (with_reducible refine w_ret ?_) | (with_reducible refine q_then_r ?_) | ((with_reducible apply c_true2 hF); exact rfl; (first | with_reducible rfl | (refine congrArg Value.bool ?_; focus (simp; done))))))
    (apply f_ret Try.results58 hF hM; (repeat (first | exact RL.nil | (apply RL.tmp; exact rfl) | (apply RL.cell; exact rfl; (repeat (first | exact List.mem_cons_self | refine List.mem_cons_of_mem _ ?_)); exact rfl))); refine Ret.mk hM.since ?_; dsimp only [resV])
    exact ⟨none, 0, rfl, (Owns.nil _ _).cons _ _⟩
  | some ad =>
    refine f_start Try.func58 rfl Try.ntmps58 rfl rfl ?_; intro a hF
    (repeat' (first | (with_reducible refine w_seq ?_) | (with_reducible refine c_region ?_) | (with_reducible refine s_nil ?_) | ((with_reducible apply s_eqn hF); exact rfl; exact rfl; exact rfl; exact rfl; exact rfl; exact rfl; clear hF a; intro a hF) | ((with_reducible apply s_appF hF hM); exact rfl; exact rfl; (repeat (first | exact List.mem_cons_self | refine List.mem_cons_of_mem _ ?_)); exact rfl; exact rfl; (repeat (first | exact Kth.z | apply Kth.s)); (intro _; exact rfl); exact rfl; omega; clear hF hM a; intro g cap w a hM hF; dsimp only [List.set] at hM) | ((with_reducible apply s_lit0 hF hM); exact rfl; exact rfl; exact rfl; exact rfl; clear hF hM a; intro bl w a hM hF) | (with_reducible refine q_then_n ?_) | ((with_reducible apply s_pure hF); exact rfl; exact rfl; exact rfl; (first | exact trivial | omega | exact ⟨Int.natCast_nonneg _, Int.ofNat_lt.2 (by assumption)⟩ | decide); clear hF a; intro a hF) | (with_reducible refine w_skip ?_) | (with_reducible refine w_ret ?_) | ((with_reducible apply c_false2 hF); exact rfl; (first | with_reducible rfl | (refine congrArg Value.bool ?_; focus (simp; done))))))
    (apply f_ret Try.results58 hF hM; (repeat (first | exact RL.nil | (apply RL.tmp; exact rfl) | (apply RL.cell; exact rfl; (repeat (first | exact List.mem_cons_self | refine List.mem_cons_of_mem _ ?_)); exact rfl))); refine Ret.mk hM.since ?_; dsimp only [resV])
    simp only [Nat.zero_add, List.nil_append] at hM ⊢
    exact ⟨_, _, rfl, hM.mem.own⟩
/-- The tokens from a place on. -/
def encF (all : List Int) : Nat → Nat → List Int → List Int → List Int
  | 0, _, toks, run => toks ++ litz run
  | f + 1, t, toks, run =>
    if t < all.length then
      (if (best all t).2 = 0 then encF all f (t + 1) toks (run ++ [all.getD t 0])
       else encF all f (t + (best all t).2) (toks ++ litz run ++ [(124 + (best all t).2 : Int)] ++ puts (best all t).1) [])
    else toks ++ litz run
theorem encF_fuel (all : List Int) : ∀ (f g t : Nat) (toks run : List Int), all.length ≤ f + t → all.length ≤ g + t → encF all f t toks run = encF all g t toks run
  | 0, 0, _, _, _, _, _ => rfl
  | 0, g + 1, t, _, _, h, _ => by rw [encF, encF, if_neg (by omega)]
  | f + 1, 0, t, _, _, _, h => by rw [encF, encF, if_neg (by omega)]
  | f + 1, g + 1, t, toks, run, h1, h2 => by
    rw [encF, encF]
    by_cases ht : t < all.length
    · rw [if_pos ht, if_pos ht]
      by_cases h0 : (best all t).2 = 0
      · rw [if_pos h0, if_pos h0]
        exact encF_fuel all f g _ _ _ (by omega) (by omega)
      · rw [if_neg h0, if_neg h0]
        exact encF_fuel all f g _ _ _ (by omega) (by omega)
    · rw [if_neg ht, if_neg ht]
def encD (dict b : List Int) : List Int := encF (dict ++ b) b.length dict.length [] []
theorem bestTo_four (all : List Int) (t : Nat) : ∀ D, (bestTo all t D).2 ≠ 0 → 4 ≤ (bestTo all t D).2 ∧ 1 ≤ (bestTo all t D).1 ∧ (bestTo all t D).1 ≤ D
  | 0, h => by simp [bestTo] at h
  | D + 1, h => by
    rw [bestTo, bstep] at h ⊢
    split
    · rename_i h1; exact ⟨h1.1, by simp, by simp⟩
    · rename_i h1
      rw [if_neg h1] at h
      have := bestTo_four all t D h
      omega
theorem bestTo_eq (all : List Int) (t : Nat) : ∀ D, (bestTo all t D).2 ≠ 0 → (bestTo all t D).2 = mlen all (t - (bestTo all t D).1) t
  | 0, h => by simp [bestTo] at h
  | D + 1, h => by
    rw [bestTo, bstep] at h ⊢
    split
    · rfl
    · rename_i h1
      rw [if_neg h1] at h
      exact bestTo_eq all t D h
theorem best_ok {all : List Int} {t : Nat} (h : (best all t).2 ≠ 0) : 4 ≤ (best all t).2 ∧ (best all t).2 ≤ 131 ∧ 1 ≤ (best all t).1 ∧ (best all t).1 ≤ 4096 ∧ (best all t).1 ≤ t ∧ t + (best all t).2 ≤ all.length ∧ (best all t).2 = mlen all (t - (best all t).1) t := by
  have h1 := bestTo_four all t _ h
  have h2 := bestTo_eq all t _ h
  have h3 := bestTo_le all t (min 4096 t)
  have h4 : t + (best all t).2 ≤ all.length := by
    have h5 := (mlen_ge (all := all) (p := t - (best all t).1) (t := t) (k := (best all t).2) h3).1 (Nat.le_of_eq h2) ((best all t).2 - 1) (by have := h1.1; unfold best; omega)
    have := h1.1
    unfold best at h5 ⊢
    omega
  exact ⟨h1.1, h3, h1.2.1, by have := h1.2.2; unfold best; omega, by have := h1.2.2; unfold best; omega, h4, h2⟩
theorem pl_sv {own : Nat → Prop} {w w0 : World} {bs : List BoxE} {L1 : List Ent} {Fs : List (World → Prop)} {E : Pl} (hM : Mm own w0 bs (L1 ++ rowsE E) Fs w) (k : List Int) : ∃ ao cp, (kadd k (.slice none 0 0) (esOf E)).2.2 = .slice ao (lookP k E).length cp ∧ Has own w (RdF nE ao (lookP k E)) := by
  unfold kadd
  cases h : kfind k (esOf E) 0 with
  | some j =>
    obtain ⟨_, sv, h2⟩ := lookP_get h
    rw [Nat.sub_zero] at h2
    have hmem : (⟨3, 1, sv, (lookP k E).length, (lookP k E).map nE⟩ : Ent) ∈ L1 ++ rowsE E := List.mem_append_right _ (List.mem_iff_getElem?.2 ⟨j, by rw [rowsE_get, h2]; rfl⟩)
    obtain ⟨ao, cp, rfl, _, _⟩ := hM.row hmem
    exact ⟨ao, cp, by simp [esOf_get, h2], hM.rowFact hmem⟩
  | none => exact ⟨none, 0, by rw [lookP_none h]; rfl, by rw [lookP_none h]; exact RdF.nil⟩
section
variable (dict y : List Int) (hlen : dict.length ≤ 10000 ∧ y.length ≤ 10000) (a1 a2 : Option Addr) (c1 c2 : Nat) (own : Nat → Prop) (W : World) (hl : ∀ b, own b → b < W.heap.size) (hv1 : Has own W (RdF (Value.int .u8) a1 dict)) (hv2 : Has own W (RdF (Value.int .u8) a2 y))
include hlen hl hv1 hv2
set_option maxRecDepth 20000 in
theorem EncodeD_c : Calls Try.prog 21 ⟨[.slice a1 dict.length c1, .slice a2 y.length c2]⟩ W (Ret W fun v w' => ∃ a' c', v = .slice a' (encD dict y).length c' ∧ Owns w' W.heap.size [⟨5, 1, .slice a' (encD dict y).length c', (encD dict y).length, (encD dict y).map (Value.int .u8)⟩]) := by
  obtain ⟨hd, hy⟩ := hlen
  have hM := ((Mm.start hl).known hv1).known hv2
  refine f_start Try.func21 rfl Try.ntmps21 rfl rfl ?_; intro a hF
  (repeat (first | (with_reducible refine w_seq ?_) | (with_reducible refine c_region ?_) | (with_reducible refine s_nil ?_) | ((with_reducible apply s_callO (f := 58) hF); exact rfl; exact rfl; exact rfl; exact rfl; exact rfl; exact (bclone_c a1 c1 dict _ _ hM.lt (hM.facts _ (by (repeat (first | exact List.mem_cons_self | refine List.mem_cons_of_mem _ ?_)))) (by omega)); clear hF a; rintro v wn a ⟨a3, c3, rfl, hO⟩ hS hF; replace hM := hM.addRows hS hO; clear hS hO; dsimp only [List.cons_append, List.nil_append] at hM) | ((with_reducible apply s_appF hF hM); exact rfl; exact rfl; (repeat (first | exact List.mem_cons_self | refine List.mem_cons_of_mem _ ?_)); exact rfl; exact rfl; (repeat (first | exact Kth.z | apply Kth.s)); (intro _; exact rfl); exact rfl; omega; clear hF hM a; intro g cap w a hM hF; dsimp only [List.set] at hM) | (with_reducible refine q_then_n ?_) | ((with_reducible apply s_pure hF); exact rfl; exact rfl; exact rfl; (first | exact trivial | omega | exact ⟨Int.natCast_nonneg _, Int.ofNat_lt.2 (by assumption)⟩ | decide); clear hF a; intro a hF)))
  obtain ⟨all, hall⟩ : ∃ all, all = dict ++ y := ⟨_, rfl⟩
  have hal : all.length = dict.length + y.length := by rw [hall, List.length_append]
  rw [← List.map_append, ← hall] at hM
  rw [← hal] at hM hF
  have hcap := row_capB hM List.mem_cons_self
  replace hM := hM.freezeRow
  have hlen : all.length ≤ 1000000 := by omega
  apply s_makeMapE (ek := kA) hF hM
  · exact rfl
  · exact rfl
  clear hF hM a
  intro mb w a hmb hM hF
  (repeat (first | (with_reducible refine w_seq ?_) | (with_reducible refine c_region ?_) | (with_reducible refine s_nil ?_) | (with_reducible refine q_then_n ?_) | ((with_reducible apply s_pure hF); exact rfl; exact rfl; exact rfl; (first | exact trivial | omega | exact ⟨Int.natCast_nonneg _, Int.ofNat_lt.2 (by assumption)⟩ | decide); clear hF a; intro a hF) | ((with_reducible apply s_box hF hM); exact rfl; exact rfl; exact rfl; exact rfl; clear hF hM a; intro b w a hM hF) | (with_reducible refine w_block ?_)))
  generalize b = eb at *
  have hcf : ∀ f ∈ ([] : List (World → Prop)), Cf f := by simp
  refine c_loop (m := dict.length) (fun m a w' => ∃ (i : Nat) (E : Pl), m + i = dict.length ∧ PlOk E ∧ (∀ k, lookP k E = plc all i k) ∧
    Fr 90 [] [(20, .int .i64 i), (19, .int .i64 dict.length), (5, .pointer (some ⟨eb, 0, none⟩))] a ∧
    Mm own W [⟨eb, ⟨[.slice none 0 0, .slice none 0 0, .slice g all.length cap, .int .i64 dict.length, .map (some mb)]⟩, 133⟩] (⟨5, 1, .slice none 0 0, 0, []⟩ :: ⟨5, 1, .slice none 0 0, 0, []⟩ :: rowsE E) [MpE kA mb (esOf E), RdF (Value.int .u8) g all] w')
    ⟨0, [], by omega, by simp [PlOk], fun k => by simp [lookP, plc], hF.sub (by repeat (first | exact Sub.nil | refine Sub.cons rfl (by first | with_reducible rfl | (refine congrArg (Value.int _) ?_; omega) | exact rfl) ?_)), ((hM.nilRow 5 1).nilRow 5 1).sub (.refl _) (.refl _) (by intro f hf; simp only [List.mem_cons, List.not_mem_nil, or_false] at hf; (repeat (rcases hf with rfl | hf; · (repeat (first | exact List.mem_cons_self | refine List.mem_cons_of_mem _ ?_)))); first | (subst hf; (repeat (first | exact List.mem_cons_self | refine List.mem_cons_of_mem _ ?_)); done) | (repeat (first | exact hf | refine List.mem_cons_of_mem _ ?_)))⟩ ?_
  clear hF hM a
  rintro m a w' ⟨i, E, hm, hE, hlk, hF, hM⟩
  by_cases hi : i < dict.length
  · (repeat' (first | (with_reducible refine w_seq ?_) | (with_reducible refine c_region ?_) | (with_reducible refine s_nil ?_) | ((with_reducible apply s_callM (f := 59) hF); exact rfl; exact rfl; exact rfl; exact rfl; exact rfl; exact (note_c (L1 := [_, _]) all hlen g cap hcap eb _ mb _ _ hE (fun k => Nat.le_trans (Nat.le_of_eq (congrArg _ (hlk k))) (Nat.le_trans (plc_len _ _ _) (by omega))) hmb hcf hM i _ rfl (by omega)); clear hF hM a; rintro v w a ⟨E', hE', hlk', hM⟩ hF; dsimp only [List.cons_append, List.nil_append] at hM) | (with_reducible refine q_then_n ?_) | ((with_reducible apply s_pure hF); exact rfl; exact rfl; exact rfl; (first | exact trivial | omega | exact ⟨Int.natCast_nonneg _, Int.ofNat_lt.2 (by assumption)⟩ | decide); clear hF a; intro a hF) | (with_reducible refine w_skip ?_) | (with_reducible refine w_block ?_) | (with_reducible refine q_blk_n ?_) | ((with_reducible apply c_dec hF); exact rfl; all_goals intro hc; all_goals (try (exfalso; omega)))))
    exact ⟨m - 1, by omega, i + 1, E', by omega, hE', fun k => by rw [hlk', hlk, plc_succ], hF.sub (by repeat (first | exact Sub.nil | refine Sub.cons rfl (by first | with_reducible rfl | (refine congrArg (Value.int _) ?_; omega) | exact rfl) ?_)), hM⟩
  · obtain rfl : i = dict.length := by omega
    (repeat' (first | (with_reducible refine w_seq ?_) | (with_reducible refine c_region ?_) | (with_reducible refine s_nil ?_) | (with_reducible refine q_then_n ?_) | ((with_reducible apply s_pure hF); exact rfl; exact rfl; exact rfl; (first | exact trivial | omega | exact ⟨Int.natCast_nonneg _, Int.ofNat_lt.2 (by assumption)⟩ | decide); clear hF a; intro a hF) | (with_reducible refine w_block ?_) | (with_reducible refine w_exit ?_) | (with_reducible refine q_then_x ?_) | (with_reducible refine q_blk_x ?_) | ((with_reducible apply c_false2 hF); exact rfl; (first | with_reducible rfl | (refine congrArg Value.bool ?_; focus (simp; done))))))
    refine c_loop (m := y.length) (fun f a w' => ∃ (t : Nat) (toks run : List Int) (tv wv : Value) (Ew : Ent) (E : Pl), f + t = all.length ∧ dict.length ≤ t ∧ encD dict y = encF all f t toks run ∧ toks.length + 2 * run.length ≤ 4 * t ∧ run.length ≤ t ∧ PlOk E ∧ (∀ k, lookP k E = plc all t k) ∧
      OffR 5 1 wv run.length (run.map (Value.int .u8)) Ew ∧
      Fr 90 [] [(5, .pointer (some ⟨eb, 0, none⟩))] a ∧
      Mm own W [⟨eb, ⟨[tv, wv, .slice g all.length cap, .int .i64 t, .map (some mb)]⟩, 133⟩] (⟨5, 1, tv, toks.length, toks.map (Value.int .u8)⟩ :: Ew :: rowsE E) [MpE kA mb (esOf E), RdF (Value.int .u8) g all] w')
      ⟨dict.length, [], [], .slice none 0 0, .slice none 0 0, ⟨5, 1, .slice none 0 0, 0, []⟩, E, by omega, by omega, by rw [hall]; rfl, by simp, by simp, hE, hlk, OffR.nil, hF.sub (by repeat (first | exact Sub.nil | refine Sub.cons rfl (by first | with_reducible rfl | (refine congrArg (Value.int _) ?_; omega) | exact rfl) ?_)), hM⟩ ?_
    clear hF hM a hE hlk E
    rintro f a w' ⟨t, toks, run, tv, wv, Ew, E, hft, hdt, henc, hbd, hrt, hE, hlk, hW, hF, hM⟩
    by_cases ht : t < all.length
    · obtain ⟨f, rfl⟩ : ∃ k, f = k + 1 := ⟨f - 1, by omega⟩
      rw [encF, if_pos ht] at henc
      with_reducible refine w_seq ?_
      with_reducible refine w_seq ?_
      refine c_draw (fun i => Nat.ble 10 i) hM ?_; clear hM; intro w hM
      (first | (refine t_pure (i := 0) hF rfl rfl rfl rfl (by kernel_rfl) hM.sm (fun _ _ _ h => h) ?_ ?_; (first | exact trivial | omega | decide); clear hF a; intro a hF))
      (first | (refine t_pure (i := 1) hF rfl rfl rfl rfl (by kernel_rfl) hM.sm (fun _ _ _ h => h) ?_ ?_; (first | exact trivial | omega | decide); clear hF a; intro a hF))
      (first | (refine t_pure (i := 2) hF rfl rfl rfl rfl (by kernel_rfl) hM.sm (fun _ _ _ h => h) ?_ ?_; (first | exact trivial | omega | decide); clear hF a; intro a hF))
      (first | (apply t_load (i := 3) hF rfl rfl rfl; (repeat (first | exact List.mem_cons_self | refine List.mem_cons_of_mem _ ?_)); exact rfl; exact rfl; kernel_rfl; exact hM.sm; exact (fun _ _ _ h => h); clear hF a; intro a hF))
      (first | (refine t_pure (i := 4) hF rfl rfl rfl rfl (by kernel_rfl) hM.sm (fun _ _ _ h => h) ?_ ?_; (first | exact trivial | omega | decide); clear hF a; intro a hF))
      (first | (refine t_pure (i := 5) hF rfl rfl rfl rfl (by kernel_rfl) hM.sm (fun _ _ _ h => h) ?_ ?_; (first | exact trivial | omega | decide); clear hF a; intro a hF))
      (first | (refine t_pure (i := 6) hF rfl rfl rfl rfl (by kernel_rfl) hM.sm (fun _ _ _ h => h) ?_ ?_; (first | exact trivial | omega | decide); clear hF a; intro a hF))
      (first | (apply t_load (i := 7) hF rfl rfl rfl; (repeat (first | exact List.mem_cons_self | refine List.mem_cons_of_mem _ ?_)); exact rfl; exact rfl; kernel_rfl; exact hM.sm; exact (fun _ _ _ h => h); clear hF a; intro a hF))
      (first | (refine t_pure (i := 8) hF rfl rfl rfl rfl (by kernel_rfl) hM.sm (fun _ _ _ h => h) ?_ ?_; (first | exact trivial | omega | decide); clear hF a; intro a hF))
      (first | (refine t_pure (i := 9) hF rfl rfl rfl rfl (by kernel_rfl) hM.sm (fun _ _ _ h => h) ?_ ?_; (first | exact trivial | omega | decide); clear hF a; intro a hF))
      rw [show decide ((t : Int) < (all.length : Int)) = true from decide_eq_true (by omega)] at hF
      refine t_done (by kernel_rfl) ?_
      obtain ⟨ao, cp, hsv, hrp⟩ := pl_sv (L1 := [_, _]) hM (keyV all t)
      rw [hlk] at hsv hrp
      (repeat (first | (with_reducible refine w_seq ?_) | (with_reducible refine c_region ?_) | (with_reducible refine s_nil ?_) | ((with_reducible apply s_call (f := 60) hF hM); exact rfl; exact rfl; exact rfl; exact rfl; exact rfl; exact (best_c all hlen g cap hcap eb t mb tv wv own _ (fun b h => hM.lt b (.inl h)) (hM.boxFact (by (repeat (first | exact List.mem_cons_self | refine List.mem_cons_of_mem _ ?_)))) (hM.factOut (by (repeat (first | exact List.mem_cons_self | refine List.mem_cons_of_mem _ ?_)))) E hE (hM.factOut (by (repeat (first | exact List.mem_cons_self | refine List.mem_cons_of_mem _ ?_)))) _ rfl ao cp hsv hrp (by omega)); clear hF hM a; rintro v w a rfl - hM hF) | (with_reducible refine q_then_n ?_) | ((with_reducible apply s_pure hF); exact rfl; exact rfl; exact rfl; (first | exact trivial | omega | exact ⟨Int.natCast_nonneg _, Int.ofNat_lt.2 (by assumption)⟩ | decide); clear hF a; intro a hF) | (with_reducible refine w_skip ?_) | (with_reducible refine w_block ?_) | ((with_reducible apply c_true2 hF); exact rfl; (first | with_reducible rfl | (refine congrArg Value.bool ?_; focus (simp; done))))))
      by_cases h0 : (best all t).2 = 0
      · rw [if_pos h0] at henc
        rw [show decide (0 < ((best all t).2 : Int)) = false from decide_eq_false (by omega)] at hF
        obtain ⟨x, hx⟩ := get_of_lt ht
        have hgx : all.getD t 0 = x := by rw [List.getD_eq_getElem?_getD, hx]; rfl
        obtain ⟨ad, rfl⟩ : ∃ ad, g = some ad := rd_some hM (by (repeat (first | exact List.mem_cons_self | refine List.mem_cons_of_mem _ ?_))) hx
        rw [hgx] at henc
        (repeat (first | (with_reducible refine w_seq ?_) | (with_reducible refine c_region ?_) | (with_reducible refine s_nil ?_) | (with_reducible refine q_then_n ?_) | ((with_reducible apply s_pure hF); exact rfl; exact rfl; exact rfl; (first | exact trivial | omega | exact ⟨Int.natCast_nonneg _, Int.ofNat_lt.2 (by assumption)⟩ | decide); clear hF a; intro a hF) | ((with_reducible apply c_false2 hF); exact rfl; (first | with_reducible rfl | (refine congrArg Value.bool ?_; focus (simp; done))))))
        refine c_draw (fun i => Nat.ble 13 i) hM ?_; clear hM; intro w hM
        (first | (refine t_pure (i := 0) hF rfl rfl rfl rfl (by kernel_rfl) hM.sm (fun _ _ _ h => h) ?_ ?_; (first | exact trivial | omega | decide); clear hF a; intro a hF))
        (first | (refine t_pure (i := 1) hF rfl rfl rfl rfl (by kernel_rfl) hM.sm (fun _ _ _ h => h) ?_ ?_; (first | exact trivial | omega | decide); clear hF a; intro a hF))
        (first | (refine t_pure (i := 2) hF rfl rfl rfl rfl (by kernel_rfl) hM.sm (fun _ _ _ h => h) ?_ ?_; (first | exact trivial | omega | decide); clear hF a; intro a hF))
        (first | (refine t_pure (i := 3) hF rfl rfl rfl rfl (by kernel_rfl) hM.sm (fun _ _ _ h => h) ?_ ?_; (first | exact trivial | omega | decide); clear hF a; intro a hF))
        (first | (refine t_pure (i := 4) hF rfl rfl rfl rfl (by kernel_rfl) hM.sm (fun _ _ _ h => h) ?_ ?_; (first | exact trivial | omega | decide); clear hF a; intro a hF))
        (first | (refine t_pure (i := 5) hF rfl rfl rfl rfl (by kernel_rfl) hM.sm (fun _ _ _ h => h) ?_ ?_; (first | exact trivial | omega | decide); clear hF a; intro a hF))
        (first | (apply t_load (i := 6) hF rfl rfl rfl; (repeat (first | exact List.mem_cons_self | refine List.mem_cons_of_mem _ ?_)); exact rfl; exact rfl; kernel_rfl; exact hM.sm; exact (fun _ _ _ h => h); clear hF a; intro a hF))
        (first | (refine t_pure (i := 7) hF rfl rfl rfl rfl (by kernel_rfl) hM.sm (fun _ _ _ h => h) ?_ ?_; (first | exact trivial | omega | decide); clear hF a; intro a hF))
        (first | (refine t_pure (i := 8) hF rfl rfl rfl rfl (by kernel_rfl) hM.sm (fun _ _ _ h => h) ?_ ?_; (first | exact trivial | omega | decide); clear hF a; intro a hF))
        (first | (refine t_pure (i := 9) hF rfl rfl rfl rfl (by kernel_rfl) hM.sm (fun _ _ _ h => h) ?_ ?_; (first | exact trivial | omega | decide); clear hF a; intro a hF))
        (first | (apply t_load (i := 10) hF rfl rfl rfl; (repeat (first | exact List.mem_cons_self | refine List.mem_cons_of_mem _ ?_)); exact rfl; exact rfl; kernel_rfl; exact hM.sm; exact (fun _ _ _ h => h); clear hF a; intro a hF))
        (first | (refine t_pure (i := 11) hF rfl rfl rfl rfl (by kernel_rfl) hM.sm (fun _ _ _ h => h) ?_ ?_; (first | exact trivial | omega | decide); clear hF a; intro a hF))
        (first | (apply t_loadF (i := 12) hF rfl rfl rfl; (repeat (first | exact List.mem_cons_self | refine List.mem_cons_of_mem _ ?_)); (first | with_reducible assumption | (simp only [Int.toNat_natCast]; with_reducible assumption)); exact rfl; exact rfl; kernel_rfl; exact hM.sm; exact (fun _ _ _ h => h); clear hF a; intro a hF))
        refine t_one (i := 13) hF rfl (by kernel_rfl) rfl ?_
        intro K hK
        (refine x_callM (f := 62) hF rfl rfl rfl rfl (literal_c eb tv wv _ _ _ toks run _ rfl hW (by omega) (by omega) hM x) ?_; clear hF hM a; rintro v w a ⟨wv', Ew', hW', hM⟩ hF)
        refine hK _ _ (fun h => by cases h) ?_; clear hK
        refine t_done (by kernel_rfl) ?_
        (repeat (first | (with_reducible refine w_seq ?_) | (with_reducible refine c_region ?_) | (with_reducible refine s_nil ?_) | (with_reducible refine q_then_n ?_) | ((with_reducible apply s_pure hF); exact rfl; exact rfl; exact rfl; (first | exact trivial | omega | exact ⟨Int.natCast_nonneg _, Int.ofNat_lt.2 (by assumption)⟩ | decide); clear hF a; intro a hF) | (with_reducible refine w_block ?_)))
        rw [show (1 : Int) = ((1 : Nat) : Int) from rfl] at hF
        have hfin : encD dict y = encF all (all.length - (t + 1)) (t + 1) toks (run ++ [x]) := by rw [henc]; exact encF_fuel _ _ _ _ _ _ (by omega) (by omega)
        refine c_loop (m := 1) (fun m a w' => ∃ (j : Nat) (E2 : Pl), m + j = 1 ∧ PlOk E2 ∧ (∀ k, lookP k E2 = plc all (t + j) k) ∧
          Fr 90 [] [(65, .int .i64 j), (64, .int .i64 (1 : Nat)), (5, .pointer (some ⟨eb, 0, none⟩))] a ∧
          Mm own W [⟨eb, ⟨[tv, wv', .slice (some ad) all.length cap, .int .i64 (t + j : Nat), .map (some mb)]⟩, 133⟩] (⟨5, 1, tv, (toks).length, (toks).map (Value.int .u8)⟩ :: Ew' :: rowsE E2) [MpE kA mb (esOf E2), RdF (Value.int .u8) (some ad) all] w')
          ⟨0, E, by omega, hE, hlk, hF.sub (by repeat (first | exact Sub.nil | refine Sub.cons rfl (by first | with_reducible rfl | (refine congrArg (Value.int _) ?_; omega) | exact rfl) ?_)), hM⟩ ?_
        clear hF hM a hE hlk hsv hrp E
        rintro m a w' ⟨j, E, hm, hE, hlk, hF, hM⟩
        by_cases hj : j < 1
        · (repeat' (first | (with_reducible refine w_seq ?_) | (with_reducible refine c_region ?_) | (with_reducible refine s_nil ?_) | ((with_reducible apply s_callM (f := 59) hF); exact rfl; exact rfl; exact rfl; exact rfl; exact rfl; exact (note_c (L1 := [_, _]) all hlen (some ad) cap hcap eb _ mb _ _ hE (fun k => Nat.le_trans (Nat.le_of_eq (congrArg _ (hlk k))) (Nat.le_trans (plc_len _ _ _) (by omega))) hmb hcf hM (t + j) _ rfl (by omega)); clear hF hM a; rintro v w a ⟨E', hE', hlk', hM⟩ hF; dsimp only [List.cons_append, List.nil_append] at hM) | (with_reducible refine q_then_n ?_) | ((with_reducible apply s_pure hF); exact rfl; exact rfl; exact rfl; (first | exact trivial | omega | exact ⟨Int.natCast_nonneg _, Int.ofNat_lt.2 (by assumption)⟩ | decide); clear hF a; intro a hF) | ((with_reducible apply s_load hF hM); exact rfl; exact rfl; (repeat (first | exact List.mem_cons_self | refine List.mem_cons_of_mem _ ?_)); exact rfl; exact rfl; clear hF a; intro a hF) | ((with_reducible apply s_store hF hM); exact rfl; exact rfl; exact rfl; exact rfl; (repeat (first | exact Upd.z | apply Upd.s)); exact rfl; exact rfl; exact rfl; clear hM; intro w hM) | (with_reducible refine w_skip ?_) | (with_reducible refine w_block ?_) | (with_reducible refine q_blk_n ?_) | ((with_reducible apply c_dec hF); exact rfl; all_goals intro hc; all_goals (try (exfalso; omega)))))
          rw [show (((t + j : Nat) : Int) + 1) = ((t + (j + 1) : Nat) : Int) by omega] at hM
          exact ⟨m - 1, by omega, j + 1, E', by omega, hE', fun k => by rw [hlk', hlk, show t + (j + 1) = t + j + 1 by omega, plc_succ], hF.sub (by repeat (first | exact Sub.nil | refine Sub.cons rfl (by first | with_reducible rfl | (refine congrArg (Value.int _) ?_; omega) | exact rfl) ?_)), hM⟩
        · have hje : 1 = j := by omega
          subst hje
          (repeat' (first | (with_reducible refine w_seq ?_) | (with_reducible refine c_region ?_) | (with_reducible refine s_nil ?_) | (with_reducible refine q_then_n ?_) | ((with_reducible apply s_pure hF); exact rfl; exact rfl; exact rfl; (first | exact trivial | omega | exact ⟨Int.natCast_nonneg _, Int.ofNat_lt.2 (by assumption)⟩ | decide); clear hF a; intro a hF) | (with_reducible refine w_exit ?_) | (with_reducible refine q_then_x ?_) | (with_reducible refine q_blk_n ?_) | (with_reducible refine q_blk_x ?_) | ((with_reducible apply c_false2 hF); exact rfl; (first | with_reducible rfl | (refine congrArg Value.bool ?_; focus (simp; done))))))
          refine ⟨all.length - (t + 1), by omega, t + 1, toks, run ++ [x], tv, wv', Ew', E, by omega, by omega, hfin, ?_, ?_, hE, hlk, ?_, hF.sub (by repeat (first | exact Sub.nil | refine Sub.cons rfl (by first | with_reducible rfl | (refine congrArg (Value.int _) ?_; omega) | exact rfl) ?_)), hM⟩
          · rw [List.length_append, List.length_singleton]; omega
          · rw [List.length_append, List.length_singleton]; omega
          · rw [List.length_append, List.length_singleton]; exact hW'
      · rw [if_neg h0] at henc
        rw [show decide (0 < ((best all t).2 : Int)) = true from decide_eq_true (by omega)] at hF
        obtain ⟨hn4, hn131, hd1, hd2, hd3, htn, _⟩ := best_ok h0
        generalize (best all t).2 = n at *
        generalize (best all t).1 = d at *
        have hll := litz_len run
        have hpl := puts_len 2 d (by omega)
        (repeat (first | (with_reducible refine w_seq ?_) | (with_reducible refine c_region ?_) | (with_reducible refine s_nil ?_) | ((with_reducible apply s_callM (f := 61) hF); exact rfl; exact rfl; exact rfl; exact rfl; exact rfl; exact (match_c eb tv wv _ _ _ toks run _ rfl hW (by omega) (by omega) hM d n hd2 ⟨hn4, hn131⟩); clear hF hM a; rintro v w a ⟨tv', wv', Ew', hW', hM⟩ hF) | (with_reducible refine q_then_n ?_) | ((with_reducible apply s_pure hF); exact rfl; exact rfl; exact rfl; (first | exact trivial | omega | exact ⟨Int.natCast_nonneg _, Int.ofNat_lt.2 (by assumption)⟩ | decide); clear hF a; intro a hF) | (with_reducible refine w_block ?_) | ((with_reducible apply c_true2 hF); exact rfl; (first | with_reducible rfl | (refine congrArg Value.bool ?_; focus (simp; done))))))
        have hfin : encD dict y = encF all (all.length - (t + n)) (t + n) (toks ++ litz run ++ [(124 + n : Int)] ++ puts d) [] := by rw [henc]; exact encF_fuel _ _ _ _ _ _ (by omega) (by omega)
        have hTl : (toks ++ litz run ++ [(124 + n : Int)] ++ puts d).length ≤ 4 * (t + n) := by
          simp only [List.length_append, List.length_singleton]; omega
        generalize toks ++ litz run ++ [(124 + n : Int)] ++ puts d = T at *
        refine c_loop (m := n) (fun m a w' => ∃ (j : Nat) (E2 : Pl), m + j = n ∧ PlOk E2 ∧ (∀ k, lookP k E2 = plc all (t + j) k) ∧
          Fr 90 [] [(65, .int .i64 j), (64, .int .i64 (n : Nat)), (5, .pointer (some ⟨eb, 0, none⟩))] a ∧
          Mm own W [⟨eb, ⟨[tv', wv', .slice g all.length cap, .int .i64 (t + j : Nat), .map (some mb)]⟩, 133⟩] (⟨5, 1, tv', (T).length, (T).map (Value.int .u8)⟩ :: Ew' :: rowsE E2) [MpE kA mb (esOf E2), RdF (Value.int .u8) g all] w')
          ⟨0, E, by omega, hE, hlk, hF.sub (by repeat (first | exact Sub.nil | refine Sub.cons rfl (by first | with_reducible rfl | (refine congrArg (Value.int _) ?_; omega) | exact rfl) ?_)), hM⟩ ?_
        clear hF hM a hE hlk hsv hrp E
        rintro m a w' ⟨j, E, hm, hE, hlk, hF, hM⟩
        by_cases hj : j < n
        · (repeat' (first | (with_reducible refine w_seq ?_) | (with_reducible refine c_region ?_) | (with_reducible refine s_nil ?_) | ((with_reducible apply s_callM (f := 59) hF); exact rfl; exact rfl; exact rfl; exact rfl; exact rfl; exact (note_c (L1 := [_, _]) all hlen g cap hcap eb _ mb _ _ hE (fun k => Nat.le_trans (Nat.le_of_eq (congrArg _ (hlk k))) (Nat.le_trans (plc_len _ _ _) (by omega))) hmb hcf hM (t + j) _ rfl (by omega)); clear hF hM a; rintro v w a ⟨E', hE', hlk', hM⟩ hF; dsimp only [List.cons_append, List.nil_append] at hM) | (with_reducible refine q_then_n ?_) | ((with_reducible apply s_pure hF); exact rfl; exact rfl; exact rfl; (first | exact trivial | omega | exact ⟨Int.natCast_nonneg _, Int.ofNat_lt.2 (by assumption)⟩ | decide); clear hF a; intro a hF) | ((with_reducible apply s_load hF hM); exact rfl; exact rfl; (repeat (first | exact List.mem_cons_self | refine List.mem_cons_of_mem _ ?_)); exact rfl; exact rfl; clear hF a; intro a hF) | ((with_reducible apply s_store hF hM); exact rfl; exact rfl; exact rfl; exact rfl; (repeat (first | exact Upd.z | apply Upd.s)); exact rfl; exact rfl; exact rfl; clear hM; intro w hM) | (with_reducible refine w_skip ?_) | (with_reducible refine w_block ?_) | (with_reducible refine q_blk_n ?_) | ((with_reducible apply c_dec hF); exact rfl; all_goals intro hc; all_goals (try (exfalso; omega)))))
          rw [show (((t + j : Nat) : Int) + 1) = ((t + (j + 1) : Nat) : Int) by omega] at hM
          exact ⟨m - 1, by omega, j + 1, E', by omega, hE', fun k => by rw [hlk', hlk, show t + (j + 1) = t + j + 1 by omega, plc_succ], hF.sub (by repeat (first | exact Sub.nil | refine Sub.cons rfl (by first | with_reducible rfl | (refine congrArg (Value.int _) ?_; omega) | exact rfl) ?_)), hM⟩
        · have hje : n = j := by omega
          subst hje
          (repeat' (first | (with_reducible refine w_seq ?_) | (with_reducible refine c_region ?_) | (with_reducible refine s_nil ?_) | (with_reducible refine q_then_n ?_) | ((with_reducible apply s_pure hF); exact rfl; exact rfl; exact rfl; (first | exact trivial | omega | exact ⟨Int.natCast_nonneg _, Int.ofNat_lt.2 (by assumption)⟩ | decide); clear hF a; intro a hF) | (with_reducible refine w_exit ?_) | (with_reducible refine q_then_x ?_) | (with_reducible refine q_blk_n ?_) | (with_reducible refine q_blk_x ?_) | ((with_reducible apply c_false2 hF); exact rfl; (first | with_reducible rfl | (refine congrArg Value.bool ?_; focus (simp; done))))))
          refine ⟨all.length - (t + n), by omega, t + n, T, [], tv', wv', Ew', E, by omega, by omega, hfin, ?_, by simp, hE, hlk, hW', hF.sub (by repeat (first | exact Sub.nil | refine Sub.cons rfl (by first | with_reducible rfl | (refine congrArg (Value.int _) ?_; omega) | exact rfl) ?_)), hM⟩
          rw [List.length_nil]; omega
    · obtain rfl : f = 0 := by omega
      rw [encF] at henc
      with_reducible refine w_seq ?_
      with_reducible refine w_seq ?_
      refine c_draw (fun i => Nat.ble 10 i) hM ?_; clear hM; intro w hM
      (first | (refine t_pure (i := 0) hF rfl rfl rfl rfl (by kernel_rfl) hM.sm (fun _ _ _ h => h) ?_ ?_; (first | exact trivial | omega | decide); clear hF a; intro a hF))
      (first | (refine t_pure (i := 1) hF rfl rfl rfl rfl (by kernel_rfl) hM.sm (fun _ _ _ h => h) ?_ ?_; (first | exact trivial | omega | decide); clear hF a; intro a hF))
      (first | (refine t_pure (i := 2) hF rfl rfl rfl rfl (by kernel_rfl) hM.sm (fun _ _ _ h => h) ?_ ?_; (first | exact trivial | omega | decide); clear hF a; intro a hF))
      (first | (apply t_load (i := 3) hF rfl rfl rfl; (repeat (first | exact List.mem_cons_self | refine List.mem_cons_of_mem _ ?_)); exact rfl; exact rfl; kernel_rfl; exact hM.sm; exact (fun _ _ _ h => h); clear hF a; intro a hF))
      (first | (refine t_pure (i := 4) hF rfl rfl rfl rfl (by kernel_rfl) hM.sm (fun _ _ _ h => h) ?_ ?_; (first | exact trivial | omega | decide); clear hF a; intro a hF))
      (first | (refine t_pure (i := 5) hF rfl rfl rfl rfl (by kernel_rfl) hM.sm (fun _ _ _ h => h) ?_ ?_; (first | exact trivial | omega | decide); clear hF a; intro a hF))
      (first | (refine t_pure (i := 6) hF rfl rfl rfl rfl (by kernel_rfl) hM.sm (fun _ _ _ h => h) ?_ ?_; (first | exact trivial | omega | decide); clear hF a; intro a hF))
      (first | (apply t_load (i := 7) hF rfl rfl rfl; (repeat (first | exact List.mem_cons_self | refine List.mem_cons_of_mem _ ?_)); exact rfl; exact rfl; kernel_rfl; exact hM.sm; exact (fun _ _ _ h => h); clear hF a; intro a hF))
      (first | (refine t_pure (i := 8) hF rfl rfl rfl rfl (by kernel_rfl) hM.sm (fun _ _ _ h => h) ?_ ?_; (first | exact trivial | omega | decide); clear hF a; intro a hF))
      (first | (refine t_pure (i := 9) hF rfl rfl rfl rfl (by kernel_rfl) hM.sm (fun _ _ _ h => h) ?_ ?_; (first | exact trivial | omega | decide); clear hF a; intro a hF))
      rw [show decide ((t : Int) < (all.length : Int)) = false from decide_eq_false (by omega)] at hF
      refine t_done (by kernel_rfl) ?_
      (repeat' (first | (with_reducible refine w_seq ?_) | (with_reducible refine c_region ?_) | (with_reducible refine s_nil ?_) | ((with_reducible apply s_callM (f := 63) hF); exact rfl; exact rfl; exact rfl; exact rfl; exact rfl; exact (flush_c eb tv wv _ _ _ toks run _ rfl hW (by omega) (by omega) hM); clear hF hM a; rintro v w a ⟨tv', wv', Ew', hW', hM⟩ hF) | (with_reducible refine q_then_n ?_) | ((with_reducible apply s_pure hF); exact rfl; exact rfl; exact rfl; (first | exact trivial | omega | exact ⟨Int.natCast_nonneg _, Int.ofNat_lt.2 (by assumption)⟩ | decide); clear hF a; intro a hF) | ((with_reducible apply s_load hF hM); exact rfl; exact rfl; (repeat (first | exact List.mem_cons_self | refine List.mem_cons_of_mem _ ?_)); exact rfl; exact rfl; clear hF a; intro a hF) | (with_reducible refine w_exit ?_) | (with_reducible refine w_ret ?_) | (with_reducible refine q_then_x ?_) | (with_reducible refine q_blk_x ?_) | ((with_reducible apply c_false2 hF); exact rfl; (first | with_reducible rfl | (refine congrArg Value.bool ?_; focus (simp; done))))))
      (apply f_ret Try.results21 hF hM; (repeat (first | exact RL.nil | (apply RL.tmp; exact rfl) | (apply RL.cell; exact rfl; (repeat (first | exact List.mem_cons_self | refine List.mem_cons_of_mem _ ?_)); exact rfl))); refine Ret.mk hM.since ?_; dsimp only [resV])
      rw [henc]
      obtain ⟨a', c', rfl, _, _⟩ := hM.row (enc := Value.int .u8) List.mem_cons_self
      exact ⟨a', c', rfl, (hM.sub (List.nil_sublist _) (.cons_cons _ (List.nil_sublist _)) (fun _ h => h)).mem.own⟩
end
end Go.Proofs.Ytadfdpkhehdikaa


/- dictionary.Decode. -/
namespace Go.Proofs.Ytadfdpkhehdikaa
open Go.RowKit Go.Shelf
theorem rd_cells {own : Nat → Prop} {w : World} {α : Type} {enc : α → Value} {ad : Addr} {ys : List α} (h : Has own w (RdF enc (some ad) ys)) (q : Nat) : ∀ (j : Nat) (u : Value), ((ys.take q).map enc)[j]? = some u → w.cell? (ad.add j) = some u := by
  intro j u hu
  rw [List.getElem?_map, List.getElem?_take] at hu
  split at hu
  · cases hy : ys[j]? with
    | none => rw [hy] at hu; cases hu
    | some y =>
      rw [hy] at hu
      injection hu with hu
      obtain ⟨b, off, e1, _, e2⟩ := h.get j y hy
      injection e1 with e1
      subst e1
      rw [add_lit, e2, hu]
  · cases hu
theorem RdF.dropO {α : Type} {enc : α → Value} {own : Nat → Prop} {w : World} {ao : Option Addr} {xs : List α} (h : Has own w (RdF enc ao xs)) (k m : Nat) (hm : xs.length ≤ m) : Has own w (RdF enc (sadr ao k m 1) (xs.drop k)) := by
  cases ao with
  | some ad => exact RdF.drop h k m hm
  | none =>
    cases xs with
    | nil => rw [List.drop_nil]; exact RdF.nil
    | cons x r => obtain ⟨_, _, e, _⟩ := h.get 0 x rfl; cases e
/-- Bytes copied from d before the end. -/
def copyN (d : Nat) : Nat → List Int → List Int
  | 0, al => al
  | n + 1, al => copyN d n (al ++ [al.getD (al.length - d) 0])
theorem copyN_len (d : Nat) : ∀ (n : Nat) (al : List Int), (copyN d n al).length = al.length + n
  | 0, al => rfl
  | n + 1, al => by rw [copyN, copyN_len d n, List.length_append, List.length_singleton]; omega
theorem copyN_succ (d : Nat) : ∀ (n : Nat) (al : List Int), copyN d (n + 1) al = copyN d n al ++ [(copyN d n al).getD ((copyN d n al).length - d) 0]
  | 0, al => rfl
  | n + 1, al => by rw [copyN, copyN_succ d n]; rfl
/-- What tokens add to what is there. -/
def dcF (dl : Nat) (most : Int) : Nat → List Int → List Int → Except Int (List Int)
  | 0, _, al => .ok al
  | _ + 1, [], al => .ok al
  | f + 1, x :: b, al =>
    if x = 0 then .error 3
    else if x ≤ 127 then
      if (b.length : Int) < x then .error 10
      else if most < (al.length : Int) + x - dl then .error 5
      else dcF dl most f (b.drop x.toNat) (al ++ b.take x.toNat)
    else if (rdNum b).2.1 ≠ 0 then .error (rdNum b).2.1
    else if (rdNum b).1 < 1 ∨ 4096 < (rdNum b).1 ∨ (al.length : Int) < (rdNum b).1 then .error 3
    else if most < (al.length : Int) + (x - 124) - dl then .error 5
    else dcF dl most f (b.drop (rdNum b).2.2) (copyN (rdNum b).1.toNat (x - 124).toNat al)
def finD (dl : Nat) (r : Except Int (List Int)) : Except Int (List Int) := match r with
  | .error e => .error e
  | .ok al => .ok (al.drop dl)
def decD (dict y : List Int) (most : Int) : Except Int (List Int) := if most < 0 then .error 2 else finD dict.length (dcF dict.length most y.length y dict)
theorem dcF_nil (dl : Nat) (most : Int) (f : Nat) (al : List Int) : dcF dl most f [] al = .ok al := by cases f <;> rfl
/-- Bytes or an error. -/
def BDec (own : Nat → Prop) (r : Except Int (List Int)) (v : Value) (w' : World) : Prop := match r with
  | .error e => v = .tuple #[.slice none 0 0, .int .i64 e]
  | .ok xs => ∃ a' c', v = .tuple #[.slice a' xs.length c', .int .i64 0] ∧ xs.length ≤ c' ∧ Has own w' (RdF (Value.int .u8) a' xs)
section
variable (dict y : List Int) (hy : By y) (hlen : dict.length ≤ 10000 ∧ y.length ≤ 10000) (most : Int) (hmost : most ≤ 9223372036854775807 ∧ -9223372036854775808 ≤ most) (a1 a2 : Option Addr) (c1 c2 : Nat) (hc2 : y.length ≤ c2) (own : Nat → Prop) (W : World) (hl : ∀ b, own b → b < W.heap.size) (hv1 : Has own W (RdF (Value.int .u8) a1 dict)) (hv2 : Has own W (RdF (Value.int .u8) a2 y))
include hy hlen hmost hc2 hl hv1 hv2
set_option maxRecDepth 20000 in
theorem DecodeD_c : Calls Try.prog 22 ⟨[.slice a1 dict.length c1, .slice a2 y.length c2, .int .i64 most]⟩ W (Ret W (BDec own (decD dict y most))) := by
  obtain ⟨hd, hyl⟩ := hlen
  have hM := ((Mm.start hl).known hv1).known hv2
  by_cases h0 : most < 0
  · have hD : decD dict y most = .error 2 := by unfold decD; rw [if_pos h0]
    rw [hD]
    refine f_start Try.func22 rfl Try.ntmps22 rfl rfl ?_; intro a hF
    (repeat' (first | (with_reducible refine w_seq ?_) | (with_reducible refine c_region ?_) | (with_reducible refine s_nil ?_) | (with_reducible refine q_then_n ?_) | ((with_reducible apply s_pure hF); exact rfl; exact rfl; exact rfl; (first | exact trivial | omega | exact ⟨Int.natCast_nonneg _, Int.ofNat_lt.2 (by assumption)⟩ | decide); clear hF a; intro a hF) | (with_reducible refine w_ret ?_) | (with_reducible refine q_then_r ?_) | ((with_reducible apply c_dec hF); exact rfl; all_goals intro hc; all_goals (try (exfalso; omega)))))
    (apply f_ret Try.results22 hF hM; (repeat (first | exact RL.nil | (apply RL.tmp; exact rfl) | (apply RL.cell; exact rfl; (repeat (first | exact List.mem_cons_self | refine List.mem_cons_of_mem _ ?_)); exact rfl))); refine Ret.mk hM.since ?_; dsimp only [resV])
    rfl
  have hD : decD dict y most = finD dict.length (dcF dict.length most y.length y dict) := by unfold decD; rw [if_neg h0]
  refine f_start Try.func22 rfl Try.ntmps22 rfl rfl ?_; intro a hF
  (repeat' (first | (with_reducible refine w_seq ?_) | (with_reducible refine c_region ?_) | (with_reducible refine s_nil ?_) | ((with_reducible apply s_callO (f := 58) hF); exact rfl; exact rfl; exact rfl; exact rfl; exact rfl; exact (bclone_c a1 c1 dict _ _ hM.lt (hM.facts _ (by (repeat (first | exact List.mem_cons_self | refine List.mem_cons_of_mem _ ?_)))) (by omega)); clear hF a; rintro v wn a ⟨a3, c3, rfl, hO⟩ hS hF; replace hM := hM.addRows hS hO; clear hS hO; dsimp only [List.cons_append, List.nil_append] at hM) | (with_reducible refine q_then_n ?_) | ((with_reducible apply s_pure hF); exact rfl; exact rfl; exact rfl; (first | exact trivial | omega | exact ⟨Int.natCast_nonneg _, Int.ofNat_lt.2 (by assumption)⟩ | decide); clear hF a; intro a hF) | (with_reducible refine w_skip ?_) | (with_reducible refine w_block ?_) | ((with_reducible apply c_dec hF); exact rfl; all_goals intro hc; all_goals (try (exfalso; omega)))))
  refine c_loop (m := y.length) (fun f a w' => ∃ (xs al : List Int) (ax av : Option Addr) (cx cv : Nat), decD dict y most = finD dict.length (dcF dict.length most f xs al) ∧ xs.length ≤ f ∧ By xs ∧ xs.length ≤ cx ∧ dict.length ≤ al.length ∧ al.length + 10000 * f ≤ dict.length + 10000 * y.length ∧ f ≤ y.length ∧
    Fr 94 [] [(8, .slice av al.length cv), (1, .slice ax xs.length cx), (0, .slice a1 dict.length c1), (2, .int .i64 most)] a ∧
    Mm own W [] [⟨5, 1, .slice av al.length cv, al.length, al.map (Value.int .u8)⟩] [RdF (Value.int .u8) ax xs] w')
    ⟨y, dict, a2, a3, c2, c3, hD, Nat.le_refl _, hy, hc2, Nat.le_refl _, Nat.le_refl _, Nat.le_refl _, hF.sub (by repeat (first | exact Sub.nil | refine Sub.cons rfl (by first | with_reducible rfl | (refine congrArg (Value.int _) ?_; omega) | exact rfl) ?_)), hM.sub (.refl _) (.refl _) (by intro f hf; simp only [List.mem_cons, List.not_mem_nil, or_false] at hf; (repeat (rcases hf with rfl | hf; · (repeat (first | exact List.mem_cons_self | refine List.mem_cons_of_mem _ ?_)))); first | (subst hf; (repeat (first | exact List.mem_cons_self | refine List.mem_cons_of_mem _ ?_)); done) | (repeat (first | exact hf | refine List.mem_cons_of_mem _ ?_)))⟩ ?_
  clear hF hM a hD
  rintro f a w' ⟨xs, al, ax, av, cx, cv, hD, hxf, hxb, hcx, hdal, hal, hfy, hF, hM⟩
  have hcap := row_capB hM List.mem_cons_self
  match hxs : xs with
  | [] =>
    rw [dcF_nil] at hD
    (repeat' (first | (with_reducible refine w_seq ?_) | (with_reducible refine c_region ?_) | (with_reducible refine s_nil ?_) | (with_reducible refine q_then_n ?_) | ((with_reducible apply s_pure hF); exact rfl; exact rfl; exact rfl; (first | exact trivial | omega | exact ⟨Int.natCast_nonneg _, Int.ofNat_lt.2 (by assumption)⟩ | decide); clear hF a; intro a hF) | (with_reducible refine w_exit ?_) | (with_reducible refine q_then_x ?_) | (with_reducible refine q_blk_x ?_) | ((with_reducible apply c_false2 hF); exact rfl; (first | with_reducible rfl | (refine congrArg Value.bool ?_; focus (simp; done))))))
    rw [Int.toNat_natCast, Int.toNat_natCast, show al.length - dict.length = (al.drop dict.length).length from List.length_drop.symm] at hF
    have hrd := RdF.dropO (hM.rowFact List.mem_cons_self) dict.length cv hcap
    have hdl : (al.drop dict.length).length ≤ 10000000000 := by rw [List.length_drop]; omega
    (repeat (first | (with_reducible refine s_nil ?_) | ((with_reducible apply s_callO (f := 58) hF); exact rfl; exact rfl; exact rfl; exact rfl; exact rfl; exact (bclone_c _ _ (al.drop dict.length) own _ (fun b h => hM.lt b (.inl h)) hrd hdl); clear hF a; rintro v wn a ⟨a4, c4, rfl, hO⟩ hS hF; replace hM := hM.addRows hS hO; clear hS hO; dsimp only [List.cons_append, List.nil_append] at hM) | (with_reducible refine q_then_n ?_) | ((with_reducible apply s_pure hF); exact rfl; exact rfl; exact rfl; (first | exact trivial | omega | exact ⟨Int.natCast_nonneg _, Int.ofNat_lt.2 (by assumption)⟩ | decide); clear hF a; intro a hF) | (with_reducible refine w_ret ?_)))
    have hcap2 := row_capB hM List.mem_cons_self
    (apply f_ret Try.results22 hF hM; (repeat (first | exact RL.nil | (apply RL.tmp; exact rfl) | (apply RL.cell; exact rfl; (repeat (first | exact List.mem_cons_self | refine List.mem_cons_of_mem _ ?_)); exact rfl))); refine Ret.mk hM.since ?_; dsimp only [resV])
    rw [hD]
    exact ⟨a4, c4, rfl, hcap2, hM.rowFact List.mem_cons_self⟩
  | x :: b =>
    obtain ⟨f, rfl⟩ : ∃ k, f = k + 1 := ⟨f - 1, by simp at hxf; omega⟩
    rw [dcF] at hD
    have hlx : (x :: b).length = b.length + 1 := List.length_cons
    have hx := hxb x List.mem_cons_self
    have hbb : By b := fun z hz => hxb z (List.mem_cons_of_mem _ hz)
    have hbl : b.length ≤ f := by simpa using hxf
    have hx0 : (x :: b)[((0 : Int)).toNat]? = some x := rfl
    obtain ⟨ad, rfl⟩ : ∃ ad, ax = some ad := rd_some hM (by (repeat (first | exact List.mem_cons_self | refine List.mem_cons_of_mem _ ?_))) (k := 0) (x := x) rfl
    have hbf := RdF.drop (hM.facts (RdF (Value.int .u8) (some ad) (x :: b)) (by (repeat (first | exact List.mem_cons_self | refine List.mem_cons_of_mem _ ?_)))) 1 cx hcx
    rw [show (x :: b).drop 1 = b from rfl] at hbf
    have hcx' : b.length ≤ cx - 1 := by simp at hcx; omega
    by_cases hz : x = 0
    · rw [if_pos hz] at hD
      (repeat' (first | (with_reducible refine w_seq ?_) | (with_reducible refine c_region ?_) | (with_reducible refine s_nil ?_) | (with_reducible refine q_then_n ?_) | ((with_reducible apply s_pure hF); exact rfl; exact rfl; exact rfl; (first | exact trivial | omega | exact ⟨Int.natCast_nonneg _, Int.ofNat_lt.2 (by assumption)⟩ | decide); clear hF a; intro a hF) | ((with_reducible apply s_loadF hF hM); exact rfl; exact rfl; (repeat (first | exact List.mem_cons_self | refine List.mem_cons_of_mem _ ?_)); exact rfl; exact rfl; (first | with_reducible assumption | (simp only [Int.toNat_natCast]; with_reducible assumption)); clear hF a; intro a hF) | (with_reducible refine w_skip ?_) | (with_reducible refine w_block ?_) | (with_reducible refine w_ret ?_) | (with_reducible refine q_then_r ?_) | (with_reducible refine q_blk_r ?_) | ((with_reducible apply c_true2 hF); exact rfl; (first | with_reducible rfl | (refine congrArg Value.bool ?_; focus (simp; done)))) | ((with_reducible apply c_dec hF); exact rfl; all_goals intro hc; all_goals (try (exfalso; omega)))))
      (apply f_ret Try.results22 hF hM; (repeat (first | exact RL.nil | (apply RL.tmp; exact rfl) | (apply RL.cell; exact rfl; (repeat (first | exact List.mem_cons_self | refine List.mem_cons_of_mem _ ?_)); exact rfl))); refine Ret.mk hM.since ?_; dsimp only [resV])
      rw [hD]
      rfl
    rw [if_neg hz] at hD
    by_cases h127 : x ≤ 127
    · rw [if_pos h127] at hD
      by_cases htorn : (b.length : Int) < x
      · rw [if_pos htorn] at hD
        (repeat' (first | (with_reducible refine w_seq ?_) | (with_reducible refine c_region ?_) | (with_reducible refine s_nil ?_) | (with_reducible refine q_then_n ?_) | ((with_reducible apply s_pure hF); exact rfl; exact rfl; exact rfl; (first | exact trivial | omega | exact ⟨Int.natCast_nonneg _, Int.ofNat_lt.2 (by assumption)⟩ | decide); clear hF a; intro a hF) | ((with_reducible apply s_loadF hF hM); exact rfl; exact rfl; (repeat (first | exact List.mem_cons_self | refine List.mem_cons_of_mem _ ?_)); exact rfl; exact rfl; (first | with_reducible assumption | (simp only [Int.toNat_natCast]; with_reducible assumption)); clear hF a; intro a hF) | (with_reducible refine w_skip ?_) | (with_reducible refine w_block ?_) | (with_reducible refine w_ret ?_) | (with_reducible refine q_then_r ?_) | (with_reducible refine q_blk_r ?_) | ((with_reducible apply c_true2 hF); exact rfl; (first | with_reducible rfl | (refine congrArg Value.bool ?_; focus (simp; done)))) | ((with_reducible apply c_dec hF); exact rfl; all_goals intro hc; all_goals (try (exfalso; omega)))))
        (apply f_ret Try.results22 hF hM; (repeat (first | exact RL.nil | (apply RL.tmp; exact rfl) | (apply RL.cell; exact rfl; (repeat (first | exact List.mem_cons_self | refine List.mem_cons_of_mem _ ?_)); exact rfl))); refine Ret.mk hM.since ?_; dsimp only [resV])
        rw [hD]
        rfl
      rw [if_neg htorn] at hD
      obtain ⟨n, rfl⟩ : ∃ n : Nat, x = n := ⟨x.toNat, by omega⟩
      rw [Int.toNat_natCast] at hD
      obtain ⟨x2, hx2⟩ := get_of_lt (l := b) (i := 0) (by omega)
      obtain ⟨ad2, hAd⟩ : ∃ ad2, sadr (some ad) 1 cx 1 = some ad2 := by unfold sadr; split <;> exact ⟨_, rfl⟩
      (repeat' (first | (with_reducible refine w_seq ?_) | (with_reducible refine c_region ?_) | (with_reducible refine s_nil ?_) | (with_reducible refine q_then_n ?_) | ((with_reducible apply s_pure hF); exact rfl; exact rfl; exact rfl; (first | exact trivial | omega | exact ⟨Int.natCast_nonneg _, Int.ofNat_lt.2 (by assumption)⟩ | decide); clear hF a; intro a hF) | ((with_reducible apply s_loadF hF hM); exact rfl; exact rfl; (repeat (first | exact List.mem_cons_self | refine List.mem_cons_of_mem _ ?_)); exact rfl; exact rfl; (first | with_reducible assumption | (simp only [Int.toNat_natCast]; with_reducible assumption)); clear hF a; intro a hF) | (with_reducible refine w_skip ?_) | (with_reducible refine w_block ?_) | ((with_reducible apply c_true2 hF); exact rfl; (first | with_reducible rfl | (refine congrArg Value.bool ?_; focus (simp; done)))) | ((with_reducible apply c_dec hF); exact rfl; all_goals intro hc; all_goals (try (exfalso; omega)))))
      rw [show (((((n : Int) :: b).length : Nat) : Int)).toNat - (1 : Int).toNat = b.length by rw [hlx]; omega, show (1 : Int).toNat = 1 from rfl, hAd] at hF
      rw [hAd] at hbf
      replace hM := hM.addFact hbf
      refine c_draw (fun i => Nat.ble 10 i) hM ?_; clear hM; intro w hM
      (first | (refine t_pure (i := 0) hF rfl rfl rfl rfl (by kernel_rfl) hM.sm (fun _ _ _ h => h) ?_ ?_; (first | exact trivial | omega | decide); clear hF a; intro a hF))
      (first | (refine t_pure (i := 1) hF rfl rfl rfl rfl (by kernel_rfl) hM.sm (fun _ _ _ h => h) ?_ ?_; (first | exact trivial | omega | decide); clear hF a; intro a hF))
      (first | (refine t_pure (i := 2) hF rfl rfl rfl rfl (by kernel_rfl) hM.sm (fun _ _ _ h => h) ?_ ?_; (first | exact trivial | omega | decide); clear hF a; intro a hF))
      (first | (refine t_pure (i := 3) hF rfl rfl rfl rfl (by kernel_rfl) hM.sm (fun _ _ _ h => h) ?_ ?_; (first | exact trivial | omega | decide); clear hF a; intro a hF))
      rw [show ((0 : Int)).toNat = 0 from rfl, sadr_z, Int.toNat_natCast, Nat.sub_zero] at hF
      (first | (refine t_pure (i := 5) hF rfl rfl rfl rfl (by kernel_rfl) (hM.sm.sub (fun x hx => by repeat (first | exact hx | refine List.mem_cons_of_mem _ ?_)) (fun _ h => by repeat (first | exact h | refine List.mem_cons_of_mem _ ?_))) (fun _ _ _ h => h) ?_ ?_; (first | exact trivial | omega | decide); clear hF a; intro a hF))
      (first | (refine t_pure (i := 6) hF rfl rfl rfl rfl (by kernel_rfl) (hM.sm.sub (fun x hx => by repeat (first | exact hx | refine List.mem_cons_of_mem _ ?_)) (fun _ h => by repeat (first | exact h | refine List.mem_cons_of_mem _ ?_))) (fun _ _ _ h => h) ?_ ?_; (first | exact trivial | omega | decide); clear hF a; intro a hF))
      (first | (refine t_pure (i := 7) hF rfl rfl rfl rfl (by kernel_rfl) (hM.sm.sub (fun x hx => by repeat (first | exact hx | refine List.mem_cons_of_mem _ ?_)) (fun _ h => by repeat (first | exact h | refine List.mem_cons_of_mem _ ?_))) (fun _ _ _ h => h) ?_ ?_; (first | exact trivial | omega | decide); clear hF a; intro a hF))
      rw [Int.toNat_natCast, Int.toNat_natCast] at hF
      refine t_one (i := 4) hF rfl (by kernel_rfl) rfl ?_
      intro K hK
      (refine e_app (k := 0) (ys := (b.take n).map (Value.int .u8)) hF hM rfl rfl rfl .z (by rw [List.length_map, List.length_take]; omega) (rd_cells (hM.facts _ List.mem_cons_self) n) (one_map' _) (by omega) ⟨by omega, by omega⟩ ?_; clear hM; intro gA cap w hM; dsimp only [List.set] at hM; replace hF := hF.put (d := 78) rfl (.slice (some ⟨gA, 0, none⟩) (al.length + n) cap); generalize a.put (some 78) _ = a at *)
      refine hK _ _ (fun _ => (hM.sm.sub (fun x hx => by repeat (first | exact hx | refine List.mem_cons_of_mem _ ?_)) (fun _ h => by repeat (first | exact h | refine List.mem_cons_of_mem _ ?_)))) ?_; clear hK
      (first | (refine t_pure (i := 8) hF rfl rfl rfl rfl (by kernel_rfl) (hM.sm.sub (fun x hx => by repeat (first | exact hx | refine List.mem_cons_of_mem _ ?_)) (fun _ h => by repeat (first | exact h | refine List.mem_cons_of_mem _ ?_))) (fun _ _ _ h => h) ?_ ?_; (first | exact trivial | omega | decide); clear hF a; intro a hF))
      (first | (refine t_pure (i := 9) hF rfl rfl rfl rfl (by kernel_rfl) (hM.sm.sub (fun x hx => by repeat (first | exact hx | refine List.mem_cons_of_mem _ ?_)) (fun _ h => by repeat (first | exact h | refine List.mem_cons_of_mem _ ?_))) (fun _ _ _ h => h) ?_ ?_; (first | exact trivial | omega | decide); clear hF a; intro a hF))
      refine t_done (by kernel_rfl) ?_
      by_cases hlong : most < (al.length : Int) + n - dict.length
      · rw [if_pos hlong] at hD
        (repeat' (first | (with_reducible refine w_seq ?_) | (with_reducible refine c_region ?_) | (with_reducible refine s_nil ?_) | (with_reducible refine q_then_n ?_) | ((with_reducible apply s_pure hF); exact rfl; exact rfl; exact rfl; (first | exact trivial | omega | exact ⟨Int.natCast_nonneg _, Int.ofNat_lt.2 (by assumption)⟩ | decide); clear hF a; intro a hF) | (with_reducible refine w_ret ?_) | (with_reducible refine q_then_r ?_) | (with_reducible refine q_blk_n ?_) | (with_reducible refine q_blk_r ?_) | ((with_reducible apply c_dec hF); exact rfl; all_goals intro hc; all_goals (try (exfalso; omega)))))
        (apply f_ret Try.results22 hF hM; (repeat (first | exact RL.nil | (apply RL.tmp; exact rfl) | (apply RL.cell; exact rfl; (repeat (first | exact List.mem_cons_self | refine List.mem_cons_of_mem _ ?_)); exact rfl))); refine Ret.mk hM.since ?_; dsimp only [resV])
        rw [hD]
        rfl
      · rw [if_neg hlong] at hD
        (repeat' (first | (with_reducible refine w_seq ?_) | (with_reducible refine c_region ?_) | (with_reducible refine s_nil ?_) | (with_reducible refine q_then_n ?_) | ((with_reducible apply s_pure hF); exact rfl; exact rfl; exact rfl; (first | exact trivial | omega | exact ⟨Int.natCast_nonneg _, Int.ofNat_lt.2 (by assumption)⟩ | decide); clear hF a; intro a hF) | (with_reducible refine w_skip ?_) | (with_reducible refine q_blk_n ?_) | ((with_reducible apply c_dec hF); exact rfl; all_goals intro hc; all_goals (try (exfalso; omega)))))
        have e1 : (al ++ b.take n).length = al.length + n := by rw [List.length_append, List.length_take]; omega
        have e2 : (b.drop n).length = b.length - n := List.length_drop
        refine ⟨f, by omega, b.drop n, al ++ b.take n, sadr (some ad2) n (cx - 1) 1, some ⟨gA, 0, none⟩, cx - 1 - n, cap, hD, by omega, fun z hz => hbb z (List.mem_of_mem_drop hz), by omega, by omega, by omega, by omega, ?_, ?_⟩
        · rw [e1, e2]
          exact hF.sub (by repeat (first | exact Sub.nil | refine Sub.cons rfl (by first | with_reducible rfl | (refine congrArg (Value.int _) ?_; omega) | exact rfl) ?_))
        · rw [e1, List.map_append]
          exact (hM.addFact (RdF.drop (hM.facts _ List.mem_cons_self) n (cx - 1) hcx')).sub (.refl _) (.refl _) (by intro f hf; simp only [List.mem_cons, List.not_mem_nil, or_false] at hf; (repeat (rcases hf with rfl | hf; · (repeat (first | exact List.mem_cons_self | refine List.mem_cons_of_mem _ ?_)))); first | (subst hf; (repeat (first | exact List.mem_cons_self | refine List.mem_cons_of_mem _ ?_)); done) | (repeat (first | exact hf | refine List.mem_cons_of_mem _ ?_)))
    · rw [if_neg h127] at hD
      obtain ⟨n, hn⟩ : ∃ n : Nat, x - 124 = n := ⟨(x - 124).toNat, by omega⟩
      rw [hn, Int.toNat_natCast] at hD
      obtain ⟨ab, hAb⟩ : ∃ ab, sadr (some ad) 1 cx 1 = ab := ⟨_, rfl⟩
      rw [hAb] at hbf
      replace hM := hM.addFact hbf
      clear hbf
      (repeat' (first | (with_reducible refine w_seq ?_) | (with_reducible refine c_region ?_) | (with_reducible refine s_nil ?_) | (with_reducible refine q_then_n ?_) | ((with_reducible apply s_pure hF); exact rfl; exact rfl; exact rfl; (first | exact trivial | omega | exact ⟨Int.natCast_nonneg _, Int.ofNat_lt.2 (by assumption)⟩ | decide); clear hF a; intro a hF) | ((with_reducible apply s_loadF hF hM); exact rfl; exact rfl; (repeat (first | exact List.mem_cons_self | refine List.mem_cons_of_mem _ ?_)); exact rfl; exact rfl; (first | with_reducible assumption | (simp only [Int.toNat_natCast]; with_reducible assumption)); clear hF a; intro a hF) | (with_reducible refine w_skip ?_) | (with_reducible refine w_block ?_) | ((with_reducible apply c_true2 hF); exact rfl; (first | with_reducible rfl | (refine congrArg Value.bool ?_; focus (simp; done)))) | ((with_reducible apply c_dec hF); exact rfl; all_goals intro hc; all_goals (try (exfalso; omega)))))
      rw [show ((((x :: b).length : Nat) : Int)).toNat - (1 : Int).toNat = b.length by rw [hlx]; omega, show (1 : Int).toNat = 1 from rfl, hAb] at hF
      have hv3 := hM.factOut (f := RdF (Value.int .u8) ab b) (by (repeat (first | exact List.mem_cons_self | refine List.mem_cons_of_mem _ ?_)))
      by_cases he : (rdNum b).2.1 = 0
      · rw [if_neg (by rw [he]; simp)] at hD
        obtain ⟨d, hd2⟩ : ∃ d : Nat, (rdNum b).1 = d := ⟨(rdNum b).1.toNat, by have := (rdN_nnU 8 0 0 b (by omega) hbb).1; unfold rdNum; omega⟩
        have hdb : d ≤ 9007199254740991 := by have := (rdN_nnU 8 0 0 b (by omega) hbb).2; unfold rdNum at hd2; omega
        have hIO := Int_ok b hbb (by omega) ab (cx - 1) hcx' own _ (fun b h => hM.lt b (.inl h)) hv3 he
        rw [hd2] at hD hIO
        have hdrop : (b.drop (rdNum b).2.2).length ≤ b.length := by rw [List.length_drop]; omega
        have hdb2 : By (b.drop (rdNum b).2.2) := fun z hz => hbb z (List.mem_of_mem_drop hz)
        generalize b.drop (rdNum b).2.2 = rb at *
        (repeat (first | (with_reducible refine w_seq ?_) | (with_reducible refine c_region ?_) | (with_reducible refine s_nil ?_) | ((with_reducible apply s_callO (f := 64) hF); exact rfl; exact rfl; exact rfl; exact rfl; exact rfl; exact (hIO); clear hF a; rintro v wn a ⟨ar, cr, rfl, hO⟩ hS hF; replace hM := hM.addRows hS hO; clear hS hO; dsimp only [List.cons_append, List.nil_append] at hM) | (with_reducible refine q_then_n ?_) | ((with_reducible apply s_pure hF); exact rfl; exact rfl; exact rfl; (first | exact trivial | omega | exact ⟨Int.natCast_nonneg _, Int.ofNat_lt.2 (by assumption)⟩ | decide); clear hF a; intro a hF) | (with_reducible refine w_skip ?_) | ((with_reducible apply c_false2 hF); exact rfl; (first | with_reducible rfl | (refine congrArg Value.bool ?_; focus (simp; done))))))
        by_cases hbad : (d : Int) < 1 ∨ 4096 < (d : Int) ∨ (al.length : Int) < d
        · rw [if_pos hbad] at hD
          (repeat' (first | (with_reducible refine w_seq ?_) | (with_reducible refine c_region ?_) | (with_reducible refine s_nil ?_) | (with_reducible refine q_then_n ?_) | ((with_reducible apply s_pure hF); exact rfl; exact rfl; exact rfl; (first | exact trivial | omega | exact ⟨Int.natCast_nonneg _, Int.ofNat_lt.2 (by assumption)⟩ | decide); clear hF a; intro a hF) | (with_reducible refine w_ret ?_) | (with_reducible refine q_then_r ?_) | (with_reducible refine q_blk_r ?_) | ((with_reducible apply c_true2 hF); exact rfl; (first | with_reducible rfl | (refine congrArg Value.bool ?_; focus (simp; done)))) | ((with_reducible apply s_skip hF); exact rfl; exact rfl; clear hF a; intro a hF) | ((fail_if_success ((with_reducible refine g_known true hF ?_ ?_); focus exact rfl)); (fail_if_success ((with_reducible refine g_known false hF ?_ ?_); focus exact rfl)); (with_reducible apply g_dec hF); exact rfl; exact rfl; all_goals (clear hF; intro hc hF); all_goals (try (exfalso; omega))) | ((with_reducible apply c_dec hF); exact rfl; all_goals intro hc; all_goals (try (exfalso; omega)))))
          all_goals
            (apply f_ret Try.results22 hF hM; (repeat (first | exact RL.nil | (apply RL.tmp; exact rfl) | (apply RL.cell; exact rfl; (repeat (first | exact List.mem_cons_self | refine List.mem_cons_of_mem _ ?_)); exact rfl))); refine Ret.mk hM.since ?_; dsimp only [resV])
            rw [hD]
            rfl
        rw [if_neg hbad] at hD
        (repeat' (first | (with_reducible refine w_seq ?_) | (with_reducible refine c_region ?_) | (with_reducible refine s_nil ?_) | (with_reducible refine q_then_n ?_) | ((with_reducible apply s_pure hF); exact rfl; exact rfl; exact rfl; (first | exact trivial | omega | exact ⟨Int.natCast_nonneg _, Int.ofNat_lt.2 (by assumption)⟩ | decide); clear hF a; intro a hF) | (with_reducible refine w_skip ?_) | (with_reducible refine w_block ?_) | ((fail_if_success ((with_reducible refine g_known true hF ?_ ?_); focus exact rfl)); (fail_if_success ((with_reducible refine g_known false hF ?_ ?_); focus exact rfl)); (with_reducible apply g_dec hF); exact rfl; exact rfl; all_goals (clear hF; intro hc hF); all_goals (try (exfalso; omega))) | ((with_reducible apply c_dec hF); exact rfl; all_goals intro hc; all_goals (try (exfalso; omega)))))
        have hcapr := row_capB hM List.mem_cons_self
        replace hM := hM.freezeRow
        rw [show x - 128 + 4 = (n : Int) by omega] at hF
        rw [Int.toNat_natCast] at hD
        refine c_loop (m := n) (fun m a w' => ∃ (j : Nat) (al2 : List Int) (av2 : Option Addr) (cv2 : Nat), m + j = n ∧ al2 = copyN d j al ∧
          Fr 94 [] [(50, .int .i64 j), (49, .int .i64 n), (10, .int .i64 d), (8, .slice av2 al2.length cv2), (11, .slice ar rb.length cr), (0, .slice a1 dict.length c1), (2, .int .i64 most)] a ∧
          Mm own W [] [⟨5, 1, .slice av2 al2.length cv2, al2.length, al2.map (Value.int .u8)⟩] [RdF (Value.int .u8) ar rb] w')
          ⟨0, al, av, cv, by omega, rfl, hF.sub (by repeat (first | exact Sub.nil | refine Sub.cons rfl (by first | with_reducible rfl | (refine congrArg (Value.int _) ?_; omega) | exact rfl) ?_)), hM.sub (.refl _) (.refl _) (by intro f hf; simp only [List.mem_cons, List.not_mem_nil, or_false] at hf; (repeat (rcases hf with rfl | hf; · (repeat (first | exact List.mem_cons_self | refine List.mem_cons_of_mem _ ?_)))); first | (subst hf; (repeat (first | exact List.mem_cons_self | refine List.mem_cons_of_mem _ ?_)); done) | (repeat (first | exact hf | refine List.mem_cons_of_mem _ ?_)))⟩ ?_
        clear hF hM a hcap
        rintro m a w' ⟨j, al2, av2, cv2, hm, hal2, hF, hM⟩
        have hl2 : al2.length = al.length + j := by rw [hal2, copyN_len]
        by_cases hj : j < n
        · obtain ⟨z, hz2⟩ := get_of_lt (l := al2) (i := al2.length - d) (by omega)
          obtain ⟨g2, rfl⟩ := row_some hM List.mem_cons_self (by omega)
          have hz' : al2[((al2.length : Int) - (d : Int)).toNat]? = some z := by rw [show ((al2.length : Int) - (d : Int)).toNat = al2.length - d by omega]; exact hz2
          have hcs : copyN d (j + 1) al = al2 ++ [z] := by rw [copyN_succ, ← hal2, List.getD_eq_getElem?_getD, hz2]; rfl
          (repeat' (first | (with_reducible refine w_seq ?_) | (with_reducible refine c_region ?_) | (with_reducible refine s_nil ?_) | (with_reducible refine q_then_n ?_) | ((with_reducible apply s_pure hF); exact rfl; exact rfl; exact rfl; (first | exact trivial | omega | exact ⟨Int.natCast_nonneg _, Int.ofNat_lt.2 (by assumption)⟩ | decide); clear hF a; intro a hF) | ((with_reducible apply s_loadR hF hM); exact rfl; exact rfl; (repeat (first | exact List.mem_cons_self | refine List.mem_cons_of_mem _ ?_)); exact rfl; exact rfl; (first | with_reducible assumption | (simp only [Int.toNat_natCast]; with_reducible assumption)); clear hF a; intro a hF) | ((with_reducible apply s_lit hF hM); exact rfl; exact rfl; exact rfl; exact rfl; clear hF hM a; intro bl w a hM hF) | ((with_reducible apply s_app hF hM); exact rfl; exact rfl; exact rfl; exact rfl; (repeat (first | exact Kth.z | apply Kth.s)); exact rfl; exact rfl; exact rfl; exact rfl; omega; clear hF hM a; intro g cap w a hM hF; dsimp only [List.set] at hM) | (with_reducible refine w_skip ?_) | (with_reducible refine w_block ?_) | (with_reducible refine q_blk_n ?_) | ((with_reducible apply c_dec hF); exact rfl; all_goals intro hc; all_goals (try (exfalso; omega)))))
          refine ⟨m - 1, by omega, j + 1, al2 ++ [z], some ⟨g, 0, none⟩, cap, by omega, hcs.symm, ?_, ?_⟩
          · rw [List.length_append, List.length_singleton]
            exact hF.sub (by repeat (first | exact Sub.nil | refine Sub.cons rfl (by first | with_reducible rfl | (refine congrArg (Value.int _) ?_; omega) | exact rfl) ?_))
          · rw [List.length_append, List.length_singleton, List.map_append]
            exact hM
        · have hje : n = j := by omega
          subst hje
          rw [← hal2] at hD
          have hcap := row_capB hM List.mem_cons_self
          by_cases hlong : most < (al.length : Int) + n - dict.length
          · rw [if_pos hlong] at hD
            (repeat' (first | (with_reducible refine w_seq ?_) | (with_reducible refine c_region ?_) | (with_reducible refine s_nil ?_) | (with_reducible refine q_then_n ?_) | ((with_reducible apply s_pure hF); exact rfl; exact rfl; exact rfl; (first | exact trivial | omega | exact ⟨Int.natCast_nonneg _, Int.ofNat_lt.2 (by assumption)⟩ | decide); clear hF a; intro a hF) | (with_reducible refine w_exit ?_) | (with_reducible refine w_ret ?_) | (with_reducible refine q_then_x ?_) | (with_reducible refine q_then_r ?_) | (with_reducible refine q_blk_n ?_) | (with_reducible refine q_blk_r ?_) | (with_reducible refine q_blk_x ?_) | ((with_reducible apply c_false2 hF); exact rfl; (first | with_reducible rfl | (refine congrArg Value.bool ?_; focus (simp; done)))) | ((with_reducible apply c_dec hF); exact rfl; all_goals intro hc; all_goals (try (exfalso; omega)))))
            (apply f_ret Try.results22 hF hM; (repeat (first | exact RL.nil | (apply RL.tmp; exact rfl) | (apply RL.cell; exact rfl; (repeat (first | exact List.mem_cons_self | refine List.mem_cons_of_mem _ ?_)); exact rfl))); refine Ret.mk hM.since ?_; dsimp only [resV])
            rw [hD]
            rfl
          · rw [if_neg hlong] at hD
            (repeat' (first | (with_reducible refine w_seq ?_) | (with_reducible refine c_region ?_) | (with_reducible refine s_nil ?_) | (with_reducible refine q_then_n ?_) | ((with_reducible apply s_pure hF); exact rfl; exact rfl; exact rfl; (first | exact trivial | omega | exact ⟨Int.natCast_nonneg _, Int.ofNat_lt.2 (by assumption)⟩ | decide); clear hF a; intro a hF) | (with_reducible refine w_skip ?_) | (with_reducible refine w_exit ?_) | (with_reducible refine q_then_x ?_) | (with_reducible refine q_blk_n ?_) | (with_reducible refine q_blk_x ?_) | ((with_reducible apply c_false2 hF); exact rfl; (first | with_reducible rfl | (refine congrArg Value.bool ?_; focus (simp; done)))) | ((with_reducible apply c_dec hF); exact rfl; all_goals intro hc; all_goals (try (exfalso; omega)))))
            refine ⟨f, by omega, rb, al2, ar, av2, cr, cv2, hD, by omega, hdb2, hcapr, by omega, by omega, by omega, hF.sub (by repeat (first | exact Sub.nil | refine Sub.cons rfl (by first | with_reducible rfl | (refine congrArg (Value.int _) ?_; omega) | exact rfl) ?_)), hM⟩
      · rw [if_pos he] at hD
        have hIE := Int_err b hbb (by omega) ab (cx - 1) hcx' own _ (fun b h => hM.lt b (.inl h)) hv3 he
        (repeat' (first | (with_reducible refine w_seq ?_) | (with_reducible refine c_region ?_) | (with_reducible refine s_nil ?_) | ((with_reducible apply s_call (f := 64) hF hM); exact rfl; exact rfl; exact rfl; exact rfl; exact rfl; exact (hIE); clear hF hM a; rintro v w a rfl - hM hF) | (with_reducible refine q_then_n ?_) | ((with_reducible apply s_pure hF); exact rfl; exact rfl; exact rfl; (first | exact trivial | omega | exact ⟨Int.natCast_nonneg _, Int.ofNat_lt.2 (by assumption)⟩ | decide); clear hF a; intro a hF) | (with_reducible refine w_ret ?_) | (with_reducible refine q_then_r ?_) | (with_reducible refine q_blk_r ?_) | ((with_reducible apply c_dec hF); exact rfl; all_goals intro hc; all_goals (try (exfalso; omega)))))
        (apply f_ret Try.results22 hF hM; (repeat (first | exact RL.nil | (apply RL.tmp; exact rfl) | (apply RL.cell; exact rfl; (repeat (first | exact List.mem_cons_self | refine List.mem_cons_of_mem _ ?_)); exact rfl))); refine Ret.mk hM.since ?_; dsimp only [resV])
        rw [hD]
        rfl
end
end Go.Proofs.Ytadfdpkhehdikaa

