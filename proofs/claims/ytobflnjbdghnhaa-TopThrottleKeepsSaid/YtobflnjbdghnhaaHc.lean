/- throttle: checks, and what moves the time. -/
import Derived.Test.YtobflnjbdghnhaaHp
set_option linter.unusedSimpArgs false
set_option linter.unusedVariables false
set_option linter.unusedSectionVars false
namespace Go.Proofs.Ytobflnjbdghnhaa
open Go.RowKit Go.Shelf
section
variable {n : Nat} {ds : List Deferred} {l : List (Nat × Value)} {a : Act} {w w' w0 : World} {own : Nat → Prop} {bs : List BoxE} {L : List Ent} {Fs : List (World → Prop)}
/-- The end of a row, as a fact for the caller. -/
theorem OffR.fact {α : Type} {enc : α → Value} {e : TypeId} {size : Nat} {ao : Option Addr} {m c : Nat} {xs : List α} {E : Ent} (hM : Mm own w0 bs L Fs w) {k : Nat} (hL : L[k]? = some E) (h : OffR e size (.slice ao m c) m (xs.map enc) E) : Has own w (RdF enc ao xs) := by
  have hcell := fun ad => OffR.cells (ad := ad) hM hL h
  obtain ⟨h1, h2, h3, h4⟩ := h
  rcases h4 with ⟨h, h0, _⟩ | ⟨ad', h, h0⟩ | ⟨g, off, cap, pre, h5, h6, h7, h8, h9⟩
  · rw [h0, Nat.zero_mul, List.length_map] at h3
    rw [List.eq_nil_of_length_eq_zero h3]
    exact RdF.nil
  · rw [h0, Nat.zero_mul, List.length_map] at h3
    rw [List.eq_nil_of_length_eq_zero h3]
    exact RdF.nil
  · injection h5 with h5
    subst h5
    have hown := hM.mem.own.lt (List.mem_of_getElem? hL) g (by rw [h7]; rfl)
    refine RdF.has ?_ ?_
    · intro i x hx
      refine ⟨g, off * size, rfl, hown.2, ?_⟩
      have := hcell _ rfl i (enc x) (by rw [List.getElem?_map, hx]; rfl)
      rw [add_lit] at this
      exact this
    · intro ad e hn
      injection e with e
      subst e
      have h1 : g < w0.heap.size := hM.low _ hn
      have h2 : w0.heap.size ≤ g := hown.1
      omega
end
theorem mclone_c (a0 : Option Addr) (c0 n : Nat) (ms : Mk) (hn : ms.length = n) (hb : n ≤ 100000) (own : Nat → Prop) (W : World) (hl : ∀ b, own b → b < W.heap.size) (hv : Has own W (RdF (Value.int .i64) a0 (mks ms).flatten)) :
    Calls Try.prog 25 ⟨[.slice a0 n c0]⟩ W (Ret W fun v w' => ∃ a' c', v = .slice a' n c' ∧ Owns w' W.heap.size [⟨47, 2, .slice a' n c', n, (mks ms).flatten.map (Value.int .i64)⟩]) := by
  have hM := (Mm.start hl).known hv
  have hq := mks_len ms
  rw [hn] at hq
  cases a0 with
  | none =>
    obtain rfl : ms = [] := by
      cases ms with
      | nil => rfl
      | cons x r => obtain ⟨ad, h⟩ := rd_some hM (by (repeat (first | exact List.mem_cons_self | refine List.mem_cons_of_mem _ ?_))) (mks_0 (ms := x :: r) (k := 0) rfl); cases h
    subst hn
    refine f_start Try.func25 rfl Try.ntmps25 rfl rfl ?_; intro a hF
    (repeat' (first | (with_reducible refine w_seq ?_) | (with_reducible refine c_region ?_) | (with_reducible refine s_nil ?_) | ((with_reducible apply s_eqn hF); exact rfl; exact rfl; exact rfl; exact rfl; exact rfl; exact rfl; clear hF a; intro a hF) | (with_reducible refine q_then_n ?_) | ((with_reducible apply s_pure hF); exact rfl; exact rfl; exact rfl; (first | exact trivial | omega | exact ⟨Int.natCast_nonneg _, Int.ofNat_lt.2 (by assumption)⟩ | decide); clear hF a; intro a hF) | (with_reducible refine w_ret ?_) | (with_reducible refine q_then_r ?_) | ((with_reducible apply c_true2 hF); exact rfl; (first | with_reducible rfl | (refine congrArg Value.bool ?_; focus (simp; done))))))
    (apply f_ret Try.results25 hF hM; (repeat (first | exact RL.nil | (apply RL.tmp; exact rfl) | (apply RL.cell; exact rfl; (repeat (first | exact List.mem_cons_self | refine List.mem_cons_of_mem _ ?_)); exact rfl))); refine Ret.mk hM.since ?_; dsimp only [resV])
    exact ⟨none, 0, rfl, (Owns.nil _ _).cons _ _⟩
  | some ad =>
    refine f_start Try.func25 rfl Try.ntmps25 rfl rfl ?_; intro a hF
    (repeat' (first | (with_reducible refine w_seq ?_) | (with_reducible refine c_region ?_) | (with_reducible refine s_nil ?_) | ((with_reducible apply s_eqn hF); exact rfl; exact rfl; exact rfl; exact rfl; exact rfl; exact rfl; clear hF a; intro a hF) | ((with_reducible apply s_lit0 hF hM); exact rfl; exact rfl; exact rfl; exact rfl; clear hF hM a; intro bl w a hM hF) | ((with_reducible apply s_appN hF hM); exact rfl; exact rfl; (repeat (first | exact List.mem_cons_self | refine List.mem_cons_of_mem _ ?_)); exact rfl; exact rfl; (with_reducible assumption); (repeat (first | exact Kth.z | apply Kth.s)); (intro _; exact rfl); exact rfl; omega; clear hF hM a; intro g cap w a hM hF; dsimp only [List.set] at hM) | (with_reducible refine q_then_n ?_) | ((with_reducible apply s_pure hF); exact rfl; exact rfl; exact rfl; (first | exact trivial | omega | exact ⟨Int.natCast_nonneg _, Int.ofNat_lt.2 (by assumption)⟩ | decide); clear hF a; intro a hF) | (with_reducible refine w_skip ?_) | (with_reducible refine w_ret ?_) | ((with_reducible apply c_false2 hF); exact rfl; (first | with_reducible rfl | (refine congrArg Value.bool ?_; focus (simp; done))))))
    (apply f_ret Try.results25 hF hM; (repeat (first | exact RL.nil | (apply RL.tmp; exact rfl) | (apply RL.cell; exact rfl; (repeat (first | exact List.mem_cons_self | refine List.mem_cons_of_mem _ ?_)); exact rfl))); refine Ret.mk hM.since ?_; dsimp only [resV])
    simp only [Nat.zero_add, List.nil_append] at hM ⊢
    exact ⟨_, _, rfl, hM.mem.own⟩
section
variable (O R T B : Int) (ms : Mk) (hs : (Th.mk O R T B ms).Ok) (a0 : Option Addr) (n c0 : Nat) (hn : ms.length = n)
include hs hn
section
variable {own : Nat → Prop} (W : World) (hl : ∀ b, own b → b < W.heap.size) (hv : Has own W (RdF (Value.int .i64) a0 (mks ms).flatten))
include hl hv
set_option maxHeartbeats 2000000 in
theorem check_c : Calls Try.prog 16 ⟨[thV O R T B a0 n c0]⟩ W (Ret W fun v _ => v = .int .i64 0) := by
  have hM := (Mm.start hl).known hv
  have hO := hs.hO
  have hR := hs.hR
  have hT := hs.hT
  have hB := hs.hB
  have hlen := hs.hn
  have hch := hs.hc
  have hop := hs.ho
  have hnn := tot_nn hs.hc
  dsimp only [Th.conf] at hO hR hT hB hlen hch hop hnn
  rw [hn] at hlen hop
  have hw := mks_w ms
  refine f_start Try.func16 rfl Try.ntmps16 rfl rfl ?_; intro a hF
  (repeat' (first | (with_reducible refine w_seq ?_) | (with_reducible refine c_region ?_) | (with_reducible refine s_nil ?_) | ((with_reducible apply s_call (f := 9) hF hM); exact rfl; exact rfl; exact rfl; exact rfl; exact rfl; exact (new_c O R _ hM.lt hO hR); clear hF hM a; rintro v w a rfl - hM hF) | ((with_reducible apply s_call (f := 15) hF hM); exact rfl; exact rfl; exact rfl; exact rfl; exact rfl; exact (between_t _ _ _ _ hM.lt (by omega)); clear hF hM a; rintro v w a rfl - hM hF) | (with_reducible refine q_then_n ?_) | ((with_reducible apply s_pure hF); exact rfl; exact rfl; exact rfl; (first | exact trivial | omega | exact ⟨Int.natCast_nonneg _, Int.ofNat_lt.2 (by assumption)⟩ | decide); clear hF a; intro a hF) | ((with_reducible apply s_load hF hM); exact rfl; exact rfl; (repeat (first | exact List.mem_cons_self | refine List.mem_cons_of_mem _ ?_)); exact rfl; exact rfl; clear hF a; intro a hF) | ((with_reducible apply s_store hF hM); exact rfl; exact rfl; exact rfl; exact rfl; (repeat (first | exact Upd.z | apply Upd.s)); exact rfl; exact rfl; exact rfl; clear hM; intro w hM) | ((with_reducible apply s_alloc hF hM); exact rfl; exact rfl; exact rfl; clear hF hM a; intro b w a hM hF) | ((with_reducible apply s_box hF hM); exact rfl; exact rfl; exact rfl; exact rfl; clear hF hM a; intro b w a hM hF) | (with_reducible refine w_skip ?_) | (with_reducible refine w_block ?_) | ((with_reducible apply c_false2 hF); exact rfl; (first | with_reducible rfl | (refine congrArg Value.bool ?_; focus (simp; done)))) | ((with_reducible apply c_dec hF); exact rfl; all_goals intro hc; all_goals (try (exfalso; omega)))))
  rename_i b1 _ b3 _ _ _ b4 _ _ _ _
  generalize b = b6 at *
  refine c_loop (m := n) (fun m a w' => ∃ (k : Nat) (p : Int × Int), m + k = n ∧ ((-1, 0) :: ms)[k]? = some p ∧ Fr 76 [] [(35, .int .i64 k), (34, .int .i64 n), (33, .slice a0 n c0), (1, .pointer (some ⟨b1, 0, none⟩)), (3, .pointer (some ⟨b3, 0, none⟩)), (6, .pointer (some ⟨b6, 0, none⟩))] a ∧
    Mm own W [⟨b6, ⟨[.int .i64 p.1, .int .i64 p.2]⟩, 47⟩, ⟨b3, ⟨[.int .i64 O, .int .i64 R, .int .i64 T, .int .i64 B, .slice a0 n c0]⟩, 45⟩, ⟨b1, ⟨[.int .i64 O, .int .i64 R, .int .i64 T, .int .i64 B, .slice a0 n c0]⟩, 32⟩] [] [RdF (Value.int .i64) a0 (mks ms).flatten] w')
    ⟨0, (-1, 0), by omega, rfl, hF.sub (by repeat (first | exact Sub.nil | refine Sub.cons rfl (by first | with_reducible rfl | (refine congrArg (Value.int _) ?_; omega) | exact rfl) ?_)), hM.sub (.cons_cons _ (.cons _ (.cons_cons _ (.cons_cons _ .slnil)))) (.refl _) (fun _ h => h)⟩ ?_
  clear hF hM a
  rintro m a w' ⟨k, p, hm, hp, hF, hM⟩
  by_cases hlt : k < n
  · obtain ⟨x, hx⟩ : ∃ x, ms[k]? = some x := ⟨_, List.getElem?_eq_getElem (by omega)⟩
    have hx2 := mks_get hx
    obtain ⟨h1, h2, h3, h4⟩ := chain_get hch hx hp
    have hpp : -1 ≤ p.1 ∧ 0 ≤ p.2 := by
      cases k with
      | zero => simp at hp; subst hp; exact ⟨by decide, by decide⟩
      | succ j =>
        have hmem := chain_mem hch (List.mem_of_getElem? (show ms[j]? = some p by simpa using hp))
        dsimp only at hmem
        exact ⟨by omega, by omega⟩
    obtain ⟨ad, rfl⟩ := rd_some hM (by (repeat (first | exact List.mem_cons_self | refine List.mem_cons_of_mem _ ?_))) (mks_0 hx)
    (repeat' (first | (with_reducible refine w_seq ?_) | (with_reducible refine c_region ?_) | (with_reducible refine s_nil ?_) | ((with_reducible apply s_call (f := 15) hF hM); exact rfl; exact rfl; exact rfl; exact rfl; exact rfl; exact (between_t _ _ _ _ hM.lt (by omega)); clear hF hM a; rintro v w a rfl - hM hF) | ((with_reducible apply s_loadS hF hM); exact rfl; exact rfl; (repeat (first | exact List.mem_cons_self | refine List.mem_cons_of_mem _ ?_)); exact rfl; exact rfl; (first | with_reducible assumption | (simp only [Int.toNat_natCast]; with_reducible assumption)); (with_reducible assumption); clear hF a; intro a hF) | (with_reducible refine q_then_n ?_) | ((with_reducible apply s_pure hF); exact rfl; exact rfl; exact rfl; (first | exact trivial | omega | exact ⟨Int.natCast_nonneg _, Int.ofNat_lt.2 (by assumption)⟩ | decide); clear hF a; intro a hF) | ((with_reducible apply s_load hF hM); exact rfl; exact rfl; (repeat (first | exact List.mem_cons_self | refine List.mem_cons_of_mem _ ?_)); exact rfl; exact rfl; clear hF a; intro a hF) | ((with_reducible apply s_store hF hM); exact rfl; exact rfl; exact rfl; exact rfl; (repeat (first | exact Upd.z | apply Upd.s)); exact rfl; exact rfl; exact rfl; clear hM; intro w hM) | ((with_reducible apply s_alloc hF hM); exact rfl; exact rfl; exact rfl; clear hF hM a; intro b w a hM hF) | (with_reducible refine w_skip ?_) | (with_reducible refine w_block ?_) | (with_reducible refine q_blk_n ?_) | ((with_reducible apply c_false2 hF); exact rfl; (first | with_reducible rfl | (refine congrArg Value.bool ?_; focus (simp; done)))) | ((with_reducible apply c_dec hF); exact rfl; all_goals intro hc; all_goals (try (exfalso; omega)))))
    exact ⟨m - 1, by omega, k + 1, x, by omega, by simpa using hx, hF.sub (by repeat (first | exact Sub.nil | refine Sub.cons rfl (by first | with_reducible rfl | (refine congrArg (Value.int _) ?_; omega) | exact rfl) ?_)), hM.sub (.cons _ (.refl _)) (.refl _) (fun _ h => h)⟩
  · obtain rfl : k = n := by
      have := (List.getElem?_eq_some_iff.1 hp).1
      simp only [List.length_cons] at this
      omega
    (repeat' (first | (with_reducible refine w_seq ?_) | (with_reducible refine c_region ?_) | (with_reducible refine s_nil ?_) | (with_reducible refine q_then_n ?_) | ((with_reducible apply s_pure hF); exact rfl; exact rfl; exact rfl; (first | exact trivial | omega | exact ⟨Int.natCast_nonneg _, Int.ofNat_lt.2 (by assumption)⟩ | decide); clear hF a; intro a hF) | (with_reducible refine w_exit ?_) | (with_reducible refine q_then_x ?_) | (with_reducible refine q_blk_x ?_) | ((with_reducible apply c_false2 hF); exact rfl; (first | with_reducible rfl | (refine congrArg Value.bool ?_; focus (simp; done))))))
    refine c_draw (fun i => Nat.ble 6 i) hM ?_; clear hM; intro w hM
    (first | (refine t_pure (i := 0) hF rfl rfl rfl rfl (by kernel_rfl) hM.sm (fun _ _ _ h => h) ?_ ?_; (first | exact trivial | omega | decide); clear hF a; intro a hF))
    (first | (apply t_load (i := 1) hF rfl rfl rfl; (repeat (first | exact List.mem_cons_self | refine List.mem_cons_of_mem _ ?_)); exact rfl; exact rfl; kernel_rfl; exact hM.sm; exact (fun _ _ _ h => h); clear hF a; intro a hF))
    (first | (apply t_load (i := 2) hF rfl rfl rfl; (repeat (first | exact List.mem_cons_self | refine List.mem_cons_of_mem _ ?_)); exact rfl; exact rfl; kernel_rfl; exact hM.sm; exact (fun _ _ _ h => h); clear hF a; intro a hF))
    refine t_one (i := 3) hF rfl (by kernel_rfl) rfl ?_
    intro K hK
    (apply x_call hF hM; exact rfl; exact rfl; exact rfl; exact rfl; exact (total_c O R T B a0 k c0 ms hn (by omega) _ hM.lt (hM.facts _ (by (repeat (first | exact List.mem_cons_self | refine List.mem_cons_of_mem _ ?_))))); clear hF hM a; rintro v w a rfl - hM hF)
    refine hK _ _ (fun _ => hM.sm) ?_; clear hK
    refine t_one (i := 4) hF rfl (by kernel_rfl) rfl ?_
    intro K hK
    (apply x_call hF hM; exact rfl; exact rfl; exact rfl; exact rfl; exact (between_t _ _ _ _ hM.lt (by omega)); clear hF hM a; rintro v w a rfl - hM hF)
    refine hK _ _ (fun _ => hM.sm) ?_; clear hK
    (first | (refine t_pure (i := 5) hF rfl rfl rfl rfl (by kernel_rfl) hM.sm (fun _ _ _ h => h) ?_ ?_; (first | exact trivial | omega | decide); clear hF a; intro a hF))
    refine t_done (by kernel_rfl) ?_
    (repeat' (first | (with_reducible refine w_seq ?_) | (with_reducible refine q_then_n ?_) | (with_reducible refine w_skip ?_) | ((with_reducible apply c_false2 hF); exact rfl; (first | with_reducible rfl | (refine congrArg Value.bool ?_; focus (simp; done))))))
    by_cases h1 : 1 < k
    · have h0 := hop h1
      have hd : decide ((1 : Int) < (k : Int)) = true := decide_eq_true (by omega)
      refine c_draw (fun i => Nat.ble 11 i) hM ?_; clear hM; intro w hM
      (first | (refine t_pure (i := 0) hF rfl rfl rfl rfl (by kernel_rfl) hM.sm (fun _ _ _ h => h) ?_ ?_; (first | exact trivial | omega | decide); clear hF a; intro a hF))
      (first | (apply t_load (i := 1) hF rfl rfl rfl; (repeat (first | exact List.mem_cons_self | refine List.mem_cons_of_mem _ ?_)); exact rfl; exact rfl; kernel_rfl; exact hM.sm; exact (fun _ _ _ h => h); clear hF a; intro a hF))
      (first | (refine t_pure (i := 2) hF rfl rfl rfl rfl (by kernel_rfl) hM.sm (fun _ _ _ h => h) ?_ ?_; (first | exact trivial | omega | decide); clear hF a; intro a hF))
      (first | (refine t_pure (i := 3) hF rfl rfl rfl rfl (by kernel_rfl) hM.sm (fun _ _ _ h => h) ?_ ?_; (first | exact trivial | omega | decide); clear hF a; intro a hF))
      rw [hd] at hF
      (first | (refine t_pure (i := 4) hF rfl rfl rfl rfl (by kernel_rfl) (hM.sm.sub (fun x hx => by repeat (first | exact hx | refine List.mem_cons_of_mem _ ?_)) (fun _ h => by repeat (first | exact h | refine List.mem_cons_of_mem _ ?_))) (fun _ _ _ h => h) ?_ ?_; (first | exact trivial | omega | decide); clear hF a; intro a hF))
      (first | (apply t_load (i := 5) hF rfl rfl rfl; (repeat (first | exact List.mem_cons_self | refine List.mem_cons_of_mem _ ?_)); exact rfl; exact rfl; kernel_rfl; exact (hM.sm.sub (fun x hx => by repeat (first | exact hx | refine List.mem_cons_of_mem _ ?_)) (fun _ h => by repeat (first | exact h | refine List.mem_cons_of_mem _ ?_))); exact (fun _ _ _ h => h); clear hF a; intro a hF))
      (first | (apply t_load (i := 6) hF rfl rfl rfl; (repeat (first | exact List.mem_cons_self | refine List.mem_cons_of_mem _ ?_)); exact rfl; exact rfl; kernel_rfl; exact (hM.sm.sub (fun x hx => by repeat (first | exact hx | refine List.mem_cons_of_mem _ ?_)) (fun _ h => by repeat (first | exact h | refine List.mem_cons_of_mem _ ?_))); exact (fun _ _ _ h => h); clear hF a; intro a hF))
      refine t_one (i := 7) hF rfl (by kernel_rfl) rfl ?_
      intro K hK
      (apply x_call hF hM; exact rfl; exact rfl; exact rfl; exact rfl; exact (confirmed_c O R T B a0 k c0 ms hn (by omega) _ hM.lt (hM.facts _ (by (repeat (first | exact List.mem_cons_self | refine List.mem_cons_of_mem _ ?_)))) (by omega) (by omega)); clear hF hM a; rintro v w a rfl - hM hF)
      refine hK _ _ (fun _ => (hM.sm.sub (fun x hx => by repeat (first | exact hx | refine List.mem_cons_of_mem _ ?_)) (fun _ h => by repeat (first | exact h | refine List.mem_cons_of_mem _ ?_)))) ?_; clear hK
      refine t_one (i := 8) hF rfl (by kernel_rfl) rfl ?_
      intro K hK
      (apply x_call hF hM; exact rfl; exact rfl; exact rfl; exact rfl; exact (open_c a0 k c0 ms hn (by omega) _ hM.lt (hM.facts _ (by (repeat (first | exact List.mem_cons_self | refine List.mem_cons_of_mem _ ?_)))) O R T B _); clear hF hM a; rintro v w a rfl - hM hF)
      rw [h0] at hF
      refine hK _ _ (fun _ => (hM.sm.sub (fun x hx => by repeat (first | exact hx | refine List.mem_cons_of_mem _ ?_)) (fun _ h => by repeat (first | exact h | refine List.mem_cons_of_mem _ ?_)))) ?_; clear hK
      (first | (refine t_pure (i := 9) hF rfl rfl rfl rfl (by kernel_rfl) (hM.sm.sub (fun x hx => by repeat (first | exact hx | refine List.mem_cons_of_mem _ ?_)) (fun _ h => by repeat (first | exact h | refine List.mem_cons_of_mem _ ?_))) (fun _ _ _ h => h) ?_ ?_; (first | exact trivial | omega | decide); clear hF a; intro a hF))
      (first | (refine t_pure (i := 10) hF rfl rfl rfl rfl (by kernel_rfl) (hM.sm.sub (fun x hx => by repeat (first | exact hx | refine List.mem_cons_of_mem _ ?_)) (fun _ h => by repeat (first | exact h | refine List.mem_cons_of_mem _ ?_))) (fun _ _ _ h => h) ?_ ?_; (first | exact trivial | omega | decide); clear hF a; intro a hF))
      refine t_done (by kernel_rfl) ?_
      (repeat' (first | (with_reducible refine w_seq ?_) | (with_reducible refine c_region ?_) | (with_reducible refine s_nil ?_) | (with_reducible refine q_then_n ?_) | ((with_reducible apply s_pure hF); exact rfl; exact rfl; exact rfl; (first | exact trivial | omega | exact ⟨Int.natCast_nonneg _, Int.ofNat_lt.2 (by assumption)⟩ | decide); clear hF a; intro a hF) | (with_reducible refine w_skip ?_) | (with_reducible refine w_ret ?_) | ((with_reducible apply c_false2 hF); exact rfl; (first | with_reducible rfl | (refine congrArg Value.bool ?_; focus (simp; done))))))
      (apply f_ret Try.results16 hF hM; (repeat (first | exact RL.nil | (apply RL.tmp; exact rfl) | (apply RL.cell; exact rfl; (repeat (first | exact List.mem_cons_self | refine List.mem_cons_of_mem _ ?_)); exact rfl))); refine Ret.mk hM.since ?_; dsimp only [resV])
    · have hd : decide ((1 : Int) < (k : Int)) = false := decide_eq_false (by omega)
      refine c_draw (fun i => Nat.ble 11 i) hM ?_; clear hM; intro w hM
      (first | (refine t_pure (i := 0) hF rfl rfl rfl rfl (by kernel_rfl) hM.sm (fun _ _ _ h => h) ?_ ?_; (first | exact trivial | omega | decide); clear hF a; intro a hF))
      (first | (apply t_load (i := 1) hF rfl rfl rfl; (repeat (first | exact List.mem_cons_self | refine List.mem_cons_of_mem _ ?_)); exact rfl; exact rfl; kernel_rfl; exact hM.sm; exact (fun _ _ _ h => h); clear hF a; intro a hF))
      (first | (refine t_pure (i := 2) hF rfl rfl rfl rfl (by kernel_rfl) hM.sm (fun _ _ _ h => h) ?_ ?_; (first | exact trivial | omega | decide); clear hF a; intro a hF))
      (first | (refine t_pure (i := 3) hF rfl rfl rfl rfl (by kernel_rfl) hM.sm (fun _ _ _ h => h) ?_ ?_; (first | exact trivial | omega | decide); clear hF a; intro a hF))
      rw [hd] at hF
      (first | (refine t_pure (i := 4) hF rfl rfl rfl rfl (by kernel_rfl) (hM.sm.sub (fun x hx => by repeat (first | exact hx | refine List.mem_cons_of_mem _ ?_)) (fun _ h => by repeat (first | exact h | refine List.mem_cons_of_mem _ ?_))) (fun _ _ _ h => h) ?_ ?_; (first | exact trivial | omega | decide); clear hF a; intro a hF))
      (first | (refine t_skip (i := 5) hF rfl rfl rfl (by kernel_rfl) (hM.sm.sub (fun x hx => by repeat (first | exact hx | refine List.mem_cons_of_mem _ ?_)) (fun _ h => by repeat (first | exact h | refine List.mem_cons_of_mem _ ?_))) (fun _ _ _ h => h) ?_; clear hF a; intro a hF))
      (first | (refine t_skip (i := 6) hF rfl rfl rfl (by kernel_rfl) (hM.sm.sub (fun x hx => by repeat (first | exact hx | refine List.mem_cons_of_mem _ ?_)) (fun _ h => by repeat (first | exact h | refine List.mem_cons_of_mem _ ?_))) (fun _ _ _ h => h) ?_; clear hF a; intro a hF))
      (refine t_skip (i := 7) hF rfl rfl rfl (by kernel_rfl) (hM.sm.sub (fun x hx => by repeat (first | exact hx | refine List.mem_cons_of_mem _ ?_)) (fun _ h => by repeat (first | exact h | refine List.mem_cons_of_mem _ ?_))) (fun _ _ _ h => h) ?_; clear hF a; intro a hF)
      (refine t_skip (i := 8) hF rfl rfl rfl (by kernel_rfl) (hM.sm.sub (fun x hx => by repeat (first | exact hx | refine List.mem_cons_of_mem _ ?_)) (fun _ h => by repeat (first | exact h | refine List.mem_cons_of_mem _ ?_))) (fun _ _ _ h => h) ?_; clear hF a; intro a hF)
      (first | (refine t_skip (i := 9) hF rfl rfl rfl (by kernel_rfl) (hM.sm.sub (fun x hx => by repeat (first | exact hx | refine List.mem_cons_of_mem _ ?_)) (fun _ h => by repeat (first | exact h | refine List.mem_cons_of_mem _ ?_))) (fun _ _ _ h => h) ?_; clear hF a; intro a hF))
      (first | (refine t_pure (i := 10) hF rfl rfl rfl rfl (by kernel_rfl) (hM.sm.sub (fun x hx => by repeat (first | exact hx | refine List.mem_cons_of_mem _ ?_)) (fun _ h => by repeat (first | exact h | refine List.mem_cons_of_mem _ ?_))) (fun _ _ _ h => h) ?_ ?_; (first | exact trivial | omega | decide); clear hF a; intro a hF))
      refine t_done (by kernel_rfl) ?_
      (repeat' (first | (with_reducible refine w_seq ?_) | (with_reducible refine c_region ?_) | (with_reducible refine s_nil ?_) | (with_reducible refine q_then_n ?_) | ((with_reducible apply s_pure hF); exact rfl; exact rfl; exact rfl; (first | exact trivial | omega | exact ⟨Int.natCast_nonneg _, Int.ofNat_lt.2 (by assumption)⟩ | decide); clear hF a; intro a hF) | (with_reducible refine w_skip ?_) | (with_reducible refine w_ret ?_) | ((with_reducible apply c_false2 hF); exact rfl; (first | with_reducible rfl | (refine congrArg Value.bool ?_; focus (simp; done))))))
      (apply f_ret Try.results16 hF hM; (repeat (first | exact RL.nil | (apply RL.tmp; exact rfl) | (apply RL.cell; exact rfl; (repeat (first | exact List.mem_cons_self | refine List.mem_cons_of_mem _ ?_)); exact rfl))); refine Ret.mk hM.since ?_; dsimp only [resV])
end
end
end Go.Proofs.Ytobflnjbdghnhaa
