/- Layer 5's law of ranges. -/
import Derived.Test.YthcnnedgfndklaaY8
import Derived.Test.YthcnnedgfndklaaGx
set_option linter.unusedSimpArgs false
set_option linter.unusedVariables false
set_option linter.unusedSectionVars false
namespace Go.Proofs.Ythcnnedgfndklaa
open Go.RowKit Go.Shelf
theorem Runs_i {own : Nat → Prop} {W : World} {a0 : Option Addr} {n c0 : Nat} {l : List (List Int)} (hv : Has own W (RdF (Value.int .u8) a0 l.flatten)) (hw : W8 l) (hn : l.length = n) (hlen : n ≤ 30000) (hl : ∀ b, own b → b < W.heap.size) :
    Calls Try.prog 19 ⟨[.slice a0 n c0]⟩ W (Ret W (Sl (Value.int .i64) own (extL (runs l)).flatten (runs l).length)) := Runs_f hl l hw (by omega) a0 n c0 hn hv
theorem extL_2 (p : List (Nat × Nat)) : ∀ y ∈ extL p, y.length = 2 := by intro y hy; obtain ⟨e, _, rfl⟩ := List.mem_map.1 hy; rfl
theorem asc_at {len : Nat} : ∀ {p : List (Nat × Nat)} {e k : Nat} {x : Nat × Nat}, Asc len e (p.drop k) → p[k]? = some x → e ≤ x.1 ∧ 2 ≤ x.2 ∧ x.1 + x.2 ≤ len ∧ Asc len (x.1 + x.2) (p.drop (k + 1))
  | p, e, k, x, h, hx => by
    obtain ⟨hk, hx⟩ := List.getElem?_eq_some_iff.1 hx
    rw [List.drop_eq_getElem_cons hk, hx] at h
    exact h
set_option maxRecDepth 20000 in
theorem parts_c (l : List (List Int)) (hw : W8 l) (a0 : Option Addr) (c0 : Nat) (W : World) (hv : Has (fun _ => False) W (RdF (Value.int .u8) a0 l.flatten)) :
    Calls Try.prog 9 ⟨[.slice a0 l.length c0]⟩ W (Ret W fun x _ => x = .bool true) := by
  have hM := (Mm.start (fun _ h => h.elim)).known hv
  have hw' : ∀ y ∈ l, y.length = 8 := hw
  have hin := fun j => runs_in (l := l) (j := j)
  have hasc : Asc l.length 0 (runs l) := runsF_asc l.length 0
  have hrl := runs_len (l := l)
  refine f_start Try.func9 rfl Try.ntmps9 rfl rfl ?_; intro a hF
  by_cases hlen : l.length ≤ 300
  case neg =>
    (repeat' (first | (with_reducible refine w_seq ?_) | (with_reducible refine c_region ?_) | (with_reducible refine s_nil ?_) | ((with_reducible apply s_call (f := 10) hF hM); exact rfl; exact rfl; exact rfl; exact rfl; exact rfl; exact (awake_c _ _ hM.lt); clear hF hM a; rintro v w a rfl - hM hF) | (with_reducible refine q_then_n ?_) | ((with_reducible apply s_pure hF); exact rfl; exact rfl; exact rfl; (first | exact trivial | omega | decide); clear hF a; intro a hF) | (with_reducible refine w_ret ?_) | (with_reducible refine q_then_r ?_) | ((with_reducible apply c_dec hF); exact rfl; all_goals intro hc; all_goals (try (exfalso; omega)))))
    all_goals (apply f_ret Try.results9 hF hM; (repeat (first | exact RL.nil | (apply RL.tmp; exact rfl) | (apply RL.cell; exact rfl; (repeat (first | exact List.mem_cons_self | refine List.mem_cons_of_mem _ ?_)); exact rfl))); refine Ret.mk hM.since ?_; dsimp only [resV])
  (repeat' (first | (with_reducible refine w_seq ?_) | (with_reducible refine c_region ?_) | (with_reducible refine s_nil ?_) | (with_reducible refine q_then_n ?_) | ((with_reducible apply s_pure hF); exact rfl; exact rfl; exact rfl; (first | exact trivial | omega | decide); clear hF a; intro a hF) | (with_reducible refine w_skip ?_) | ((with_reducible apply c_dec hF); exact rfl; all_goals intro hc; all_goals (try (exfalso; omega)))))
  apply s_make l.length hF hM
  iterate 7 exact rfl
  · omega
  clear hF hM a
  intro gb w a hM hF
  rw [show List.replicate l.length (Value.bool false) = (List.replicate l.length false).map Value.bool by simp] at hM
  (repeat (first | (with_reducible refine w_seq ?_) | (with_reducible refine c_region ?_) | (with_reducible refine s_nil ?_) | ((with_reducible apply s_call (f := 19) hF hM); exact rfl; exact rfl; exact rfl; exact rfl; exact rfl; exact (Runs_i (hM.facts _ (by with_reducible (repeat (first | exact List.mem_cons_self | refine List.mem_cons_of_mem _ ?_)))) hw rfl (by omega) hM.lt); clear hF hM a; rintro v w a ⟨a', c', rfl, hcr, hx⟩ - hM hF; replace hM := hM.addFact hx) | (with_reducible refine q_then_n ?_) | ((with_reducible apply s_pure hF); exact rfl; exact rfl; exact rfl; (first | exact trivial | omega | decide); clear hF a; intro a hF) | (with_reducible refine w_block ?_)))
  refine c_loop (m := (runs l).length) (fun m a w' => ∃ (k e : Nat) (I : List Bool), m + k = (runs l).length ∧ e ≤ l.length ∧ Asc l.length e ((runs l).drop k) ∧ I.length = l.length ∧ (∀ j, j < l.length → I[j]? = some (inR ((runs l).take k) j)) ∧
    Fr 88 [] [(19, .int .i64 k), (18, .int .i64 (runs l).length), (17, .slice a' (runs l).length c'), (4, .int .i64 e), (3, .slice (some ⟨gb, 0, none⟩) l.length l.length), (0, .slice a0 l.length c0)] a ∧
    Mm (fun _ => False) W [] [⟨4, 1, .slice (some ⟨gb, 0, none⟩) l.length l.length, l.length, I.map Value.bool⟩] [RdF (Value.int .i64) a' (extL (runs l)).flatten, RdF (Value.int .u8) a0 l.flatten] w')
    ⟨0, 0, _, by omega, by omega, hasc, by simp, fun j hj => by simp [hj, inR], hF.sub (by repeat (first | exact Sub.nil | refine Sub.cons rfl (by first | with_reducible rfl | (refine congrArg (Value.int _) ?_; omega) | exact rfl) ?_)), hM⟩ ?_
  clear hF hM a
  rintro m a w' ⟨k, e, I, hm, hel, hasc, hI, hIn, hF, hM⟩
  by_cases hk : k < (runs l).length
  · obtain ⟨⟨st, ct⟩, hxr⟩ := get_of_lt hk
    obtain ⟨b1, b2, b3, b4⟩ := asc_at hasc hxr
    simp only at b1 b2 b3 b4
    have hgx : (extL (runs l))[((k : Int)).toNat]? = some [(st : Int), (ct : Int)] := by rw [Int.toNat_natCast]; unfold extL; rw [List.getElem?_map, hxr]; rfl
    have hw2 := extL_2 (runs l)
    obtain ⟨ad1, rfl⟩ : ∃ ad, a' = some ad := rd_some hM (enc := Value.int .i64) (a := a') (xs := (extL (runs l)).flatten) (by (repeat (first | exact List.mem_cons_self | refine List.mem_cons_of_mem _ ?_))) (flat_get (q := 0) hw2 hgx rfl)
    have htk : ∀ j, inR ((runs l).take (k + 1)) j = (inR ((runs l).take k) j || (decide (st < j) && decide (j < st + ct))) := by
      intro j
      rw [List.take_add_one, hxr, inR_app]
      simp [inR]
    (repeat' (first | (with_reducible refine w_seq ?_) | (with_reducible refine c_region ?_) | (with_reducible refine s_nil ?_) | ((with_reducible apply s_loadS hF hM); exact rfl; exact rfl; (repeat (first | exact List.mem_cons_self | refine List.mem_cons_of_mem _ ?_)); exact rfl; exact rfl; (first | with_reducible assumption | (simp only [Int.toNat_natCast]; with_reducible assumption)); (with_reducible assumption); clear hF a; intro a hF) | (with_reducible refine q_then_n ?_) | ((with_reducible apply s_pure hF); exact rfl; exact rfl; exact rfl; (first | exact trivial | omega | decide); clear hF a; intro a hF) | ((with_reducible apply s_load hF hM); exact rfl; exact rfl; (repeat (first | exact List.mem_cons_self | refine List.mem_cons_of_mem _ ?_)); exact rfl; exact rfl; clear hF a; intro a hF) | ((with_reducible apply s_store hF hM); exact rfl; exact rfl; exact rfl; exact rfl; (repeat (first | exact Upd.z | apply Upd.s)); exact rfl; exact rfl; exact rfl; clear hM; intro w hM) | ((with_reducible apply s_alloc hF hM); exact rfl; exact rfl; exact rfl; clear hF hM a; intro b w a hM hF) | (with_reducible refine w_skip ?_) | (with_reducible refine w_block ?_) | ((with_reducible apply g_dec hF); exact rfl; exact rfl; all_goals (clear hF; intro hc hF); all_goals (try (exfalso; omega))) | ((with_reducible apply c_dec hF); exact rfl; all_goals intro hc; all_goals (try (exfalso; omega)))))
    refine c_loop (m := l.length) (fun q a w' => ∃ (i b6 : Nat) (I : List Bool), q + i = l.length + st + 1 ∧ st < i ∧ i ≤ st + ct ∧ I.length = l.length ∧ (∀ j, j < l.length → I[j]? = some (inR ((runs l).take k) j || (decide (st < j) && decide (j < i)))) ∧
      Fr 88 [] [(7, .int .i64 i), (4, .int .i64 ((st + ct : Nat) : Int)), (19, .int .i64 k), (18, .int .i64 (runs l).length), (17, .slice (some ad1) (runs l).length c'), (3, .slice (some ⟨gb, 0, none⟩) l.length l.length), (0, .slice a0 l.length c0)] a ∧
      Mm (fun _ => False) W [] [⟨4, 1, .slice (some ⟨gb, 0, none⟩) l.length l.length, l.length, I.map Value.bool⟩] [RdF (Value.int .i64) (some ad1) (extL (runs l)).flatten, RdF (Value.int .u8) a0 l.flatten] w')
      ⟨st + 1, b, I, by omega, by omega, by omega, hI, fun j hj => by rw [hIn j hj, show (decide (st < j) && decide (j < st + 1)) = false by simp; omega, Bool.or_false], hF.sub (by repeat (first | exact Sub.nil | refine Sub.cons rfl (by first | with_reducible rfl | (refine congrArg (Value.int _) ?_; omega) | exact rfl) ?_)), hM.sub (.cons _ (.refl _)) (.refl _) (fun _ h => h)⟩ ?_
    clear hF hM a
    rintro q a w' ⟨i, b6, I, hq, hi1, hi2, hI, hIn, hF, hM⟩
    by_cases hi : i < st + ct
    · (repeat' (first | (with_reducible refine w_seq ?_) | (with_reducible refine c_region ?_) | (with_reducible refine s_nil ?_) | ((with_reducible apply s_storeR hF hM); exact rfl; exact rfl; (repeat (first | exact Kth.z | apply Kth.s)); exact rfl; exact rfl; exact rfl; exact rfl; (first | assumption | omega | (simp only [List.length_set]; omega) | (simp only [Int.toNat_natCast, List.length_set]; omega)); clear hM; intro w hM; dsimp only [List.set] at hM) | (with_reducible refine q_then_n ?_) | ((with_reducible apply s_pure hF); exact rfl; exact rfl; exact rfl; (first | exact trivial | omega | decide); clear hF a; intro a hF) | (with_reducible refine w_skip ?_) | (with_reducible refine w_block ?_) | (with_reducible refine q_blk_n ?_) | ((with_reducible apply c_dec hF); exact rfl; all_goals intro hc; all_goals (try (exfalso; omega)))))
      refine ⟨q - 1, by omega, i + 1, b6, I.set i true, by omega, by omega, by omega, by simp [hI], ?_, hF.sub (by repeat (first | exact Sub.nil | refine Sub.cons rfl (by first | with_reducible rfl | (refine congrArg (Value.int _) ?_; omega) | exact rfl) ?_)), hM⟩
      intro j hj
      rw [List.getElem?_set]
      by_cases hij : i = j
      · subst hij
        rw [if_pos rfl, if_pos (by omega)]
        simp
        omega
      · rw [if_neg hij, hIn j hj]
        congr 2
        rw [Bool.eq_iff_iff]
        simp
        omega
    · obtain rfl : i = st + ct := by omega
      (repeat' (first | (with_reducible refine w_seq ?_) | (with_reducible refine c_region ?_) | (with_reducible refine s_nil ?_) | (with_reducible refine q_then_n ?_) | ((with_reducible apply s_pure hF); exact rfl; exact rfl; exact rfl; (first | exact trivial | omega | decide); clear hF a; intro a hF) | (with_reducible refine w_exit ?_) | (with_reducible refine q_then_x ?_) | (with_reducible refine q_blk_n ?_) | (with_reducible refine q_blk_x ?_) | ((with_reducible apply c_dec hF); exact rfl; all_goals intro hc; all_goals (try (exfalso; omega)))))
      exact ⟨m - 1, by omega, k + 1, st + ct, I, by omega, by omega, b4, hI, fun j hj => by rw [hIn j hj, htk j], hF.sub (by repeat (first | exact Sub.nil | refine Sub.cons rfl (by first | with_reducible rfl | (refine congrArg (Value.int _) ?_; omega) | exact rfl) ?_)), hM⟩
  · rw [List.take_of_length_le (by omega)] at hIn
    (repeat' (first | (with_reducible refine w_seq ?_) | (with_reducible refine c_region ?_) | (with_reducible refine s_nil ?_) | (with_reducible refine q_then_n ?_) | ((with_reducible apply s_pure hF); exact rfl; exact rfl; exact rfl; (first | exact trivial | omega | decide); clear hF a; intro a hF) | (with_reducible refine w_block ?_) | (with_reducible refine w_exit ?_) | (with_reducible refine q_then_x ?_) | (with_reducible refine q_blk_x ?_) | ((with_reducible apply c_dec hF); exact rfl; all_goals intro hc; all_goals (try (exfalso; omega)))))
    refine c_loop (m := l.length) (fun q a w' => ∃ (i : Nat), q + i = l.length + 1 ∧ 1 ≤ i ∧
      Fr 88 [] [(8, .int .i64 i), (3, .slice (some ⟨gb, 0, none⟩) l.length l.length), (0, .slice a0 l.length c0)] a ∧
      Mm (fun _ => False) W [] [⟨4, 1, .slice (some ⟨gb, 0, none⟩) l.length l.length, l.length, I.map Value.bool⟩] [RdF (Value.int .u8) a0 l.flatten] w')
      ⟨1, by omega, by omega, hF.sub (by repeat (first | exact Sub.nil | refine Sub.cons rfl (by first | with_reducible rfl | (refine congrArg (Value.int _) ?_; omega) | exact rfl) ?_)), hM.sub (.refl _) (.refl _) (by intro f hf; simp only [List.mem_cons, List.not_mem_nil, or_false] at hf; (repeat (rcases hf with rfl | hf; · (repeat (first | exact List.mem_cons_self | refine List.mem_cons_of_mem _ ?_)))); try (subst hf; (repeat (first | exact List.mem_cons_self | refine List.mem_cons_of_mem _ ?_))))⟩ ?_
    clear hF hM a
    rintro q a w' ⟨i, hq, hi1, hF, hM⟩
    by_cases hi : i < l.length
    · obtain ⟨s1, hs1⟩ := get_of_lt hi
      obtain ⟨s2, hs2⟩ := get_of_lt (l := l) (i := i - 1) (by omega)
      have hs18 := hw s1 (List.mem_of_getElem? hs1)
      have hs28 := hw s2 (List.mem_of_getElem? hs2)
      have hb := hIn i hi
      rw [hin i hi1 hi, hs1, hs2] at hb
      have hs2' : l[((i : Int) - 1).toNat]? = some s2 := by rw [show ((i : Int) - 1).toNat = i - 1 by omega]; exact hs2
      obtain ⟨ad, rfl⟩ : ∃ ad, a0 = some ad := rd_some hM (enc := Value.int .u8) (a := a0) (xs := l.flatten) (by (repeat (first | exact List.mem_cons_self | refine List.mem_cons_of_mem _ ?_))) (flat_get (q := 0) hw hs1 (List.getElem?_eq_getElem (by omega)))
      have hbb : decide (some s1 = some s2) = decide (s1 = s2) := by simp
      rw [hbb] at hb
      (repeat' (first | (with_reducible refine w_seq ?_) | (with_reducible refine c_region ?_) | (with_reducible refine s_nil ?_) | (with_reducible refine q_then_n ?_) | ((with_reducible apply s_pure hF); exact rfl; exact rfl; exact rfl; (first | exact trivial | omega | decide); clear hF a; intro a hF) | (with_reducible refine w_skip ?_) | (with_reducible refine w_block ?_) | ((with_reducible apply c_dec hF); exact rfl; all_goals intro hc; all_goals (try (exfalso; omega)))))
      refine c_draw (fun i => Nat.ble 15 i) hM ?_; clear hM; intro w hM
      (first | (refine t_pure (i := 0) hF rfl rfl rfl rfl (by kernel_rfl) hM.sm (fun _ _ _ h => h) ?_ ?_; (first | exact trivial | omega | decide); clear hF a; intro a hF))
      (first | (refine t_pure (i := 1) hF rfl rfl rfl rfl (by kernel_rfl) hM.sm (fun _ _ _ h => h) ?_ ?_; (first | exact trivial | omega | decide); clear hF a; intro a hF))
      (first | (refine t_pure (i := 2) hF rfl rfl rfl rfl (by kernel_rfl) hM.sm (fun _ _ _ h => h) ?_ ?_; (first | exact trivial | omega | decide); clear hF a; intro a hF))
      (first | (refine t_pure (i := 4) hF rfl rfl rfl rfl (by kernel_rfl) hM.sm (fun _ _ _ h => h) ?_ ?_; (first | exact trivial | omega | decide); clear hF a; intro a hF))
      (first | (refine t_pure (i := 5) hF rfl rfl rfl rfl (by kernel_rfl) hM.sm (fun _ _ _ h => h) ?_ ?_; (first | exact trivial | omega | decide); clear hF a; intro a hF))
      (first | (refine t_pure (i := 6) hF rfl rfl rfl rfl (by kernel_rfl) hM.sm (fun _ _ _ h => h) ?_ ?_; (first | exact trivial | omega | decide); clear hF a; intro a hF))
      (first | (apply t_loadS (i := 7) hF rfl rfl rfl; (repeat (first | exact List.mem_cons_self | refine List.mem_cons_of_mem _ ?_)); (first | with_reducible assumption | (simp only [Int.toNat_natCast]; with_reducible assumption)); (with_reducible assumption); exact rfl; exact rfl; kernel_rfl; exact hM.sm; exact (fun _ _ _ h => h); clear hF a; intro a hF))
      (first | (refine t_pure (i := 8) hF rfl rfl rfl rfl (by kernel_rfl) hM.sm (fun _ _ _ h => h) ?_ ?_; (first | exact trivial | omega | decide); clear hF a; intro a hF))
      (first | (refine t_pure (i := 9) hF rfl rfl rfl rfl (by kernel_rfl) hM.sm (fun _ _ _ h => h) ?_ ?_; (first | exact trivial | omega | decide); clear hF a; intro a hF))
      (first | (refine t_pure (i := 10) hF rfl rfl rfl rfl (by kernel_rfl) hM.sm (fun _ _ _ h => h) ?_ ?_; (first | exact trivial | omega | decide); clear hF a; intro a hF))
      (first | (refine t_pure (i := 11) hF rfl rfl rfl rfl (by kernel_rfl) hM.sm (fun _ _ _ h => h) ?_ ?_; (first | exact trivial | omega | decide); clear hF a; intro a hF))
      (first | (apply t_loadS (i := 12) hF rfl rfl rfl; (repeat (first | exact List.mem_cons_self | refine List.mem_cons_of_mem _ ?_)); (first | with_reducible assumption | (simp only [Int.toNat_natCast]; with_reducible assumption)); (with_reducible assumption); exact rfl; exact rfl; kernel_rfl; exact hM.sm; exact (fun _ _ _ h => h); clear hF a; intro a hF))
      (first | (apply t_eqA (i := 13) hF rfl rfl rfl rfl rfl; kernel_rfl; exact rfl; exact rfl; kernel_rfl; (first | with_reducible assumption | rfl); (first | with_reducible assumption | rfl); exact hM.sm; exact (fun _ _ _ h => h); clear hF a; intro a hF))
      refine t_one (i := 3) hF rfl (by kernel_rfl) rfl ?_
      intro K hK
      ((apply x_loadR hF hM); exact rfl; (repeat (first | exact List.mem_cons_self | refine List.mem_cons_of_mem _ ?_)); exact rfl; exact rfl; (first | with_reducible assumption | (simp only [Int.toNat_natCast]; with_reducible assumption)); clear hF a; intro a hF)
      refine hK _ _ (fun _ => (hM.sm.sub (fun x hx => by repeat (first | exact hx | refine List.mem_cons_of_mem _ ?_)) (fun _ h => by repeat (first | exact h | refine List.mem_cons_of_mem _ ?_)))) ?_; clear hK
      (first | (apply t_eqn (i := 14) hF rfl rfl rfl rfl rfl rfl rfl; kernel_rfl; exact (hM.sm.sub (fun x hx => by repeat (first | exact hx | refine List.mem_cons_of_mem _ ?_)) (fun _ h => by repeat (first | exact h | refine List.mem_cons_of_mem _ ?_))); exact (fun _ _ _ h => h); clear hF a; intro a hF))
      refine t_done (by kernel_rfl) ?_
      (repeat' (first | (with_reducible refine w_seq ?_) | (with_reducible refine c_region ?_) | (with_reducible refine s_nil ?_) | (with_reducible refine q_then_n ?_) | ((with_reducible apply s_pure hF); exact rfl; exact rfl; exact rfl; (first | exact trivial | omega | decide); clear hF a; intro a hF) | (with_reducible refine w_skip ?_) | (with_reducible refine w_ret ?_) | (with_reducible refine q_then_r ?_) | (with_reducible refine q_blk_n ?_) | (with_reducible refine q_blk_r ?_) | ((with_reducible apply c_ndec hF); exact rfl; all_goals intro hc; all_goals (try (exfalso; omega)))))
      · exact absurd rfl (by assumption)
      · exact ⟨q - 1, by omega, i + 1, by omega, by omega, hF.sub (by repeat (first | exact Sub.nil | refine Sub.cons rfl (by first | with_reducible rfl | (refine congrArg (Value.int _) ?_; omega) | exact rfl) ?_)), hM⟩
    · (repeat' (first | (with_reducible refine w_seq ?_) | (with_reducible refine c_region ?_) | (with_reducible refine s_nil ?_) | ((with_reducible apply s_call (f := 10) hF hM); exact rfl; exact rfl; exact rfl; exact rfl; exact rfl; exact (awake_c _ _ hM.lt); clear hF hM a; rintro v w a rfl - hM hF) | (with_reducible refine q_then_n ?_) | ((with_reducible apply s_pure hF); exact rfl; exact rfl; exact rfl; (first | exact trivial | omega | decide); clear hF a; intro a hF) | (with_reducible refine w_exit ?_) | (with_reducible refine w_ret ?_) | (with_reducible refine q_then_x ?_) | (with_reducible refine q_blk_x ?_) | ((with_reducible apply c_dec hF); exact rfl; all_goals intro hc; all_goals (try (exfalso; omega)))))
      (apply f_ret Try.results9 hF hM; (repeat (first | exact RL.nil | (apply RL.tmp; exact rfl) | (apply RL.cell; exact rfl; (repeat (first | exact List.mem_cons_self | refine List.mem_cons_of_mem _ ?_)); exact rfl))); refine Ret.mk hM.since ?_; dsimp only [resV])
end Go.Proofs.Ythcnnedgfndklaa
