/- Texts of this seat, one behind the other: D3 D4 D5 D6 D7 D8 Y1 Y2 Y3. -/
import Derived.Test.YtocgpllmfdnfjaaQ2
import Derived.Test.YtocgpllmfdnfjaaQ1
set_option linter.unusedSimpArgs false
set_option linter.unusedVariables false
set_option linter.unusedSectionVars false
set_option maxRecDepth 3000
/- dictionary: the best match at a place. -/
namespace Go.Proofs.Ytocgpllmfdnfjaa
open Go.RowKit Go.Shelf
theorem mlenF_ge {all : List Int} {p t : Nat} : ∀ (f n k : Nat), k ≤ n + f → n ≤ k → (k ≤ mlenF all p t f n ↔ ∀ j, n ≤ j → j < k → t + j < all.length ∧ all[p + j]? = all[t + j]?)
  | 0, n, k, h, h2 => by
    rw [mlenF]
    exact ⟨fun _ j h3 h4 => by omega, fun _ => by omega⟩
  | f + 1, n, k, h, h2 => by
    rw [mlenF]
    by_cases hk : k = n
    · subst hk
      refine ⟨fun _ j h3 h4 => by omega, fun _ => ?_⟩
      split
      · have := (mlenF_le all p t f (k + 1)).1; omega
      · exact Nat.le_refl _
    · split
      · rename_i hc
        rw [mlenF_ge f (n + 1) k (by omega) (by omega)]
        refine ⟨fun h3 j h4 h5 => ?_, fun h3 j h4 h5 => h3 j (by omega) h5⟩
        by_cases hj : j = n
        · subst hj; exact hc
        · exact h3 j (by omega) h5
      · rename_i hc
        refine ⟨fun h3 => by omega, fun h3 => absurd (h3 n (Nat.le_refl _) (by omega)) hc⟩
theorem mlen_ge {all : List Int} {p t k : Nat} (hk : k ≤ 131) : k ≤ mlen all p t ↔ ∀ j < k, t + j < all.length ∧ all[p + j]? = all[t + j]? := by
  unfold mlen
  rw [mlenF_ge 131 0 k (by omega) (by omega)]
  exact ⟨fun h j hj => h j (by omega) hj, fun h j _ hj => h j hj⟩
theorem keyV_get {all : List Int} {i j : Nat} (h : i + 4 ≤ all.length) (hj : j < 4) : (keyV all i)[j]? = all[i + j]? := by
  unfold keyV
  rw [if_pos h, List.getElem?_take, if_pos hj, List.getElem?_drop]
/-- Four bytes the same: the same key. -/
theorem mlen_key {all : List Int} {p t : Nat} (hp : p < t) : 4 ≤ mlen all p t ↔ t + 4 ≤ all.length ∧ keyV all p = keyV all t := by
  rw [mlen_ge (by omega)]
  constructor
  · intro h
    have h3 := (h 3 (by omega)).1
    refine ⟨by omega, ?_⟩
    apply List.ext_getElem?
    intro j
    by_cases hj : j < 4
    · rw [keyV_get (by omega) hj, keyV_get (by omega) hj]
      exact (h j hj).2
    · rw [List.getElem?_eq_none (by rw [keyV_len]; omega), List.getElem?_eq_none (by rw [keyV_len]; omega)]
  · rintro ⟨h1, h2⟩ j hj
    refine ⟨by omega, ?_⟩
    rw [← keyV_get (by omega) hj, ← keyV_get (by omega) hj, h2]
/-- The best match among the nearest D distances. -/
def bstep (all : List Int) (t : Nat) (s : Nat × Nat) (d : Nat) : Nat × Nat := if 4 ≤ mlen all (t - d) t ∧ s.2 < mlen all (t - d) t then (d, mlen all (t - d) t) else s
def bestTo (all : List Int) (t : Nat) : Nat → Nat × Nat
  | 0 => (0, 0)
  | D + 1 => bstep all t (bestTo all t D) (D + 1)
def best (all : List Int) (t : Nat) : Nat × Nat := bestTo all t (min 4096 t)
theorem bestTo_skip {all : List Int} {t D : Nat} : ∀ {D' : Nat}, D ≤ D' → (∀ d, D < d → d ≤ D' → ¬ 4 ≤ mlen all (t - d) t) → bestTo all t D' = bestTo all t D
  | 0, h, _ => by rw [show D = 0 by omega]
  | D' + 1, h, h2 => by
    by_cases e : D = D' + 1
    · rw [e]
    · rw [bestTo, bstep, if_neg (fun h3 => h2 (D' + 1) (by omega) (by omega) h3.1)]
      exact bestTo_skip (by omega) (fun d h3 h4 => h2 d h3 (by omega))
theorem bestTo_le (all : List Int) (t : Nat) : ∀ D : Nat, (bestTo all t D).2 ≤ 131
  | 0 => by simp [bestTo]
  | D + 1 => by
    rw [bestTo, bstep]
    split
    · exact mlen_le _ _ _
    · exact bestTo_le all t D
theorem bestTo_full {all : List Int} {t D : Nat} (h : 131 ≤ (bestTo all t D).2) : ∀ {D' : Nat}, D ≤ D' → bestTo all t D' = bestTo all t D
  | 0, h1 => by rw [show D = 0 by omega]
  | D' + 1, h1 => by
    by_cases e : D = D' + 1
    · rw [e]
    · have := bestTo_full h (D' := D') (by omega)
      rw [bestTo, bstep, this, if_neg ?_]
      have := mlen_le all (t - (D' + 1)) t
      omega
/-- The places before n with a key. -/
def plc (all : List Int) (n : Nat) (k : List Int) : List Nat := (List.range n).filter fun i => decide (i + 4 ≤ all.length ∧ keyV all i = k)
theorem plc_succ (all : List Int) (n : Nat) (k : List Int) : plc all (n + 1) k = if n + 4 ≤ all.length ∧ k = keyV all n then plc all n k ++ [n] else plc all n k := by
  unfold plc
  rw [List.range_succ, List.filter_append]
  by_cases h : n + 4 ≤ all.length ∧ k = keyV all n
  · rw [if_pos h, List.filter_cons_of_pos (by simp [h.1, h.2]), List.filter_nil]
  · rw [if_neg h, List.filter_cons_of_neg (by simp only [decide_eq_true_eq]; exact fun q => h ⟨q.1, q.2.symm⟩), List.filter_nil, List.append_nil]
theorem plc_len (all : List Int) (n : Nat) (k : List Int) : (plc all n k).length ≤ n := by
  unfold plc
  exact Nat.le_trans (List.length_filter_le _ _) (by simp)
theorem plc_mem {all : List Int} {n : Nat} {k : List Int} {p : Nat} : p ∈ plc all n k ↔ p < n ∧ p + 4 ≤ all.length ∧ keyV all p = k := by
  unfold plc
  simp
theorem plc_sorted (all : List Int) (n : Nat) (k : List Int) {i j : Nat} {x y : Nat} (h : i ≤ j) (hx : (plc all n k)[i]? = some x) (hy : (plc all n k)[j]? = some y) : x ≤ y := by
  have hs : (plc all n k).Pairwise (· < ·) := List.Pairwise.filter _ List.pairwise_lt_range
  rcases Nat.lt_or_eq_of_le h with h | rfl
  · obtain ⟨h1, rfl⟩ := List.getElem?_eq_some_iff.1 hx
    obtain ⟨h2, rfl⟩ := List.getElem?_eq_some_iff.1 hy
    exact Nat.le_of_lt (List.pairwise_iff_getElem.1 hs i j h1 h2 h)
  · rw [hx] at hy; injection hy with hy; omega
section
variable (all : List Int) (hlen : all.length ≤ 1000000) (a0 : Option Addr) (c0 : Nat) (hc0 : all.length ≤ c0) (eb t mb : Nat) (tv wv : Value) (own : Nat → Prop) (W : World) (hl : ∀ b, own b → b < W.heap.size) (hb : Has own W (BxF eb [tv, wv, .slice a0 all.length c0, .int .i64 t, .map (some mb)] 51)) (hv : Has own W (RdF (Value.int .u8) a0 all))
  (E : Pl) (hE : PlOk E) (hm : Has own W (MpE kA mb (esOf E))) (ps : List Nat) (hps : ps = plc all t (keyV all t)) (ao : Option Addr) (cp : Nat) (hsv : (kadd (keyV all t) (.slice none 0 0) (esOf E)).2.2 = .slice ao ps.length cp) (hr : Has own W (RdF nE ao ps))
include hlen hc0 hl hb hv hE hm hps hsv hr
set_option maxRecDepth 20000 in
theorem best_c (ht : t ≤ all.length) : Calls Try.prog 25 ⟨[.pointer (some ⟨eb, 0, none⟩)]⟩ W (Ret W fun v _ => v = .tuple #[.int .i64 (best all t).1, .int .i64 (best all t).2]) := by
  have hM := (((Mm.start hl).known hv).known hb).known hm
  replace hM := hM.known hr
  have hkl := keyV_len all t
  have hpl : ps.length ≤ t := hps ▸ plc_len _ _ _
  refine f_start Try.func25 rfl Try.ntmps25 rfl rfl ?_; intro a hF
  (repeat (first | (with_reducible refine w_seq ?_) | (with_reducible refine c_region ?_) | (with_reducible refine s_nil ?_) | ((with_reducible apply s_call (f := 42) hF hM); exact rfl; exact rfl; exact rfl; exact rfl; exact rfl; exact (key_c all hlen a0 c0 hc0 eb t mb tv wv _ _ hM.lt (hM.facts _ (by (repeat (first | exact List.mem_cons_self | refine List.mem_cons_of_mem _ ?_)))) (hM.facts _ (by (repeat (first | exact List.mem_cons_self | refine List.mem_cons_of_mem _ ?_)))) t _ rfl (by omega)); clear hF hM a; rintro v w a rfl - hM hF) | (with_reducible refine q_then_n ?_) | ((with_reducible apply s_pure hF); exact rfl; exact rfl; exact rfl; (first | exact trivial | omega | exact ⟨Int.natCast_nonneg _, Int.ofNat_lt.2 (by assumption)⟩ | decide); clear hF a; intro a hF) | ((with_reducible apply s_loadK hF hM); exact rfl; exact rfl; (repeat (first | exact List.mem_cons_self | refine List.mem_cons_of_mem _ ?_)); exact rfl; exact rfl; clear hF a; intro a hF) | ((with_reducible apply s_alloc hF hM); exact rfl; exact rfl; exact rfl; clear hF hM a; intro b w a hM hF)))
  generalize hkv : keyV all t = k at *
  obtain ⟨k0, k1, k2, k3, rfl⟩ : ∃ k0 k1 k2 k3, k = [k0, k1, k2, k3] := by
    match k, hkl with
    | [k0, k1, k2, k3], _ => exact ⟨k0, k1, k2, k3, rfl⟩
  (repeat (first | (with_reducible refine w_seq ?_) | (with_reducible refine c_region ?_) | (with_reducible refine s_nil ?_) | (with_reducible refine q_then_n ?_) | ((with_reducible apply s_pure hF); exact rfl; exact rfl; exact rfl; (first | exact trivial | omega | exact ⟨Int.natCast_nonneg _, Int.ofNat_lt.2 (by assumption)⟩ | decide); clear hF a; intro a hF) | ((with_reducible apply s_store hF hM); exact rfl; exact rfl; exact rfl; exact rfl; (repeat (first | exact Upd.z | apply Upd.s)); exact rfl; exact rfl; exact rfl; clear hM; intro w hM)))
  by_cases h4 : t + 4 ≤ all.length
  · rw [decide_eq_true h4] at hF
    (repeat (first | (with_reducible refine w_seq ?_) | (with_reducible refine c_region ?_) | (with_reducible refine s_nil ?_) | (with_reducible refine q_then_n ?_) | ((with_reducible apply s_pure hF); exact rfl; exact rfl; exact rfl; (first | exact trivial | omega | exact ⟨Int.natCast_nonneg _, Int.ofNat_lt.2 (by assumption)⟩ | decide); clear hF a; intro a hF) | (with_reducible refine w_skip ?_) | ((with_reducible apply c_false2 hF); exact rfl; (first | with_reducible rfl | (refine congrArg Value.bool ?_; focus (simp; done))))))
    refine c_draw (fun i => Nat.ble 7 i) hM ?_; clear hM; intro w hM
    (first | (refine t_pure (i := 0) hF rfl rfl rfl rfl (by kernel_rfl) hM.sm (fun _ _ _ h => h) ?_ ?_; (first | exact trivial | omega | decide); clear hF a; intro a hF))
    (first | (refine t_pure (i := 1) hF rfl rfl rfl rfl (by kernel_rfl) hM.sm (fun _ _ _ h => h) ?_ ?_; (first | exact trivial | omega | decide); clear hF a; intro a hF))
    (first | (refine t_pure (i := 2) hF rfl rfl rfl rfl (by kernel_rfl) hM.sm (fun _ _ _ h => h) ?_ ?_; (first | exact trivial | omega | decide); clear hF a; intro a hF))
    (first | (apply t_loadK (i := 3) hF rfl rfl rfl; (repeat (first | exact List.mem_cons_self | refine List.mem_cons_of_mem _ ?_)); exact rfl; exact rfl; kernel_rfl; exact hM.sm; exact (fun _ _ _ h => h); clear hF a; intro a hF))
    (first | (apply t_load (i := 4) hF rfl rfl rfl; (repeat (first | exact List.mem_cons_self | refine List.mem_cons_of_mem _ ?_)); exact rfl; exact rfl; kernel_rfl; exact hM.sm; exact (fun _ _ _ h => h); clear hF a; intro a hF))
    refine t_one (i := 5) hF rfl (by kernel_rfl) rfl ?_
    intro K hK
    (refine upon_value (e_lookupE (ek := kA) (z := .slice none 0 0) (keyOk_arr (k := .u8) (m := 4) (e := 5) (kt := 67) rfl rfl rfl rfl) hF hM rfl (x := [k0, k1, k2, k3]) rfl rfl (by (repeat (first | exact List.mem_cons_self | refine List.mem_cons_of_mem _ ?_))) hkl hE.es) ?_; rw [hsv]; replace hF := hF.put (d := 27) rfl (.slice ao ps.length cp); generalize a.put (some 27) _ = a at *)
    refine hK _ _ (fun _ => (hM.sm.sub (fun x hx => by repeat (first | exact hx | refine List.mem_cons_of_mem _ ?_)) (fun _ h => by repeat (first | exact h | refine List.mem_cons_of_mem _ ?_)))) ?_; clear hK
    (first | (refine t_pure (i := 6) hF rfl rfl rfl rfl (by kernel_rfl) (hM.sm.sub (fun x hx => by repeat (first | exact hx | refine List.mem_cons_of_mem _ ?_)) (fun _ h => by repeat (first | exact h | refine List.mem_cons_of_mem _ ?_))) (fun _ _ _ h => h) ?_ ?_; (first | exact trivial | omega | decide); clear hF a; intro a hF))
    refine t_done (by kernel_rfl) ?_
    (repeat (first | (with_reducible refine w_seq ?_) | (with_reducible refine c_region ?_) | (with_reducible refine s_nil ?_) | (with_reducible refine q_then_n ?_) | ((with_reducible apply s_pure hF); exact rfl; exact rfl; exact rfl; (first | exact trivial | omega | exact ⟨Int.natCast_nonneg _, Int.ofNat_lt.2 (by assumption)⟩ | decide); clear hF a; intro a hF) | (with_reducible refine w_block ?_)))
    refine c_loop (m := ps.length) (fun r a w' => ∃ D : Nat, r ≤ ps.length ∧ D ≤ min 4096 t ∧ (∀ j x, ps[j]? = some x → j < r → x + D < t) ∧ (∀ j x, ps[j]? = some x → r ≤ j → t ≤ x + D) ∧
      Fr 72 [] [(6, .int .i64 (bestTo all t D).1), (7, .int .i64 (bestTo all t D).2), (9, .int .i64 ((r : Int) - 1)), (8, .slice ao ps.length cp), (0, .pointer (some ⟨eb, 0, none⟩))] a ∧
      Mm own W [] [] [RdF nE ao ps, MpE kA mb (esOf E), BxF eb [tv, wv, .slice a0 all.length c0, .int .i64 t, .map (some mb)] 51, RdF (Value.int .u8) a0 all] w')
      ⟨0, Nat.le_refl _, by omega, fun j x hx _ => ?_, fun j x hx hj => ?_, hF.sub (by repeat (first | exact Sub.nil | refine Sub.cons rfl (by first | with_reducible rfl | (refine congrArg (Value.int _) ?_; omega) | exact rfl) ?_)), hM.sub (List.nil_sublist _) (.refl _) (fun _ h => h)⟩ ?_
    · have := (plc_mem.1 (hps ▸ List.mem_of_getElem? hx)).1; omega
    · have := (List.getElem?_eq_some_iff.1 hx).1; omega
    clear hF hM a
    rintro r a w' ⟨D, hrl, hD, hlo, hhi, hF, hM⟩
    have hnext : ∀ D', D ≤ D' → D' ≤ t → (∀ j x, ps[j]? = some x → j < r → x + D' < t) → bestTo all t D' = bestTo all t D := by
      intro D' h1 h2 h3
      refine bestTo_skip h1 (fun d h5 h6 h7 => ?_)
      obtain ⟨h8, h9⟩ := (mlen_key (by omega)).1 h7
      have hmem : t - d ∈ ps := by rw [hps]; exact plc_mem.2 ⟨by omega, by omega, by rw [h9, hkv]⟩
      obtain ⟨j, hj⟩ := List.mem_iff_getElem?.1 hmem
      by_cases hjr : j < r
      · have := h3 j _ hj hjr; omega
      · have := hhi j _ hj (by omega); omega
    cases r with
    | zero =>
      have hbest : best all t = bestTo all t D := hnext _ hD (by omega) (fun j x _ h => by omega)
      with_reducible refine w_seq ?_
      with_reducible refine w_seq ?_
      refine c_draw (fun i => Nat.ble 18 i) hM ?_; clear hM; intro w hM
      (first | (refine t_pure (i := 0) hF rfl rfl rfl rfl (by kernel_rfl) hM.sm (fun _ _ _ h => h) ?_ ?_; (first | exact trivial | omega | decide); clear hF a; intro a hF))
      (first | (refine t_pure (i := 1) hF rfl rfl rfl rfl (by kernel_rfl) hM.sm (fun _ _ _ h => h) ?_ ?_; (first | exact trivial | omega | decide); clear hF a; intro a hF))
      rw [show decide ((((0 : Nat) : Int) - 1) ≥ 0) = false from decide_eq_false (by omega)] at hF
      (first | (refine t_pure (i := 2) hF rfl rfl rfl rfl (by kernel_rfl) (hM.sm.sub (fun x hx => by repeat (first | exact hx | refine List.mem_cons_of_mem _ ?_)) (fun _ h => by repeat (first | exact h | refine List.mem_cons_of_mem _ ?_))) (fun _ _ _ h => h) ?_ ?_; (first | exact trivial | omega | decide); clear hF a; intro a hF))
      (first | (refine t_skip (i := 3) hF rfl rfl rfl (by kernel_rfl) (hM.sm.sub (fun x hx => by repeat (first | exact hx | refine List.mem_cons_of_mem _ ?_)) (fun _ h => by repeat (first | exact h | refine List.mem_cons_of_mem _ ?_))) (fun _ _ _ h => h) ?_; clear hF a; intro a hF))
      (first | (refine t_skip (i := 4) hF rfl rfl rfl (by kernel_rfl) (hM.sm.sub (fun x hx => by repeat (first | exact hx | refine List.mem_cons_of_mem _ ?_)) (fun _ h => by repeat (first | exact h | refine List.mem_cons_of_mem _ ?_))) (fun _ _ _ h => h) ?_; clear hF a; intro a hF))
      (first | (refine t_skip (i := 5) hF rfl rfl rfl (by kernel_rfl) (hM.sm.sub (fun x hx => by repeat (first | exact hx | refine List.mem_cons_of_mem _ ?_)) (fun _ h => by repeat (first | exact h | refine List.mem_cons_of_mem _ ?_))) (fun _ _ _ h => h) ?_; clear hF a; intro a hF))
      (first | (refine t_skip (i := 6) hF rfl rfl rfl (by kernel_rfl) (hM.sm.sub (fun x hx => by repeat (first | exact hx | refine List.mem_cons_of_mem _ ?_)) (fun _ h => by repeat (first | exact h | refine List.mem_cons_of_mem _ ?_))) (fun _ _ _ h => h) ?_; clear hF a; intro a hF))
      (first | (refine t_skip (i := 7) hF rfl rfl rfl (by kernel_rfl) (hM.sm.sub (fun x hx => by repeat (first | exact hx | refine List.mem_cons_of_mem _ ?_)) (fun _ h => by repeat (first | exact h | refine List.mem_cons_of_mem _ ?_))) (fun _ _ _ h => h) ?_; clear hF a; intro a hF))
      (first | (refine t_skip (i := 8) hF rfl rfl rfl (by kernel_rfl) (hM.sm.sub (fun x hx => by repeat (first | exact hx | refine List.mem_cons_of_mem _ ?_)) (fun _ h => by repeat (first | exact h | refine List.mem_cons_of_mem _ ?_))) (fun _ _ _ h => h) ?_; clear hF a; intro a hF))
      (first | (refine t_skip (i := 9) hF rfl rfl rfl (by kernel_rfl) (hM.sm.sub (fun x hx => by repeat (first | exact hx | refine List.mem_cons_of_mem _ ?_)) (fun _ h => by repeat (first | exact h | refine List.mem_cons_of_mem _ ?_))) (fun _ _ _ h => h) ?_; clear hF a; intro a hF))
      (first | (refine t_skip (i := 10) hF rfl rfl rfl (by kernel_rfl) (hM.sm.sub (fun x hx => by repeat (first | exact hx | refine List.mem_cons_of_mem _ ?_)) (fun _ h => by repeat (first | exact h | refine List.mem_cons_of_mem _ ?_))) (fun _ _ _ h => h) ?_; clear hF a; intro a hF))
      (first | (refine t_skip (i := 11) hF rfl rfl rfl (by kernel_rfl) (hM.sm.sub (fun x hx => by repeat (first | exact hx | refine List.mem_cons_of_mem _ ?_)) (fun _ h => by repeat (first | exact h | refine List.mem_cons_of_mem _ ?_))) (fun _ _ _ h => h) ?_; clear hF a; intro a hF))
      (first | (refine t_skip (i := 12) hF rfl rfl rfl (by kernel_rfl) (hM.sm.sub (fun x hx => by repeat (first | exact hx | refine List.mem_cons_of_mem _ ?_)) (fun _ h => by repeat (first | exact h | refine List.mem_cons_of_mem _ ?_))) (fun _ _ _ h => h) ?_; clear hF a; intro a hF))
      (first | (refine t_pure (i := 13) hF rfl rfl rfl rfl (by kernel_rfl) (hM.sm.sub (fun x hx => by repeat (first | exact hx | refine List.mem_cons_of_mem _ ?_)) (fun _ h => by repeat (first | exact h | refine List.mem_cons_of_mem _ ?_))) (fun _ _ _ h => h) ?_ ?_; (first | exact trivial | omega | decide); clear hF a; intro a hF))
      (first | (refine t_pure (i := 14) hF rfl rfl rfl rfl (by kernel_rfl) (hM.sm.sub (fun x hx => by repeat (first | exact hx | refine List.mem_cons_of_mem _ ?_)) (fun _ h => by repeat (first | exact h | refine List.mem_cons_of_mem _ ?_))) (fun _ _ _ h => h) ?_ ?_; (first | exact trivial | omega | decide); clear hF a; intro a hF))
      (first | (refine t_skip (i := 15) hF rfl rfl rfl (by kernel_rfl) (hM.sm.sub (fun x hx => by repeat (first | exact hx | refine List.mem_cons_of_mem _ ?_)) (fun _ h => by repeat (first | exact h | refine List.mem_cons_of_mem _ ?_))) (fun _ _ _ h => h) ?_; clear hF a; intro a hF))
      (first | (refine t_skip (i := 16) hF rfl rfl rfl (by kernel_rfl) (hM.sm.sub (fun x hx => by repeat (first | exact hx | refine List.mem_cons_of_mem _ ?_)) (fun _ h => by repeat (first | exact h | refine List.mem_cons_of_mem _ ?_))) (fun _ _ _ h => h) ?_; clear hF a; intro a hF))
      (first | (refine t_pure (i := 17) hF rfl rfl rfl rfl (by kernel_rfl) (hM.sm.sub (fun x hx => by repeat (first | exact hx | refine List.mem_cons_of_mem _ ?_)) (fun _ h => by repeat (first | exact h | refine List.mem_cons_of_mem _ ?_))) (fun _ _ _ h => h) ?_ ?_; (first | exact trivial | omega | decide); clear hF a; intro a hF))
      refine t_done (by kernel_rfl) ?_
      (repeat' (first | (with_reducible refine w_seq ?_) | (with_reducible refine c_region ?_) | (with_reducible refine s_nil ?_) | (with_reducible refine q_then_n ?_) | ((with_reducible apply s_pure hF); exact rfl; exact rfl; exact rfl; (first | exact trivial | omega | exact ⟨Int.natCast_nonneg _, Int.ofNat_lt.2 (by assumption)⟩ | decide); clear hF a; intro a hF) | (with_reducible refine w_exit ?_) | (with_reducible refine w_ret ?_) | (with_reducible refine q_then_x ?_) | (with_reducible refine q_blk_x ?_) | ((with_reducible apply c_false2 hF); exact rfl; (first | with_reducible rfl | (refine congrArg Value.bool ?_; focus (simp; done))))))
      (apply f_ret Try.results25 hF hM; (repeat (first | exact RL.nil | (apply RL.tmp; exact rfl) | (apply RL.cell; exact rfl; (repeat (first | exact List.mem_cons_self | refine List.mem_cons_of_mem _ ?_)); exact rfl))); refine Ret.mk hM.since ?_; dsimp only [resV])
      rw [hbest]
    | succ r =>
      obtain ⟨x, hx⟩ := get_of_lt (l := ps) (i := r) (by omega)
      have hxt := hlo r x hx (by omega)
      have hx' : ps[(((r + 1 : Nat) : Int) - 1).toNat]? = some x := by rw [show (((r + 1 : Nat) : Int) - 1).toNat = r by omega]; exact hx
      obtain ⟨ad, rfl⟩ : ∃ ad, ao = some ad := rd_some hM (by (repeat (first | exact List.mem_cons_self | refine List.mem_cons_of_mem _ ?_))) hx
      have hxk := (plc_mem.1 (hps ▸ List.mem_of_getElem? hx)).2
      have hsort : ∀ j y, ps[j]? = some y → j < r + 1 → y ≤ x := fun j y hy hj => plc_sorted all t _ (show j ≤ r by omega) (hps ▸ hy) (hps ▸ hx)
      by_cases h96 : t ≤ x + 4096
      · by_cases h131 : (bestTo all t D).2 < 131
        · have hstep : bestTo all t (t - x) = if (bestTo all t D).2 < mlen all x t then (t - x, mlen all x t) else bestTo all t D := by
            have h1 := hnext (t - x - 1) (by omega) (by omega) (fun j y hy hj => by have := hsort j y hy hj; omega)
            have h2 : 4 ≤ mlen all x t := (mlen_key (by omega)).2 ⟨h4, by rw [hxk.2, hkv]⟩
            obtain ⟨q, hq⟩ : ∃ q, t - x = q + 1 := ⟨t - x - 1, by omega⟩
            rw [hq, bestTo, bstep, show q = t - x - 1 by omega, h1, show t - (t - x - 1 + 1) = x by omega, show t - x - 1 + 1 = t - x by omega]
            by_cases h3 : (bestTo all t D).2 < mlen all x t
            · rw [if_pos ⟨h2, h3⟩, if_pos h3]
            · rw [if_neg (fun h => h3 h.2), if_neg h3]
          have hlo' : ∀ j y, ps[j]? = some y → j < r → y + (t - x) < t := by
            intro j y hy hj
            have h1 : y ≤ x := hsort j y hy (by omega)
            have h2 : y ≠ x := by
              intro e
              have hs : ps.Pairwise (· < ·) := by rw [hps]; exact List.Pairwise.filter _ List.pairwise_lt_range
              obtain ⟨p1, p2⟩ := List.getElem?_eq_some_iff.1 hy
              obtain ⟨p3, p4⟩ := List.getElem?_eq_some_iff.1 hx
              have := List.pairwise_iff_getElem.1 hs j r p1 p3 hj
              omega
            omega
          have hhi' : ∀ j y, ps[j]? = some y → r ≤ j → t ≤ y + (t - x) := by
            intro j y hy hj
            by_cases e : j = r
            · subst e; rw [hx] at hy; injection hy with hy; omega
            · have := hhi j y hy (by omega); omega
          with_reducible refine w_seq ?_
          with_reducible refine w_seq ?_
          refine c_draw (fun i => Nat.ble 18 i) hM ?_; clear hM; intro w hM
          (first | (refine t_pure (i := 0) hF rfl rfl rfl rfl (by kernel_rfl) hM.sm (fun _ _ _ h => h) ?_ ?_; (first | exact trivial | omega | decide); clear hF a; intro a hF))
          (first | (refine t_pure (i := 1) hF rfl rfl rfl rfl (by kernel_rfl) hM.sm (fun _ _ _ h => h) ?_ ?_; (first | exact trivial | omega | decide); clear hF a; intro a hF))
          rw [show decide ((((r + 1 : Nat) : Int) - 1) ≥ 0) = true from decide_eq_true (by omega)] at hF
          (first | (refine t_pure (i := 2) hF rfl rfl rfl rfl (by kernel_rfl) (hM.sm.sub (fun x hx => by repeat (first | exact hx | refine List.mem_cons_of_mem _ ?_)) (fun _ h => by repeat (first | exact h | refine List.mem_cons_of_mem _ ?_))) (fun _ _ _ h => h) ?_ ?_; (first | exact trivial | omega | decide); clear hF a; intro a hF))
          (first | (refine t_pure (i := 3) hF rfl rfl rfl rfl (by kernel_rfl) (hM.sm.sub (fun x hx => by repeat (first | exact hx | refine List.mem_cons_of_mem _ ?_)) (fun _ h => by repeat (first | exact h | refine List.mem_cons_of_mem _ ?_))) (fun _ _ _ h => h) ?_ ?_; (first | exact trivial | omega | decide); clear hF a; intro a hF))
          (first | (refine t_pure (i := 4) hF rfl rfl rfl rfl (by kernel_rfl) (hM.sm.sub (fun x hx => by repeat (first | exact hx | refine List.mem_cons_of_mem _ ?_)) (fun _ h => by repeat (first | exact h | refine List.mem_cons_of_mem _ ?_))) (fun _ _ _ h => h) ?_ ?_; (first | exact trivial | omega | decide); clear hF a; intro a hF))
          (first | (refine t_pure (i := 5) hF rfl rfl rfl rfl (by kernel_rfl) (hM.sm.sub (fun x hx => by repeat (first | exact hx | refine List.mem_cons_of_mem _ ?_)) (fun _ h => by repeat (first | exact h | refine List.mem_cons_of_mem _ ?_))) (fun _ _ _ h => h) ?_ ?_; (first | exact trivial | omega | decide); clear hF a; intro a hF))
          (first | (apply t_loadK (i := 6) hF rfl rfl rfl; (repeat (first | exact List.mem_cons_self | refine List.mem_cons_of_mem _ ?_)); exact rfl; exact rfl; kernel_rfl; exact (hM.sm.sub (fun x hx => by repeat (first | exact hx | refine List.mem_cons_of_mem _ ?_)) (fun _ h => by repeat (first | exact h | refine List.mem_cons_of_mem _ ?_))); exact (fun _ _ _ h => h); clear hF a; intro a hF))
          (first | (refine t_pure (i := 7) hF rfl rfl rfl rfl (by kernel_rfl) (hM.sm.sub (fun x hx => by repeat (first | exact hx | refine List.mem_cons_of_mem _ ?_)) (fun _ h => by repeat (first | exact h | refine List.mem_cons_of_mem _ ?_))) (fun _ _ _ h => h) ?_ ?_; (first | exact trivial | omega | decide); clear hF a; intro a hF))
          (first | (refine t_pure (i := 8) hF rfl rfl rfl rfl (by kernel_rfl) (hM.sm.sub (fun x hx => by repeat (first | exact hx | refine List.mem_cons_of_mem _ ?_)) (fun _ h => by repeat (first | exact h | refine List.mem_cons_of_mem _ ?_))) (fun _ _ _ h => h) ?_ ?_; (first | exact trivial | omega | decide); clear hF a; intro a hF))
          (first | (refine t_pure (i := 9) hF rfl rfl rfl rfl (by kernel_rfl) (hM.sm.sub (fun x hx => by repeat (first | exact hx | refine List.mem_cons_of_mem _ ?_)) (fun _ h => by repeat (first | exact h | refine List.mem_cons_of_mem _ ?_))) (fun _ _ _ h => h) ?_ ?_; (first | exact trivial | omega | decide); clear hF a; intro a hF))
          (first | (apply t_loadF (i := 10) hF rfl rfl rfl; (repeat (first | exact List.mem_cons_self | refine List.mem_cons_of_mem _ ?_)); (first | with_reducible assumption | (simp only [Int.toNat_natCast]; with_reducible assumption)); exact rfl; exact rfl; kernel_rfl; exact (hM.sm.sub (fun x hx => by repeat (first | exact hx | refine List.mem_cons_of_mem _ ?_)) (fun _ h => by repeat (first | exact h | refine List.mem_cons_of_mem _ ?_))); exact (fun _ _ _ h => h); clear hF a; intro a hF))
          (first | (refine t_pure (i := 11) hF rfl rfl rfl rfl (by kernel_rfl) (hM.sm.sub (fun x hx => by repeat (first | exact hx | refine List.mem_cons_of_mem _ ?_)) (fun _ h => by repeat (first | exact h | refine List.mem_cons_of_mem _ ?_))) (fun _ _ _ h => h) ?_ ?_; (first | exact trivial | omega | decide); clear hF a; intro a hF))
          (first | (refine t_pure (i := 12) hF rfl rfl rfl rfl (by kernel_rfl) (hM.sm.sub (fun x hx => by repeat (first | exact hx | refine List.mem_cons_of_mem _ ?_)) (fun _ h => by repeat (first | exact h | refine List.mem_cons_of_mem _ ?_))) (fun _ _ _ h => h) ?_ ?_; (first | exact trivial | omega | decide); clear hF a; intro a hF))
          rw [show decide ((t : Int) - (x : Int) ≤ 4096) = true from decide_eq_true (by omega)] at hF
          (first | (refine t_pure (i := 13) hF rfl rfl rfl rfl (by kernel_rfl) (hM.sm.sub (fun x hx => by repeat (first | exact hx | refine List.mem_cons_of_mem _ ?_)) (fun _ h => by repeat (first | exact h | refine List.mem_cons_of_mem _ ?_))) (fun _ _ _ h => h) ?_ ?_; (first | exact trivial | omega | decide); clear hF a; intro a hF))
          (first | (refine t_pure (i := 14) hF rfl rfl rfl rfl (by kernel_rfl) (hM.sm.sub (fun x hx => by repeat (first | exact hx | refine List.mem_cons_of_mem _ ?_)) (fun _ h => by repeat (first | exact h | refine List.mem_cons_of_mem _ ?_))) (fun _ _ _ h => h) ?_ ?_; (first | exact trivial | omega | decide); clear hF a; intro a hF))
          (first | (refine t_pure (i := 15) hF rfl rfl rfl rfl (by kernel_rfl) (hM.sm.sub (fun x hx => by repeat (first | exact hx | refine List.mem_cons_of_mem _ ?_)) (fun _ h => by repeat (first | exact h | refine List.mem_cons_of_mem _ ?_))) (fun _ _ _ h => h) ?_ ?_; (first | exact trivial | omega | decide); clear hF a; intro a hF))
          (first | (refine t_pure (i := 16) hF rfl rfl rfl rfl (by kernel_rfl) (hM.sm.sub (fun x hx => by repeat (first | exact hx | refine List.mem_cons_of_mem _ ?_)) (fun _ h => by repeat (first | exact h | refine List.mem_cons_of_mem _ ?_))) (fun _ _ _ h => h) ?_ ?_; (first | exact trivial | omega | decide); clear hF a; intro a hF))
          rw [show decide (((bestTo all t D).2 : Int) < 131) = true from decide_eq_true (by omega)] at hF
          (first | (refine t_pure (i := 17) hF rfl rfl rfl rfl (by kernel_rfl) (hM.sm.sub (fun x hx => by repeat (first | exact hx | refine List.mem_cons_of_mem _ ?_)) (fun _ h => by repeat (first | exact h | refine List.mem_cons_of_mem _ ?_))) (fun _ _ _ h => h) ?_ ?_; (first | exact trivial | omega | decide); clear hF a; intro a hF))
          refine t_done (by kernel_rfl) ?_
          have hn := bestTo_le all t D
          have hL := mlen_le all x t
          (repeat (first | (with_reducible refine w_seq ?_) | (with_reducible refine c_region ?_) | (with_reducible refine s_nil ?_) | ((with_reducible apply s_call (f := 43) hF hM); exact rfl; exact rfl; exact rfl; exact rfl; exact rfl; exact (length_c all hlen _ c0 hc0 eb t mb tv wv _ _ hM.lt (hM.facts _ (by (repeat (first | exact List.mem_cons_self | refine List.mem_cons_of_mem _ ?_)))) (hM.facts _ (by (repeat (first | exact List.mem_cons_self | refine List.mem_cons_of_mem _ ?_)))) x _ rfl (by omega) (by omega)); clear hF hM a; rintro v w a rfl - hM hF) | (with_reducible refine q_then_n ?_) | ((with_reducible apply s_pure hF); exact rfl; exact rfl; exact rfl; (first | exact trivial | omega | exact ⟨Int.natCast_nonneg _, Int.ofNat_lt.2 (by assumption)⟩ | decide); clear hF a; intro a hF) | ((with_reducible apply s_loadF hF hM); exact rfl; exact rfl; (repeat (first | exact List.mem_cons_self | refine List.mem_cons_of_mem _ ?_)); exact rfl; exact rfl; (first | with_reducible assumption | (simp only [Int.toNat_natCast]; with_reducible assumption)); clear hF a; intro a hF) | (with_reducible refine w_skip ?_) | (with_reducible refine w_block ?_) | ((with_reducible apply c_true2 hF); exact rfl; (first | with_reducible rfl | (refine congrArg Value.bool ?_; focus (simp; done))))))
          by_cases hgt : (bestTo all t D).2 < mlen all x t
          · rw [if_pos hgt] at hstep
            (repeat' (first | ((with_reducible apply c_dec hF); exact rfl; all_goals intro hc; all_goals (try (exfalso; omega)))))
            refine c_draw (fun i => Nat.ble 12 i) hM ?_; clear hM; intro w hM
            (first | (refine t_pure (i := 0) hF rfl rfl rfl rfl (by kernel_rfl) hM.sm (fun _ _ _ h => h) ?_ ?_; (first | exact trivial | omega | decide); clear hF a; intro a hF))
            (first | (refine t_pure (i := 1) hF rfl rfl rfl rfl (by kernel_rfl) hM.sm (fun _ _ _ h => h) ?_ ?_; (first | exact trivial | omega | decide); clear hF a; intro a hF))
            (first | (refine t_pure (i := 2) hF rfl rfl rfl rfl (by kernel_rfl) hM.sm (fun _ _ _ h => h) ?_ ?_; (first | exact trivial | omega | decide); clear hF a; intro a hF))
            (first | (apply t_loadK (i := 3) hF rfl rfl rfl; (repeat (first | exact List.mem_cons_self | refine List.mem_cons_of_mem _ ?_)); exact rfl; exact rfl; kernel_rfl; exact hM.sm; exact (fun _ _ _ h => h); clear hF a; intro a hF))
            (first | (refine t_pure (i := 4) hF rfl rfl rfl rfl (by kernel_rfl) hM.sm (fun _ _ _ h => h) ?_ ?_; (first | exact trivial | omega | decide); clear hF a; intro a hF))
            (first | (refine t_pure (i := 5) hF rfl rfl rfl rfl (by kernel_rfl) hM.sm (fun _ _ _ h => h) ?_ ?_; (first | exact trivial | omega | decide); clear hF a; intro a hF))
            (first | (refine t_pure (i := 6) hF rfl rfl rfl rfl (by kernel_rfl) hM.sm (fun _ _ _ h => h) ?_ ?_; (first | exact trivial | omega | decide); clear hF a; intro a hF))
            (first | (apply t_loadF (i := 7) hF rfl rfl rfl; (repeat (first | exact List.mem_cons_self | refine List.mem_cons_of_mem _ ?_)); (first | with_reducible assumption | (simp only [Int.toNat_natCast]; with_reducible assumption)); exact rfl; exact rfl; kernel_rfl; exact hM.sm; exact (fun _ _ _ h => h); clear hF a; intro a hF))
            (first | (refine t_pure (i := 8) hF rfl rfl rfl rfl (by kernel_rfl) hM.sm (fun _ _ _ h => h) ?_ ?_; (first | exact trivial | omega | decide); clear hF a; intro a hF))
            (first | (refine t_pure (i := 9) hF rfl rfl rfl rfl (by kernel_rfl) hM.sm (fun _ _ _ h => h) ?_ ?_; (first | exact trivial | omega | decide); clear hF a; intro a hF))
            (first | (refine t_pure (i := 10) hF rfl rfl rfl rfl (by kernel_rfl) hM.sm (fun _ _ _ h => h) ?_ ?_; (first | exact trivial | omega | decide); clear hF a; intro a hF))
            (first | (refine t_pure (i := 11) hF rfl rfl rfl rfl (by kernel_rfl) hM.sm (fun _ _ _ h => h) ?_ ?_; (first | exact trivial | omega | decide); clear hF a; intro a hF))
            refine t_done (by kernel_rfl) ?_
            (repeat' (first | (with_reducible refine c_region ?_) | (with_reducible refine s_nil ?_) | (with_reducible refine q_then_n ?_) | ((with_reducible apply s_pure hF); exact rfl; exact rfl; exact rfl; (first | exact trivial | omega | exact ⟨Int.natCast_nonneg _, Int.ofNat_lt.2 (by assumption)⟩ | decide); clear hF a; intro a hF) | (with_reducible refine q_blk_n ?_)))
            refine ⟨r, by omega, t - x, by omega, by omega, hlo', hhi', ?_, hM⟩
            rw [hstep]
            exact hF.sub (by repeat (first | exact Sub.nil | refine Sub.cons rfl (by first | with_reducible rfl | (refine congrArg (Value.int _) ?_; omega) | exact rfl) ?_))
          · rw [if_neg hgt] at hstep
            (repeat' (first | (with_reducible refine c_region ?_) | (with_reducible refine s_nil ?_) | (with_reducible refine q_then_n ?_) | ((with_reducible apply s_pure hF); exact rfl; exact rfl; exact rfl; (first | exact trivial | omega | exact ⟨Int.natCast_nonneg _, Int.ofNat_lt.2 (by assumption)⟩ | decide); clear hF a; intro a hF) | (with_reducible refine w_skip ?_) | (with_reducible refine q_blk_n ?_) | ((with_reducible apply c_dec hF); exact rfl; all_goals intro hc; all_goals (try (exfalso; omega)))))
            refine ⟨r, by omega, t - x, by omega, by omega, hlo', hhi', ?_, hM⟩
            rw [hstep]
            exact hF.sub (by repeat (first | exact Sub.nil | refine Sub.cons rfl (by first | with_reducible rfl | (refine congrArg (Value.int _) ?_; omega) | exact rfl) ?_))
        · have hbest : best all t = bestTo all t D := bestTo_full (by omega) hD
          with_reducible refine w_seq ?_
          with_reducible refine w_seq ?_
          refine c_draw (fun i => Nat.ble 18 i) hM ?_; clear hM; intro w hM
          (first | (refine t_pure (i := 0) hF rfl rfl rfl rfl (by kernel_rfl) hM.sm (fun _ _ _ h => h) ?_ ?_; (first | exact trivial | omega | decide); clear hF a; intro a hF))
          (first | (refine t_pure (i := 1) hF rfl rfl rfl rfl (by kernel_rfl) hM.sm (fun _ _ _ h => h) ?_ ?_; (first | exact trivial | omega | decide); clear hF a; intro a hF))
          rw [show decide ((((r + 1 : Nat) : Int) - 1) ≥ 0) = true from decide_eq_true (by omega)] at hF
          (first | (refine t_pure (i := 2) hF rfl rfl rfl rfl (by kernel_rfl) (hM.sm.sub (fun x hx => by repeat (first | exact hx | refine List.mem_cons_of_mem _ ?_)) (fun _ h => by repeat (first | exact h | refine List.mem_cons_of_mem _ ?_))) (fun _ _ _ h => h) ?_ ?_; (first | exact trivial | omega | decide); clear hF a; intro a hF))
          (first | (refine t_pure (i := 3) hF rfl rfl rfl rfl (by kernel_rfl) (hM.sm.sub (fun x hx => by repeat (first | exact hx | refine List.mem_cons_of_mem _ ?_)) (fun _ h => by repeat (first | exact h | refine List.mem_cons_of_mem _ ?_))) (fun _ _ _ h => h) ?_ ?_; (first | exact trivial | omega | decide); clear hF a; intro a hF))
          (first | (refine t_pure (i := 4) hF rfl rfl rfl rfl (by kernel_rfl) (hM.sm.sub (fun x hx => by repeat (first | exact hx | refine List.mem_cons_of_mem _ ?_)) (fun _ h => by repeat (first | exact h | refine List.mem_cons_of_mem _ ?_))) (fun _ _ _ h => h) ?_ ?_; (first | exact trivial | omega | decide); clear hF a; intro a hF))
          (first | (refine t_pure (i := 5) hF rfl rfl rfl rfl (by kernel_rfl) (hM.sm.sub (fun x hx => by repeat (first | exact hx | refine List.mem_cons_of_mem _ ?_)) (fun _ h => by repeat (first | exact h | refine List.mem_cons_of_mem _ ?_))) (fun _ _ _ h => h) ?_ ?_; (first | exact trivial | omega | decide); clear hF a; intro a hF))
          (first | (apply t_loadK (i := 6) hF rfl rfl rfl; (repeat (first | exact List.mem_cons_self | refine List.mem_cons_of_mem _ ?_)); exact rfl; exact rfl; kernel_rfl; exact (hM.sm.sub (fun x hx => by repeat (first | exact hx | refine List.mem_cons_of_mem _ ?_)) (fun _ h => by repeat (first | exact h | refine List.mem_cons_of_mem _ ?_))); exact (fun _ _ _ h => h); clear hF a; intro a hF))
          (first | (refine t_pure (i := 7) hF rfl rfl rfl rfl (by kernel_rfl) (hM.sm.sub (fun x hx => by repeat (first | exact hx | refine List.mem_cons_of_mem _ ?_)) (fun _ h => by repeat (first | exact h | refine List.mem_cons_of_mem _ ?_))) (fun _ _ _ h => h) ?_ ?_; (first | exact trivial | omega | decide); clear hF a; intro a hF))
          (first | (refine t_pure (i := 8) hF rfl rfl rfl rfl (by kernel_rfl) (hM.sm.sub (fun x hx => by repeat (first | exact hx | refine List.mem_cons_of_mem _ ?_)) (fun _ h => by repeat (first | exact h | refine List.mem_cons_of_mem _ ?_))) (fun _ _ _ h => h) ?_ ?_; (first | exact trivial | omega | decide); clear hF a; intro a hF))
          (first | (refine t_pure (i := 9) hF rfl rfl rfl rfl (by kernel_rfl) (hM.sm.sub (fun x hx => by repeat (first | exact hx | refine List.mem_cons_of_mem _ ?_)) (fun _ h => by repeat (first | exact h | refine List.mem_cons_of_mem _ ?_))) (fun _ _ _ h => h) ?_ ?_; (first | exact trivial | omega | decide); clear hF a; intro a hF))
          (first | (apply t_loadF (i := 10) hF rfl rfl rfl; (repeat (first | exact List.mem_cons_self | refine List.mem_cons_of_mem _ ?_)); (first | with_reducible assumption | (simp only [Int.toNat_natCast]; with_reducible assumption)); exact rfl; exact rfl; kernel_rfl; exact (hM.sm.sub (fun x hx => by repeat (first | exact hx | refine List.mem_cons_of_mem _ ?_)) (fun _ h => by repeat (first | exact h | refine List.mem_cons_of_mem _ ?_))); exact (fun _ _ _ h => h); clear hF a; intro a hF))
          (first | (refine t_pure (i := 11) hF rfl rfl rfl rfl (by kernel_rfl) (hM.sm.sub (fun x hx => by repeat (first | exact hx | refine List.mem_cons_of_mem _ ?_)) (fun _ h => by repeat (first | exact h | refine List.mem_cons_of_mem _ ?_))) (fun _ _ _ h => h) ?_ ?_; (first | exact trivial | omega | decide); clear hF a; intro a hF))
          (first | (refine t_pure (i := 12) hF rfl rfl rfl rfl (by kernel_rfl) (hM.sm.sub (fun x hx => by repeat (first | exact hx | refine List.mem_cons_of_mem _ ?_)) (fun _ h => by repeat (first | exact h | refine List.mem_cons_of_mem _ ?_))) (fun _ _ _ h => h) ?_ ?_; (first | exact trivial | omega | decide); clear hF a; intro a hF))
          rw [show decide ((t : Int) - (x : Int) ≤ 4096) = true from decide_eq_true (by omega)] at hF
          (first | (refine t_pure (i := 13) hF rfl rfl rfl rfl (by kernel_rfl) (hM.sm.sub (fun x hx => by repeat (first | exact hx | refine List.mem_cons_of_mem _ ?_)) (fun _ h => by repeat (first | exact h | refine List.mem_cons_of_mem _ ?_))) (fun _ _ _ h => h) ?_ ?_; (first | exact trivial | omega | decide); clear hF a; intro a hF))
          (first | (refine t_pure (i := 14) hF rfl rfl rfl rfl (by kernel_rfl) (hM.sm.sub (fun x hx => by repeat (first | exact hx | refine List.mem_cons_of_mem _ ?_)) (fun _ h => by repeat (first | exact h | refine List.mem_cons_of_mem _ ?_))) (fun _ _ _ h => h) ?_ ?_; (first | exact trivial | omega | decide); clear hF a; intro a hF))
          (first | (refine t_pure (i := 15) hF rfl rfl rfl rfl (by kernel_rfl) (hM.sm.sub (fun x hx => by repeat (first | exact hx | refine List.mem_cons_of_mem _ ?_)) (fun _ h => by repeat (first | exact h | refine List.mem_cons_of_mem _ ?_))) (fun _ _ _ h => h) ?_ ?_; (first | exact trivial | omega | decide); clear hF a; intro a hF))
          (first | (refine t_pure (i := 16) hF rfl rfl rfl rfl (by kernel_rfl) (hM.sm.sub (fun x hx => by repeat (first | exact hx | refine List.mem_cons_of_mem _ ?_)) (fun _ h => by repeat (first | exact h | refine List.mem_cons_of_mem _ ?_))) (fun _ _ _ h => h) ?_ ?_; (first | exact trivial | omega | decide); clear hF a; intro a hF))
          rw [show decide (((bestTo all t D).2 : Int) < 131) = false from decide_eq_false (by omega)] at hF
          (first | (refine t_pure (i := 17) hF rfl rfl rfl rfl (by kernel_rfl) (hM.sm.sub (fun x hx => by repeat (first | exact hx | refine List.mem_cons_of_mem _ ?_)) (fun _ h => by repeat (first | exact h | refine List.mem_cons_of_mem _ ?_))) (fun _ _ _ h => h) ?_ ?_; (first | exact trivial | omega | decide); clear hF a; intro a hF))
          refine t_done (by kernel_rfl) ?_
          (repeat' (first | (with_reducible refine w_seq ?_) | (with_reducible refine c_region ?_) | (with_reducible refine s_nil ?_) | (with_reducible refine q_then_n ?_) | ((with_reducible apply s_pure hF); exact rfl; exact rfl; exact rfl; (first | exact trivial | omega | exact ⟨Int.natCast_nonneg _, Int.ofNat_lt.2 (by assumption)⟩ | decide); clear hF a; intro a hF) | (with_reducible refine w_exit ?_) | (with_reducible refine w_ret ?_) | (with_reducible refine q_then_x ?_) | (with_reducible refine q_blk_x ?_) | ((with_reducible apply c_false2 hF); exact rfl; (first | with_reducible rfl | (refine congrArg Value.bool ?_; focus (simp; done))))))
          (apply f_ret Try.results25 hF hM; (repeat (first | exact RL.nil | (apply RL.tmp; exact rfl) | (apply RL.cell; exact rfl; (repeat (first | exact List.mem_cons_self | refine List.mem_cons_of_mem _ ?_)); exact rfl))); refine Ret.mk hM.since ?_; dsimp only [resV])
          rw [hbest]
      · have hbest : best all t = bestTo all t D := hnext _ hD (by omega) (fun j y hy hj => by have := hsort j y hy hj; omega)
        with_reducible refine w_seq ?_
        with_reducible refine w_seq ?_
        refine c_draw (fun i => Nat.ble 18 i) hM ?_; clear hM; intro w hM
        (first | (refine t_pure (i := 0) hF rfl rfl rfl rfl (by kernel_rfl) hM.sm (fun _ _ _ h => h) ?_ ?_; (first | exact trivial | omega | decide); clear hF a; intro a hF))
        (first | (refine t_pure (i := 1) hF rfl rfl rfl rfl (by kernel_rfl) hM.sm (fun _ _ _ h => h) ?_ ?_; (first | exact trivial | omega | decide); clear hF a; intro a hF))
        rw [show decide ((((r + 1 : Nat) : Int) - 1) ≥ 0) = true from decide_eq_true (by omega)] at hF
        (first | (refine t_pure (i := 2) hF rfl rfl rfl rfl (by kernel_rfl) (hM.sm.sub (fun x hx => by repeat (first | exact hx | refine List.mem_cons_of_mem _ ?_)) (fun _ h => by repeat (first | exact h | refine List.mem_cons_of_mem _ ?_))) (fun _ _ _ h => h) ?_ ?_; (first | exact trivial | omega | decide); clear hF a; intro a hF))
        (first | (refine t_pure (i := 3) hF rfl rfl rfl rfl (by kernel_rfl) (hM.sm.sub (fun x hx => by repeat (first | exact hx | refine List.mem_cons_of_mem _ ?_)) (fun _ h => by repeat (first | exact h | refine List.mem_cons_of_mem _ ?_))) (fun _ _ _ h => h) ?_ ?_; (first | exact trivial | omega | decide); clear hF a; intro a hF))
        (first | (refine t_pure (i := 4) hF rfl rfl rfl rfl (by kernel_rfl) (hM.sm.sub (fun x hx => by repeat (first | exact hx | refine List.mem_cons_of_mem _ ?_)) (fun _ h => by repeat (first | exact h | refine List.mem_cons_of_mem _ ?_))) (fun _ _ _ h => h) ?_ ?_; (first | exact trivial | omega | decide); clear hF a; intro a hF))
        (first | (refine t_pure (i := 5) hF rfl rfl rfl rfl (by kernel_rfl) (hM.sm.sub (fun x hx => by repeat (first | exact hx | refine List.mem_cons_of_mem _ ?_)) (fun _ h => by repeat (first | exact h | refine List.mem_cons_of_mem _ ?_))) (fun _ _ _ h => h) ?_ ?_; (first | exact trivial | omega | decide); clear hF a; intro a hF))
        (first | (apply t_loadK (i := 6) hF rfl rfl rfl; (repeat (first | exact List.mem_cons_self | refine List.mem_cons_of_mem _ ?_)); exact rfl; exact rfl; kernel_rfl; exact (hM.sm.sub (fun x hx => by repeat (first | exact hx | refine List.mem_cons_of_mem _ ?_)) (fun _ h => by repeat (first | exact h | refine List.mem_cons_of_mem _ ?_))); exact (fun _ _ _ h => h); clear hF a; intro a hF))
        (first | (refine t_pure (i := 7) hF rfl rfl rfl rfl (by kernel_rfl) (hM.sm.sub (fun x hx => by repeat (first | exact hx | refine List.mem_cons_of_mem _ ?_)) (fun _ h => by repeat (first | exact h | refine List.mem_cons_of_mem _ ?_))) (fun _ _ _ h => h) ?_ ?_; (first | exact trivial | omega | decide); clear hF a; intro a hF))
        (first | (refine t_pure (i := 8) hF rfl rfl rfl rfl (by kernel_rfl) (hM.sm.sub (fun x hx => by repeat (first | exact hx | refine List.mem_cons_of_mem _ ?_)) (fun _ h => by repeat (first | exact h | refine List.mem_cons_of_mem _ ?_))) (fun _ _ _ h => h) ?_ ?_; (first | exact trivial | omega | decide); clear hF a; intro a hF))
        (first | (refine t_pure (i := 9) hF rfl rfl rfl rfl (by kernel_rfl) (hM.sm.sub (fun x hx => by repeat (first | exact hx | refine List.mem_cons_of_mem _ ?_)) (fun _ h => by repeat (first | exact h | refine List.mem_cons_of_mem _ ?_))) (fun _ _ _ h => h) ?_ ?_; (first | exact trivial | omega | decide); clear hF a; intro a hF))
        (first | (apply t_loadF (i := 10) hF rfl rfl rfl; (repeat (first | exact List.mem_cons_self | refine List.mem_cons_of_mem _ ?_)); (first | with_reducible assumption | (simp only [Int.toNat_natCast]; with_reducible assumption)); exact rfl; exact rfl; kernel_rfl; exact (hM.sm.sub (fun x hx => by repeat (first | exact hx | refine List.mem_cons_of_mem _ ?_)) (fun _ h => by repeat (first | exact h | refine List.mem_cons_of_mem _ ?_))); exact (fun _ _ _ h => h); clear hF a; intro a hF))
        (first | (refine t_pure (i := 11) hF rfl rfl rfl rfl (by kernel_rfl) (hM.sm.sub (fun x hx => by repeat (first | exact hx | refine List.mem_cons_of_mem _ ?_)) (fun _ h => by repeat (first | exact h | refine List.mem_cons_of_mem _ ?_))) (fun _ _ _ h => h) ?_ ?_; (first | exact trivial | omega | decide); clear hF a; intro a hF))
        (first | (refine t_pure (i := 12) hF rfl rfl rfl rfl (by kernel_rfl) (hM.sm.sub (fun x hx => by repeat (first | exact hx | refine List.mem_cons_of_mem _ ?_)) (fun _ h => by repeat (first | exact h | refine List.mem_cons_of_mem _ ?_))) (fun _ _ _ h => h) ?_ ?_; (first | exact trivial | omega | decide); clear hF a; intro a hF))
        rw [show decide ((t : Int) - (x : Int) ≤ 4096) = false from decide_eq_false (by omega)] at hF
        (first | (refine t_pure (i := 13) hF rfl rfl rfl rfl (by kernel_rfl) (hM.sm.sub (fun x hx => by repeat (first | exact hx | refine List.mem_cons_of_mem _ ?_)) (fun _ h => by repeat (first | exact h | refine List.mem_cons_of_mem _ ?_))) (fun _ _ _ h => h) ?_ ?_; (first | exact trivial | omega | decide); clear hF a; intro a hF))
        (first | (refine t_pure (i := 14) hF rfl rfl rfl rfl (by kernel_rfl) (hM.sm.sub (fun x hx => by repeat (first | exact hx | refine List.mem_cons_of_mem _ ?_)) (fun _ h => by repeat (first | exact h | refine List.mem_cons_of_mem _ ?_))) (fun _ _ _ h => h) ?_ ?_; (first | exact trivial | omega | decide); clear hF a; intro a hF))
        (first | (refine t_skip (i := 15) hF rfl rfl rfl (by kernel_rfl) (hM.sm.sub (fun x hx => by repeat (first | exact hx | refine List.mem_cons_of_mem _ ?_)) (fun _ h => by repeat (first | exact h | refine List.mem_cons_of_mem _ ?_))) (fun _ _ _ h => h) ?_; clear hF a; intro a hF))
        (first | (refine t_skip (i := 16) hF rfl rfl rfl (by kernel_rfl) (hM.sm.sub (fun x hx => by repeat (first | exact hx | refine List.mem_cons_of_mem _ ?_)) (fun _ h => by repeat (first | exact h | refine List.mem_cons_of_mem _ ?_))) (fun _ _ _ h => h) ?_; clear hF a; intro a hF))
        (first | (refine t_pure (i := 17) hF rfl rfl rfl rfl (by kernel_rfl) (hM.sm.sub (fun x hx => by repeat (first | exact hx | refine List.mem_cons_of_mem _ ?_)) (fun _ h => by repeat (first | exact h | refine List.mem_cons_of_mem _ ?_))) (fun _ _ _ h => h) ?_ ?_; (first | exact trivial | omega | decide); clear hF a; intro a hF))
        refine t_done (by kernel_rfl) ?_
        (repeat' (first | (with_reducible refine w_seq ?_) | (with_reducible refine c_region ?_) | (with_reducible refine s_nil ?_) | (with_reducible refine q_then_n ?_) | ((with_reducible apply s_pure hF); exact rfl; exact rfl; exact rfl; (first | exact trivial | omega | exact ⟨Int.natCast_nonneg _, Int.ofNat_lt.2 (by assumption)⟩ | decide); clear hF a; intro a hF) | (with_reducible refine w_exit ?_) | (with_reducible refine w_ret ?_) | (with_reducible refine q_then_x ?_) | (with_reducible refine q_blk_x ?_) | ((with_reducible apply c_false2 hF); exact rfl; (first | with_reducible rfl | (refine congrArg Value.bool ?_; focus (simp; done))))))
        (apply f_ret Try.results25 hF hM; (repeat (first | exact RL.nil | (apply RL.tmp; exact rfl) | (apply RL.cell; exact rfl; (repeat (first | exact List.mem_cons_self | refine List.mem_cons_of_mem _ ?_)); exact rfl))); refine Ret.mk hM.since ?_; dsimp only [resV])
        rw [hbest]
  · rw [decide_eq_false h4] at hF
    (repeat (first | (with_reducible refine w_seq ?_) | (with_reducible refine c_region ?_) | (with_reducible refine s_nil ?_) | (with_reducible refine q_then_n ?_) | ((with_reducible apply s_pure hF); exact rfl; exact rfl; exact rfl; (first | exact trivial | omega | exact ⟨Int.natCast_nonneg _, Int.ofNat_lt.2 (by assumption)⟩ | decide); clear hF a; intro a hF) | (with_reducible refine w_ret ?_) | (with_reducible refine q_then_r ?_) | ((with_reducible apply c_true2 hF); exact rfl; (first | with_reducible rfl | (refine congrArg Value.bool ?_; focus (simp; done))))))
    (apply f_ret Try.results25 hF hM; (repeat (first | exact RL.nil | (apply RL.tmp; exact rfl) | (apply RL.cell; exact rfl; (repeat (first | exact List.mem_cons_self | refine List.mem_cons_of_mem _ ?_)); exact rfl))); refine Ret.mk hM.since ?_; dsimp only [resV])
    have h0 : best all t = (0, 0) := bestTo_skip (D := 0) (by omega) (fun d h1 h2 h3 => h4 ((mlen_key (by omega)).1 h3).1)
    rw [h0]
    rfl
end
end Go.Proofs.Ytocgpllmfdnfjaa

/- dictionary: literals and matches are put out. -/
namespace Go.Proofs.Ytocgpllmfdnfjaa
open Go.RowKit Go.Shelf
theorem sadr_z (a : Option Addr) (c n : Nat) : sadr a 0 c n = a := by
  unfold sadr
  cases a with
  | none => simp
  | some ad =>
    obtain ⟨b, o, s⟩ := ad
    cases s <;> simp [Addr.add]
/-- Literals as tokens. -/
def litsB : Nat → List Int → List Int
  | 0, _ => []
  | f + 1, l => if l = [] then [] else ((min l.length 127 : Nat) : Int) :: (l.take (min l.length 127) ++ litsB f (l.drop (min l.length 127)))
def litz (l : List Int) : List Int := litsB l.length l
theorem litsB_nil : ∀ f, litsB f [] = []
  | 0 => rfl
  | f + 1 => by rw [litsB, if_pos rfl]
theorem litsB_fuel : ∀ (f g : Nat) (l : List Int), l.length ≤ f → l.length ≤ g → litsB f l = litsB g l
  | 0, g, l, h, _ => by
    rw [List.length_eq_zero_iff.1 (by omega : l.length = 0), litsB_nil, litsB_nil]
  | f + 1, 0, l, _, h => by
    rw [List.length_eq_zero_iff.1 (by omega : l.length = 0), litsB_nil, litsB_nil]
  | f + 1, g + 1, l, h1, h2 => by
    rw [litsB, litsB]
    by_cases e : l = []
    · rw [if_pos e, if_pos e]
    · rw [if_neg e, if_neg e]
      have : 0 < l.length := List.length_pos_iff.2 e
      rw [litsB_fuel f g _ (by rw [List.length_drop]; omega) (by rw [List.length_drop]; omega)]
theorem litsB_len : ∀ (f : Nat) (l : List Int), (litsB f l).length ≤ 2 * l.length
  | 0, _ => by simp [litsB]
  | f + 1, l => by
    rw [litsB]
    split
    · simp
    · rename_i h
      have h1 : 0 < l.length := List.length_pos_iff.2 h
      have h2 := litsB_len f (l.drop (min l.length 127))
      simp only [List.length_cons, List.length_append, List.length_take, List.length_drop] at h2 ⊢
      omega
theorem litz_len (l : List Int) : (litz l).length ≤ 2 * l.length := litsB_len _ _
theorem one_map' (l : List Int) : ∀ v ∈ l.map (Value.int .u8), v.oneCell' = true := by
  intro v hv
  obtain ⟨y, _, rfl⟩ := List.mem_map.1 hv
  rfl
section
variable {own : Nat → Prop} {w0 W : World} {bs : List BoxE} {L : List Ent} {Fs : List (World → Prop)} (eb : Nat) (tv wv x1 x2 x3 : Value) (toks wt : List Int) (m1 : Nat) (hm1 : m1 = toks.length) {Ew : Ent} (hW : OffR 5 1 wv wt.length (wt.map (Value.int .u8)) Ew) (hwl : wt.length ≤ 1000000) (htl : toks.length ≤ 1000000000)
  (hM : Mm own w0 (⟨eb, ⟨[tv, wv, x1, x2, x3]⟩, 51⟩ :: bs) (⟨5, 1, tv, m1, toks.map (Value.int .u8)⟩ :: Ew :: L) Fs W)
include hm1 hW hwl htl hM
set_option maxRecDepth 20000 in
theorem literal_c (x : Int) : Calls Try.prog 27 ⟨[.pointer (some ⟨eb, 0, none⟩), .int .u8 x]⟩ W (Rtn fun _ w' => ∃ wv' Ew', OffR 5 1 wv' (wt.length + 1) ((wt ++ [x]).map (Value.int .u8)) Ew' ∧
    Mm own w0 (⟨eb, ⟨[tv, wv', x1, x2, x3]⟩, 51⟩ :: bs) (⟨5, 1, tv, m1, toks.map (Value.int .u8)⟩ :: Ew' :: L) Fs w') := by
  refine f_start Try.func27 rfl Try.ntmps27 rfl rfl ?_; intro a hF
  (repeat (first | (with_reducible refine c_region ?_) | ((with_reducible apply s_pure hF); exact rfl; exact rfl; exact rfl; (first | exact trivial | omega | exact ⟨Int.natCast_nonneg _, Int.ofNat_lt.2 (by assumption)⟩ | decide); clear hF a; intro a hF) | ((with_reducible apply s_load hF hM); exact rfl; exact rfl; (repeat (first | exact List.mem_cons_self | refine List.mem_cons_of_mem _ ?_)); exact rfl; exact rfl; clear hF a; intro a hF) | ((with_reducible apply s_lit hF hM); exact rfl; exact rfl; exact rfl; exact rfl; clear hF hM a; intro bl w a hM hF)))
  apply s_appO 1 hF hM hW
  · exact rfl
  · exact rfl
  · exact rfl
  · exact rfl
  · exact .s .z
  · exact rfl
  · exact rfl
  · exact rfl
  · exact rfl
  · omega
  clear hF hM a
  intro wv' Ew' w a hW' hM hF
  dsimp only [List.set] at hM
  obtain ⟨ao', c', rfl, _⟩ := OffR.shape hM (k := 1) rfl hW'
  (repeat (first | (with_reducible refine s_nil ?_) | ((with_reducible apply s_pure hF); exact rfl; exact rfl; exact rfl; (first | exact trivial | omega | exact ⟨Int.natCast_nonneg _, Int.ofNat_lt.2 (by assumption)⟩ | decide); clear hF a; intro a hF) | ((with_reducible apply s_store hF hM); exact rfl; exact rfl; exact rfl; exact rfl; (repeat (first | exact Upd.z | apply Upd.s)); exact rfl; exact rfl; exact rfl; clear hM; intro w hM)))
  (apply f_end Try.results27 hF hM; (repeat (first | exact RL.nil | (apply RL.tmp; exact rfl) | (apply RL.cell; exact rfl; (repeat (first | exact List.mem_cons_self | refine List.mem_cons_of_mem _ ?_)); exact rfl))); refine Both.mk ?_; try dsimp only [resV])
  exact ⟨_, Ew', by rw [List.map_append]; exact hW', hM⟩
set_option maxRecDepth 20000 in
theorem flush_c : Calls Try.prog 28 ⟨[.pointer (some ⟨eb, 0, none⟩)]⟩ W (Rtn fun _ w' => ∃ tv' wv' Ew', OffR 5 1 wv' 0 [] Ew' ∧
    Mm own w0 (⟨eb, ⟨[tv', wv', x1, x2, x3]⟩, 51⟩ :: bs) (⟨5, 1, tv', (toks ++ litz wt).length, (toks ++ litz wt).map (Value.int .u8)⟩ :: Ew' :: L) Fs w') := by
  subst hm1
  refine f_start Try.func28 rfl Try.ntmps28 rfl rfl ?_; intro a hF
  (repeat (first | (with_reducible refine w_block ?_)))
  refine c_loop (m := wt.length) (fun m a w' => ∃ (tk cur : List Int) (tv2 wv2 : Value) (Ew2 : Ent), toks ++ litz wt = tk ++ litsB m cur ∧ cur.length ≤ m ∧ m ≤ wt.length ∧ tk.length + 2 * cur.length ≤ toks.length + 2 * wt.length ∧ OffR 5 1 wv2 cur.length (cur.map (Value.int .u8)) Ew2 ∧
    Fr 42 [] [(0, .pointer (some ⟨eb, 0, none⟩))] a ∧
    Mm own w0 (⟨eb, ⟨[tv2, wv2, x1, x2, x3]⟩, 51⟩ :: bs) (⟨5, 1, tv2, tk.length, tk.map (Value.int .u8)⟩ :: Ew2 :: L) Fs w')
    ⟨toks, wt, tv, wv, Ew, rfl, Nat.le_refl _, Nat.le_refl _, Nat.le_refl _, hW, hF.sub (by repeat (first | exact Sub.nil | refine Sub.cons rfl (by first | with_reducible rfl | (refine congrArg (Value.int _) ?_; omega) | exact rfl) ?_)), hM⟩ ?_
  clear hF hM a hW
  rintro m a w' ⟨tk, cur, tv2, wv2, Ew2, he, hcm, hmw, htk, hW, hF, hM⟩
  obtain ⟨ao, c, rfl, hcc, hsome⟩ := OffR.shape hM (k := 1) rfl hW
  by_cases h0 : 0 < cur.length
  · obtain ⟨ad, rfl⟩ := hsome h0
    obtain ⟨m, rfl⟩ : ∃ k, m = k + 1 := ⟨m - 1, by omega⟩
    have hne : cur ≠ [] := List.length_pos_iff.1 h0
    rw [litsB, if_neg hne] at he
    obtain ⟨q, hq⟩ : ∃ q, q = min cur.length 127 := ⟨_, rfl⟩
    rw [← hq] at he
    (repeat' (first | (with_reducible refine w_seq ?_) | (with_reducible refine c_region ?_) | (with_reducible refine s_nil ?_) | (with_reducible refine q_then_n ?_) | ((with_reducible apply s_pure hF); exact rfl; exact rfl; exact rfl; (first | exact trivial | omega | exact ⟨Int.natCast_nonneg _, Int.ofNat_lt.2 (by assumption)⟩ | decide); clear hF a; intro a hF) | ((with_reducible apply s_load hF hM); exact rfl; exact rfl; (repeat (first | exact List.mem_cons_self | refine List.mem_cons_of_mem _ ?_)); exact rfl; exact rfl; clear hF a; intro a hF) | (with_reducible refine w_skip ?_) | (with_reducible refine w_block ?_) | ((with_reducible apply c_dec hF); exact rfl; all_goals intro hc; all_goals (try (exfalso; omega)))))
    rw [show min (cur.length : Int) 127 = (q : Int) by omega] at hF
    have hcl := OffR.cells hM (k := 1) rfl hW rfl
    refine c_draw (fun i => Nat.ble 18 i) hM ?_; clear hM; intro w hM
    (first | (refine t_pure (i := 0) hF rfl rfl rfl rfl (by kernel_rfl) hM.sm (fun _ _ _ h => h) ?_ ?_; (first | exact trivial | omega | decide); clear hF a; intro a hF))
    (first | (refine t_pure (i := 1) hF rfl rfl rfl rfl (by kernel_rfl) hM.sm (fun _ _ _ h => h) ?_ ?_; (first | exact trivial | omega | decide); clear hF a; intro a hF))
    (first | (refine t_pure (i := 2) hF rfl rfl rfl rfl (by kernel_rfl) hM.sm (fun _ _ _ h => h) ?_ ?_; (first | exact trivial | omega | decide); clear hF a; intro a hF))
    (first | (refine t_pure (i := 3) hF rfl rfl rfl rfl (by kernel_rfl) hM.sm (fun _ _ _ h => h) ?_ ?_; (first | exact trivial | omega | decide); clear hF a; intro a hF))
    (first | (apply t_load (i := 4) hF rfl rfl rfl; (repeat (first | exact List.mem_cons_self | refine List.mem_cons_of_mem _ ?_)); exact rfl; exact rfl; kernel_rfl; exact hM.sm; exact (fun _ _ _ h => h); clear hF a; intro a hF))
    (first | (refine t_pure (i := 5) hF rfl rfl rfl rfl (by kernel_rfl) hM.sm (fun _ _ _ h => h) ?_ ?_; (first | exact trivial | omega | decide); clear hF a; intro a hF))
    (first | (refine t_pure (i := 6) hF rfl rfl rfl rfl (by kernel_rfl) hM.sm (fun _ _ _ h => h) ?_ ?_; (first | exact trivial | omega | decide); clear hF a; intro a hF))
    rw [show (q : Int) % 256 = (q : Int) by omega] at hF
    (first | (refine t_pure (i := 9) hF rfl rfl rfl rfl (by kernel_rfl) (hM.sm.sub (fun x hx => by repeat (first | exact hx | refine List.mem_cons_of_mem _ ?_)) (fun _ h => by repeat (first | exact h | refine List.mem_cons_of_mem _ ?_))) (fun _ _ _ h => h) ?_ ?_; (first | exact trivial | omega | decide); clear hF a; intro a hF))
    (first | (refine t_pure (i := 10) hF rfl rfl rfl rfl (by kernel_rfl) (hM.sm.sub (fun x hx => by repeat (first | exact hx | refine List.mem_cons_of_mem _ ?_)) (fun _ h => by repeat (first | exact h | refine List.mem_cons_of_mem _ ?_))) (fun _ _ _ h => h) ?_ ?_; (first | exact trivial | omega | decide); clear hF a; intro a hF))
    (first | (refine t_pure (i := 11) hF rfl rfl rfl rfl (by kernel_rfl) (hM.sm.sub (fun x hx => by repeat (first | exact hx | refine List.mem_cons_of_mem _ ?_)) (fun _ h => by repeat (first | exact h | refine List.mem_cons_of_mem _ ?_))) (fun _ _ _ h => h) ?_ ?_; (first | exact trivial | omega | decide); clear hF a; intro a hF))
    (first | (apply t_load (i := 12) hF rfl rfl rfl; (repeat (first | exact List.mem_cons_self | refine List.mem_cons_of_mem _ ?_)); exact rfl; exact rfl; kernel_rfl; exact (hM.sm.sub (fun x hx => by repeat (first | exact hx | refine List.mem_cons_of_mem _ ?_)) (fun _ h => by repeat (first | exact h | refine List.mem_cons_of_mem _ ?_))); exact (fun _ _ _ h => h); clear hF a; intro a hF))
    (first | (refine t_pure (i := 13) hF rfl rfl rfl rfl (by kernel_rfl) (hM.sm.sub (fun x hx => by repeat (first | exact hx | refine List.mem_cons_of_mem _ ?_)) (fun _ h => by repeat (first | exact h | refine List.mem_cons_of_mem _ ?_))) (fun _ _ _ h => h) ?_ ?_; (first | exact trivial | omega | decide); clear hF a; intro a hF))
    (first | (refine t_pure (i := 14) hF rfl rfl rfl rfl (by kernel_rfl) (hM.sm.sub (fun x hx => by repeat (first | exact hx | refine List.mem_cons_of_mem _ ?_)) (fun _ h => by repeat (first | exact h | refine List.mem_cons_of_mem _ ?_))) (fun _ _ _ h => h) ?_ ?_; (first | exact trivial | omega | decide); clear hF a; intro a hF))
    rw [show ((0 : Int)).toNat = 0 from rfl, sadr_z, Int.toNat_natCast, Nat.sub_zero] at hF
    refine t_one (i := 7) hF rfl (by kernel_rfl) rfl ?_
    intro K hK
    (refine x_lit hF hM rfl rfl rfl ?_; clear hF hM a; intro bl w a hM hF)
    refine hK _ _ (fun _ => (hM.sm.sub (fun x hx => by repeat (first | exact hx | refine List.mem_cons_of_mem _ ?_)) (fun _ h => by repeat (first | exact h | refine List.mem_cons_of_mem _ ?_)))) ?_; clear hK
    refine t_one (i := 8) hF rfl (by kernel_rfl) rfl ?_
    intro K hK
    (apply x_app hF hM rfl rfl rfl; (repeat (first | exact List.mem_cons_self | refine List.mem_cons_of_mem _ ?_)); (repeat (first | exact Kth.z | apply Kth.s)); exact rfl; exact rfl; exact rfl; exact rfl; omega; clear hF hM a; intro g cap w a hM hF; dsimp only [List.set] at hM)
    refine hK _ _ (fun _ => (hM.sm.sub (fun x hx => by repeat (first | exact hx | refine List.mem_cons_of_mem _ ?_)) (fun _ h => by repeat (first | exact h | refine List.mem_cons_of_mem _ ?_)))) ?_; clear hK
    refine t_one (i := 15) hF rfl (by kernel_rfl) rfl ?_
    intro K hK
    (have hcl := OffR.cells hM (k := 1) rfl hW rfl; refine e_app (k := 0) (ys := (cur.map (Value.int .u8)).take q) hF hM rfl rfl rfl .z (by rw [List.length_take, List.length_map]; omega) (fun j u hu => hcl j u (by rw [List.getElem?_take] at hu; split at hu; exact hu; cases hu)) (fun u hu => one_map' cur u (List.mem_of_mem_take hu)) (by omega) ⟨by omega, by omega⟩ ?_; clear hcl hM; intro gA cap w hM; dsimp only [List.set] at hM; replace hF := hF.put (d := 30) rfl (.slice (some ⟨gA, 0, none⟩) (tk.length + 1 + q) cap); generalize a.put (some 30) _ = a at *)
    refine hK _ _ (fun _ => (hM.sm.sub (fun x hx => by repeat (first | exact hx | refine List.mem_cons_of_mem _ ?_)) (fun _ h => by repeat (first | exact h | refine List.mem_cons_of_mem _ ?_)))) ?_; clear hK
    (first | (refine t_pure (i := 16) hF rfl rfl rfl rfl (by kernel_rfl) (hM.sm.sub (fun x hx => by repeat (first | exact hx | refine List.mem_cons_of_mem _ ?_)) (fun _ h => by repeat (first | exact h | refine List.mem_cons_of_mem _ ?_))) (fun _ _ _ h => h) ?_ ?_; (first | exact trivial | omega | decide); clear hF a; intro a hF))
    (first | (refine t_pure (i := 17) hF rfl rfl rfl rfl (by kernel_rfl) (hM.sm.sub (fun x hx => by repeat (first | exact hx | refine List.mem_cons_of_mem _ ?_)) (fun _ h => by repeat (first | exact h | refine List.mem_cons_of_mem _ ?_))) (fun _ _ _ h => h) ?_ ?_; (first | exact trivial | omega | decide); clear hF a; intro a hF))
    refine t_one (i := 18) hF rfl (by kernel_rfl) rfl ?_
    intro K hK
    (apply x_store hF hM rfl rfl rfl; (repeat (first | exact Upd.z | apply Upd.s)); exact rfl; exact rfl; exact rfl; clear hF hM a; intro w a hM hF)
    refine hK _ _ (fun h => by cases h) ?_; clear hK
    refine t_done (by kernel_rfl) ?_
    (repeat' (first | (with_reducible refine c_region ?_) | (with_reducible refine s_nil ?_) | (with_reducible refine q_then_n ?_) | ((with_reducible apply s_pure hF); exact rfl; exact rfl; exact rfl; (first | exact trivial | omega | exact ⟨Int.natCast_nonneg _, Int.ofNat_lt.2 (by assumption)⟩ | decide); clear hF a; intro a hF) | ((with_reducible apply s_load hF hM); exact rfl; exact rfl; (repeat (first | exact List.mem_cons_self | refine List.mem_cons_of_mem _ ?_)); exact rfl; exact rfl; clear hF a; intro a hF) | ((with_reducible apply s_store hF hM); exact rfl; exact rfl; exact rfl; exact rfl; (repeat (first | exact Upd.z | apply Upd.s)); exact rfl; exact rfl; exact rfl; clear hM; intro w hM) | (with_reducible refine q_blk_n ?_)))
    rw [Int.toNat_natCast, Int.toNat_natCast] at hM
    have hW2 := OffR.drop hM (k := 1) rfl hW q (by omega)
    refine ⟨m, by omega, tk ++ [(q : Int)] ++ cur.take q, cur.drop q, .slice (some ⟨gA, 0, none⟩) (tk.length + 1 + q) cap, .slice (sadr (some ad) q c 1) (cur.length - q) (c - q), Ew2, ?_, by rw [List.length_drop]; omega, by omega, ?_, ?_, hF.sub (by repeat (first | exact Sub.nil | refine Sub.cons rfl (by first | with_reducible rfl | (refine congrArg (Value.int _) ?_; omega) | exact rfl) ?_)), ?_⟩
    · rw [he]; simp
    · simp only [List.length_append, List.length_cons, List.length_nil, List.length_take, List.length_drop]; omega
    · rw [List.length_drop, List.map_drop]
      rw [Nat.mul_one] at hW2
      exact hW2
    · have hlen3 : (tk ++ [(q : Int)] ++ cur.take q).length = tk.length + 1 + q := by
        simp only [List.length_append, List.length_cons, List.length_nil, List.length_take]; omega
      rw [hlen3, List.map_append, List.map_append, List.map_take]
      exact hM.sub (.cons _ (.refl _)) (.refl _) (fun _ h => h)
  · obtain rfl : cur = [] := List.length_eq_zero_iff.1 (by omega)
    rw [litsB_nil, List.append_nil] at he
    (repeat' (first | (with_reducible refine w_seq ?_) | (with_reducible refine c_region ?_) | (with_reducible refine s_nil ?_) | (with_reducible refine q_then_n ?_) | ((with_reducible apply s_pure hF); exact rfl; exact rfl; exact rfl; (first | exact trivial | omega | exact ⟨Int.natCast_nonneg _, Int.ofNat_lt.2 (by assumption)⟩ | decide); clear hF a; intro a hF) | ((with_reducible apply s_load hF hM); exact rfl; exact rfl; (repeat (first | exact List.mem_cons_self | refine List.mem_cons_of_mem _ ?_)); exact rfl; exact rfl; clear hF a; intro a hF) | (with_reducible refine w_exit ?_) | (with_reducible refine q_then_x ?_) | (with_reducible refine q_blk_x ?_) | ((with_reducible apply c_false2 hF); exact rfl; (first | with_reducible rfl | (refine congrArg Value.bool ?_; focus (simp; done))))))
    (apply f_end Try.results28 hF hM; (repeat (first | exact RL.nil | (apply RL.tmp; exact rfl) | (apply RL.cell; exact rfl; (repeat (first | exact List.mem_cons_self | refine List.mem_cons_of_mem _ ?_)); exact rfl))); refine Both.mk ?_; try dsimp only [resV])
    rw [he]
    exact ⟨tv2, _, Ew2, hW, hM⟩
set_option maxRecDepth 20000 in
theorem match_c (d n : Nat) (hd : d ≤ 4096) (hn : 4 ≤ n ∧ n ≤ 131) : Calls Try.prog 26 ⟨[.pointer (some ⟨eb, 0, none⟩), .int .i64 d, .int .i64 n]⟩ W (Rtn fun _ w' => ∃ tv' wv' Ew', OffR 5 1 wv' 0 [] Ew' ∧
    Mm own w0 (⟨eb, ⟨[tv', wv', x1, x2, x3]⟩, 51⟩ :: bs) (⟨5, 1, tv', (toks ++ litz wt ++ [(124 + n : Int)] ++ puts d).length, (toks ++ litz wt ++ [(124 + n : Int)] ++ puts d).map (Value.int .u8)⟩ :: Ew' :: L) Fs w') := by
  have hll := litz_len wt
  refine f_start Try.func26 rfl Try.ntmps26 rfl rfl ?_; intro a hF
  have hTl : (toks ++ litz wt).length ≤ 2000000000 := by rw [List.length_append]; omega
  (repeat (first | (with_reducible refine w_seq ?_) | (with_reducible refine c_region ?_) | (with_reducible refine s_nil ?_) | ((with_reducible apply s_callM (f := 28) hF); exact rfl; exact rfl; exact rfl; exact rfl; exact rfl; exact (flush_c eb tv wv x1 x2 x3 toks wt m1 hm1 hW hwl htl hM); clear hF hM a; rintro v w a ⟨tv', wv', Ew', hW', hM⟩ hF; generalize toks ++ litz wt = T at *) | (with_reducible refine q_then_n ?_) | ((with_reducible apply s_pure hF); exact rfl; exact rfl; exact rfl; (first | exact trivial | omega | exact ⟨Int.natCast_nonneg _, Int.ofNat_lt.2 (by assumption)⟩ | decide); clear hF a; intro a hF) | ((with_reducible apply s_load hF hM); exact rfl; exact rfl; (repeat (first | exact List.mem_cons_self | refine List.mem_cons_of_mem _ ?_)); exact rfl; exact rfl; clear hF a; intro a hF) | ((with_reducible apply s_lit hF hM); exact rfl; exact rfl; exact rfl; exact rfl; clear hF hM a; intro bl w a hM hF) | ((with_reducible apply s_app hF hM); exact rfl; exact rfl; exact rfl; exact rfl; (repeat (first | exact Kth.z | apply Kth.s)); exact rfl; exact rfl; exact rfl; exact rfl; omega; clear hF hM a; intro g cap w a hM hF; dsimp only [List.set] at hM)))
  have hrow : T.map (Value.int .u8) ++ Value.int .u8 ((128 + (n : Int) - 4) % 256) :: [].append (zerosL [Value.int .u8 0] 0) = (T ++ [(124 + n : Int)]).map (Value.int .u8) := by
    rw [List.map_append, show (128 + (n : Int) - 4) % 256 = 124 + n by omega]
    rfl
  rw [hrow] at hM
  clear hrow
  have hpl := puts_len 2 d (by omega)
  have hP := PutInt_z d _ rfl (by omega) (some ⟨g, 0, none⟩) cap (T ++ [(124 + n : Int)]) (T.length + 1) List.length_append own _ (fun b h => hM.lt b (.inl h)) (hM.rowFact List.mem_cons_self) (by omega)
  (repeat (first | (with_reducible refine s_nil ?_) | ((with_reducible apply s_callO (f := 44) hF); exact rfl; exact rfl; exact rfl; exact rfl; exact rfl; exact (hP); clear hF a; rintro v wn a ⟨a2, c2, rfl, hO⟩ hS hF; replace hM := hM.addRows hS hO; clear hS hO; dsimp only [List.cons_append, List.nil_append] at hM) | ((with_reducible apply s_pure hF); exact rfl; exact rfl; exact rfl; (first | exact trivial | omega | exact ⟨Int.natCast_nonneg _, Int.ofNat_lt.2 (by assumption)⟩ | decide); clear hF a; intro a hF) | ((with_reducible apply s_store hF hM); exact rfl; exact rfl; exact rfl; exact rfl; (repeat (first | exact Upd.z | apply Upd.s)); exact rfl; exact rfl; exact rfl; clear hM; intro w hM)))
  (apply f_end Try.results26 hF hM; (repeat (first | exact RL.nil | (apply RL.tmp; exact rfl) | (apply RL.cell; exact rfl; (repeat (first | exact List.mem_cons_self | refine List.mem_cons_of_mem _ ?_)); exact rfl))); refine Both.mk ?_; try dsimp only [resV])
  refine ⟨.slice a2 (T.length + 1 + (puts d).length) c2, wv', Ew', hW', ?_⟩
  rw [show (T ++ [(124 + n : Int)] ++ puts d).length = T.length + 1 + (puts d).length by simp only [List.length_append, List.length_cons, List.length_nil]]
  exact hM.sub (.refl _) (.cons_cons _ (.cons _ (.refl _))) (fun _ h => h)
end
end Go.Proofs.Ytocgpllmfdnfjaa

/- bytes.Clone; dictionary.Encode. -/
namespace Go.Proofs.Ytocgpllmfdnfjaa
open Go.RowKit Go.Shelf
set_option maxRecDepth 20000 in
theorem bclone_c (a0 : Option Addr) (c0 : Nat) (xs : List Int) (own : Nat → Prop) (W : World) (hl : ∀ b, own b → b < W.heap.size) (hv : Has own W (RdF (Value.int .u8) a0 xs)) (hb : xs.length ≤ 10000000000) :
    Calls Try.prog 23 ⟨[.slice a0 xs.length c0]⟩ W (Ret W fun v w' => ∃ a' c', v = .slice a' xs.length c' ∧ Owns w' W.heap.size [⟨5, 1, .slice a' xs.length c', xs.length, xs.map (Value.int .u8)⟩]) := by
  have hM := (Mm.start hl).known hv
  cases a0 with
  | none =>
    obtain rfl : xs = [] := by
      cases xs with
      | nil => rfl
      | cons x r => obtain ⟨ad, h⟩ := rd_some hM (by (repeat (first | exact List.mem_cons_self | refine List.mem_cons_of_mem _ ?_))) (k := 0) (x := x) rfl; cases h
    refine f_start Try.func23 rfl Try.ntmps23 rfl rfl ?_; intro a hF
    (repeat' (first | (with_reducible refine w_seq ?_) | (with_reducible refine c_region ?_) | (with_reducible refine s_nil ?_) | ((with_reducible apply s_eqn hF); exact rfl; exact rfl; exact rfl; exact rfl; exact rfl; exact rfl; clear hF a; intro a hF) | (with_reducible refine q_then_n ?_) | ((with_reducible apply s_pure hF); exact rfl; exact rfl; exact rfl; (first | exact trivial | omega | exact ⟨Int.natCast_nonneg _, Int.ofNat_lt.2 (by assumption)⟩ | decide); clear hF a; intro a hF) | (with_reducible refine w_ret ?_) | (with_reducible refine q_then_r ?_) | ((with_reducible apply c_true2 hF); exact rfl; (first | with_reducible rfl | (refine congrArg Value.bool ?_; focus (simp; done))))))
    (apply f_ret Try.results23 hF hM; (repeat (first | exact RL.nil | (apply RL.tmp; exact rfl) | (apply RL.cell; exact rfl; (repeat (first | exact List.mem_cons_self | refine List.mem_cons_of_mem _ ?_)); exact rfl))); refine Ret.mk hM.since ?_; dsimp only [resV])
    exact ⟨none, 0, rfl, (Owns.nil _ _).cons _ _⟩
  | some ad =>
    refine f_start Try.func23 rfl Try.ntmps23 rfl rfl ?_; intro a hF
    (repeat' (first | (with_reducible refine w_seq ?_) | (with_reducible refine c_region ?_) | (with_reducible refine s_nil ?_) | ((with_reducible apply s_eqn hF); exact rfl; exact rfl; exact rfl; exact rfl; exact rfl; exact rfl; clear hF a; intro a hF) | ((with_reducible apply s_appF hF hM); exact rfl; exact rfl; (repeat (first | exact List.mem_cons_self | refine List.mem_cons_of_mem _ ?_)); exact rfl; exact rfl; (repeat (first | exact Kth.z | apply Kth.s)); (intro _; exact rfl); exact rfl; omega; clear hF hM a; intro g cap w a hM hF; dsimp only [List.set] at hM) | ((with_reducible apply s_lit0 hF hM); exact rfl; exact rfl; exact rfl; exact rfl; clear hF hM a; intro bl w a hM hF) | (with_reducible refine q_then_n ?_) | ((with_reducible apply s_pure hF); exact rfl; exact rfl; exact rfl; (first | exact trivial | omega | exact ⟨Int.natCast_nonneg _, Int.ofNat_lt.2 (by assumption)⟩ | decide); clear hF a; intro a hF) | (with_reducible refine w_skip ?_) | (with_reducible refine w_ret ?_) | ((with_reducible apply c_false2 hF); exact rfl; (first | with_reducible rfl | (refine congrArg Value.bool ?_; focus (simp; done))))))
    (apply f_ret Try.results23 hF hM; (repeat (first | exact RL.nil | (apply RL.tmp; exact rfl) | (apply RL.cell; exact rfl; (repeat (first | exact List.mem_cons_self | refine List.mem_cons_of_mem _ ?_)); exact rfl))); refine Ret.mk hM.since ?_; dsimp only [resV])
    simp only [Nat.zero_add, List.nil_append] at hM ⊢
    exact ⟨_, _, rfl, hM.mem.own⟩
/-- The tokens from a place on. -/
def encF (all : List Int) : Nat → Nat → List Int → List Int → List Int
  | 0, _, toks, run => toks ++ litz run
  | f + 1, t, toks, run =>
    if t < all.length then
      (if (best all t).2 = 0 then encF all f (t + 1) toks (run ++ [all.getD t 0])
       else encF all f (t + (best all t).2) (toks ++ litz run ++ [(124 + (best all t).2 : Int)] ++ puts (best all t).1) [])
    else toks ++ litz run
theorem encF_fuel (all : List Int) : ∀ (f g t : Nat) (toks run : List Int), all.length ≤ f + t → all.length ≤ g + t → encF all f t toks run = encF all g t toks run
  | 0, 0, _, _, _, _, _ => rfl
  | 0, g + 1, t, _, _, h, _ => by rw [encF, encF, if_neg (by omega)]
  | f + 1, 0, t, _, _, _, h => by rw [encF, encF, if_neg (by omega)]
  | f + 1, g + 1, t, toks, run, h1, h2 => by
    rw [encF, encF]
    by_cases ht : t < all.length
    · rw [if_pos ht, if_pos ht]
      by_cases h0 : (best all t).2 = 0
      · rw [if_pos h0, if_pos h0]
        exact encF_fuel all f g _ _ _ (by omega) (by omega)
      · rw [if_neg h0, if_neg h0]
        exact encF_fuel all f g _ _ _ (by omega) (by omega)
    · rw [if_neg ht, if_neg ht]
def encD (dict b : List Int) : List Int := encF (dict ++ b) b.length dict.length [] []
theorem bestTo_four (all : List Int) (t : Nat) : ∀ D, (bestTo all t D).2 ≠ 0 → 4 ≤ (bestTo all t D).2 ∧ 1 ≤ (bestTo all t D).1 ∧ (bestTo all t D).1 ≤ D
  | 0, h => by simp [bestTo] at h
  | D + 1, h => by
    rw [bestTo, bstep] at h ⊢
    split
    · rename_i h1; exact ⟨h1.1, by simp, by simp⟩
    · rename_i h1
      rw [if_neg h1] at h
      have := bestTo_four all t D h
      omega
theorem bestTo_eq (all : List Int) (t : Nat) : ∀ D, (bestTo all t D).2 ≠ 0 → (bestTo all t D).2 = mlen all (t - (bestTo all t D).1) t
  | 0, h => by simp [bestTo] at h
  | D + 1, h => by
    rw [bestTo, bstep] at h ⊢
    split
    · rfl
    · rename_i h1
      rw [if_neg h1] at h
      exact bestTo_eq all t D h
theorem best_ok {all : List Int} {t : Nat} (h : (best all t).2 ≠ 0) : 4 ≤ (best all t).2 ∧ (best all t).2 ≤ 131 ∧ 1 ≤ (best all t).1 ∧ (best all t).1 ≤ 4096 ∧ (best all t).1 ≤ t ∧ t + (best all t).2 ≤ all.length ∧ (best all t).2 = mlen all (t - (best all t).1) t := by
  have h1 := bestTo_four all t _ h
  have h2 := bestTo_eq all t _ h
  have h3 := bestTo_le all t (min 4096 t)
  have h4 : t + (best all t).2 ≤ all.length := by
    have h5 := (mlen_ge (all := all) (p := t - (best all t).1) (t := t) (k := (best all t).2) h3).1 (Nat.le_of_eq h2) ((best all t).2 - 1) (by have := h1.1; unfold best; omega)
    have := h1.1
    unfold best at h5 ⊢
    omega
  exact ⟨h1.1, h3, h1.2.1, by have := h1.2.2; unfold best; omega, by have := h1.2.2; unfold best; omega, h4, h2⟩
theorem pl_sv {own : Nat → Prop} {w w0 : World} {bs : List BoxE} {L1 : List Ent} {Fs : List (World → Prop)} {E : Pl} (hM : Mm own w0 bs (L1 ++ rowsE E) Fs w) (k : List Int) : ∃ ao cp, (kadd k (.slice none 0 0) (esOf E)).2.2 = .slice ao (lookP k E).length cp ∧ Has own w (RdF nE ao (lookP k E)) := by
  unfold kadd
  cases h : kfind k (esOf E) 0 with
  | some j =>
    obtain ⟨_, sv, h2⟩ := lookP_get h
    rw [Nat.sub_zero] at h2
    have hmem : (⟨3, 1, sv, (lookP k E).length, (lookP k E).map nE⟩ : Ent) ∈ L1 ++ rowsE E := List.mem_append_right _ (List.mem_iff_getElem?.2 ⟨j, by rw [rowsE_get, h2]; rfl⟩)
    obtain ⟨ao, cp, rfl, _, _⟩ := hM.row hmem
    exact ⟨ao, cp, by simp [esOf_get, h2], hM.rowFact hmem⟩
  | none => exact ⟨none, 0, by rw [lookP_none h]; rfl, by rw [lookP_none h]; exact RdF.nil⟩
section
variable (dict y : List Int) (hlen : dict.length ≤ 10000 ∧ y.length ≤ 10000) (a1 a2 : Option Addr) (c1 c2 : Nat) (own : Nat → Prop) (W : World) (hl : ∀ b, own b → b < W.heap.size) (hv1 : Has own W (RdF (Value.int .u8) a1 dict)) (hv2 : Has own W (RdF (Value.int .u8) a2 y))
include hlen hl hv1 hv2
set_option maxRecDepth 20000 in
theorem EncodeD_c : Calls Try.prog 14 ⟨[.slice a1 dict.length c1, .slice a2 y.length c2]⟩ W (Ret W fun v w' => ∃ a' c', v = .slice a' (encD dict y).length c' ∧ Owns w' W.heap.size [⟨5, 1, .slice a' (encD dict y).length c', (encD dict y).length, (encD dict y).map (Value.int .u8)⟩]) := by
  obtain ⟨hd, hy⟩ := hlen
  have hM := ((Mm.start hl).known hv1).known hv2
  refine f_start Try.func14 rfl Try.ntmps14 rfl rfl ?_; intro a hF
  (repeat (first | (with_reducible refine w_seq ?_) | (with_reducible refine c_region ?_) | (with_reducible refine s_nil ?_) | ((with_reducible apply s_callO (f := 23) hF); exact rfl; exact rfl; exact rfl; exact rfl; exact rfl; exact (bclone_c a1 c1 dict _ _ hM.lt (hM.facts _ (by (repeat (first | exact List.mem_cons_self | refine List.mem_cons_of_mem _ ?_)))) (by omega)); clear hF a; rintro v wn a ⟨a3, c3, rfl, hO⟩ hS hF; replace hM := hM.addRows hS hO; clear hS hO; dsimp only [List.cons_append, List.nil_append] at hM) | ((with_reducible apply s_appF hF hM); exact rfl; exact rfl; (repeat (first | exact List.mem_cons_self | refine List.mem_cons_of_mem _ ?_)); exact rfl; exact rfl; (repeat (first | exact Kth.z | apply Kth.s)); (intro _; exact rfl); exact rfl; omega; clear hF hM a; intro g cap w a hM hF; dsimp only [List.set] at hM) | (with_reducible refine q_then_n ?_) | ((with_reducible apply s_pure hF); exact rfl; exact rfl; exact rfl; (first | exact trivial | omega | exact ⟨Int.natCast_nonneg _, Int.ofNat_lt.2 (by assumption)⟩ | decide); clear hF a; intro a hF)))
  obtain ⟨all, hall⟩ : ∃ all, all = dict ++ y := ⟨_, rfl⟩
  have hal : all.length = dict.length + y.length := by rw [hall, List.length_append]
  rw [← List.map_append, ← hall] at hM
  rw [← hal] at hM hF
  have hcap := row_capB hM List.mem_cons_self
  replace hM := hM.freezeRow
  have hlen : all.length ≤ 1000000 := by omega
  apply s_makeMapE (ek := kA) hF hM
  · exact rfl
  · exact rfl
  clear hF hM a
  intro mb w a hmb hM hF
  (repeat (first | (with_reducible refine w_seq ?_) | (with_reducible refine c_region ?_) | (with_reducible refine s_nil ?_) | (with_reducible refine q_then_n ?_) | ((with_reducible apply s_pure hF); exact rfl; exact rfl; exact rfl; (first | exact trivial | omega | exact ⟨Int.natCast_nonneg _, Int.ofNat_lt.2 (by assumption)⟩ | decide); clear hF a; intro a hF) | ((with_reducible apply s_box hF hM); exact rfl; exact rfl; exact rfl; exact rfl; clear hF hM a; intro b w a hM hF) | (with_reducible refine w_block ?_)))
  generalize b = eb at *
  have hcf : ∀ f ∈ ([] : List (World → Prop)), Cf f := by simp
  refine c_loop (m := dict.length) (fun m a w' => ∃ (i : Nat) (E : Pl), m + i = dict.length ∧ PlOk E ∧ (∀ k, lookP k E = plc all i k) ∧
    Fr 90 [] [(20, .int .i64 i), (19, .int .i64 dict.length), (5, .pointer (some ⟨eb, 0, none⟩))] a ∧
    Mm own W [⟨eb, ⟨[.slice none 0 0, .slice none 0 0, .slice g all.length cap, .int .i64 dict.length, .map (some mb)]⟩, 51⟩] (⟨5, 1, .slice none 0 0, 0, []⟩ :: ⟨5, 1, .slice none 0 0, 0, []⟩ :: rowsE E) [MpE kA mb (esOf E), RdF (Value.int .u8) g all] w')
    ⟨0, [], by omega, by simp [PlOk], fun k => by simp [lookP, plc], hF.sub (by repeat (first | exact Sub.nil | refine Sub.cons rfl (by first | with_reducible rfl | (refine congrArg (Value.int _) ?_; omega) | exact rfl) ?_)), ((hM.nilRow 5 1).nilRow 5 1).sub (.refl _) (.refl _) (by intro f hf; simp only [List.mem_cons, List.not_mem_nil, or_false] at hf; (repeat (rcases hf with rfl | hf; · (repeat (first | exact List.mem_cons_self | refine List.mem_cons_of_mem _ ?_)))); first | (subst hf; (repeat (first | exact List.mem_cons_self | refine List.mem_cons_of_mem _ ?_)); done) | (repeat (first | exact hf | refine List.mem_cons_of_mem _ ?_)))⟩ ?_
  clear hF hM a
  rintro m a w' ⟨i, E, hm, hE, hlk, hF, hM⟩
  by_cases hi : i < dict.length
  · (repeat' (first | (with_reducible refine w_seq ?_) | (with_reducible refine c_region ?_) | (with_reducible refine s_nil ?_) | ((with_reducible apply s_callM (f := 24) hF); exact rfl; exact rfl; exact rfl; exact rfl; exact rfl; exact (note_c (L1 := [_, _]) all hlen g cap hcap eb _ mb _ _ hE (fun k => Nat.le_trans (Nat.le_of_eq (congrArg _ (hlk k))) (Nat.le_trans (plc_len _ _ _) (by omega))) hmb hcf hM i _ rfl (by omega)); clear hF hM a; rintro v w a ⟨E', hE', hlk', hM⟩ hF; dsimp only [List.cons_append, List.nil_append] at hM) | (with_reducible refine q_then_n ?_) | ((with_reducible apply s_pure hF); exact rfl; exact rfl; exact rfl; (first | exact trivial | omega | exact ⟨Int.natCast_nonneg _, Int.ofNat_lt.2 (by assumption)⟩ | decide); clear hF a; intro a hF) | (with_reducible refine w_skip ?_) | (with_reducible refine w_block ?_) | (with_reducible refine q_blk_n ?_) | ((with_reducible apply c_dec hF); exact rfl; all_goals intro hc; all_goals (try (exfalso; omega)))))
    exact ⟨m - 1, by omega, i + 1, E', by omega, hE', fun k => by rw [hlk', hlk, plc_succ], hF.sub (by repeat (first | exact Sub.nil | refine Sub.cons rfl (by first | with_reducible rfl | (refine congrArg (Value.int _) ?_; omega) | exact rfl) ?_)), hM⟩
  · obtain rfl : i = dict.length := by omega
    (repeat' (first | (with_reducible refine w_seq ?_) | (with_reducible refine c_region ?_) | (with_reducible refine s_nil ?_) | (with_reducible refine q_then_n ?_) | ((with_reducible apply s_pure hF); exact rfl; exact rfl; exact rfl; (first | exact trivial | omega | exact ⟨Int.natCast_nonneg _, Int.ofNat_lt.2 (by assumption)⟩ | decide); clear hF a; intro a hF) | (with_reducible refine w_block ?_) | (with_reducible refine w_exit ?_) | (with_reducible refine q_then_x ?_) | (with_reducible refine q_blk_x ?_) | ((with_reducible apply c_false2 hF); exact rfl; (first | with_reducible rfl | (refine congrArg Value.bool ?_; focus (simp; done))))))
    refine c_loop (m := y.length) (fun f a w' => ∃ (t : Nat) (toks run : List Int) (tv wv : Value) (Ew : Ent) (E : Pl), f + t = all.length ∧ dict.length ≤ t ∧ encD dict y = encF all f t toks run ∧ toks.length + 2 * run.length ≤ 4 * t ∧ run.length ≤ t ∧ PlOk E ∧ (∀ k, lookP k E = plc all t k) ∧
      OffR 5 1 wv run.length (run.map (Value.int .u8)) Ew ∧
      Fr 90 [] [(5, .pointer (some ⟨eb, 0, none⟩))] a ∧
      Mm own W [⟨eb, ⟨[tv, wv, .slice g all.length cap, .int .i64 t, .map (some mb)]⟩, 51⟩] (⟨5, 1, tv, toks.length, toks.map (Value.int .u8)⟩ :: Ew :: rowsE E) [MpE kA mb (esOf E), RdF (Value.int .u8) g all] w')
      ⟨dict.length, [], [], .slice none 0 0, .slice none 0 0, ⟨5, 1, .slice none 0 0, 0, []⟩, E, by omega, by omega, by rw [hall]; rfl, by simp, by simp, hE, hlk, OffR.nil, hF.sub (by repeat (first | exact Sub.nil | refine Sub.cons rfl (by first | with_reducible rfl | (refine congrArg (Value.int _) ?_; omega) | exact rfl) ?_)), hM⟩ ?_
    clear hF hM a hE hlk E
    rintro f a w' ⟨t, toks, run, tv, wv, Ew, E, hft, hdt, henc, hbd, hrt, hE, hlk, hW, hF, hM⟩
    by_cases ht : t < all.length
    · obtain ⟨f, rfl⟩ : ∃ k, f = k + 1 := ⟨f - 1, by omega⟩
      rw [encF, if_pos ht] at henc
      with_reducible refine w_seq ?_
      with_reducible refine w_seq ?_
      refine c_draw (fun i => Nat.ble 10 i) hM ?_; clear hM; intro w hM
      (first | (refine t_pure (i := 0) hF rfl rfl rfl rfl (by kernel_rfl) hM.sm (fun _ _ _ h => h) ?_ ?_; (first | exact trivial | omega | decide); clear hF a; intro a hF))
      (first | (refine t_pure (i := 1) hF rfl rfl rfl rfl (by kernel_rfl) hM.sm (fun _ _ _ h => h) ?_ ?_; (first | exact trivial | omega | decide); clear hF a; intro a hF))
      (first | (refine t_pure (i := 2) hF rfl rfl rfl rfl (by kernel_rfl) hM.sm (fun _ _ _ h => h) ?_ ?_; (first | exact trivial | omega | decide); clear hF a; intro a hF))
      (first | (apply t_load (i := 3) hF rfl rfl rfl; (repeat (first | exact List.mem_cons_self | refine List.mem_cons_of_mem _ ?_)); exact rfl; exact rfl; kernel_rfl; exact hM.sm; exact (fun _ _ _ h => h); clear hF a; intro a hF))
      (first | (refine t_pure (i := 4) hF rfl rfl rfl rfl (by kernel_rfl) hM.sm (fun _ _ _ h => h) ?_ ?_; (first | exact trivial | omega | decide); clear hF a; intro a hF))
      (first | (refine t_pure (i := 5) hF rfl rfl rfl rfl (by kernel_rfl) hM.sm (fun _ _ _ h => h) ?_ ?_; (first | exact trivial | omega | decide); clear hF a; intro a hF))
      (first | (refine t_pure (i := 6) hF rfl rfl rfl rfl (by kernel_rfl) hM.sm (fun _ _ _ h => h) ?_ ?_; (first | exact trivial | omega | decide); clear hF a; intro a hF))
      (first | (apply t_load (i := 7) hF rfl rfl rfl; (repeat (first | exact List.mem_cons_self | refine List.mem_cons_of_mem _ ?_)); exact rfl; exact rfl; kernel_rfl; exact hM.sm; exact (fun _ _ _ h => h); clear hF a; intro a hF))
      (first | (refine t_pure (i := 8) hF rfl rfl rfl rfl (by kernel_rfl) hM.sm (fun _ _ _ h => h) ?_ ?_; (first | exact trivial | omega | decide); clear hF a; intro a hF))
      (first | (refine t_pure (i := 9) hF rfl rfl rfl rfl (by kernel_rfl) hM.sm (fun _ _ _ h => h) ?_ ?_; (first | exact trivial | omega | decide); clear hF a; intro a hF))
      rw [show decide ((t : Int) < (all.length : Int)) = true from decide_eq_true (by omega)] at hF
      refine t_done (by kernel_rfl) ?_
      obtain ⟨ao, cp, hsv, hrp⟩ := pl_sv (L1 := [_, _]) hM (keyV all t)
      rw [hlk] at hsv hrp
      (repeat (first | (with_reducible refine w_seq ?_) | (with_reducible refine c_region ?_) | (with_reducible refine s_nil ?_) | ((with_reducible apply s_call (f := 25) hF hM); exact rfl; exact rfl; exact rfl; exact rfl; exact rfl; exact (best_c all hlen g cap hcap eb t mb tv wv own _ (fun b h => hM.lt b (.inl h)) (hM.boxFact (by (repeat (first | exact List.mem_cons_self | refine List.mem_cons_of_mem _ ?_)))) (hM.factOut (by (repeat (first | exact List.mem_cons_self | refine List.mem_cons_of_mem _ ?_)))) E hE (hM.factOut (by (repeat (first | exact List.mem_cons_self | refine List.mem_cons_of_mem _ ?_)))) _ rfl ao cp hsv hrp (by omega)); clear hF hM a; rintro v w a rfl - hM hF) | (with_reducible refine q_then_n ?_) | ((with_reducible apply s_pure hF); exact rfl; exact rfl; exact rfl; (first | exact trivial | omega | exact ⟨Int.natCast_nonneg _, Int.ofNat_lt.2 (by assumption)⟩ | decide); clear hF a; intro a hF) | (with_reducible refine w_skip ?_) | (with_reducible refine w_block ?_) | ((with_reducible apply c_true2 hF); exact rfl; (first | with_reducible rfl | (refine congrArg Value.bool ?_; focus (simp; done))))))
      by_cases h0 : (best all t).2 = 0
      · rw [if_pos h0] at henc
        rw [show decide (0 < ((best all t).2 : Int)) = false from decide_eq_false (by omega)] at hF
        obtain ⟨x, hx⟩ := get_of_lt ht
        have hgx : all.getD t 0 = x := by rw [List.getD_eq_getElem?_getD, hx]; rfl
        obtain ⟨ad, rfl⟩ : ∃ ad, g = some ad := rd_some hM (by (repeat (first | exact List.mem_cons_self | refine List.mem_cons_of_mem _ ?_))) hx
        rw [hgx] at henc
        (repeat (first | (with_reducible refine w_seq ?_) | (with_reducible refine c_region ?_) | (with_reducible refine s_nil ?_) | (with_reducible refine q_then_n ?_) | ((with_reducible apply s_pure hF); exact rfl; exact rfl; exact rfl; (first | exact trivial | omega | exact ⟨Int.natCast_nonneg _, Int.ofNat_lt.2 (by assumption)⟩ | decide); clear hF a; intro a hF) | ((with_reducible apply c_false2 hF); exact rfl; (first | with_reducible rfl | (refine congrArg Value.bool ?_; focus (simp; done))))))
        refine c_draw (fun i => Nat.ble 13 i) hM ?_; clear hM; intro w hM
        (first | (refine t_pure (i := 0) hF rfl rfl rfl rfl (by kernel_rfl) hM.sm (fun _ _ _ h => h) ?_ ?_; (first | exact trivial | omega | decide); clear hF a; intro a hF))
        (first | (refine t_pure (i := 1) hF rfl rfl rfl rfl (by kernel_rfl) hM.sm (fun _ _ _ h => h) ?_ ?_; (first | exact trivial | omega | decide); clear hF a; intro a hF))
        (first | (refine t_pure (i := 2) hF rfl rfl rfl rfl (by kernel_rfl) hM.sm (fun _ _ _ h => h) ?_ ?_; (first | exact trivial | omega | decide); clear hF a; intro a hF))
        (first | (refine t_pure (i := 3) hF rfl rfl rfl rfl (by kernel_rfl) hM.sm (fun _ _ _ h => h) ?_ ?_; (first | exact trivial | omega | decide); clear hF a; intro a hF))
        (first | (refine t_pure (i := 4) hF rfl rfl rfl rfl (by kernel_rfl) hM.sm (fun _ _ _ h => h) ?_ ?_; (first | exact trivial | omega | decide); clear hF a; intro a hF))
        (first | (refine t_pure (i := 5) hF rfl rfl rfl rfl (by kernel_rfl) hM.sm (fun _ _ _ h => h) ?_ ?_; (first | exact trivial | omega | decide); clear hF a; intro a hF))
        (first | (apply t_load (i := 6) hF rfl rfl rfl; (repeat (first | exact List.mem_cons_self | refine List.mem_cons_of_mem _ ?_)); exact rfl; exact rfl; kernel_rfl; exact hM.sm; exact (fun _ _ _ h => h); clear hF a; intro a hF))
        (first | (refine t_pure (i := 7) hF rfl rfl rfl rfl (by kernel_rfl) hM.sm (fun _ _ _ h => h) ?_ ?_; (first | exact trivial | omega | decide); clear hF a; intro a hF))
        (first | (refine t_pure (i := 8) hF rfl rfl rfl rfl (by kernel_rfl) hM.sm (fun _ _ _ h => h) ?_ ?_; (first | exact trivial | omega | decide); clear hF a; intro a hF))
        (first | (refine t_pure (i := 9) hF rfl rfl rfl rfl (by kernel_rfl) hM.sm (fun _ _ _ h => h) ?_ ?_; (first | exact trivial | omega | decide); clear hF a; intro a hF))
        (first | (apply t_load (i := 10) hF rfl rfl rfl; (repeat (first | exact List.mem_cons_self | refine List.mem_cons_of_mem _ ?_)); exact rfl; exact rfl; kernel_rfl; exact hM.sm; exact (fun _ _ _ h => h); clear hF a; intro a hF))
        (first | (refine t_pure (i := 11) hF rfl rfl rfl rfl (by kernel_rfl) hM.sm (fun _ _ _ h => h) ?_ ?_; (first | exact trivial | omega | decide); clear hF a; intro a hF))
        (first | (apply t_loadF (i := 12) hF rfl rfl rfl; (repeat (first | exact List.mem_cons_self | refine List.mem_cons_of_mem _ ?_)); (first | with_reducible assumption | (simp only [Int.toNat_natCast]; with_reducible assumption)); exact rfl; exact rfl; kernel_rfl; exact hM.sm; exact (fun _ _ _ h => h); clear hF a; intro a hF))
        refine t_one (i := 13) hF rfl (by kernel_rfl) rfl ?_
        intro K hK
        (refine x_callM (f := 27) hF rfl rfl rfl rfl (literal_c eb tv wv _ _ _ toks run _ rfl hW (by omega) (by omega) hM x) ?_; clear hF hM a; rintro v w a ⟨wv', Ew', hW', hM⟩ hF)
        refine hK _ _ (fun h => by cases h) ?_; clear hK
        refine t_done (by kernel_rfl) ?_
        (repeat (first | (with_reducible refine w_seq ?_) | (with_reducible refine c_region ?_) | (with_reducible refine s_nil ?_) | (with_reducible refine q_then_n ?_) | ((with_reducible apply s_pure hF); exact rfl; exact rfl; exact rfl; (first | exact trivial | omega | exact ⟨Int.natCast_nonneg _, Int.ofNat_lt.2 (by assumption)⟩ | decide); clear hF a; intro a hF) | (with_reducible refine w_block ?_)))
        rw [show (1 : Int) = ((1 : Nat) : Int) from rfl] at hF
        have hfin : encD dict y = encF all (all.length - (t + 1)) (t + 1) toks (run ++ [x]) := by rw [henc]; exact encF_fuel _ _ _ _ _ _ (by omega) (by omega)
        refine c_loop (m := 1) (fun m a w' => ∃ (j : Nat) (E2 : Pl), m + j = 1 ∧ PlOk E2 ∧ (∀ k, lookP k E2 = plc all (t + j) k) ∧
          Fr 90 [] [(65, .int .i64 j), (64, .int .i64 (1 : Nat)), (5, .pointer (some ⟨eb, 0, none⟩))] a ∧
          Mm own W [⟨eb, ⟨[tv, wv', .slice (some ad) all.length cap, .int .i64 (t + j : Nat), .map (some mb)]⟩, 51⟩] (⟨5, 1, tv, (toks).length, (toks).map (Value.int .u8)⟩ :: Ew' :: rowsE E2) [MpE kA mb (esOf E2), RdF (Value.int .u8) (some ad) all] w')
          ⟨0, E, by omega, hE, hlk, hF.sub (by repeat (first | exact Sub.nil | refine Sub.cons rfl (by first | with_reducible rfl | (refine congrArg (Value.int _) ?_; omega) | exact rfl) ?_)), hM⟩ ?_
        clear hF hM a hE hlk hsv hrp E
        rintro m a w' ⟨j, E, hm, hE, hlk, hF, hM⟩
        by_cases hj : j < 1
        · (repeat' (first | (with_reducible refine w_seq ?_) | (with_reducible refine c_region ?_) | (with_reducible refine s_nil ?_) | ((with_reducible apply s_callM (f := 24) hF); exact rfl; exact rfl; exact rfl; exact rfl; exact rfl; exact (note_c (L1 := [_, _]) all hlen (some ad) cap hcap eb _ mb _ _ hE (fun k => Nat.le_trans (Nat.le_of_eq (congrArg _ (hlk k))) (Nat.le_trans (plc_len _ _ _) (by omega))) hmb hcf hM (t + j) _ rfl (by omega)); clear hF hM a; rintro v w a ⟨E', hE', hlk', hM⟩ hF; dsimp only [List.cons_append, List.nil_append] at hM) | (with_reducible refine q_then_n ?_) | ((with_reducible apply s_pure hF); exact rfl; exact rfl; exact rfl; (first | exact trivial | omega | exact ⟨Int.natCast_nonneg _, Int.ofNat_lt.2 (by assumption)⟩ | decide); clear hF a; intro a hF) | ((with_reducible apply s_load hF hM); exact rfl; exact rfl; (repeat (first | exact List.mem_cons_self | refine List.mem_cons_of_mem _ ?_)); exact rfl; exact rfl; clear hF a; intro a hF) | ((with_reducible apply s_store hF hM); exact rfl; exact rfl; exact rfl; exact rfl; (repeat (first | exact Upd.z | apply Upd.s)); exact rfl; exact rfl; exact rfl; clear hM; intro w hM) | (with_reducible refine w_skip ?_) | (with_reducible refine w_block ?_) | (with_reducible refine q_blk_n ?_) | ((with_reducible apply c_dec hF); exact rfl; all_goals intro hc; all_goals (try (exfalso; omega)))))
          rw [show (((t + j : Nat) : Int) + 1) = ((t + (j + 1) : Nat) : Int) by omega] at hM
          exact ⟨m - 1, by omega, j + 1, E', by omega, hE', fun k => by rw [hlk', hlk, show t + (j + 1) = t + j + 1 by omega, plc_succ], hF.sub (by repeat (first | exact Sub.nil | refine Sub.cons rfl (by first | with_reducible rfl | (refine congrArg (Value.int _) ?_; omega) | exact rfl) ?_)), hM⟩
        · have hje : 1 = j := by omega
          subst hje
          (repeat' (first | (with_reducible refine w_seq ?_) | (with_reducible refine c_region ?_) | (with_reducible refine s_nil ?_) | (with_reducible refine q_then_n ?_) | ((with_reducible apply s_pure hF); exact rfl; exact rfl; exact rfl; (first | exact trivial | omega | exact ⟨Int.natCast_nonneg _, Int.ofNat_lt.2 (by assumption)⟩ | decide); clear hF a; intro a hF) | (with_reducible refine w_exit ?_) | (with_reducible refine q_then_x ?_) | (with_reducible refine q_blk_n ?_) | (with_reducible refine q_blk_x ?_) | ((with_reducible apply c_false2 hF); exact rfl; (first | with_reducible rfl | (refine congrArg Value.bool ?_; focus (simp; done))))))
          refine ⟨all.length - (t + 1), by omega, t + 1, toks, run ++ [x], tv, wv', Ew', E, by omega, by omega, hfin, ?_, ?_, hE, hlk, ?_, hF.sub (by repeat (first | exact Sub.nil | refine Sub.cons rfl (by first | with_reducible rfl | (refine congrArg (Value.int _) ?_; omega) | exact rfl) ?_)), hM⟩
          · rw [List.length_append, List.length_singleton]; omega
          · rw [List.length_append, List.length_singleton]; omega
          · rw [List.length_append, List.length_singleton]; exact hW'
      · rw [if_neg h0] at henc
        rw [show decide (0 < ((best all t).2 : Int)) = true from decide_eq_true (by omega)] at hF
        obtain ⟨hn4, hn131, hd1, hd2, hd3, htn, _⟩ := best_ok h0
        generalize (best all t).2 = n at *
        generalize (best all t).1 = d at *
        have hll := litz_len run
        have hpl := puts_len 2 d (by omega)
        (repeat (first | (with_reducible refine w_seq ?_) | (with_reducible refine c_region ?_) | (with_reducible refine s_nil ?_) | ((with_reducible apply s_callM (f := 26) hF); exact rfl; exact rfl; exact rfl; exact rfl; exact rfl; exact (match_c eb tv wv _ _ _ toks run _ rfl hW (by omega) (by omega) hM d n hd2 ⟨hn4, hn131⟩); clear hF hM a; rintro v w a ⟨tv', wv', Ew', hW', hM⟩ hF) | (with_reducible refine q_then_n ?_) | ((with_reducible apply s_pure hF); exact rfl; exact rfl; exact rfl; (first | exact trivial | omega | exact ⟨Int.natCast_nonneg _, Int.ofNat_lt.2 (by assumption)⟩ | decide); clear hF a; intro a hF) | (with_reducible refine w_block ?_) | ((with_reducible apply c_true2 hF); exact rfl; (first | with_reducible rfl | (refine congrArg Value.bool ?_; focus (simp; done))))))
        have hfin : encD dict y = encF all (all.length - (t + n)) (t + n) (toks ++ litz run ++ [(124 + n : Int)] ++ puts d) [] := by rw [henc]; exact encF_fuel _ _ _ _ _ _ (by omega) (by omega)
        have hTl : (toks ++ litz run ++ [(124 + n : Int)] ++ puts d).length ≤ 4 * (t + n) := by
          simp only [List.length_append, List.length_singleton]; omega
        generalize toks ++ litz run ++ [(124 + n : Int)] ++ puts d = T at *
        refine c_loop (m := n) (fun m a w' => ∃ (j : Nat) (E2 : Pl), m + j = n ∧ PlOk E2 ∧ (∀ k, lookP k E2 = plc all (t + j) k) ∧
          Fr 90 [] [(65, .int .i64 j), (64, .int .i64 (n : Nat)), (5, .pointer (some ⟨eb, 0, none⟩))] a ∧
          Mm own W [⟨eb, ⟨[tv', wv', .slice g all.length cap, .int .i64 (t + j : Nat), .map (some mb)]⟩, 51⟩] (⟨5, 1, tv', (T).length, (T).map (Value.int .u8)⟩ :: Ew' :: rowsE E2) [MpE kA mb (esOf E2), RdF (Value.int .u8) g all] w')
          ⟨0, E, by omega, hE, hlk, hF.sub (by repeat (first | exact Sub.nil | refine Sub.cons rfl (by first | with_reducible rfl | (refine congrArg (Value.int _) ?_; omega) | exact rfl) ?_)), hM⟩ ?_
        clear hF hM a hE hlk hsv hrp E
        rintro m a w' ⟨j, E, hm, hE, hlk, hF, hM⟩
        by_cases hj : j < n
        · (repeat' (first | (with_reducible refine w_seq ?_) | (with_reducible refine c_region ?_) | (with_reducible refine s_nil ?_) | ((with_reducible apply s_callM (f := 24) hF); exact rfl; exact rfl; exact rfl; exact rfl; exact rfl; exact (note_c (L1 := [_, _]) all hlen g cap hcap eb _ mb _ _ hE (fun k => Nat.le_trans (Nat.le_of_eq (congrArg _ (hlk k))) (Nat.le_trans (plc_len _ _ _) (by omega))) hmb hcf hM (t + j) _ rfl (by omega)); clear hF hM a; rintro v w a ⟨E', hE', hlk', hM⟩ hF; dsimp only [List.cons_append, List.nil_append] at hM) | (with_reducible refine q_then_n ?_) | ((with_reducible apply s_pure hF); exact rfl; exact rfl; exact rfl; (first | exact trivial | omega | exact ⟨Int.natCast_nonneg _, Int.ofNat_lt.2 (by assumption)⟩ | decide); clear hF a; intro a hF) | ((with_reducible apply s_load hF hM); exact rfl; exact rfl; (repeat (first | exact List.mem_cons_self | refine List.mem_cons_of_mem _ ?_)); exact rfl; exact rfl; clear hF a; intro a hF) | ((with_reducible apply s_store hF hM); exact rfl; exact rfl; exact rfl; exact rfl; (repeat (first | exact Upd.z | apply Upd.s)); exact rfl; exact rfl; exact rfl; clear hM; intro w hM) | (with_reducible refine w_skip ?_) | (with_reducible refine w_block ?_) | (with_reducible refine q_blk_n ?_) | ((with_reducible apply c_dec hF); exact rfl; all_goals intro hc; all_goals (try (exfalso; omega)))))
          rw [show (((t + j : Nat) : Int) + 1) = ((t + (j + 1) : Nat) : Int) by omega] at hM
          exact ⟨m - 1, by omega, j + 1, E', by omega, hE', fun k => by rw [hlk', hlk, show t + (j + 1) = t + j + 1 by omega, plc_succ], hF.sub (by repeat (first | exact Sub.nil | refine Sub.cons rfl (by first | with_reducible rfl | (refine congrArg (Value.int _) ?_; omega) | exact rfl) ?_)), hM⟩
        · have hje : n = j := by omega
          subst hje
          (repeat' (first | (with_reducible refine w_seq ?_) | (with_reducible refine c_region ?_) | (with_reducible refine s_nil ?_) | (with_reducible refine q_then_n ?_) | ((with_reducible apply s_pure hF); exact rfl; exact rfl; exact rfl; (first | exact trivial | omega | exact ⟨Int.natCast_nonneg _, Int.ofNat_lt.2 (by assumption)⟩ | decide); clear hF a; intro a hF) | (with_reducible refine w_exit ?_) | (with_reducible refine q_then_x ?_) | (with_reducible refine q_blk_n ?_) | (with_reducible refine q_blk_x ?_) | ((with_reducible apply c_false2 hF); exact rfl; (first | with_reducible rfl | (refine congrArg Value.bool ?_; focus (simp; done))))))
          refine ⟨all.length - (t + n), by omega, t + n, T, [], tv', wv', Ew', E, by omega, by omega, hfin, ?_, by simp, hE, hlk, hW', hF.sub (by repeat (first | exact Sub.nil | refine Sub.cons rfl (by first | with_reducible rfl | (refine congrArg (Value.int _) ?_; omega) | exact rfl) ?_)), hM⟩
          rw [List.length_nil]; omega
    · obtain rfl : f = 0 := by omega
      rw [encF] at henc
      with_reducible refine w_seq ?_
      with_reducible refine w_seq ?_
      refine c_draw (fun i => Nat.ble 10 i) hM ?_; clear hM; intro w hM
      (first | (refine t_pure (i := 0) hF rfl rfl rfl rfl (by kernel_rfl) hM.sm (fun _ _ _ h => h) ?_ ?_; (first | exact trivial | omega | decide); clear hF a; intro a hF))
      (first | (refine t_pure (i := 1) hF rfl rfl rfl rfl (by kernel_rfl) hM.sm (fun _ _ _ h => h) ?_ ?_; (first | exact trivial | omega | decide); clear hF a; intro a hF))
      (first | (refine t_pure (i := 2) hF rfl rfl rfl rfl (by kernel_rfl) hM.sm (fun _ _ _ h => h) ?_ ?_; (first | exact trivial | omega | decide); clear hF a; intro a hF))
      (first | (apply t_load (i := 3) hF rfl rfl rfl; (repeat (first | exact List.mem_cons_self | refine List.mem_cons_of_mem _ ?_)); exact rfl; exact rfl; kernel_rfl; exact hM.sm; exact (fun _ _ _ h => h); clear hF a; intro a hF))
      (first | (refine t_pure (i := 4) hF rfl rfl rfl rfl (by kernel_rfl) hM.sm (fun _ _ _ h => h) ?_ ?_; (first | exact trivial | omega | decide); clear hF a; intro a hF))
      (first | (refine t_pure (i := 5) hF rfl rfl rfl rfl (by kernel_rfl) hM.sm (fun _ _ _ h => h) ?_ ?_; (first | exact trivial | omega | decide); clear hF a; intro a hF))
      (first | (refine t_pure (i := 6) hF rfl rfl rfl rfl (by kernel_rfl) hM.sm (fun _ _ _ h => h) ?_ ?_; (first | exact trivial | omega | decide); clear hF a; intro a hF))
      (first | (apply t_load (i := 7) hF rfl rfl rfl; (repeat (first | exact List.mem_cons_self | refine List.mem_cons_of_mem _ ?_)); exact rfl; exact rfl; kernel_rfl; exact hM.sm; exact (fun _ _ _ h => h); clear hF a; intro a hF))
      (first | (refine t_pure (i := 8) hF rfl rfl rfl rfl (by kernel_rfl) hM.sm (fun _ _ _ h => h) ?_ ?_; (first | exact trivial | omega | decide); clear hF a; intro a hF))
      (first | (refine t_pure (i := 9) hF rfl rfl rfl rfl (by kernel_rfl) hM.sm (fun _ _ _ h => h) ?_ ?_; (first | exact trivial | omega | decide); clear hF a; intro a hF))
      rw [show decide ((t : Int) < (all.length : Int)) = false from decide_eq_false (by omega)] at hF
      refine t_done (by kernel_rfl) ?_
      (repeat' (first | (with_reducible refine w_seq ?_) | (with_reducible refine c_region ?_) | (with_reducible refine s_nil ?_) | ((with_reducible apply s_callM (f := 28) hF); exact rfl; exact rfl; exact rfl; exact rfl; exact rfl; exact (flush_c eb tv wv _ _ _ toks run _ rfl hW (by omega) (by omega) hM); clear hF hM a; rintro v w a ⟨tv', wv', Ew', hW', hM⟩ hF) | (with_reducible refine q_then_n ?_) | ((with_reducible apply s_pure hF); exact rfl; exact rfl; exact rfl; (first | exact trivial | omega | exact ⟨Int.natCast_nonneg _, Int.ofNat_lt.2 (by assumption)⟩ | decide); clear hF a; intro a hF) | ((with_reducible apply s_load hF hM); exact rfl; exact rfl; (repeat (first | exact List.mem_cons_self | refine List.mem_cons_of_mem _ ?_)); exact rfl; exact rfl; clear hF a; intro a hF) | (with_reducible refine w_exit ?_) | (with_reducible refine w_ret ?_) | (with_reducible refine q_then_x ?_) | (with_reducible refine q_blk_x ?_) | ((with_reducible apply c_false2 hF); exact rfl; (first | with_reducible rfl | (refine congrArg Value.bool ?_; focus (simp; done))))))
      (apply f_ret Try.results14 hF hM; (repeat (first | exact RL.nil | (apply RL.tmp; exact rfl) | (apply RL.cell; exact rfl; (repeat (first | exact List.mem_cons_self | refine List.mem_cons_of_mem _ ?_)); exact rfl))); refine Ret.mk hM.since ?_; dsimp only [resV])
      rw [henc]
      obtain ⟨a', c', rfl, _, _⟩ := hM.row (enc := Value.int .u8) List.mem_cons_self
      exact ⟨a', c', rfl, (hM.sub (List.nil_sublist _) (.cons_cons _ (List.nil_sublist _)) (fun _ h => h)).mem.own⟩
end
end Go.Proofs.Ytocgpllmfdnfjaa

/- dictionary.Decode. -/
namespace Go.Proofs.Ytocgpllmfdnfjaa
open Go.RowKit Go.Shelf
theorem rd_cells {own : Nat → Prop} {w : World} {α : Type} {enc : α → Value} {ad : Addr} {ys : List α} (h : Has own w (RdF enc (some ad) ys)) (q : Nat) : ∀ (j : Nat) (u : Value), ((ys.take q).map enc)[j]? = some u → w.cell? (ad.add j) = some u := by
  intro j u hu
  rw [List.getElem?_map, List.getElem?_take] at hu
  split at hu
  · cases hy : ys[j]? with
    | none => rw [hy] at hu; cases hu
    | some y =>
      rw [hy] at hu
      injection hu with hu
      obtain ⟨b, off, e1, _, e2⟩ := h.get j y hy
      injection e1 with e1
      subst e1
      rw [add_lit, e2, hu]
  · cases hu
theorem RdF.dropO {α : Type} {enc : α → Value} {own : Nat → Prop} {w : World} {ao : Option Addr} {xs : List α} (h : Has own w (RdF enc ao xs)) (k m : Nat) (hm : xs.length ≤ m) : Has own w (RdF enc (sadr ao k m 1) (xs.drop k)) := by
  cases ao with
  | some ad => exact RdF.drop h k m hm
  | none =>
    cases xs with
    | nil => rw [List.drop_nil]; exact RdF.nil
    | cons x r => obtain ⟨_, _, e, _⟩ := h.get 0 x rfl; cases e
/-- Bytes copied from d before the end. -/
def copyN (d : Nat) : Nat → List Int → List Int
  | 0, al => al
  | n + 1, al => copyN d n (al ++ [al.getD (al.length - d) 0])
theorem copyN_len (d : Nat) : ∀ (n : Nat) (al : List Int), (copyN d n al).length = al.length + n
  | 0, al => rfl
  | n + 1, al => by rw [copyN, copyN_len d n, List.length_append, List.length_singleton]; omega
theorem copyN_succ (d : Nat) : ∀ (n : Nat) (al : List Int), copyN d (n + 1) al = copyN d n al ++ [(copyN d n al).getD ((copyN d n al).length - d) 0]
  | 0, al => rfl
  | n + 1, al => by rw [copyN, copyN_succ d n]; rfl
/-- What tokens add to what is there. -/
def dcF (dl : Nat) (most : Int) : Nat → List Int → List Int → Except Int (List Int)
  | 0, _, al => .ok al
  | _ + 1, [], al => .ok al
  | f + 1, x :: b, al =>
    if x = 0 then .error 3
    else if x ≤ 127 then
      if (b.length : Int) < x then .error 10
      else if most < (al.length : Int) + x - dl then .error 5
      else dcF dl most f (b.drop x.toNat) (al ++ b.take x.toNat)
    else if (rdNum b).2.1 ≠ 0 then .error (rdNum b).2.1
    else if (rdNum b).1 < 1 ∨ 4096 < (rdNum b).1 ∨ (al.length : Int) < (rdNum b).1 then .error 3
    else if most < (al.length : Int) + (x - 124) - dl then .error 5
    else dcF dl most f (b.drop (rdNum b).2.2) (copyN (rdNum b).1.toNat (x - 124).toNat al)
def finD (dl : Nat) (r : Except Int (List Int)) : Except Int (List Int) := match r with
  | .error e => .error e
  | .ok al => .ok (al.drop dl)
def decD (dict y : List Int) (most : Int) : Except Int (List Int) := if most < 0 then .error 2 else finD dict.length (dcF dict.length most y.length y dict)
theorem dcF_nil (dl : Nat) (most : Int) (f : Nat) (al : List Int) : dcF dl most f [] al = .ok al := by cases f <;> rfl
/-- Bytes or an error. -/
def BDec (own : Nat → Prop) (r : Except Int (List Int)) (v : Value) (w' : World) : Prop := match r with
  | .error e => v = .tuple #[.slice none 0 0, .int .i64 e]
  | .ok xs => ∃ a' c', v = .tuple #[.slice a' xs.length c', .int .i64 0] ∧ xs.length ≤ c' ∧ Has own w' (RdF (Value.int .u8) a' xs)
section
variable (dict y : List Int) (hy : By y) (hlen : dict.length ≤ 10000 ∧ y.length ≤ 10000) (most : Int) (hmost : most ≤ 9223372036854775807 ∧ -9223372036854775808 ≤ most) (a1 a2 : Option Addr) (c1 c2 : Nat) (hc2 : y.length ≤ c2) (own : Nat → Prop) (W : World) (hl : ∀ b, own b → b < W.heap.size) (hv1 : Has own W (RdF (Value.int .u8) a1 dict)) (hv2 : Has own W (RdF (Value.int .u8) a2 y))
include hy hlen hmost hc2 hl hv1 hv2
set_option maxRecDepth 20000 in
theorem DecodeD_c : Calls Try.prog 16 ⟨[.slice a1 dict.length c1, .slice a2 y.length c2, .int .i64 most]⟩ W (Ret W (BDec own (decD dict y most))) := by
  obtain ⟨hd, hyl⟩ := hlen
  have hM := ((Mm.start hl).known hv1).known hv2
  by_cases h0 : most < 0
  · have hD : decD dict y most = .error 2 := by unfold decD; rw [if_pos h0]
    rw [hD]
    refine f_start Try.func16 rfl Try.ntmps16 rfl rfl ?_; intro a hF
    (repeat' (first | (with_reducible refine w_seq ?_) | (with_reducible refine c_region ?_) | (with_reducible refine s_nil ?_) | (with_reducible refine q_then_n ?_) | ((with_reducible apply s_pure hF); exact rfl; exact rfl; exact rfl; (first | exact trivial | omega | exact ⟨Int.natCast_nonneg _, Int.ofNat_lt.2 (by assumption)⟩ | decide); clear hF a; intro a hF) | (with_reducible refine w_ret ?_) | (with_reducible refine q_then_r ?_) | ((with_reducible apply c_dec hF); exact rfl; all_goals intro hc; all_goals (try (exfalso; omega)))))
    (apply f_ret Try.results16 hF hM; (repeat (first | exact RL.nil | (apply RL.tmp; exact rfl) | (apply RL.cell; exact rfl; (repeat (first | exact List.mem_cons_self | refine List.mem_cons_of_mem _ ?_)); exact rfl))); refine Ret.mk hM.since ?_; dsimp only [resV])
    rfl
  have hD : decD dict y most = finD dict.length (dcF dict.length most y.length y dict) := by unfold decD; rw [if_neg h0]
  refine f_start Try.func16 rfl Try.ntmps16 rfl rfl ?_; intro a hF
  (repeat' (first | (with_reducible refine w_seq ?_) | (with_reducible refine c_region ?_) | (with_reducible refine s_nil ?_) | ((with_reducible apply s_callO (f := 23) hF); exact rfl; exact rfl; exact rfl; exact rfl; exact rfl; exact (bclone_c a1 c1 dict _ _ hM.lt (hM.facts _ (by (repeat (first | exact List.mem_cons_self | refine List.mem_cons_of_mem _ ?_)))) (by omega)); clear hF a; rintro v wn a ⟨a3, c3, rfl, hO⟩ hS hF; replace hM := hM.addRows hS hO; clear hS hO; dsimp only [List.cons_append, List.nil_append] at hM) | (with_reducible refine q_then_n ?_) | ((with_reducible apply s_pure hF); exact rfl; exact rfl; exact rfl; (first | exact trivial | omega | exact ⟨Int.natCast_nonneg _, Int.ofNat_lt.2 (by assumption)⟩ | decide); clear hF a; intro a hF) | (with_reducible refine w_skip ?_) | (with_reducible refine w_block ?_) | ((with_reducible apply c_dec hF); exact rfl; all_goals intro hc; all_goals (try (exfalso; omega)))))
  refine c_loop (m := y.length) (fun f a w' => ∃ (xs al : List Int) (ax av : Option Addr) (cx cv : Nat), decD dict y most = finD dict.length (dcF dict.length most f xs al) ∧ xs.length ≤ f ∧ By xs ∧ xs.length ≤ cx ∧ dict.length ≤ al.length ∧ al.length + 10000 * f ≤ dict.length + 10000 * y.length ∧ f ≤ y.length ∧
    Fr 94 [] [(8, .slice av al.length cv), (1, .slice ax xs.length cx), (0, .slice a1 dict.length c1), (2, .int .i64 most)] a ∧
    Mm own W [] [⟨5, 1, .slice av al.length cv, al.length, al.map (Value.int .u8)⟩] [RdF (Value.int .u8) ax xs] w')
    ⟨y, dict, a2, a3, c2, c3, hD, Nat.le_refl _, hy, hc2, Nat.le_refl _, Nat.le_refl _, Nat.le_refl _, hF.sub (by repeat (first | exact Sub.nil | refine Sub.cons rfl (by first | with_reducible rfl | (refine congrArg (Value.int _) ?_; omega) | exact rfl) ?_)), hM.sub (.refl _) (.refl _) (by intro f hf; simp only [List.mem_cons, List.not_mem_nil, or_false] at hf; (repeat (rcases hf with rfl | hf; · (repeat (first | exact List.mem_cons_self | refine List.mem_cons_of_mem _ ?_)))); first | (subst hf; (repeat (first | exact List.mem_cons_self | refine List.mem_cons_of_mem _ ?_)); done) | (repeat (first | exact hf | refine List.mem_cons_of_mem _ ?_)))⟩ ?_
  clear hF hM a hD
  rintro f a w' ⟨xs, al, ax, av, cx, cv, hD, hxf, hxb, hcx, hdal, hal, hfy, hF, hM⟩
  have hcap := row_capB hM List.mem_cons_self
  match hxs : xs with
  | [] =>
    rw [dcF_nil] at hD
    (repeat' (first | (with_reducible refine w_seq ?_) | (with_reducible refine c_region ?_) | (with_reducible refine s_nil ?_) | (with_reducible refine q_then_n ?_) | ((with_reducible apply s_pure hF); exact rfl; exact rfl; exact rfl; (first | exact trivial | omega | exact ⟨Int.natCast_nonneg _, Int.ofNat_lt.2 (by assumption)⟩ | decide); clear hF a; intro a hF) | (with_reducible refine w_exit ?_) | (with_reducible refine q_then_x ?_) | (with_reducible refine q_blk_x ?_) | ((with_reducible apply c_false2 hF); exact rfl; (first | with_reducible rfl | (refine congrArg Value.bool ?_; focus (simp; done))))))
    rw [Int.toNat_natCast, Int.toNat_natCast, show al.length - dict.length = (al.drop dict.length).length from List.length_drop.symm] at hF
    have hrd := RdF.dropO (hM.rowFact List.mem_cons_self) dict.length cv hcap
    have hdl : (al.drop dict.length).length ≤ 10000000000 := by rw [List.length_drop]; omega
    (repeat (first | (with_reducible refine s_nil ?_) | ((with_reducible apply s_callO (f := 23) hF); exact rfl; exact rfl; exact rfl; exact rfl; exact rfl; exact (bclone_c _ _ (al.drop dict.length) own _ (fun b h => hM.lt b (.inl h)) hrd hdl); clear hF a; rintro v wn a ⟨a4, c4, rfl, hO⟩ hS hF; replace hM := hM.addRows hS hO; clear hS hO; dsimp only [List.cons_append, List.nil_append] at hM) | (with_reducible refine q_then_n ?_) | ((with_reducible apply s_pure hF); exact rfl; exact rfl; exact rfl; (first | exact trivial | omega | exact ⟨Int.natCast_nonneg _, Int.ofNat_lt.2 (by assumption)⟩ | decide); clear hF a; intro a hF) | (with_reducible refine w_ret ?_)))
    have hcap2 := row_capB hM List.mem_cons_self
    (apply f_ret Try.results16 hF hM; (repeat (first | exact RL.nil | (apply RL.tmp; exact rfl) | (apply RL.cell; exact rfl; (repeat (first | exact List.mem_cons_self | refine List.mem_cons_of_mem _ ?_)); exact rfl))); refine Ret.mk hM.since ?_; dsimp only [resV])
    rw [hD]
    exact ⟨a4, c4, rfl, hcap2, hM.rowFact List.mem_cons_self⟩
  | x :: b =>
    obtain ⟨f, rfl⟩ : ∃ k, f = k + 1 := ⟨f - 1, by simp at hxf; omega⟩
    rw [dcF] at hD
    have hlx : (x :: b).length = b.length + 1 := List.length_cons
    have hx := hxb x List.mem_cons_self
    have hbb : By b := fun z hz => hxb z (List.mem_cons_of_mem _ hz)
    have hbl : b.length ≤ f := by simpa using hxf
    have hx0 : (x :: b)[((0 : Int)).toNat]? = some x := rfl
    obtain ⟨ad, rfl⟩ : ∃ ad, ax = some ad := rd_some hM (by (repeat (first | exact List.mem_cons_self | refine List.mem_cons_of_mem _ ?_))) (k := 0) (x := x) rfl
    have hbf := RdF.drop (hM.facts (RdF (Value.int .u8) (some ad) (x :: b)) (by (repeat (first | exact List.mem_cons_self | refine List.mem_cons_of_mem _ ?_)))) 1 cx hcx
    rw [show (x :: b).drop 1 = b from rfl] at hbf
    have hcx' : b.length ≤ cx - 1 := by simp at hcx; omega
    by_cases hz : x = 0
    · rw [if_pos hz] at hD
      (repeat' (first | (with_reducible refine w_seq ?_) | (with_reducible refine c_region ?_) | (with_reducible refine s_nil ?_) | (with_reducible refine q_then_n ?_) | ((with_reducible apply s_pure hF); exact rfl; exact rfl; exact rfl; (first | exact trivial | omega | exact ⟨Int.natCast_nonneg _, Int.ofNat_lt.2 (by assumption)⟩ | decide); clear hF a; intro a hF) | ((with_reducible apply s_loadF hF hM); exact rfl; exact rfl; (repeat (first | exact List.mem_cons_self | refine List.mem_cons_of_mem _ ?_)); exact rfl; exact rfl; (first | with_reducible assumption | (simp only [Int.toNat_natCast]; with_reducible assumption)); clear hF a; intro a hF) | (with_reducible refine w_skip ?_) | (with_reducible refine w_block ?_) | (with_reducible refine w_ret ?_) | (with_reducible refine q_then_r ?_) | (with_reducible refine q_blk_r ?_) | ((with_reducible apply c_true2 hF); exact rfl; (first | with_reducible rfl | (refine congrArg Value.bool ?_; focus (simp; done)))) | ((with_reducible apply c_dec hF); exact rfl; all_goals intro hc; all_goals (try (exfalso; omega)))))
      (apply f_ret Try.results16 hF hM; (repeat (first | exact RL.nil | (apply RL.tmp; exact rfl) | (apply RL.cell; exact rfl; (repeat (first | exact List.mem_cons_self | refine List.mem_cons_of_mem _ ?_)); exact rfl))); refine Ret.mk hM.since ?_; dsimp only [resV])
      rw [hD]
      rfl
    rw [if_neg hz] at hD
    by_cases h127 : x ≤ 127
    · rw [if_pos h127] at hD
      by_cases htorn : (b.length : Int) < x
      · rw [if_pos htorn] at hD
        (repeat' (first | (with_reducible refine w_seq ?_) | (with_reducible refine c_region ?_) | (with_reducible refine s_nil ?_) | (with_reducible refine q_then_n ?_) | ((with_reducible apply s_pure hF); exact rfl; exact rfl; exact rfl; (first | exact trivial | omega | exact ⟨Int.natCast_nonneg _, Int.ofNat_lt.2 (by assumption)⟩ | decide); clear hF a; intro a hF) | ((with_reducible apply s_loadF hF hM); exact rfl; exact rfl; (repeat (first | exact List.mem_cons_self | refine List.mem_cons_of_mem _ ?_)); exact rfl; exact rfl; (first | with_reducible assumption | (simp only [Int.toNat_natCast]; with_reducible assumption)); clear hF a; intro a hF) | (with_reducible refine w_skip ?_) | (with_reducible refine w_block ?_) | (with_reducible refine w_ret ?_) | (with_reducible refine q_then_r ?_) | (with_reducible refine q_blk_r ?_) | ((with_reducible apply c_true2 hF); exact rfl; (first | with_reducible rfl | (refine congrArg Value.bool ?_; focus (simp; done)))) | ((with_reducible apply c_dec hF); exact rfl; all_goals intro hc; all_goals (try (exfalso; omega)))))
        (apply f_ret Try.results16 hF hM; (repeat (first | exact RL.nil | (apply RL.tmp; exact rfl) | (apply RL.cell; exact rfl; (repeat (first | exact List.mem_cons_self | refine List.mem_cons_of_mem _ ?_)); exact rfl))); refine Ret.mk hM.since ?_; dsimp only [resV])
        rw [hD]
        rfl
      rw [if_neg htorn] at hD
      obtain ⟨n, rfl⟩ : ∃ n : Nat, x = n := ⟨x.toNat, by omega⟩
      rw [Int.toNat_natCast] at hD
      obtain ⟨x2, hx2⟩ := get_of_lt (l := b) (i := 0) (by omega)
      obtain ⟨ad2, hAd⟩ : ∃ ad2, sadr (some ad) 1 cx 1 = some ad2 := by unfold sadr; split <;> exact ⟨_, rfl⟩
      (repeat' (first | (with_reducible refine w_seq ?_) | (with_reducible refine c_region ?_) | (with_reducible refine s_nil ?_) | (with_reducible refine q_then_n ?_) | ((with_reducible apply s_pure hF); exact rfl; exact rfl; exact rfl; (first | exact trivial | omega | exact ⟨Int.natCast_nonneg _, Int.ofNat_lt.2 (by assumption)⟩ | decide); clear hF a; intro a hF) | ((with_reducible apply s_loadF hF hM); exact rfl; exact rfl; (repeat (first | exact List.mem_cons_self | refine List.mem_cons_of_mem _ ?_)); exact rfl; exact rfl; (first | with_reducible assumption | (simp only [Int.toNat_natCast]; with_reducible assumption)); clear hF a; intro a hF) | (with_reducible refine w_skip ?_) | (with_reducible refine w_block ?_) | ((with_reducible apply c_true2 hF); exact rfl; (first | with_reducible rfl | (refine congrArg Value.bool ?_; focus (simp; done)))) | ((with_reducible apply c_dec hF); exact rfl; all_goals intro hc; all_goals (try (exfalso; omega)))))
      rw [show (((((n : Int) :: b).length : Nat) : Int)).toNat - (1 : Int).toNat = b.length by rw [hlx]; omega, show (1 : Int).toNat = 1 from rfl, hAd] at hF
      rw [hAd] at hbf
      replace hM := hM.addFact hbf
      refine c_draw (fun i => Nat.ble 10 i) hM ?_; clear hM; intro w hM
      (first | (refine t_pure (i := 0) hF rfl rfl rfl rfl (by kernel_rfl) hM.sm (fun _ _ _ h => h) ?_ ?_; (first | exact trivial | omega | decide); clear hF a; intro a hF))
      (first | (refine t_pure (i := 1) hF rfl rfl rfl rfl (by kernel_rfl) hM.sm (fun _ _ _ h => h) ?_ ?_; (first | exact trivial | omega | decide); clear hF a; intro a hF))
      (first | (refine t_pure (i := 2) hF rfl rfl rfl rfl (by kernel_rfl) hM.sm (fun _ _ _ h => h) ?_ ?_; (first | exact trivial | omega | decide); clear hF a; intro a hF))
      (first | (refine t_pure (i := 3) hF rfl rfl rfl rfl (by kernel_rfl) hM.sm (fun _ _ _ h => h) ?_ ?_; (first | exact trivial | omega | decide); clear hF a; intro a hF))
      rw [show ((0 : Int)).toNat = 0 from rfl, sadr_z, Int.toNat_natCast, Nat.sub_zero] at hF
      (first | (refine t_pure (i := 5) hF rfl rfl rfl rfl (by kernel_rfl) (hM.sm.sub (fun x hx => by repeat (first | exact hx | refine List.mem_cons_of_mem _ ?_)) (fun _ h => by repeat (first | exact h | refine List.mem_cons_of_mem _ ?_))) (fun _ _ _ h => h) ?_ ?_; (first | exact trivial | omega | decide); clear hF a; intro a hF))
      (first | (refine t_pure (i := 6) hF rfl rfl rfl rfl (by kernel_rfl) (hM.sm.sub (fun x hx => by repeat (first | exact hx | refine List.mem_cons_of_mem _ ?_)) (fun _ h => by repeat (first | exact h | refine List.mem_cons_of_mem _ ?_))) (fun _ _ _ h => h) ?_ ?_; (first | exact trivial | omega | decide); clear hF a; intro a hF))
      (first | (refine t_pure (i := 7) hF rfl rfl rfl rfl (by kernel_rfl) (hM.sm.sub (fun x hx => by repeat (first | exact hx | refine List.mem_cons_of_mem _ ?_)) (fun _ h => by repeat (first | exact h | refine List.mem_cons_of_mem _ ?_))) (fun _ _ _ h => h) ?_ ?_; (first | exact trivial | omega | decide); clear hF a; intro a hF))
      rw [Int.toNat_natCast, Int.toNat_natCast] at hF
      refine t_one (i := 4) hF rfl (by kernel_rfl) rfl ?_
      intro K hK
      (refine e_app (k := 0) (ys := (b.take n).map (Value.int .u8)) hF hM rfl rfl rfl .z (by rw [List.length_map, List.length_take]; omega) (rd_cells (hM.facts _ List.mem_cons_self) n) (one_map' _) (by omega) ⟨by omega, by omega⟩ ?_; clear hM; intro gA cap w hM; dsimp only [List.set] at hM; replace hF := hF.put (d := 78) rfl (.slice (some ⟨gA, 0, none⟩) (al.length + n) cap); generalize a.put (some 78) _ = a at *)
      refine hK _ _ (fun _ => (hM.sm.sub (fun x hx => by repeat (first | exact hx | refine List.mem_cons_of_mem _ ?_)) (fun _ h => by repeat (first | exact h | refine List.mem_cons_of_mem _ ?_)))) ?_; clear hK
      (first | (refine t_pure (i := 8) hF rfl rfl rfl rfl (by kernel_rfl) (hM.sm.sub (fun x hx => by repeat (first | exact hx | refine List.mem_cons_of_mem _ ?_)) (fun _ h => by repeat (first | exact h | refine List.mem_cons_of_mem _ ?_))) (fun _ _ _ h => h) ?_ ?_; (first | exact trivial | omega | decide); clear hF a; intro a hF))
      (first | (refine t_pure (i := 9) hF rfl rfl rfl rfl (by kernel_rfl) (hM.sm.sub (fun x hx => by repeat (first | exact hx | refine List.mem_cons_of_mem _ ?_)) (fun _ h => by repeat (first | exact h | refine List.mem_cons_of_mem _ ?_))) (fun _ _ _ h => h) ?_ ?_; (first | exact trivial | omega | decide); clear hF a; intro a hF))
      refine t_done (by kernel_rfl) ?_
      by_cases hlong : most < (al.length : Int) + n - dict.length
      · rw [if_pos hlong] at hD
        (repeat' (first | (with_reducible refine w_seq ?_) | (with_reducible refine c_region ?_) | (with_reducible refine s_nil ?_) | (with_reducible refine q_then_n ?_) | ((with_reducible apply s_pure hF); exact rfl; exact rfl; exact rfl; (first | exact trivial | omega | exact ⟨Int.natCast_nonneg _, Int.ofNat_lt.2 (by assumption)⟩ | decide); clear hF a; intro a hF) | (with_reducible refine w_ret ?_) | (with_reducible refine q_then_r ?_) | (with_reducible refine q_blk_n ?_) | (with_reducible refine q_blk_r ?_) | ((with_reducible apply c_dec hF); exact rfl; all_goals intro hc; all_goals (try (exfalso; omega)))))
        (apply f_ret Try.results16 hF hM; (repeat (first | exact RL.nil | (apply RL.tmp; exact rfl) | (apply RL.cell; exact rfl; (repeat (first | exact List.mem_cons_self | refine List.mem_cons_of_mem _ ?_)); exact rfl))); refine Ret.mk hM.since ?_; dsimp only [resV])
        rw [hD]
        rfl
      · rw [if_neg hlong] at hD
        (repeat' (first | (with_reducible refine w_seq ?_) | (with_reducible refine c_region ?_) | (with_reducible refine s_nil ?_) | (with_reducible refine q_then_n ?_) | ((with_reducible apply s_pure hF); exact rfl; exact rfl; exact rfl; (first | exact trivial | omega | exact ⟨Int.natCast_nonneg _, Int.ofNat_lt.2 (by assumption)⟩ | decide); clear hF a; intro a hF) | (with_reducible refine w_skip ?_) | (with_reducible refine q_blk_n ?_) | ((with_reducible apply c_dec hF); exact rfl; all_goals intro hc; all_goals (try (exfalso; omega)))))
        have e1 : (al ++ b.take n).length = al.length + n := by rw [List.length_append, List.length_take]; omega
        have e2 : (b.drop n).length = b.length - n := List.length_drop
        refine ⟨f, by omega, b.drop n, al ++ b.take n, sadr (some ad2) n (cx - 1) 1, some ⟨gA, 0, none⟩, cx - 1 - n, cap, hD, by omega, fun z hz => hbb z (List.mem_of_mem_drop hz), by omega, by omega, by omega, by omega, ?_, ?_⟩
        · rw [e1, e2]
          exact hF.sub (by repeat (first | exact Sub.nil | refine Sub.cons rfl (by first | with_reducible rfl | (refine congrArg (Value.int _) ?_; omega) | exact rfl) ?_))
        · rw [e1, List.map_append]
          exact (hM.addFact (RdF.drop (hM.facts _ List.mem_cons_self) n (cx - 1) hcx')).sub (.refl _) (.refl _) (by intro f hf; simp only [List.mem_cons, List.not_mem_nil, or_false] at hf; (repeat (rcases hf with rfl | hf; · (repeat (first | exact List.mem_cons_self | refine List.mem_cons_of_mem _ ?_)))); first | (subst hf; (repeat (first | exact List.mem_cons_self | refine List.mem_cons_of_mem _ ?_)); done) | (repeat (first | exact hf | refine List.mem_cons_of_mem _ ?_)))
    · rw [if_neg h127] at hD
      obtain ⟨n, hn⟩ : ∃ n : Nat, x - 124 = n := ⟨(x - 124).toNat, by omega⟩
      rw [hn, Int.toNat_natCast] at hD
      obtain ⟨ab, hAb⟩ : ∃ ab, sadr (some ad) 1 cx 1 = ab := ⟨_, rfl⟩
      rw [hAb] at hbf
      replace hM := hM.addFact hbf
      clear hbf
      (repeat' (first | (with_reducible refine w_seq ?_) | (with_reducible refine c_region ?_) | (with_reducible refine s_nil ?_) | (with_reducible refine q_then_n ?_) | ((with_reducible apply s_pure hF); exact rfl; exact rfl; exact rfl; (first | exact trivial | omega | exact ⟨Int.natCast_nonneg _, Int.ofNat_lt.2 (by assumption)⟩ | decide); clear hF a; intro a hF) | ((with_reducible apply s_loadF hF hM); exact rfl; exact rfl; (repeat (first | exact List.mem_cons_self | refine List.mem_cons_of_mem _ ?_)); exact rfl; exact rfl; (first | with_reducible assumption | (simp only [Int.toNat_natCast]; with_reducible assumption)); clear hF a; intro a hF) | (with_reducible refine w_skip ?_) | (with_reducible refine w_block ?_) | ((with_reducible apply c_true2 hF); exact rfl; (first | with_reducible rfl | (refine congrArg Value.bool ?_; focus (simp; done)))) | ((with_reducible apply c_dec hF); exact rfl; all_goals intro hc; all_goals (try (exfalso; omega)))))
      rw [show ((((x :: b).length : Nat) : Int)).toNat - (1 : Int).toNat = b.length by rw [hlx]; omega, show (1 : Int).toNat = 1 from rfl, hAb] at hF
      have hv3 := hM.factOut (f := RdF (Value.int .u8) ab b) (by (repeat (first | exact List.mem_cons_self | refine List.mem_cons_of_mem _ ?_)))
      by_cases he : (rdNum b).2.1 = 0
      · rw [if_neg (by rw [he]; simp)] at hD
        obtain ⟨d, hd2⟩ : ∃ d : Nat, (rdNum b).1 = d := ⟨(rdNum b).1.toNat, by have := (rdN_nn 8 0 0 b (by omega) hbb).1; unfold rdNum; omega⟩
        have hdb : d ≤ 9007199254740991 := by have := (rdN_nn 8 0 0 b (by omega) hbb).2; unfold rdNum at hd2; omega
        have hIO := Int_ok b hbb (by omega) ab (cx - 1) hcx' own _ (fun b h => hM.lt b (.inl h)) hv3 he
        rw [hd2] at hD hIO
        have hdrop : (b.drop (rdNum b).2.2).length ≤ b.length := by rw [List.length_drop]; omega
        have hdb2 : By (b.drop (rdNum b).2.2) := fun z hz => hbb z (List.mem_of_mem_drop hz)
        generalize b.drop (rdNum b).2.2 = rb at *
        (repeat (first | (with_reducible refine w_seq ?_) | (with_reducible refine c_region ?_) | (with_reducible refine s_nil ?_) | ((with_reducible apply s_callO (f := 32) hF); exact rfl; exact rfl; exact rfl; exact rfl; exact rfl; exact (hIO); clear hF a; rintro v wn a ⟨ar, cr, rfl, hO⟩ hS hF; replace hM := hM.addRows hS hO; clear hS hO; dsimp only [List.cons_append, List.nil_append] at hM) | (with_reducible refine q_then_n ?_) | ((with_reducible apply s_pure hF); exact rfl; exact rfl; exact rfl; (first | exact trivial | omega | exact ⟨Int.natCast_nonneg _, Int.ofNat_lt.2 (by assumption)⟩ | decide); clear hF a; intro a hF) | (with_reducible refine w_skip ?_) | ((with_reducible apply c_false2 hF); exact rfl; (first | with_reducible rfl | (refine congrArg Value.bool ?_; focus (simp; done))))))
        by_cases hbad : (d : Int) < 1 ∨ 4096 < (d : Int) ∨ (al.length : Int) < d
        · rw [if_pos hbad] at hD
          (repeat' (first | (with_reducible refine w_seq ?_) | (with_reducible refine c_region ?_) | (with_reducible refine s_nil ?_) | (with_reducible refine q_then_n ?_) | ((with_reducible apply s_pure hF); exact rfl; exact rfl; exact rfl; (first | exact trivial | omega | exact ⟨Int.natCast_nonneg _, Int.ofNat_lt.2 (by assumption)⟩ | decide); clear hF a; intro a hF) | (with_reducible refine w_ret ?_) | (with_reducible refine q_then_r ?_) | (with_reducible refine q_blk_r ?_) | ((with_reducible apply c_true2 hF); exact rfl; (first | with_reducible rfl | (refine congrArg Value.bool ?_; focus (simp; done)))) | ((with_reducible apply s_skip hF); exact rfl; exact rfl; clear hF a; intro a hF) | ((with_reducible apply g_dec hF); exact rfl; exact rfl; all_goals (clear hF; intro hc hF); all_goals (try (exfalso; omega))) | ((with_reducible apply c_dec hF); exact rfl; all_goals intro hc; all_goals (try (exfalso; omega)))))
          all_goals
            (apply f_ret Try.results16 hF hM; (repeat (first | exact RL.nil | (apply RL.tmp; exact rfl) | (apply RL.cell; exact rfl; (repeat (first | exact List.mem_cons_self | refine List.mem_cons_of_mem _ ?_)); exact rfl))); refine Ret.mk hM.since ?_; dsimp only [resV])
            rw [hD]
            rfl
        rw [if_neg hbad] at hD
        (repeat' (first | (with_reducible refine w_seq ?_) | (with_reducible refine c_region ?_) | (with_reducible refine s_nil ?_) | (with_reducible refine q_then_n ?_) | ((with_reducible apply s_pure hF); exact rfl; exact rfl; exact rfl; (first | exact trivial | omega | exact ⟨Int.natCast_nonneg _, Int.ofNat_lt.2 (by assumption)⟩ | decide); clear hF a; intro a hF) | (with_reducible refine w_skip ?_) | (with_reducible refine w_block ?_) | ((with_reducible apply g_dec hF); exact rfl; exact rfl; all_goals (clear hF; intro hc hF); all_goals (try (exfalso; omega))) | ((with_reducible apply c_dec hF); exact rfl; all_goals intro hc; all_goals (try (exfalso; omega)))))
        have hcapr := row_capB hM List.mem_cons_self
        replace hM := hM.freezeRow
        rw [show x - 128 + 4 = (n : Int) by omega] at hF
        rw [Int.toNat_natCast] at hD
        refine c_loop (m := n) (fun m a w' => ∃ (j : Nat) (al2 : List Int) (av2 : Option Addr) (cv2 : Nat), m + j = n ∧ al2 = copyN d j al ∧
          Fr 94 [] [(50, .int .i64 j), (49, .int .i64 n), (10, .int .i64 d), (8, .slice av2 al2.length cv2), (11, .slice ar rb.length cr), (0, .slice a1 dict.length c1), (2, .int .i64 most)] a ∧
          Mm own W [] [⟨5, 1, .slice av2 al2.length cv2, al2.length, al2.map (Value.int .u8)⟩] [RdF (Value.int .u8) ar rb] w')
          ⟨0, al, av, cv, by omega, rfl, hF.sub (by repeat (first | exact Sub.nil | refine Sub.cons rfl (by first | with_reducible rfl | (refine congrArg (Value.int _) ?_; omega) | exact rfl) ?_)), hM.sub (.refl _) (.refl _) (by intro f hf; simp only [List.mem_cons, List.not_mem_nil, or_false] at hf; (repeat (rcases hf with rfl | hf; · (repeat (first | exact List.mem_cons_self | refine List.mem_cons_of_mem _ ?_)))); first | (subst hf; (repeat (first | exact List.mem_cons_self | refine List.mem_cons_of_mem _ ?_)); done) | (repeat (first | exact hf | refine List.mem_cons_of_mem _ ?_)))⟩ ?_
        clear hF hM a hcap
        rintro m a w' ⟨j, al2, av2, cv2, hm, hal2, hF, hM⟩
        have hl2 : al2.length = al.length + j := by rw [hal2, copyN_len]
        by_cases hj : j < n
        · obtain ⟨z, hz2⟩ := get_of_lt (l := al2) (i := al2.length - d) (by omega)
          obtain ⟨g2, rfl⟩ := row_some hM List.mem_cons_self (by omega)
          have hz' : al2[((al2.length : Int) - (d : Int)).toNat]? = some z := by rw [show ((al2.length : Int) - (d : Int)).toNat = al2.length - d by omega]; exact hz2
          have hcs : copyN d (j + 1) al = al2 ++ [z] := by rw [copyN_succ, ← hal2, List.getD_eq_getElem?_getD, hz2]; rfl
          (repeat' (first | (with_reducible refine w_seq ?_) | (with_reducible refine c_region ?_) | (with_reducible refine s_nil ?_) | (with_reducible refine q_then_n ?_) | ((with_reducible apply s_pure hF); exact rfl; exact rfl; exact rfl; (first | exact trivial | omega | exact ⟨Int.natCast_nonneg _, Int.ofNat_lt.2 (by assumption)⟩ | decide); clear hF a; intro a hF) | ((with_reducible apply s_loadR hF hM); exact rfl; exact rfl; (repeat (first | exact List.mem_cons_self | refine List.mem_cons_of_mem _ ?_)); exact rfl; exact rfl; (first | with_reducible assumption | (simp only [Int.toNat_natCast]; with_reducible assumption)); clear hF a; intro a hF) | ((with_reducible apply s_lit hF hM); exact rfl; exact rfl; exact rfl; exact rfl; clear hF hM a; intro bl w a hM hF) | ((with_reducible apply s_app hF hM); exact rfl; exact rfl; exact rfl; exact rfl; (repeat (first | exact Kth.z | apply Kth.s)); exact rfl; exact rfl; exact rfl; exact rfl; omega; clear hF hM a; intro g cap w a hM hF; dsimp only [List.set] at hM) | (with_reducible refine w_skip ?_) | (with_reducible refine w_block ?_) | (with_reducible refine q_blk_n ?_) | ((with_reducible apply c_dec hF); exact rfl; all_goals intro hc; all_goals (try (exfalso; omega)))))
          refine ⟨m - 1, by omega, j + 1, al2 ++ [z], some ⟨g, 0, none⟩, cap, by omega, hcs.symm, ?_, ?_⟩
          · rw [List.length_append, List.length_singleton]
            exact hF.sub (by repeat (first | exact Sub.nil | refine Sub.cons rfl (by first | with_reducible rfl | (refine congrArg (Value.int _) ?_; omega) | exact rfl) ?_))
          · rw [List.length_append, List.length_singleton, List.map_append]
            exact hM
        · have hje : n = j := by omega
          subst hje
          rw [← hal2] at hD
          have hcap := row_capB hM List.mem_cons_self
          by_cases hlong : most < (al.length : Int) + n - dict.length
          · rw [if_pos hlong] at hD
            (repeat' (first | (with_reducible refine w_seq ?_) | (with_reducible refine c_region ?_) | (with_reducible refine s_nil ?_) | (with_reducible refine q_then_n ?_) | ((with_reducible apply s_pure hF); exact rfl; exact rfl; exact rfl; (first | exact trivial | omega | exact ⟨Int.natCast_nonneg _, Int.ofNat_lt.2 (by assumption)⟩ | decide); clear hF a; intro a hF) | (with_reducible refine w_exit ?_) | (with_reducible refine w_ret ?_) | (with_reducible refine q_then_x ?_) | (with_reducible refine q_then_r ?_) | (with_reducible refine q_blk_n ?_) | (with_reducible refine q_blk_r ?_) | (with_reducible refine q_blk_x ?_) | ((with_reducible apply c_false2 hF); exact rfl; (first | with_reducible rfl | (refine congrArg Value.bool ?_; focus (simp; done)))) | ((with_reducible apply c_dec hF); exact rfl; all_goals intro hc; all_goals (try (exfalso; omega)))))
            (apply f_ret Try.results16 hF hM; (repeat (first | exact RL.nil | (apply RL.tmp; exact rfl) | (apply RL.cell; exact rfl; (repeat (first | exact List.mem_cons_self | refine List.mem_cons_of_mem _ ?_)); exact rfl))); refine Ret.mk hM.since ?_; dsimp only [resV])
            rw [hD]
            rfl
          · rw [if_neg hlong] at hD
            (repeat' (first | (with_reducible refine w_seq ?_) | (with_reducible refine c_region ?_) | (with_reducible refine s_nil ?_) | (with_reducible refine q_then_n ?_) | ((with_reducible apply s_pure hF); exact rfl; exact rfl; exact rfl; (first | exact trivial | omega | exact ⟨Int.natCast_nonneg _, Int.ofNat_lt.2 (by assumption)⟩ | decide); clear hF a; intro a hF) | (with_reducible refine w_skip ?_) | (with_reducible refine w_exit ?_) | (with_reducible refine q_then_x ?_) | (with_reducible refine q_blk_n ?_) | (with_reducible refine q_blk_x ?_) | ((with_reducible apply c_false2 hF); exact rfl; (first | with_reducible rfl | (refine congrArg Value.bool ?_; focus (simp; done)))) | ((with_reducible apply c_dec hF); exact rfl; all_goals intro hc; all_goals (try (exfalso; omega)))))
            refine ⟨f, by omega, rb, al2, ar, av2, cr, cv2, hD, by omega, hdb2, hcapr, by omega, by omega, by omega, hF.sub (by repeat (first | exact Sub.nil | refine Sub.cons rfl (by first | with_reducible rfl | (refine congrArg (Value.int _) ?_; omega) | exact rfl) ?_)), hM⟩
      · rw [if_pos he] at hD
        have hIE := Int_err b hbb (by omega) ab (cx - 1) hcx' own _ (fun b h => hM.lt b (.inl h)) hv3 he
        (repeat' (first | (with_reducible refine w_seq ?_) | (with_reducible refine c_region ?_) | (with_reducible refine s_nil ?_) | ((with_reducible apply s_call (f := 32) hF hM); exact rfl; exact rfl; exact rfl; exact rfl; exact rfl; exact (hIE); clear hF hM a; rintro v w a rfl - hM hF) | (with_reducible refine q_then_n ?_) | ((with_reducible apply s_pure hF); exact rfl; exact rfl; exact rfl; (first | exact trivial | omega | exact ⟨Int.natCast_nonneg _, Int.ofNat_lt.2 (by assumption)⟩ | decide); clear hF a; intro a hF) | (with_reducible refine w_ret ?_) | (with_reducible refine q_then_r ?_) | (with_reducible refine q_blk_r ?_) | ((with_reducible apply c_dec hF); exact rfl; all_goals intro hc; all_goals (try (exfalso; omega)))))
        (apply f_ret Try.results16 hF hM; (repeat (first | exact RL.nil | (apply RL.tmp; exact rfl) | (apply RL.cell; exact rfl; (repeat (first | exact List.mem_cons_self | refine List.mem_cons_of_mem _ ?_)); exact rfl))); refine Ret.mk hM.since ?_; dsimp only [resV])
        rw [hD]
        rfl
end
end Go.Proofs.Ytocgpllmfdnfjaa

/- dictionary: bytes of sectors, sectors of bytes, Pack, Unpack. -/
namespace Go.Proofs.Ytocgpllmfdnfjaa
open Go.RowKit Go.Shelf
theorem row_shape {own : Nat → Prop} {w w0 : World} {bs : List BoxE} {L : List Ent} {Fs : List (World → Prop)} (hM : Mm own w0 bs L Fs w) {e : TypeId} {size n : Nat} {v : Value} {xs : List Value} (h : (⟨e, size, v, n, xs⟩ : Ent) ∈ L) : ∃ ao co, v = .slice ao n co := by
  rcases (hM.mem.own.own _ h).2 with ⟨h1, h2⟩ | ⟨g, cap, cur, h1, _⟩
  · exact ⟨none, 0, by rw [show n = 0 from h2]; exact h1⟩
  · exact ⟨_, _, h1⟩
section
variable (l : List (List Int)) (hw : W8 l) (hlen : l.length ≤ 30000) (a0 : Option Addr) (c0 : Nat) (hc0 : l.length ≤ c0) (own : Nat → Prop) (W : World) (hl : ∀ b, own b → b < W.heap.size) (hv : Has own W (RdF (Value.int .u8) a0 l.flatten))
include hw hlen hc0 hl hv
set_option maxRecDepth 20000 in
theorem flat_c : Calls Try.prog 34 ⟨[.slice a0 l.length c0]⟩ W (Ret W fun v w' => ∃ a' c', v = .slice a' l.flatten.length c' ∧ Owns w' W.heap.size [⟨5, 1, .slice a' l.flatten.length c', l.flatten.length, l.flatten.map (Value.int .u8)⟩]) := by
  have hM := ((Mm.start hl).known hv).nilRow 5 1
  have hw' : ∀ y ∈ l, y.length = 8 := hw
  refine f_start Try.func34 rfl Try.ntmps34 rfl rfl ?_; intro a hF
  (repeat' (first | (with_reducible refine w_seq ?_) | (with_reducible refine c_region ?_) | (with_reducible refine s_nil ?_) | (with_reducible refine q_then_n ?_) | ((with_reducible apply s_pure hF); exact rfl; exact rfl; exact rfl; (first | exact trivial | omega | exact ⟨Int.natCast_nonneg _, Int.ofNat_lt.2 (by assumption)⟩ | decide); clear hF a; intro a hF) | (with_reducible refine w_block ?_)))
  refine c_loop (m := l.length) (fun m a w' => ∃ (j : Nat) (v : Value) (n : Nat), m + j = l.length ∧ n = 8 * j ∧
    Fr 17 [] [(8, .int .i64 j), (7, .int .i64 l.length), (6, .slice a0 l.length c0), (3, v)] a ∧
    Mm own W [] [⟨5, 1, v, n, ((l.take j).flatten).map (Value.int .u8)⟩] [RdF (Value.int .u8) a0 l.flatten] w') ⟨0, .slice none 0 0, 0, by omega, by omega, hF.sub (by repeat (first | exact Sub.nil | refine Sub.cons rfl (by first | with_reducible rfl | (refine congrArg (Value.int _) ?_; omega) | exact rfl) ?_)), hM⟩ ?_
  clear hF hM a
  rintro m a w' ⟨j, v, n, hm, hn, hF, hM⟩
  by_cases hj : j < l.length
  · obtain ⟨s, hs⟩ := get_of_lt hj
    have hs8 := hw s (List.mem_of_getElem? hs)
    obtain ⟨ad, rfl⟩ : ∃ ad, a0 = some ad := by
      have h0 : 0 < s.length := by omega
      exact rd_some hM (by (repeat (first | exact List.mem_cons_self | refine List.mem_cons_of_mem _ ?_))) (flat_get hw hs (List.getElem?_eq_getElem h0))
    obtain ⟨x0, x1, x2, x3, x4, x5, x6, x7, rfl⟩ := len8 hs8
    have htk : (l.take (j + 1)).flatten = (l.take j).flatten ++ [x0, x1, x2, x3, x4, x5, x6, x7] := by rw [List.take_add_one, hs]; simp
    (repeat' (first | (with_reducible refine w_seq ?_) | (with_reducible refine c_region ?_) | (with_reducible refine s_nil ?_) | ((with_reducible apply s_arrSl hF); exact rfl; exact rfl; exact rfl; exact rfl; clear hF a; intro a hF) | ((with_reducible apply s_loadS hF hM); exact rfl; exact rfl; (repeat (first | exact List.mem_cons_self | refine List.mem_cons_of_mem _ ?_)); exact rfl; exact rfl; (first | with_reducible assumption | (simp only [Int.toNat_natCast]; with_reducible assumption)); (with_reducible assumption); clear hF a; intro a hF) | (with_reducible refine q_then_n ?_) | ((with_reducible apply s_pure hF); exact rfl; exact rfl; exact rfl; (first | exact trivial | omega | exact ⟨Int.natCast_nonneg _, Int.ofNat_lt.2 (by assumption)⟩ | decide); clear hF a; intro a hF) | ((with_reducible apply s_store hF hM); exact rfl; exact rfl; exact rfl; exact rfl; (repeat (first | exact Upd.z | apply Upd.s)); exact rfl; exact rfl; exact rfl; clear hM; intro w hM) | ((with_reducible apply s_alloc hF hM); exact rfl; exact rfl; exact rfl; clear hF hM a; intro b w a hM hF) | ((with_reducible apply s_app hF hM); exact rfl; exact rfl; exact rfl; exact rfl; (repeat (first | exact Kth.z | apply Kth.s)); exact rfl; exact rfl; exact rfl; exact rfl; omega; clear hF hM a; intro g cap w a hM hF; dsimp only [List.set] at hM) | (with_reducible refine w_skip ?_) | (with_reducible refine w_block ?_) | (with_reducible refine q_blk_n ?_) | ((with_reducible apply c_dec hF); exact rfl; all_goals intro hc; all_goals (try (exfalso; omega)))))
    refine ⟨m - 1, by omega, j + 1, .slice (some ⟨g, 0, none⟩) (n + 8) cap, n + 8, by omega, by omega, hF.sub (by repeat (first | exact Sub.nil | refine Sub.cons rfl (by first | with_reducible rfl | (refine congrArg (Value.int _) ?_; omega) | exact rfl) ?_)), ?_⟩
    rw [htk, List.map_append]
    exact hM
  · have hje : l.length = j := by omega
    obtain ⟨av, cv, rfl, _, _⟩ := hM.row (enc := Value.int .u8) List.mem_cons_self
    (repeat' (first | (with_reducible refine w_seq ?_) | (with_reducible refine c_region ?_) | (with_reducible refine s_nil ?_) | (with_reducible refine q_then_n ?_) | ((with_reducible apply s_pure hF); exact rfl; exact rfl; exact rfl; (first | exact trivial | omega | exact ⟨Int.natCast_nonneg _, Int.ofNat_lt.2 (by assumption)⟩ | decide); clear hF a; intro a hF) | (with_reducible refine w_exit ?_) | (with_reducible refine w_ret ?_) | (with_reducible refine q_then_x ?_) | (with_reducible refine q_blk_x ?_) | ((with_reducible apply c_dec hF); exact rfl; all_goals intro hc; all_goals (try (exfalso; omega)))))
    (apply f_ret Try.results34 hF hM; (repeat (first | exact RL.nil | (apply RL.tmp; exact rfl) | (apply RL.cell; exact rfl; (repeat (first | exact List.mem_cons_self | refine List.mem_cons_of_mem _ ?_)); exact rfl))); refine Ret.mk hM.since ?_; dsimp only [resV])
    have hfl : l.flatten.length = n := by rw [flat_len hw]; omega
    rw [List.take_of_length_le (by omega)] at hM
    rw [hfl]
    exact ⟨av, cv, rfl, hM.mem.own⟩
end
/-- Sectors of bytes. -/
def secsD (b : List Int) (most : Int) : Except Int (List (List Int)) := if b.length % 8 ≠ 0 then .error 3 else if most < (b.length / 8 : Nat) then .error 5 else .ok (chunks (b.length / 8) b)
theorem chunks_flatD : ∀ (c : Nat) (ys : List Int), 8 * c ≤ ys.length → (chunks c ys).flatten = ys.take (8 * c) ∧ W8 (chunks c ys)
  | 0, ys, _ => by simp [chunks, W8]
  | c + 1, ys, h => by
    obtain ⟨h1, h2⟩ := chunks_flatD c (ys.drop 8) (by rw [List.length_drop]; omega)
    constructor
    · rw [chunks, List.flatten_cons, h1, show 8 * (c + 1) = 8 + 8 * c by omega, List.take_add]
    · intro s hs
      rw [chunks] at hs
      rcases List.mem_cons.1 hs with rfl | hs
      · rw [List.length_take]; omega
      · exact h2 s hs
section
variable (b : List Int) (hlen : b.length ≤ 1000000) (most : Int) (hmost : most ≤ 9223372036854775807 ∧ -9223372036854775808 ≤ most) (a0 : Option Addr) (c0 : Nat) (hc0 : b.length ≤ c0) (own : Nat → Prop) (W : World) (hl : ∀ b, own b → b < W.heap.size) (hv : Has own W (RdF (Value.int .u8) a0 b))
include hlen hmost hc0 hl hv
set_option maxRecDepth 20000 in
theorem sectors_c : Calls Try.prog 39 ⟨[.slice a0 b.length c0, .int .i64 most]⟩ W (Ret W (DecR W (secsD b most))) := by
  have hM := ((Mm.start hl).known hv).nilRow 44 8
  unfold secsD
  by_cases hm8 : b.length % 8 = 0
  · rw [if_neg (by omega)]
    by_cases hlong : most < ((b.length / 8 : Nat) : Int)
    · rw [if_pos hlong]
      refine f_start Try.func39 rfl Try.ntmps39 rfl rfl ?_; intro a hF
      (repeat' (first | (with_reducible refine w_seq ?_) | (with_reducible refine c_region ?_) | (with_reducible refine s_nil ?_) | (with_reducible refine q_then_n ?_) | ((with_reducible apply s_pure hF); exact rfl; exact rfl; exact rfl; (first | exact trivial | omega | exact ⟨Int.natCast_nonneg _, Int.ofNat_lt.2 (by assumption)⟩ | decide); clear hF a; intro a hF) | (with_reducible refine w_skip ?_) | (with_reducible refine w_ret ?_) | (with_reducible refine q_then_r ?_) | ((with_reducible apply c_dec hF); exact rfl; all_goals intro hc; all_goals (try (exfalso; omega)))))
      (apply f_ret Try.results39 hF hM; (repeat (first | exact RL.nil | (apply RL.tmp; exact rfl) | (apply RL.cell; exact rfl; (repeat (first | exact List.mem_cons_self | refine List.mem_cons_of_mem _ ?_)); exact rfl))); refine Ret.mk hM.since ?_; dsimp only [resV])
      rfl
    · rw [if_neg hlong]
      refine f_start Try.func39 rfl Try.ntmps39 rfl rfl ?_; intro a hF
      (repeat' (first | (with_reducible refine w_seq ?_) | (with_reducible refine c_region ?_) | (with_reducible refine s_nil ?_) | (with_reducible refine q_then_n ?_) | ((with_reducible apply s_pure hF); exact rfl; exact rfl; exact rfl; (first | exact trivial | omega | exact ⟨Int.natCast_nonneg _, Int.ofNat_lt.2 (by assumption)⟩ | decide); clear hF a; intro a hF) | (with_reducible refine w_skip ?_) | (with_reducible refine w_block ?_) | ((with_reducible apply c_dec hF); exact rfl; all_goals intro hc; all_goals (try (exfalso; omega)))))
      obtain ⟨q, hq⟩ : ∃ q, b.length / 8 = q := ⟨_, rfl⟩
      rw [hq]
      refine c_loop (m := q) (fun m a w' => ∃ (j n : Nat) (v : Value) (ax : Option Addr) (cx : Nat) (xs : List Int), m + j = q ∧ n = j ∧ xs = b.drop (8 * j) ∧ xs.length ≤ cx ∧
        Fr 28 [] [(6, v), (0, .slice ax xs.length cx)] a ∧
        Mm own W [] [⟨44, 8, v, n, ((chunks j b).flatten).map (Value.int .u8)⟩] [RdF (Value.int .u8) ax xs] w') ⟨0, 0, .slice none 0 0, a0, c0, b, by omega, rfl, rfl, hc0, hF.sub (by repeat (first | exact Sub.nil | refine Sub.cons rfl (by first | with_reducible rfl | (refine congrArg (Value.int _) ?_; omega) | exact rfl) ?_)), hM⟩ ?_
      clear hF hM a
      rintro m a w' ⟨j, n, v, ax, cx, xs, hm, hn, hxs, hcx, hF, hM⟩
      have hxl : xs.length = b.length - 8 * j := by rw [hxs, List.length_drop]
      by_cases hj : j < q
      · have hch := chunks_succ j b
        rw [← hxs] at hch
        have hx2 : xs.drop 8 = b.drop (8 * (j + 1)) := by rw [hxs, List.drop_drop]; congr 1
        obtain ⟨x0, x1, x2, x3, x4, x5, x6, x7, r, rfl⟩ := cons8 (by omega : 8 ≤ xs.length)
        obtain ⟨ad, rfl⟩ : ∃ ad, ax = some ad := rd_some hM (by (repeat (first | exact List.mem_cons_self | refine List.mem_cons_of_mem _ ?_))) (k := 0) (x := x0) rfl
        have hrl : (x0 :: x1 :: x2 :: x3 :: x4 :: x5 :: x6 :: x7 :: r).length = r.length + 8 := by simp
        (repeat' (first | (with_reducible refine w_seq ?_) | (with_reducible refine c_region ?_) | (with_reducible refine s_nil ?_) | ((with_reducible apply s_s2a hF); exact rfl; exact rfl; exact rfl; exact rfl; omega; clear hF a; intro a hF) | ((with_reducible apply s_loadA hF hM); exact rfl; exact rfl; (repeat (first | exact List.mem_cons_self | refine List.mem_cons_of_mem _ ?_)); exact rfl; exact rfl; exact rfl; (first | omega | (show (4 : Nat) ≤ _; simp) | (show (8 : Nat) ≤ _; simp)); clear hF a; intro a hF) | (with_reducible refine q_then_n ?_) | ((with_reducible apply s_pure hF); exact rfl; exact rfl; exact rfl; (first | exact trivial | omega | exact ⟨Int.natCast_nonneg _, Int.ofNat_lt.2 (by assumption)⟩ | decide); clear hF a; intro a hF) | ((with_reducible apply s_lit hF hM); exact rfl; exact rfl; exact rfl; exact rfl; clear hF hM a; intro bl w a hM hF) | ((with_reducible apply s_app hF hM); exact rfl; exact rfl; exact rfl; exact rfl; (repeat (first | exact Kth.z | apply Kth.s)); exact rfl; exact rfl; exact rfl; exact rfl; omega; clear hF hM a; intro g cap w a hM hF; dsimp only [List.set] at hM) | (with_reducible refine w_skip ?_) | (with_reducible refine w_block ?_) | (with_reducible refine q_blk_n ?_) | ((with_reducible apply c_dec hF); exact rfl; all_goals intro hc; all_goals (try (exfalso; omega)))))
        refine ⟨m - 1, by omega, j + 1, n + 1, .slice (some ⟨g, 0, none⟩) (n + 1) cap, sadr (some ad) 8 cx 1, cx - 8, r, by omega, by omega, hx2, by omega, ?_, ?_⟩
        · rw [show ((((x0 :: x1 :: x2 :: x3 :: x4 :: x5 :: x6 :: x7 :: r).length : Nat) : Int)).toNat - (8 : Int).toNat = r.length by rw [hrl]; omega] at hF
          exact hF.sub (by repeat (first | exact Sub.nil | refine Sub.cons rfl (by first | with_reducible rfl | (refine congrArg (Value.int _) ?_; omega) | exact rfl) ?_))
        · rw [hch, List.flatten_append, List.map_append]
          exact (hM.addFact (RdF.drop (hM.facts _ List.mem_cons_self) 8 cx hcx)).sub (.refl _) (.refl _) (by intro f hf; simp only [List.mem_cons, List.not_mem_nil, or_false] at hf; (repeat (rcases hf with rfl | hf; · (repeat (first | exact List.mem_cons_self | refine List.mem_cons_of_mem _ ?_)))); first | (subst hf; (repeat (first | exact List.mem_cons_self | refine List.mem_cons_of_mem _ ?_)); done) | (repeat (first | exact hf | refine List.mem_cons_of_mem _ ?_)))
      · have hje : q = j := by omega
        subst hje
        obtain ⟨ao, co, rfl⟩ := row_shape hM List.mem_cons_self
        (repeat' (first | (with_reducible refine w_seq ?_) | (with_reducible refine c_region ?_) | (with_reducible refine s_nil ?_) | (with_reducible refine q_then_n ?_) | ((with_reducible apply s_pure hF); exact rfl; exact rfl; exact rfl; (first | exact trivial | omega | exact ⟨Int.natCast_nonneg _, Int.ofNat_lt.2 (by assumption)⟩ | decide); clear hF a; intro a hF) | (with_reducible refine w_exit ?_) | (with_reducible refine w_ret ?_) | (with_reducible refine q_then_x ?_) | (with_reducible refine q_blk_x ?_) | ((with_reducible apply c_dec hF); exact rfl; all_goals intro hc; all_goals (try (exfalso; omega)))))
        (apply f_ret Try.results39 hF hM; (repeat (first | exact RL.nil | (apply RL.tmp; exact rfl) | (apply RL.cell; exact rfl; (repeat (first | exact List.mem_cons_self | refine List.mem_cons_of_mem _ ?_)); exact rfl))); refine Ret.mk hM.since ?_; dsimp only [resV])
        refine ⟨ao, co, ?_, ?_⟩
        · rw [chunks_len, hn]
        · rw [chunks_len]
          subst hn
          exact hM.mem.own
  · rw [if_pos (by omega)]
    refine f_start Try.func39 rfl Try.ntmps39 rfl rfl ?_; intro a hF
    (repeat' (first | (with_reducible refine w_seq ?_) | (with_reducible refine c_region ?_) | (with_reducible refine s_nil ?_) | (with_reducible refine q_then_n ?_) | ((with_reducible apply s_pure hF); exact rfl; exact rfl; exact rfl; (first | exact trivial | omega | exact ⟨Int.natCast_nonneg _, Int.ofNat_lt.2 (by assumption)⟩ | decide); clear hF a; intro a hF) | (with_reducible refine w_ret ?_) | (with_reducible refine q_then_r ?_) | ((with_reducible apply c_dec hF); exact rfl; all_goals intro hc; all_goals (try (exfalso; omega)))))
    (apply f_ret Try.results39 hF hM; (repeat (first | exact RL.nil | (apply RL.tmp; exact rfl) | (apply RL.cell; exact rfl; (repeat (first | exact List.mem_cons_self | refine List.mem_cons_of_mem _ ?_)); exact rfl))); refine Ret.mk hM.since ?_; dsimp only [resV])
    rfl
end
end Go.Proofs.Ytocgpllmfdnfjaa

/- dictionary: Pack, Unpack. -/
namespace Go.Proofs.Ytocgpllmfdnfjaa
open Go.RowKit Go.Shelf
section
variable {n : Nat} {ds : List Deferred} {l : List (Nat × Value)} {a : Act} {w : World} {os rest : List Oper} {Q : Exit → Act → World → Prop} {d : Nat} {ty : TypeId} {pos : String} {af : Array Edge} {g : Option (Nat × Bool)}
/-- An element of an array that is a value. -/
theorem s_indexV {t e : TypeId} {len m : Nat} {X I : Operand} {cs : List Value} {k : IntKind} {j : Int} {v : Value} (hF : Fr n ds l a) (hg : wantO os l g = some true) (hX : ev l X = some (.agg ⟨cs⟩)) (hI : ev l I = some (.int k j)) (ht : tyD t = some (.array len e)) (hs : tyS e = some m) (hv : rdV e cs (j.toNat * m) = some v) (hd : Nat.blt d n = true) (hj : 0 ≤ j ∧ j < len)
    (kk : ∀ a, Fr n ds ((d, v) :: l) a → wl ⟨os⟩ Q rest a w) : wl ⟨os⟩ Q (⟨some d, .index t X I, ty, pos, af, g⟩ :: rest) a w :=
  s_op hF hg fun _ hK => upon_value (v := v) (by
    have := rdV_part hv w
    simp [execOp, hF.eval hX, hF.eval hI, Instr.index, asIntOf, Sem.run_bind, tyD_run ht, tyS_run hs, Result.andThen, hj, this]) (hK _ _ (kk _ (hF.put hd v)))
end
theorem encF_len (all : List Int) : ∀ (f t : Nat) (toks run : List Int), t ≤ all.length → (encF all f t toks run).length ≤ toks.length + 2 * run.length + 4 * (all.length - t)
  | 0, t, toks, run, _ => by
    have := litz_len run
    rw [encF, List.length_append]; omega
  | f + 1, t, toks, run, ht => by
    have h1 := litz_len run
    rw [encF]
    split
    · split
      · have := encF_len all f (t + 1) toks (run ++ [all.getD t 0]) (by omega)
        rw [List.length_append, List.length_singleton] at this
        omega
      · rename_i h0
        obtain ⟨hn4, hn131, hd1, hd2, hd3, htn, _⟩ := best_ok h0
        have hp := puts_len 2 (best all t).1 (by omega)
        have := encF_len all f (t + (best all t).2) (toks ++ litz run ++ [(124 + (best all t).2 : Int)] ++ puts (best all t).1) [] htn
        simp only [List.length_append, List.length_singleton, List.length_nil] at this
        omega
    · rw [List.length_append]; omega
theorem encD_len (dict y : List Int) : (encD dict y).length ≤ 4 * y.length := by
  have := encF_len (dict ++ y) y.length dict.length [] [] (by rw [List.length_append]; omega)
  unfold encD
  rw [List.length_append] at this
  simp only [List.length_nil] at this
  omega
/-- The packed form of sectors. -/
def pack2 (A B : List Int) : List Int := if B.length < A.length then 1 :: B else 0 :: A
def pack3 (A B D : List Int) : List Int := if D.length + 1 < (pack2 A B).length then 2 :: D else pack2 A B
def packD (dict : List Int) (l : List (List Int)) : List Int := pack3 l.flatten (enc l) (encD dict l.flatten)
section
variable (dict : List Int) (l : List (List Int)) (hw : W8 l) (hlen : dict.length ≤ 10000 ∧ l.length ≤ 1000) (a1 a2 : Option Addr) (c1 c2 : Nat) (hc2 : l.length ≤ c2) (own : Nat → Prop) (W : World) (hl : ∀ b, own b → b < W.heap.size) (hv1 : Has own W (RdF (Value.int .u8) a1 dict)) (hv2 : Has own W (RdF (Value.int .u8) a2 l.flatten))
include hw hlen hc2 hl hv1 hv2
set_option maxRecDepth 20000 in
theorem Pack_c : Calls Try.prog 18 ⟨[.slice a1 dict.length c1, .slice a2 l.length c2]⟩ W (Ret W fun v w' => ∃ a' c', v = .slice a' (packD dict l).length c' ∧ Owns w' W.heap.size [⟨5, 1, .slice a' (packD dict l).length c', (packD dict l).length, (packD dict l).map (Value.int .u8)⟩]) := by
  obtain ⟨hd, hll⟩ := hlen
  have hM := ((Mm.start hl).known hv1).known hv2
  have hfl := flat_len hw
  unfold packD
  refine f_start Try.func18 rfl Try.ntmps18 rfl rfl ?_; intro a hF
  (repeat (first | (with_reducible refine w_seq ?_) | (with_reducible refine c_region ?_) | (with_reducible refine s_nil ?_) | ((with_reducible apply s_callO (f := 34) hF); exact rfl; exact rfl; exact rfl; exact rfl; exact rfl; exact (flat_c l hw (by omega) a2 c2 hc2 _ _ hM.lt (hM.facts _ (by (repeat (first | exact List.mem_cons_self | refine List.mem_cons_of_mem _ ?_))))); clear hF a; rintro v wn a ⟨aA, cA, rfl, hO⟩ hS hF; replace hM := hM.addRows hS hO; clear hS hO; dsimp only [List.cons_append, List.nil_append] at hM; replace hM := hM.freezeRow) | (with_reducible refine q_then_n ?_) | ((with_reducible apply s_pure hF); exact rfl; exact rfl; exact rfl; (first | exact trivial | omega | exact ⟨Int.natCast_nonneg _, Int.ofNat_lt.2 (by assumption)⟩ | decide); clear hF a; intro a hF)))
  (repeat (first | ((with_reducible apply s_callO (f := 35) hF); exact rfl; exact rfl; exact rfl; exact rfl; exact rfl; exact (Encode_c l hw (by omega) a2 c2 hc2 _ _ hM.lt (hM.facts _ (by (repeat (first | exact List.mem_cons_self | refine List.mem_cons_of_mem _ ?_))))); clear hF a; rintro v wn a ⟨aB, cB, rfl, hO⟩ hS hF; replace hM := hM.addRows hS hO; clear hS hO; dsimp only [List.cons_append, List.nil_append] at hM; replace hM := hM.freezeRow) | ((with_reducible apply s_pure hF); exact rfl; exact rfl; exact rfl; (first | exact trivial | omega | exact ⟨Int.natCast_nonneg _, Int.ofNat_lt.2 (by assumption)⟩ | decide); clear hF a; intro a hF)))
  (repeat (first | ((with_reducible apply s_callO (f := 34) hF); exact rfl; exact rfl; exact rfl; exact rfl; exact rfl; exact (flat_c l hw (by omega) a2 c2 hc2 _ _ hM.lt (hM.facts _ (by (repeat (first | exact List.mem_cons_self | refine List.mem_cons_of_mem _ ?_))))); clear hF a; rintro v wn a ⟨aC, cC, rfl, hO⟩ hS hF; replace hM := hM.addRows hS hO; clear hS hO; dsimp only [List.cons_append, List.nil_append] at hM; replace hM := hM.freezeRow)))
  (repeat (first | (with_reducible refine w_seq ?_) | (with_reducible refine c_region ?_) | (with_reducible refine s_nil ?_) | ((with_reducible apply s_callO (f := 14) hF); exact rfl; exact rfl; exact rfl; exact rfl; exact rfl; exact (EncodeD_c dict l.flatten ⟨by omega, by omega⟩ a1 aC c1 cC _ _ hM.lt (hM.facts _ (by (repeat (first | exact List.mem_cons_self | refine List.mem_cons_of_mem _ ?_)))) (hM.facts _ (by (repeat (first | exact List.mem_cons_self | refine List.mem_cons_of_mem _ ?_))))); clear hF a; rintro v wn a ⟨aD, cD, rfl, hO⟩ hS hF; replace hM := hM.addRows hS hO; clear hS hO; dsimp only [List.cons_append, List.nil_append] at hM; replace hM := hM.freezeRow) | (with_reducible refine q_then_n ?_) | ((with_reducible apply s_pure hF); exact rfl; exact rfl; exact rfl; (first | exact trivial | omega | exact ⟨Int.natCast_nonneg _, Int.ofNat_lt.2 (by assumption)⟩ | decide); clear hF a; intro a hF) | ((with_reducible apply s_load hF hM); exact rfl; exact rfl; (repeat (first | exact List.mem_cons_self | refine List.mem_cons_of_mem _ ?_)); exact rfl; exact rfl; clear hF a; intro a hF) | ((with_reducible apply s_store hF hM); exact rfl; exact rfl; exact rfl; exact rfl; (repeat (first | exact Upd.z | apply Upd.s)); exact rfl; exact rfl; exact rfl; clear hM; intro w hM) | ((with_reducible apply s_alloc hF hM); exact rfl; exact rfl; exact rfl; clear hF hM a; intro b w a hM hF) | (with_reducible refine w_block ?_)))
  have hA : l.flatten.length ≤ 8000 := by omega
  have hD := encD_len dict l.flatten
  have hB : (enc l).length ≤ 10000000000 - 1000000 := encL_len hw (by omega) _ (by have := grpF_len (l := l) l.length 0; unfold grp; omega)
  generalize l.flatten = A at *
  generalize enc l = B at *
  generalize encD dict A = D at *
  by_cases h1 : B.length < A.length
  · have e1 : pack2 A B = 1 :: B := by unfold pack2; rw [if_pos h1]
    by_cases h2 : D.length < B.length
    · have e2 : pack3 A B D = 2 :: D := by unfold pack3; rw [e1, if_pos (by rw [List.length_cons]; omega)]
      refine c_roll 4 ?_
      (repeat' (first | (with_reducible refine w_seq ?_) | (with_reducible refine c_region ?_) | (with_reducible refine s_nil ?_) | ((with_reducible apply s_indexV hF); exact rfl; exact rfl; exact rfl; exact rfl; exact rfl; exact rfl; exact rfl; omega; clear hF a; intro a hF) | (with_reducible refine q_then_n ?_) | ((with_reducible apply s_pure hF); exact rfl; exact rfl; exact rfl; (first | exact trivial | omega | exact ⟨Int.natCast_nonneg _, Int.ofNat_lt.2 (by assumption)⟩ | decide); clear hF a; intro a hF) | ((with_reducible apply s_loadB hF hM); exact rfl; exact rfl; (repeat (first | exact List.mem_cons_self | refine List.mem_cons_of_mem _ ?_)); exact rfl; exact rfl; clear hF a; intro a hF) | ((with_reducible apply s_lit hF hM); exact rfl; exact rfl; exact rfl; exact rfl; clear hF hM a; intro bl w a hM hF) | (with_reducible refine w_skip ?_) | (with_reducible refine r_succ ?_) | (with_reducible refine w_block ?_) | (with_reducible refine w_exit ?_) | (with_reducible refine q_then_x ?_) | (with_reducible refine q_blk_n ?_) | (with_reducible refine q_blk_x ?_) | ((with_reducible apply c_true2 hF); exact rfl; (first | with_reducible rfl | (refine congrArg Value.bool ?_; focus (simp; done)))) | ((with_reducible apply c_false2 hF); exact rfl; (first | with_reducible rfl | (refine congrArg Value.bool ?_; focus (simp; done)))) | ((with_reducible apply c_dec hF); exact rfl; all_goals intro hc; all_goals (try (exfalso; omega)))))
      replace hM := hM.boxRow 1 1 rfl (by unfold maxLen; omega)
      (repeat' (first | (with_reducible refine s_nil ?_) | ((with_reducible apply s_appF hF hM); exact rfl; exact rfl; (repeat (first | exact List.mem_cons_self | refine List.mem_cons_of_mem _ ?_)); exact rfl; exact rfl; (repeat (first | exact Kth.z | apply Kth.s)); (intro _; exact rfl); exact rfl; omega; clear hF hM a; intro g cap w a hM hF; dsimp only [List.set] at hM) | (with_reducible refine q_then_n ?_) | ((with_reducible apply s_pure hF); exact rfl; exact rfl; exact rfl; (first | exact trivial | omega | exact ⟨Int.natCast_nonneg _, Int.ofNat_lt.2 (by assumption)⟩ | decide); clear hF a; intro a hF) | (with_reducible refine w_ret ?_)))
      (apply f_ret Try.results18 hF hM; (repeat (first | exact RL.nil | (apply RL.tmp; exact rfl) | (apply RL.cell; exact rfl; (repeat (first | exact List.mem_cons_self | refine List.mem_cons_of_mem _ ?_)); exact rfl))); refine Ret.mk hM.since ?_; dsimp only [resV])
      rw [e2, show (2 :: D).length = 1 + (D).length by rw [List.length_cons]; omega]
      exact ⟨_, _, rfl, (hM.sub (List.nil_sublist _) (.refl _) (fun _ h => h)).mem.own⟩
    · have e2 : pack3 A B D = 1 :: B := by unfold pack3; rw [e1, if_neg (by rw [List.length_cons]; omega)]
      refine c_roll 4 ?_
      (repeat' (first | (with_reducible refine w_seq ?_) | (with_reducible refine c_region ?_) | (with_reducible refine s_nil ?_) | ((with_reducible apply s_indexV hF); exact rfl; exact rfl; exact rfl; exact rfl; exact rfl; exact rfl; exact rfl; omega; clear hF a; intro a hF) | (with_reducible refine q_then_n ?_) | ((with_reducible apply s_pure hF); exact rfl; exact rfl; exact rfl; (first | exact trivial | omega | exact ⟨Int.natCast_nonneg _, Int.ofNat_lt.2 (by assumption)⟩ | decide); clear hF a; intro a hF) | ((with_reducible apply s_loadB hF hM); exact rfl; exact rfl; (repeat (first | exact List.mem_cons_self | refine List.mem_cons_of_mem _ ?_)); exact rfl; exact rfl; clear hF a; intro a hF) | ((with_reducible apply s_lit hF hM); exact rfl; exact rfl; exact rfl; exact rfl; clear hF hM a; intro bl w a hM hF) | (with_reducible refine w_skip ?_) | (with_reducible refine r_succ ?_) | (with_reducible refine w_block ?_) | (with_reducible refine w_exit ?_) | (with_reducible refine q_then_x ?_) | (with_reducible refine q_blk_n ?_) | (with_reducible refine q_blk_x ?_) | ((with_reducible apply c_true2 hF); exact rfl; (first | with_reducible rfl | (refine congrArg Value.bool ?_; focus (simp; done)))) | ((with_reducible apply c_false2 hF); exact rfl; (first | with_reducible rfl | (refine congrArg Value.bool ?_; focus (simp; done)))) | ((with_reducible apply c_dec hF); exact rfl; all_goals intro hc; all_goals (try (exfalso; omega)))))
      replace hM := hM.boxRow 1 1 rfl (by unfold maxLen; omega)
      (repeat' (first | (with_reducible refine s_nil ?_) | ((with_reducible apply s_appF hF hM); exact rfl; exact rfl; (repeat (first | exact List.mem_cons_self | refine List.mem_cons_of_mem _ ?_)); exact rfl; exact rfl; (repeat (first | exact Kth.z | apply Kth.s)); (intro _; exact rfl); exact rfl; omega; clear hF hM a; intro g cap w a hM hF; dsimp only [List.set] at hM) | (with_reducible refine q_then_n ?_) | ((with_reducible apply s_pure hF); exact rfl; exact rfl; exact rfl; (first | exact trivial | omega | exact ⟨Int.natCast_nonneg _, Int.ofNat_lt.2 (by assumption)⟩ | decide); clear hF a; intro a hF) | (with_reducible refine w_ret ?_)))
      (apply f_ret Try.results18 hF hM; (repeat (first | exact RL.nil | (apply RL.tmp; exact rfl) | (apply RL.cell; exact rfl; (repeat (first | exact List.mem_cons_self | refine List.mem_cons_of_mem _ ?_)); exact rfl))); refine Ret.mk hM.since ?_; dsimp only [resV])
      rw [e2, show (1 :: B).length = 1 + (B).length by rw [List.length_cons]; omega]
      exact ⟨_, _, rfl, (hM.sub (List.nil_sublist _) (.refl _) (fun _ h => h)).mem.own⟩
  · have e1 : pack2 A B = 0 :: A := by unfold pack2; rw [if_neg h1]
    by_cases h2 : D.length < A.length
    · have e2 : pack3 A B D = 2 :: D := by unfold pack3; rw [e1, if_pos (by rw [List.length_cons]; omega)]
      refine c_roll 4 ?_
      (repeat' (first | (with_reducible refine w_seq ?_) | (with_reducible refine c_region ?_) | (with_reducible refine s_nil ?_) | ((with_reducible apply s_indexV hF); exact rfl; exact rfl; exact rfl; exact rfl; exact rfl; exact rfl; exact rfl; omega; clear hF a; intro a hF) | (with_reducible refine q_then_n ?_) | ((with_reducible apply s_pure hF); exact rfl; exact rfl; exact rfl; (first | exact trivial | omega | exact ⟨Int.natCast_nonneg _, Int.ofNat_lt.2 (by assumption)⟩ | decide); clear hF a; intro a hF) | ((with_reducible apply s_loadB hF hM); exact rfl; exact rfl; (repeat (first | exact List.mem_cons_self | refine List.mem_cons_of_mem _ ?_)); exact rfl; exact rfl; clear hF a; intro a hF) | ((with_reducible apply s_lit hF hM); exact rfl; exact rfl; exact rfl; exact rfl; clear hF hM a; intro bl w a hM hF) | (with_reducible refine w_skip ?_) | (with_reducible refine r_succ ?_) | (with_reducible refine w_block ?_) | (with_reducible refine w_exit ?_) | (with_reducible refine q_then_x ?_) | (with_reducible refine q_blk_n ?_) | (with_reducible refine q_blk_x ?_) | ((with_reducible apply c_true2 hF); exact rfl; (first | with_reducible rfl | (refine congrArg Value.bool ?_; focus (simp; done)))) | ((with_reducible apply c_false2 hF); exact rfl; (first | with_reducible rfl | (refine congrArg Value.bool ?_; focus (simp; done)))) | ((with_reducible apply c_dec hF); exact rfl; all_goals intro hc; all_goals (try (exfalso; omega)))))
      replace hM := hM.boxRow 1 1 rfl (by unfold maxLen; omega)
      (repeat' (first | (with_reducible refine s_nil ?_) | ((with_reducible apply s_appF hF hM); exact rfl; exact rfl; (repeat (first | exact List.mem_cons_self | refine List.mem_cons_of_mem _ ?_)); exact rfl; exact rfl; (repeat (first | exact Kth.z | apply Kth.s)); (intro _; exact rfl); exact rfl; omega; clear hF hM a; intro g cap w a hM hF; dsimp only [List.set] at hM) | (with_reducible refine q_then_n ?_) | ((with_reducible apply s_pure hF); exact rfl; exact rfl; exact rfl; (first | exact trivial | omega | exact ⟨Int.natCast_nonneg _, Int.ofNat_lt.2 (by assumption)⟩ | decide); clear hF a; intro a hF) | (with_reducible refine w_ret ?_)))
      (apply f_ret Try.results18 hF hM; (repeat (first | exact RL.nil | (apply RL.tmp; exact rfl) | (apply RL.cell; exact rfl; (repeat (first | exact List.mem_cons_self | refine List.mem_cons_of_mem _ ?_)); exact rfl))); refine Ret.mk hM.since ?_; dsimp only [resV])
      rw [e2, show (2 :: D).length = 1 + (D).length by rw [List.length_cons]; omega]
      exact ⟨_, _, rfl, (hM.sub (List.nil_sublist _) (.refl _) (fun _ h => h)).mem.own⟩
    · have e2 : pack3 A B D = 0 :: A := by unfold pack3; rw [e1, if_neg (by rw [List.length_cons]; omega)]
      refine c_roll 4 ?_
      (repeat' (first | (with_reducible refine w_seq ?_) | (with_reducible refine c_region ?_) | (with_reducible refine s_nil ?_) | ((with_reducible apply s_indexV hF); exact rfl; exact rfl; exact rfl; exact rfl; exact rfl; exact rfl; exact rfl; omega; clear hF a; intro a hF) | (with_reducible refine q_then_n ?_) | ((with_reducible apply s_pure hF); exact rfl; exact rfl; exact rfl; (first | exact trivial | omega | exact ⟨Int.natCast_nonneg _, Int.ofNat_lt.2 (by assumption)⟩ | decide); clear hF a; intro a hF) | ((with_reducible apply s_loadB hF hM); exact rfl; exact rfl; (repeat (first | exact List.mem_cons_self | refine List.mem_cons_of_mem _ ?_)); exact rfl; exact rfl; clear hF a; intro a hF) | ((with_reducible apply s_lit hF hM); exact rfl; exact rfl; exact rfl; exact rfl; clear hF hM a; intro bl w a hM hF) | (with_reducible refine w_skip ?_) | (with_reducible refine r_succ ?_) | (with_reducible refine w_block ?_) | (with_reducible refine w_exit ?_) | (with_reducible refine q_then_x ?_) | (with_reducible refine q_blk_n ?_) | (with_reducible refine q_blk_x ?_) | ((with_reducible apply c_true2 hF); exact rfl; (first | with_reducible rfl | (refine congrArg Value.bool ?_; focus (simp; done)))) | ((with_reducible apply c_false2 hF); exact rfl; (first | with_reducible rfl | (refine congrArg Value.bool ?_; focus (simp; done)))) | ((with_reducible apply c_dec hF); exact rfl; all_goals intro hc; all_goals (try (exfalso; omega)))))
      replace hM := hM.boxRow 1 1 rfl (by unfold maxLen; omega)
      (repeat' (first | (with_reducible refine s_nil ?_) | ((with_reducible apply s_appF hF hM); exact rfl; exact rfl; (repeat (first | exact List.mem_cons_self | refine List.mem_cons_of_mem _ ?_)); exact rfl; exact rfl; (repeat (first | exact Kth.z | apply Kth.s)); (intro _; exact rfl); exact rfl; omega; clear hF hM a; intro g cap w a hM hF; dsimp only [List.set] at hM) | (with_reducible refine q_then_n ?_) | ((with_reducible apply s_pure hF); exact rfl; exact rfl; exact rfl; (first | exact trivial | omega | exact ⟨Int.natCast_nonneg _, Int.ofNat_lt.2 (by assumption)⟩ | decide); clear hF a; intro a hF) | (with_reducible refine w_ret ?_)))
      (apply f_ret Try.results18 hF hM; (repeat (first | exact RL.nil | (apply RL.tmp; exact rfl) | (apply RL.cell; exact rfl; (repeat (first | exact List.mem_cons_self | refine List.mem_cons_of_mem _ ?_)); exact rfl))); refine Ret.mk hM.since ?_; dsimp only [resV])
      rw [e2, show (0 :: A).length = 1 + (A).length by rw [List.length_cons]; omega]
      exact ⟨_, _, rfl, (hM.sub (List.nil_sublist _) (.refl _) (fun _ h => h)).mem.own⟩
end
end Go.Proofs.Ytocgpllmfdnfjaa

/- The reference's numbers. -/
namespace Go.Proofs.Ytocgpllmfdnfjaa
open Go.RowKit Go.Shelf
set_option maxRecDepth 20000 in
theorem PutIntR_c (n : Nat) (q : Int) (hq : q = n) (hn : n ≤ 9007199254740991) (a0 : Option Addr) (c0 : Nat) (ys : List Int) (m : Nat) (hm : ys.length = m) (own : Nat → Prop) (W : World) (hl : ∀ b, own b → b < W.heap.size) (hv : Has own W (RdF (Value.int .u8) a0 ys)) (hb : m ≤ 10000000000) :
    Calls Try.prog 31 ⟨[.slice a0 m c0, .int .i64 q]⟩ W (Ret W fun v w' => ∃ a' c', v = .slice a' (m + (puts n).length) c' ∧ Owns w' W.heap.size [⟨5, 1, .slice a' (m + (puts n).length) c', m + (puts n).length, (ys ++ puts n).map (Value.int .u8)⟩]) := by
  subst hq hm
  have hM := ((Mm.start hl).known hv).nilRow 5 1
  refine f_start Try.func31 rfl Try.ntmps31 rfl rfl ?_; intro a hF
  (repeat' (first | (with_reducible refine w_seq ?_) | (with_reducible refine c_region ?_) | (with_reducible refine s_nil ?_) | ((with_reducible apply s_appF hF hM); exact rfl; exact rfl; (repeat (first | exact List.mem_cons_self | refine List.mem_cons_of_mem _ ?_)); exact rfl; exact rfl; (repeat (first | exact Kth.z | apply Kth.s)); (intro _; exact rfl); exact rfl; omega; clear hF hM a; intro g cap w a hM hF; dsimp only [List.set] at hM) | (with_reducible refine q_then_n ?_) | ((with_reducible apply s_pure hF); exact rfl; exact rfl; exact rfl; (first | exact trivial | omega | exact ⟨Int.natCast_nonneg _, Int.ofNat_lt.2 (by assumption)⟩ | decide); clear hF a; intro a hF) | (with_reducible refine w_skip ?_) | (with_reducible refine w_block ?_) | ((with_reducible apply c_dec hF); exact rfl; all_goals intro hc; all_goals (try (exfalso; omega)))))
  refine c_loop (m := n) (fun mm a w' => ∃ (x q : Nat) (done : List Int) (v' : Value), x = mm ∧ x ≤ n ∧ done.length = q ∧ q ≤ n ∧ puts n = done ++ puts x ∧
    Fr 31 [] [(5, v'), (1, .int .i64 x)] a ∧ Mm own W [] [⟨5, 1, v', ys.length + q, (ys ++ done).map (Value.int .u8)⟩] [] w') ⟨n, 0, [], _, rfl, Nat.le_refl _, rfl, by omega, rfl, hF.sub (by repeat (first | exact Sub.nil | refine Sub.cons rfl (by first | with_reducible rfl | (refine congrArg (Value.int _) ?_; omega) | exact rfl) ?_)), by
      rw [Nat.zero_add, List.nil_append] at hM
      rw [List.append_nil, Nat.zero_add]
      exact hM.sub (.refl _) (.refl _) (by simp)⟩ ?_
  clear hF hM a
  rintro mm a w' ⟨x, q, done, v', rfl, hxn, hdl, hqn, hpu, hF, hM⟩
  have hq2 : (puts n).length ≤ 8 := puts_len 7 n (by omega)
  have hq3 : q ≤ 8 := by rw [hpu, List.length_append] at hq2; omega
  by_cases hx : x < 128
  · rw [puts_lt hx] at hpu
    (repeat' (first | (with_reducible refine w_seq ?_) | (with_reducible refine c_region ?_) | (with_reducible refine s_nil ?_) | (with_reducible refine q_then_n ?_) | ((with_reducible apply s_pure hF); exact rfl; exact rfl; exact rfl; (first | exact trivial | omega | exact ⟨Int.natCast_nonneg _, Int.ofNat_lt.2 (by assumption)⟩ | decide); clear hF a; intro a hF) | ((with_reducible apply s_lit hF hM); exact rfl; exact rfl; exact rfl; exact rfl; clear hF hM a; intro bl w a hM hF) | ((with_reducible apply s_app hF hM); exact rfl; exact rfl; exact rfl; exact rfl; (repeat (first | exact Kth.z | apply Kth.s)); exact rfl; exact rfl; exact rfl; exact rfl; omega; clear hF hM a; intro g cap w a hM hF; dsimp only [List.set] at hM) | (with_reducible refine w_exit ?_) | (with_reducible refine w_ret ?_) | (with_reducible refine q_then_x ?_) | (with_reducible refine q_blk_x ?_) | ((with_reducible apply c_dec hF); exact rfl; all_goals intro hc; all_goals (try (exfalso; omega)))))
    rw [show (x : Int) % 256 = x by omega] at hM
    (apply f_ret Try.results31 hF hM; (repeat (first | exact RL.nil | (apply RL.tmp; exact rfl) | (apply RL.cell; exact rfl; (repeat (first | exact List.mem_cons_self | refine List.mem_cons_of_mem _ ?_)); exact rfl))); refine Ret.mk hM.since ?_; dsimp only [resV])
    have e1 : (puts n).length = q + 1 := by rw [hpu]; simp [hdl]
    refine ⟨some ⟨g, 0, none⟩, cap, by rw [e1]; rfl, ?_⟩
    rw [e1, hpu, ← List.append_assoc, List.map_append]
    exact hM.mem.own
  · rw [puts_ge hx] at hpu
    (repeat' (first | (with_reducible refine w_seq ?_) | (with_reducible refine c_region ?_) | (with_reducible refine s_nil ?_) | (with_reducible refine q_then_n ?_) | ((with_reducible apply s_pure hF); exact rfl; exact rfl; exact rfl; (first | exact trivial | omega | exact ⟨Int.natCast_nonneg _, Int.ofNat_lt.2 (by assumption)⟩ | decide); clear hF a; intro a hF) | ((with_reducible apply s_lit hF hM); exact rfl; exact rfl; exact rfl; exact rfl; clear hF hM a; intro bl w a hM hF) | ((with_reducible apply s_app hF hM); exact rfl; exact rfl; exact rfl; exact rfl; (repeat (first | exact Kth.z | apply Kth.s)); exact rfl; exact rfl; exact rfl; exact rfl; omega; clear hF hM a; intro g cap w a hM hF; dsimp only [List.set] at hM) | (with_reducible refine w_skip ?_) | (with_reducible refine w_block ?_) | (with_reducible refine q_blk_n ?_) | ((with_reducible apply c_dec hF); exact rfl; all_goals intro hc; all_goals (try (exfalso; omega)))))
    rw [show ((x : Int) % 128 + 128) % 256 = ((x % 128 + 128 : Nat) : Int) by omega] at hM
    refine ⟨x / 128, by omega, x / 128, q + 1, done ++ [((x % 128 + 128 : Nat) : Int)], .slice (some ⟨g, 0, none⟩) (ys.length + q + 1) cap, rfl, by omega, by simp [hdl], by omega, by rw [hpu]; simp, hF.sub (by repeat (first | exact Sub.nil | refine Sub.cons rfl (by first | with_reducible rfl | (refine congrArg (Value.int _) ?_; omega) | exact rfl) ?_)), ?_⟩
    rw [← List.append_assoc, List.map_append]
    exact hM
set_option maxRecDepth 20000 in
theorem numR_c (xs : List Int) (hxb : ∀ x ∈ xs, 0 ≤ x ∧ x < 256) (hlen : xs.length ≤ 1000000) (a0 : Option Addr) (c0 : Nat) (own : Nat → Prop) (W : World) (hl : ∀ b, own b → b < W.heap.size) (hv : Has own W (RdF (Value.int .u8) a0 xs)) :
    Calls Try.prog 48 ⟨[.slice a0 xs.length c0]⟩ W (Ret W fun v _ => v = .tuple #[.int .i64 (rdNum xs).1, .int .i64 (rdNum xs).2.2, .int .i64 (rdNum xs).2.1]) := by
  have hM := (Mm.start hl).known hv
  refine f_start Try.func48 rfl Try.ntmps48 rfl rfl ?_; intro a hF
  (repeat' (first | (with_reducible refine w_seq ?_) | (with_reducible refine c_region ?_) | (with_reducible refine s_nil ?_) | (with_reducible refine q_then_n ?_) | ((with_reducible apply s_pure hF); exact rfl; exact rfl; exact rfl; (first | exact trivial | omega | exact ⟨Int.natCast_nonneg _, Int.ofNat_lt.2 (by assumption)⟩ | decide); clear hF a; intro a hF) | (with_reducible refine w_block ?_)))
  refine c_loop (m := 8) (fun m a w' => ∃ (i : Nat) (n P : Int), m + i = 8 ∧ rdNum xs = rdN xs m i n ∧ 0 ≤ n ∧ P = 128 ^ i ∧ n < P ∧
    Fr 45 [] [(7, .int .i64 i), (5, .int .i64 n), (6, .int .i64 P), (0, .slice a0 xs.length c0)] a ∧
    Mm own W [] [] [RdF (Value.int .u8) a0 xs] w') ⟨0, 0, 1, by omega, rfl, by omega, by simp, by omega, hF.sub (by repeat (first | exact Sub.nil | refine Sub.cons rfl (by first | with_reducible rfl | (refine congrArg (Value.int _) ?_; omega) | exact rfl) ?_)), hM⟩ ?_
  clear hF hM a
  rintro m a w' ⟨i, n, P, hmi, hrd, hn0, hP, hn1, hF, hM⟩
  by_cases hi : i < 8
  case neg =>
    obtain rfl : m = 0 := by omega
    have hr : rdNum xs = (0, 3, 0) := hrd
    rw [hr]
    (repeat' (first | (with_reducible refine w_seq ?_) | (with_reducible refine c_region ?_) | (with_reducible refine s_nil ?_) | (with_reducible refine q_then_n ?_) | ((with_reducible apply s_pure hF); exact rfl; exact rfl; exact rfl; (first | exact trivial | omega | exact ⟨Int.natCast_nonneg _, Int.ofNat_lt.2 (by assumption)⟩ | decide); clear hF a; intro a hF) | (with_reducible refine w_exit ?_) | (with_reducible refine w_ret ?_) | (with_reducible refine q_then_x ?_) | (with_reducible refine q_blk_x ?_) | ((with_reducible apply c_dec hF); exact rfl; all_goals intro hc; all_goals (try (exfalso; omega)))))
    (apply f_ret Try.results48 hF hM; (repeat (first | exact RL.nil | (apply RL.tmp; exact rfl) | (apply RL.cell; exact rfl; (repeat (first | exact List.mem_cons_self | refine List.mem_cons_of_mem _ ?_)); exact rfl))); refine Ret.mk hM.since ?_; dsimp only [resV])
    first | rfl | (rw [hZ]; rfl)
  obtain ⟨m, rfl⟩ : ∃ k, m = k + 1 := ⟨m - 1, by omega⟩
  obtain ⟨p1, p2, p3⟩ := pow7 ⟨i, hi⟩
  have p4 := pow7s ⟨i, hi⟩
  simp only at p1 p2 p3 p4
  by_cases hin : i < xs.length
  case neg =>
    have hr : rdNum xs = (0, 10, 0) := by rw [hrd]; exact rdN_none (List.getElem?_eq_none (by omega))
    rw [hr]
    (repeat' (first | (with_reducible refine w_seq ?_) | (with_reducible refine c_region ?_) | (with_reducible refine s_nil ?_) | (with_reducible refine q_then_n ?_) | ((with_reducible apply s_pure hF); exact rfl; exact rfl; exact rfl; (first | exact trivial | omega | exact ⟨Int.natCast_nonneg _, Int.ofNat_lt.2 (by assumption)⟩ | decide); clear hF a; intro a hF) | (with_reducible refine w_skip ?_) | (with_reducible refine w_block ?_) | (with_reducible refine w_ret ?_) | (with_reducible refine q_then_r ?_) | (with_reducible refine q_blk_r ?_) | ((with_reducible apply c_dec hF); exact rfl; all_goals intro hc; all_goals (try (exfalso; omega)))))
    (apply f_ret Try.results48 hF hM; (repeat (first | exact RL.nil | (apply RL.tmp; exact rfl) | (apply RL.cell; exact rfl; (repeat (first | exact List.mem_cons_self | refine List.mem_cons_of_mem _ ?_)); exact rfl))); refine Ret.mk hM.since ?_; dsimp only [resV])
    first | rfl | (rw [hZ]; rfl)
  obtain ⟨y, hy⟩ := get_of_lt hin
  obtain ⟨ad, rfl⟩ := rd_some hM (by (repeat (first | exact List.mem_cons_self | refine List.mem_cons_of_mem _ ?_))) hy
  have hyb := hxb y (List.mem_of_getElem? hy)
  have hr := hrd.trans (rdN_some hy)
  rw [← hP] at p1 p2 p3 p4 hr
  have hmb := mul_bdP (show 0 ≤ y % 128 ∧ y % 128 ≤ 127 by omega) (show 0 ≤ P ∧ P ≤ 562949953421312 by omega)
  have hmc : y % 128 * P ≤ 127 * P := Int.mul_le_mul_of_nonneg_right (by omega) (by omega)
  obtain ⟨Z, hZ⟩ : ∃ Z, y % 128 * P = Z := ⟨_, rfl⟩
  rw [hZ] at hr hmb hmc
  by_cases hbig : 128 ≤ y
  · rw [if_pos hbig] at hr
    (repeat' (first | (with_reducible refine w_seq ?_) | (with_reducible refine c_region ?_) | (with_reducible refine s_nil ?_) | (with_reducible refine q_then_n ?_) | ((with_reducible apply s_pure hF); exact rfl; exact rfl; exact rfl; (first | exact trivial | omega | exact ⟨Int.natCast_nonneg _, Int.ofNat_lt.2 (by assumption)⟩ | decide); clear hF a; intro a hF) | ((with_reducible apply s_loadF hF hM); exact rfl; exact rfl; (repeat (first | exact List.mem_cons_self | refine List.mem_cons_of_mem _ ?_)); exact rfl; exact rfl; (first | with_reducible assumption | (simp only [Int.toNat_natCast]; with_reducible assumption)); clear hF a; intro a hF) | (with_reducible refine w_skip ?_) | (with_reducible refine w_block ?_) | (with_reducible refine q_blk_n ?_) | ((with_reducible apply c_dec hF); exact rfl; all_goals intro hc; all_goals (try (exfalso; omega)))))
    exact ⟨m, by omega, i + 1, n + Z, P * 128, by omega, hr, by omega, p4.symm, by omega, hF.sub (by repeat (first | exact Sub.nil | refine Sub.cons rfl (by first | with_reducible rfl | (refine congrArg (Value.int _) ?_; omega) | exact rfl) ?_)), hM⟩
  rw [if_neg hbig] at hr
  by_cases hbad : (y = 0 ∧ 0 < i) ∨ 9007199254740991 < n + Z
  · rw [if_pos hbad] at hr
    rw [hr]
    (repeat' (first | (with_reducible refine w_seq ?_) | (with_reducible refine c_region ?_) | (with_reducible refine s_nil ?_) | (with_reducible refine q_then_n ?_) | ((with_reducible apply s_pure hF); exact rfl; exact rfl; exact rfl; (first | exact trivial | omega | exact ⟨Int.natCast_nonneg _, Int.ofNat_lt.2 (by assumption)⟩ | decide); clear hF a; intro a hF) | ((with_reducible apply s_loadF hF hM); exact rfl; exact rfl; (repeat (first | exact List.mem_cons_self | refine List.mem_cons_of_mem _ ?_)); exact rfl; exact rfl; (first | with_reducible assumption | (simp only [Int.toNat_natCast]; with_reducible assumption)); clear hF a; intro a hF) | (with_reducible refine w_skip ?_) | (with_reducible refine w_block ?_) | (with_reducible refine w_ret ?_) | (with_reducible refine q_then_r ?_) | (with_reducible refine q_blk_r ?_) | ((with_reducible apply c_true2 hF); exact rfl; (first | with_reducible rfl | (refine congrArg Value.bool ?_; focus (simp; done)))) | ((with_reducible apply s_skip hF); exact rfl; exact rfl; clear hF a; intro a hF) | ((with_reducible apply g_dec hF); exact rfl; exact rfl; all_goals (clear hF; intro hc hF); all_goals (try (exfalso; omega))) | ((with_reducible apply c_dec hF); exact rfl; all_goals intro hc; all_goals (try (exfalso; omega)))))
    all_goals
      (apply f_ret Try.results48 hF hM; (repeat (first | exact RL.nil | (apply RL.tmp; exact rfl) | (apply RL.cell; exact rfl; (repeat (first | exact List.mem_cons_self | refine List.mem_cons_of_mem _ ?_)); exact rfl))); refine Ret.mk hM.since ?_; dsimp only [resV])
      first | rfl | (rw [hZ]; rfl)
  · rw [if_neg hbad] at hr
    rw [hr]
    (repeat' (first | (with_reducible refine w_seq ?_) | (with_reducible refine c_region ?_) | (with_reducible refine s_nil ?_) | (with_reducible refine q_then_n ?_) | ((with_reducible apply s_pure hF); exact rfl; exact rfl; exact rfl; (first | exact trivial | omega | exact ⟨Int.natCast_nonneg _, Int.ofNat_lt.2 (by assumption)⟩ | decide); clear hF a; intro a hF) | ((with_reducible apply s_loadF hF hM); exact rfl; exact rfl; (repeat (first | exact List.mem_cons_self | refine List.mem_cons_of_mem _ ?_)); exact rfl; exact rfl; (first | with_reducible assumption | (simp only [Int.toNat_natCast]; with_reducible assumption)); clear hF a; intro a hF) | (with_reducible refine w_skip ?_) | (with_reducible refine w_block ?_) | (with_reducible refine w_ret ?_) | (with_reducible refine q_then_r ?_) | (with_reducible refine q_blk_r ?_) | ((with_reducible apply s_skip hF); exact rfl; exact rfl; clear hF a; intro a hF) | ((with_reducible apply g_dec hF); exact rfl; exact rfl; all_goals (clear hF; intro hc hF); all_goals (try (exfalso; omega))) | ((with_reducible apply c_dec hF); exact rfl; all_goals intro hc; all_goals (try (exfalso; omega)))))
    all_goals
      (apply f_ret Try.results48 hF hM; (repeat (first | exact RL.nil | (apply RL.tmp; exact rfl) | (apply RL.cell; exact rfl; (repeat (first | exact List.mem_cons_self | refine List.mem_cons_of_mem _ ?_)); exact rfl))); refine Ret.mk hM.since ?_; dsimp only [resV])
      first | rfl | (rw [hZ]; rfl)
theorem RdF.take {α : Type} {enc : α → Value} {own : Nat → Prop} {w : World} {a : Option Addr} {xs : List α} (h : Has own w (RdF enc a xs)) (k : Nat) : Has own w (RdF enc a (xs.take k)) := by
  refine h.imp fun w h j x hx => h j x ?_
  rw [List.getElem?_take] at hx
  split at hx
  · exact hx
  · cases hx
set_option maxRecDepth 20000 in
theorem restR_c (xs : List Int) (hlen : xs.length ≤ 1000000) (ad : Addr) (c0 : Nat) (hc0 : xs.length ≤ c0) (k : Nat) (hk : k ≤ xs.length) (q : Int) (hq : q = k) (m : Nat) (hm : xs.length = m) (own : Nat → Prop) (W : World) (hl : ∀ b, own b → b < W.heap.size) (hv : Has own W (RdF (Value.int .u8) (some ad) xs)) :
    Calls Try.prog 49 ⟨[.slice (some ad) m c0, .int .i64 q]⟩ W (Ret W fun v w' => ∃ a' c', v = .slice a' (xs.drop k).length c' ∧ Owns w' W.heap.size [⟨5, 1, .slice a' (xs.drop k).length c', (xs.drop k).length, (xs.drop k).map (Value.int .u8)⟩]) := by
  subst hq hm
  have hM := ((Mm.start hl).known hv).nilRow 5 1
  replace hM := hM.addFact (RdF.drop (hM.facts _ List.mem_cons_self) k c0 hc0)
  have hd := List.length_drop (i := k) (l := xs)
  refine f_start Try.func49 rfl Try.ntmps49 rfl rfl ?_; intro a hF
  (repeat' (first | (with_reducible refine w_seq ?_) | (with_reducible refine c_region ?_) | (with_reducible refine s_nil ?_) | (with_reducible refine q_then_n ?_) | ((with_reducible apply s_pure hF); exact rfl; exact rfl; exact rfl; (first | exact trivial | omega | exact ⟨Int.natCast_nonneg _, Int.ofNat_lt.2 (by assumption)⟩ | decide); clear hF a; intro a hF)))
  rw [show ((xs.length : Nat) : Int).toNat - (k : Int).toNat = (xs.drop k).length by omega, Int.toNat_natCast] at hF
  (repeat' (first | (with_reducible refine s_nil ?_) | ((with_reducible apply s_appF hF hM); exact rfl; exact rfl; (repeat (first | exact List.mem_cons_self | refine List.mem_cons_of_mem _ ?_)); exact rfl; exact rfl; (repeat (first | exact Kth.z | apply Kth.s)); (intro _; exact rfl); exact rfl; omega; clear hF hM a; intro g cap w a hM hF; dsimp only [List.set] at hM) | (with_reducible refine q_then_n ?_) | ((with_reducible apply s_pure hF); exact rfl; exact rfl; exact rfl; (first | exact trivial | omega | exact ⟨Int.natCast_nonneg _, Int.ofNat_lt.2 (by assumption)⟩ | decide); clear hF a; intro a hF) | (with_reducible refine w_ret ?_)))
  (apply f_ret Try.results49 hF hM; (repeat (first | exact RL.nil | (apply RL.tmp; exact rfl) | (apply RL.cell; exact rfl; (repeat (first | exact List.mem_cons_self | refine List.mem_cons_of_mem _ ?_)); exact rfl))); refine Ret.mk hM.since ?_; dsimp only [resV])
  rw [Nat.zero_add] at hM ⊢
  exact ⟨_, _, rfl, hM.mem.own⟩
section
variable (xs : List Int) (hxb : ∀ x ∈ xs, 0 ≤ x ∧ x < 256) (hlen : xs.length ≤ 1000000) (a0 : Option Addr) (c0 : Nat) (hc0 : xs.length ≤ c0) (own : Nat → Prop) (W : World) (hl : ∀ b, own b → b < W.heap.size) (hv : Has own W (RdF (Value.int .u8) a0 xs))
include hxb hlen hc0 hl hv
set_option maxRecDepth 20000 in
theorem IntR_ok (he : (rdNum xs).2.1 = 0) : Calls Try.prog 33 ⟨[.slice a0 xs.length c0]⟩ W (Ret W fun v w' => ∃ a' c', v = .tuple #[.int .i64 (rdNum xs).1, .slice a' (xs.drop (rdNum xs).2.2).length c', .int .i64 0] ∧ Owns w' W.heap.size [⟨5, 1, .slice a' (xs.drop (rdNum xs).2.2).length c', (xs.drop (rdNum xs).2.2).length, (xs.drop (rdNum xs).2.2).map (Value.int .u8)⟩]) := by
  have hM := (Mm.start hl).known hv
  have hu := rdN_used 8 0 0 xs he
  rw [show rdN xs 8 0 0 = rdNum xs from rfl] at hu
  obtain ⟨y, hy⟩ := get_of_lt (l := xs) (i := 0) (by omega)
  obtain ⟨ad, rfl⟩ := rd_some hM (by (repeat (first | exact List.mem_cons_self | refine List.mem_cons_of_mem _ ?_))) hy
  refine f_start Try.func33 rfl Try.ntmps33 rfl rfl ?_; intro a hF
  (repeat (first | (with_reducible refine w_seq ?_) | (with_reducible refine c_region ?_) | (with_reducible refine s_nil ?_) | ((with_reducible apply s_call (f := 48) hF hM); exact rfl; exact rfl; exact rfl; exact rfl; exact rfl; exact (numR_c xs hxb hlen (some ad) c0 _ _ hM.lt (hM.facts _ (by (repeat (first | exact List.mem_cons_self | refine List.mem_cons_of_mem _ ?_))))); clear hF hM a; rintro v w a rfl - hM hF) | (with_reducible refine q_then_n ?_) | ((with_reducible apply s_pure hF); exact rfl; exact rfl; exact rfl; (first | exact trivial | omega | exact ⟨Int.natCast_nonneg _, Int.ofNat_lt.2 (by assumption)⟩ | decide); clear hF a; intro a hF)))
  rw [he] at hF
  (repeat' (first | (with_reducible refine w_seq ?_) | (with_reducible refine c_region ?_) | (with_reducible refine s_nil ?_) | ((with_reducible apply s_callO (f := 49) hF); exact rfl; exact rfl; exact rfl; exact rfl; exact rfl; exact (restR_c xs hlen ad c0 hc0 _ hu.2.1 _ rfl _ rfl _ _ hM.lt (hM.facts _ (by (repeat (first | exact List.mem_cons_self | refine List.mem_cons_of_mem _ ?_))))); clear hF a; rintro v wn a ⟨a1, c1, rfl, hO⟩ hS hF; replace hM := hM.addRows hS hO; clear hS hO; dsimp only [List.cons_append, List.nil_append] at hM) | (with_reducible refine q_then_n ?_) | ((with_reducible apply s_pure hF); exact rfl; exact rfl; exact rfl; (first | exact trivial | omega | exact ⟨Int.natCast_nonneg _, Int.ofNat_lt.2 (by assumption)⟩ | decide); clear hF a; intro a hF) | (with_reducible refine w_skip ?_) | (with_reducible refine w_ret ?_) | ((with_reducible apply c_false2 hF); exact rfl; (first | with_reducible rfl | (refine congrArg Value.bool ?_; focus (simp; done))))))
  (apply f_ret Try.results33 hF hM; (repeat (first | exact RL.nil | (apply RL.tmp; exact rfl) | (apply RL.cell; exact rfl; (repeat (first | exact List.mem_cons_self | refine List.mem_cons_of_mem _ ?_)); exact rfl))); refine Ret.mk hM.since ?_; dsimp only [resV])
  exact ⟨_, _, rfl, hM.mem.own⟩
set_option maxRecDepth 20000 in
theorem IntR_err (he : (rdNum xs).2.1 ≠ 0) : Calls Try.prog 33 ⟨[.slice a0 xs.length c0]⟩ W (Ret W fun v _ => v = .tuple #[.int .i64 0, .slice none 0 0, .int .i64 (rdNum xs).2.1]) := by
  have hM := (Mm.start hl).known hv
  refine f_start Try.func33 rfl Try.ntmps33 rfl rfl ?_; intro a hF
  (repeat' (first | (with_reducible refine w_seq ?_) | (with_reducible refine c_region ?_) | (with_reducible refine s_nil ?_) | ((with_reducible apply s_call (f := 48) hF hM); exact rfl; exact rfl; exact rfl; exact rfl; exact rfl; exact (numR_c xs hxb hlen a0 c0 _ _ hM.lt (hM.facts _ (by (repeat (first | exact List.mem_cons_self | refine List.mem_cons_of_mem _ ?_))))); clear hF hM a; rintro v w a rfl - hM hF) | (with_reducible refine q_then_n ?_) | ((with_reducible apply s_pure hF); exact rfl; exact rfl; exact rfl; (first | exact trivial | omega | exact ⟨Int.natCast_nonneg _, Int.ofNat_lt.2 (by assumption)⟩ | decide); clear hF a; intro a hF) | (with_reducible refine w_ret ?_) | (with_reducible refine q_then_r ?_) | ((with_reducible apply c_dec hF); exact rfl; all_goals intro hc; all_goals (try (exfalso; omega)))))
  (apply f_ret Try.results33 hF hM; (repeat (first | exact RL.nil | (apply RL.tmp; exact rfl) | (apply RL.cell; exact rfl; (repeat (first | exact List.mem_cons_self | refine List.mem_cons_of_mem _ ?_)); exact rfl))); refine Ret.mk hM.since ?_; dsimp only [resV])
end
end Go.Proofs.Ytocgpllmfdnfjaa

/- The reference of runlength: equal, Runs, same, and SameSectors. -/
namespace Go.Proofs.Ytocgpllmfdnfjaa
open Go.RowKit Go.Shelf
theorem equalR_c (l : List (List Int)) (hw : W8 l) (i : Nat) (q : Int) (hq0 : q = i) (hi : i < l.length) (hlen : l.length ≤ 1000000) (a0 : Option Addr) (c0 : Nat) (own : Nat → Prop) (W : World) (hl : ∀ b, own b → b < W.heap.size) (hv : Has own W (RdF (Value.int .u8) a0 l.flatten)) :
    Calls Try.prog 59 ⟨[.slice a0 l.length c0, .int .i64 q]⟩ W (Ret W fun v _ => v = .int .i64 (rl l i)) := by
  subst hq0
  have hM := (Mm.start hl).known hv
  have hw' : ∀ y ∈ l, y.length = 8 := hw
  obtain ⟨s, hs⟩ := get_of_lt hi
  have hs8 := hw s (List.mem_of_getElem? hs)
  obtain ⟨ad, rfl⟩ : ∃ ad, a0 = some ad := by
    have h0 : 0 < s.length := by omega
    exact rd_some hM (by (repeat (first | exact List.mem_cons_self | refine List.mem_cons_of_mem _ ?_))) (flat_get hw hs (List.getElem?_eq_getElem h0))
  refine f_start Try.func59 rfl Try.ntmps59 rfl rfl ?_; intro a hF
  (repeat' (first | (with_reducible refine w_seq ?_) | (with_reducible refine c_region ?_) | (with_reducible refine s_nil ?_) | (with_reducible refine q_then_n ?_) | ((with_reducible apply s_pure hF); exact rfl; exact rfl; exact rfl; (first | exact trivial | omega | exact ⟨Int.natCast_nonneg _, Int.ofNat_lt.2 (by assumption)⟩ | decide); clear hF a; intro a hF) | (with_reducible refine w_block ?_)))
  refine c_loop (m := l.length) (fun m a w' => ∃ n : Nat, m + n = l.length + 1 ∧ 1 ≤ n ∧ i + n ≤ l.length ∧ (∀ j, j < n → l[i + j]? = some s) ∧
    Fr 28 [] [(5, .int .i64 n), (0, .slice (some ad) l.length c0), (1, .int .i64 i)] a ∧ Mm own W [] [] [RdF (Value.int .u8) (some ad) l.flatten] w') ⟨1, by omega, by omega, by omega, fun j hj => by rw [show i + j = i by omega]; exact hs, hF.sub (by repeat (first | exact Sub.nil | refine Sub.cons rfl (by first | with_reducible rfl | (refine congrArg (Value.int _) ?_; omega) | exact rfl) ?_)), hM⟩ ?_
  clear hF hM a
  rintro m a w' ⟨n, hm, hn, hin, hall, hF, hM⟩
  by_cases hlt : i + n < l.length
  · obtain ⟨s2, hs2⟩ := get_of_lt hlt
    have hs28 := hw s2 (List.mem_of_getElem? hs2)
    have hs2' : l[((i : Int) + (n : Int)).toNat]? = some s2 := by rw [show ((i : Int) + (n : Int)).toNat = i + n by omega]; exact hs2
    with_reducible refine w_seq ?_
    with_reducible refine w_seq ?_
    refine c_draw (fun i => Nat.ble 19 i) hM ?_; clear hM; intro w hM
    (first | (refine t_pure (i := 0) hF rfl rfl rfl rfl (by kernel_rfl) hM.sm (fun _ _ _ h => h) ?_ ?_; (first | exact trivial | omega | decide); clear hF a; intro a hF))
    (first | (refine t_pure (i := 1) hF rfl rfl rfl rfl (by kernel_rfl) hM.sm (fun _ _ _ h => h) ?_ ?_; (first | exact trivial | omega | decide); clear hF a; intro a hF))
    (first | (refine t_pure (i := 2) hF rfl rfl rfl rfl (by kernel_rfl) hM.sm (fun _ _ _ h => h) ?_ ?_; (first | exact trivial | omega | decide); clear hF a; intro a hF))
    (first | (refine t_pure (i := 3) hF rfl rfl rfl rfl (by kernel_rfl) hM.sm (fun _ _ _ h => h) ?_ ?_; (first | exact trivial | omega | decide); clear hF a; intro a hF))
    (first | (refine t_pure (i := 4) hF rfl rfl rfl rfl (by kernel_rfl) hM.sm (fun _ _ _ h => h) ?_ ?_; (first | exact trivial | omega | decide); clear hF a; intro a hF))
    (first | (refine t_pure (i := 5) hF rfl rfl rfl rfl (by kernel_rfl) hM.sm (fun _ _ _ h => h) ?_ ?_; (first | exact trivial | omega | decide); clear hF a; intro a hF))
    rw [show decide ((i : Int) + (n : Int) < (l.length : Int)) = true from decide_eq_true (by omega)] at hF
    (first | (refine t_pure (i := 6) hF rfl rfl rfl rfl (by kernel_rfl) (hM.sm.sub (fun x hx => by repeat (first | exact hx | refine List.mem_cons_of_mem _ ?_)) (fun _ h => by repeat (first | exact h | refine List.mem_cons_of_mem _ ?_))) (fun _ _ _ h => h) ?_ ?_; (first | exact trivial | omega | decide); clear hF a; intro a hF))
    (first | (refine t_pure (i := 7) hF rfl rfl rfl rfl (by kernel_rfl) (hM.sm.sub (fun x hx => by repeat (first | exact hx | refine List.mem_cons_of_mem _ ?_)) (fun _ h => by repeat (first | exact h | refine List.mem_cons_of_mem _ ?_))) (fun _ _ _ h => h) ?_ ?_; (first | exact trivial | omega | decide); clear hF a; intro a hF))
    (first | (refine t_pure (i := 8) hF rfl rfl rfl rfl (by kernel_rfl) (hM.sm.sub (fun x hx => by repeat (first | exact hx | refine List.mem_cons_of_mem _ ?_)) (fun _ h => by repeat (first | exact h | refine List.mem_cons_of_mem _ ?_))) (fun _ _ _ h => h) ?_ ?_; (first | exact trivial | omega | decide); clear hF a; intro a hF))
    (first | (refine t_pure (i := 9) hF rfl rfl rfl rfl (by kernel_rfl) (hM.sm.sub (fun x hx => by repeat (first | exact hx | refine List.mem_cons_of_mem _ ?_)) (fun _ h => by repeat (first | exact h | refine List.mem_cons_of_mem _ ?_))) (fun _ _ _ h => h) ?_ ?_; (first | exact trivial | omega | decide); clear hF a; intro a hF))
    (first | (refine t_pure (i := 10) hF rfl rfl rfl rfl (by kernel_rfl) (hM.sm.sub (fun x hx => by repeat (first | exact hx | refine List.mem_cons_of_mem _ ?_)) (fun _ h => by repeat (first | exact h | refine List.mem_cons_of_mem _ ?_))) (fun _ _ _ h => h) ?_ ?_; (first | exact trivial | omega | decide); clear hF a; intro a hF))
    (first | (refine t_pure (i := 11) hF rfl rfl rfl rfl (by kernel_rfl) (hM.sm.sub (fun x hx => by repeat (first | exact hx | refine List.mem_cons_of_mem _ ?_)) (fun _ h => by repeat (first | exact h | refine List.mem_cons_of_mem _ ?_))) (fun _ _ _ h => h) ?_ ?_; (first | exact trivial | omega | decide); clear hF a; intro a hF))
    (first | (apply t_loadS (i := 12) hF rfl rfl rfl; (repeat (first | exact List.mem_cons_self | refine List.mem_cons_of_mem _ ?_)); (first | with_reducible assumption | (simp only [Int.toNat_natCast]; with_reducible assumption)); (with_reducible assumption); exact rfl; exact rfl; kernel_rfl; exact (hM.sm.sub (fun x hx => by repeat (first | exact hx | refine List.mem_cons_of_mem _ ?_)) (fun _ h => by repeat (first | exact h | refine List.mem_cons_of_mem _ ?_))); exact (fun _ _ _ h => h); clear hF a; intro a hF))
    (first | (refine t_pure (i := 13) hF rfl rfl rfl rfl (by kernel_rfl) (hM.sm.sub (fun x hx => by repeat (first | exact hx | refine List.mem_cons_of_mem _ ?_)) (fun _ h => by repeat (first | exact h | refine List.mem_cons_of_mem _ ?_))) (fun _ _ _ h => h) ?_ ?_; (first | exact trivial | omega | decide); clear hF a; intro a hF))
    (first | (refine t_pure (i := 14) hF rfl rfl rfl rfl (by kernel_rfl) (hM.sm.sub (fun x hx => by repeat (first | exact hx | refine List.mem_cons_of_mem _ ?_)) (fun _ h => by repeat (first | exact h | refine List.mem_cons_of_mem _ ?_))) (fun _ _ _ h => h) ?_ ?_; (first | exact trivial | omega | decide); clear hF a; intro a hF))
    (first | (refine t_pure (i := 15) hF rfl rfl rfl rfl (by kernel_rfl) (hM.sm.sub (fun x hx => by repeat (first | exact hx | refine List.mem_cons_of_mem _ ?_)) (fun _ h => by repeat (first | exact h | refine List.mem_cons_of_mem _ ?_))) (fun _ _ _ h => h) ?_ ?_; (first | exact trivial | omega | decide); clear hF a; intro a hF))
    (first | (apply t_loadS (i := 16) hF rfl rfl rfl; (repeat (first | exact List.mem_cons_self | refine List.mem_cons_of_mem _ ?_)); (first | with_reducible assumption | (simp only [Int.toNat_natCast]; with_reducible assumption)); (with_reducible assumption); exact rfl; exact rfl; kernel_rfl; exact (hM.sm.sub (fun x hx => by repeat (first | exact hx | refine List.mem_cons_of_mem _ ?_)) (fun _ h => by repeat (first | exact h | refine List.mem_cons_of_mem _ ?_))); exact (fun _ _ _ h => h); clear hF a; intro a hF))
    (first | (apply t_eqA (i := 17) hF rfl rfl rfl rfl rfl; kernel_rfl; exact rfl; exact rfl; kernel_rfl; (first | with_reducible assumption | rfl); (first | with_reducible assumption | rfl); exact (hM.sm.sub (fun x hx => by repeat (first | exact hx | refine List.mem_cons_of_mem _ ?_)) (fun _ h => by repeat (first | exact h | refine List.mem_cons_of_mem _ ?_))); exact (fun _ _ _ h => h); clear hF a; intro a hF))
    (first | (refine t_pure (i := 18) hF rfl rfl rfl rfl (by kernel_rfl) (hM.sm.sub (fun x hx => by repeat (first | exact hx | refine List.mem_cons_of_mem _ ?_)) (fun _ h => by repeat (first | exact h | refine List.mem_cons_of_mem _ ?_))) (fun _ _ _ h => h) ?_ ?_; (first | exact trivial | omega | decide); clear hF a; intro a hF))
    refine t_done (by kernel_rfl) ?_
    (repeat' (first | (with_reducible refine w_seq ?_) | (with_reducible refine c_region ?_) | (with_reducible refine s_nil ?_) | (with_reducible refine q_then_n ?_) | ((with_reducible apply s_pure hF); exact rfl; exact rfl; exact rfl; (first | exact trivial | omega | exact ⟨Int.natCast_nonneg _, Int.ofNat_lt.2 (by assumption)⟩ | decide); clear hF a; intro a hF) | (with_reducible refine w_skip ?_) | (with_reducible refine w_block ?_) | (with_reducible refine w_exit ?_) | (with_reducible refine w_ret ?_) | (with_reducible refine q_then_x ?_) | (with_reducible refine q_blk_n ?_) | (with_reducible refine q_blk_x ?_) | ((with_reducible apply c_dec hF); exact rfl; all_goals intro hc; all_goals (try (exfalso; omega)))))
    · refine ⟨m - 1, by omega, n + 1, by omega, by omega, by omega, fun j hj => ?_, hF.sub (by repeat (first | exact Sub.nil | refine Sub.cons rfl (by first | with_reducible rfl | (refine congrArg (Value.int _) ?_; omega) | exact rfl) ?_)), hM⟩
      by_cases hj' : j = n
      · subst hj'; rw [hs2, hc]
      · exact hall j (by omega)
    (apply f_ret Try.results59 hF hM; (repeat (first | exact RL.nil | (apply RL.tmp; exact rfl) | (apply RL.cell; exact rfl; (repeat (first | exact List.mem_cons_self | refine List.mem_cons_of_mem _ ?_)); exact rfl))); refine Ret.mk hM.since ?_; dsimp only [resV])
    rw [rl_eq hs hn hall (by rw [hs2]; intro h; injection h with h; exact hc h)]
  · with_reducible refine w_seq ?_
    with_reducible refine w_seq ?_
    refine c_draw (fun i => Nat.ble 19 i) hM ?_; clear hM; intro w hM
    (first | (refine t_pure (i := 0) hF rfl rfl rfl rfl (by kernel_rfl) hM.sm (fun _ _ _ h => h) ?_ ?_; (first | exact trivial | omega | decide); clear hF a; intro a hF))
    (first | (refine t_pure (i := 1) hF rfl rfl rfl rfl (by kernel_rfl) hM.sm (fun _ _ _ h => h) ?_ ?_; (first | exact trivial | omega | decide); clear hF a; intro a hF))
    (first | (refine t_pure (i := 2) hF rfl rfl rfl rfl (by kernel_rfl) hM.sm (fun _ _ _ h => h) ?_ ?_; (first | exact trivial | omega | decide); clear hF a; intro a hF))
    (first | (refine t_pure (i := 3) hF rfl rfl rfl rfl (by kernel_rfl) hM.sm (fun _ _ _ h => h) ?_ ?_; (first | exact trivial | omega | decide); clear hF a; intro a hF))
    (first | (refine t_pure (i := 4) hF rfl rfl rfl rfl (by kernel_rfl) hM.sm (fun _ _ _ h => h) ?_ ?_; (first | exact trivial | omega | decide); clear hF a; intro a hF))
    (first | (refine t_pure (i := 5) hF rfl rfl rfl rfl (by kernel_rfl) hM.sm (fun _ _ _ h => h) ?_ ?_; (first | exact trivial | omega | decide); clear hF a; intro a hF))
    rw [show decide ((i : Int) + (n : Int) < (l.length : Int)) = false from decide_eq_false (by omega)] at hF
    (first | (refine t_pure (i := 6) hF rfl rfl rfl rfl (by kernel_rfl) (hM.sm.sub (fun x hx => by repeat (first | exact hx | refine List.mem_cons_of_mem _ ?_)) (fun _ h => by repeat (first | exact h | refine List.mem_cons_of_mem _ ?_))) (fun _ _ _ h => h) ?_ ?_; (first | exact trivial | omega | decide); clear hF a; intro a hF))
    (first | (refine t_skip (i := 7) hF rfl rfl rfl (by kernel_rfl) (hM.sm.sub (fun x hx => by repeat (first | exact hx | refine List.mem_cons_of_mem _ ?_)) (fun _ h => by repeat (first | exact h | refine List.mem_cons_of_mem _ ?_))) (fun _ _ _ h => h) ?_; clear hF a; intro a hF))
    (first | (refine t_skip (i := 8) hF rfl rfl rfl (by kernel_rfl) (hM.sm.sub (fun x hx => by repeat (first | exact hx | refine List.mem_cons_of_mem _ ?_)) (fun _ h => by repeat (first | exact h | refine List.mem_cons_of_mem _ ?_))) (fun _ _ _ h => h) ?_; clear hF a; intro a hF))
    (first | (refine t_skip (i := 9) hF rfl rfl rfl (by kernel_rfl) (hM.sm.sub (fun x hx => by repeat (first | exact hx | refine List.mem_cons_of_mem _ ?_)) (fun _ h => by repeat (first | exact h | refine List.mem_cons_of_mem _ ?_))) (fun _ _ _ h => h) ?_; clear hF a; intro a hF))
    (first | (refine t_skip (i := 10) hF rfl rfl rfl (by kernel_rfl) (hM.sm.sub (fun x hx => by repeat (first | exact hx | refine List.mem_cons_of_mem _ ?_)) (fun _ h => by repeat (first | exact h | refine List.mem_cons_of_mem _ ?_))) (fun _ _ _ h => h) ?_; clear hF a; intro a hF))
    (first | (refine t_skip (i := 11) hF rfl rfl rfl (by kernel_rfl) (hM.sm.sub (fun x hx => by repeat (first | exact hx | refine List.mem_cons_of_mem _ ?_)) (fun _ h => by repeat (first | exact h | refine List.mem_cons_of_mem _ ?_))) (fun _ _ _ h => h) ?_; clear hF a; intro a hF))
    (first | (refine t_skip (i := 12) hF rfl rfl rfl (by kernel_rfl) (hM.sm.sub (fun x hx => by repeat (first | exact hx | refine List.mem_cons_of_mem _ ?_)) (fun _ h => by repeat (first | exact h | refine List.mem_cons_of_mem _ ?_))) (fun _ _ _ h => h) ?_; clear hF a; intro a hF))
    (first | (refine t_skip (i := 13) hF rfl rfl rfl (by kernel_rfl) (hM.sm.sub (fun x hx => by repeat (first | exact hx | refine List.mem_cons_of_mem _ ?_)) (fun _ h => by repeat (first | exact h | refine List.mem_cons_of_mem _ ?_))) (fun _ _ _ h => h) ?_; clear hF a; intro a hF))
    (first | (refine t_skip (i := 14) hF rfl rfl rfl (by kernel_rfl) (hM.sm.sub (fun x hx => by repeat (first | exact hx | refine List.mem_cons_of_mem _ ?_)) (fun _ h => by repeat (first | exact h | refine List.mem_cons_of_mem _ ?_))) (fun _ _ _ h => h) ?_; clear hF a; intro a hF))
    (first | (refine t_skip (i := 15) hF rfl rfl rfl (by kernel_rfl) (hM.sm.sub (fun x hx => by repeat (first | exact hx | refine List.mem_cons_of_mem _ ?_)) (fun _ h => by repeat (first | exact h | refine List.mem_cons_of_mem _ ?_))) (fun _ _ _ h => h) ?_; clear hF a; intro a hF))
    (first | (refine t_skip (i := 16) hF rfl rfl rfl (by kernel_rfl) (hM.sm.sub (fun x hx => by repeat (first | exact hx | refine List.mem_cons_of_mem _ ?_)) (fun _ h => by repeat (first | exact h | refine List.mem_cons_of_mem _ ?_))) (fun _ _ _ h => h) ?_; clear hF a; intro a hF))
    (first | (refine t_skip (i := 17) hF rfl rfl rfl (by kernel_rfl) (hM.sm.sub (fun x hx => by repeat (first | exact hx | refine List.mem_cons_of_mem _ ?_)) (fun _ h => by repeat (first | exact h | refine List.mem_cons_of_mem _ ?_))) (fun _ _ _ h => h) ?_; clear hF a; intro a hF))
    (first | (refine t_pure (i := 18) hF rfl rfl rfl rfl (by kernel_rfl) (hM.sm.sub (fun x hx => by repeat (first | exact hx | refine List.mem_cons_of_mem _ ?_)) (fun _ h => by repeat (first | exact h | refine List.mem_cons_of_mem _ ?_))) (fun _ _ _ h => h) ?_ ?_; (first | exact trivial | omega | decide); clear hF a; intro a hF))
    refine t_done (by kernel_rfl) ?_
    (repeat' (first | (with_reducible refine w_seq ?_) | (with_reducible refine c_region ?_) | (with_reducible refine s_nil ?_) | (with_reducible refine q_then_n ?_) | ((with_reducible apply s_pure hF); exact rfl; exact rfl; exact rfl; (first | exact trivial | omega | exact ⟨Int.natCast_nonneg _, Int.ofNat_lt.2 (by assumption)⟩ | decide); clear hF a; intro a hF) | (with_reducible refine w_exit ?_) | (with_reducible refine w_ret ?_) | (with_reducible refine q_then_x ?_) | (with_reducible refine q_blk_x ?_) | ((with_reducible apply c_false2 hF); exact rfl; (first | with_reducible rfl | (refine congrArg Value.bool ?_; focus (simp; done))))))
    (apply f_ret Try.results59 hF hM; (repeat (first | exact RL.nil | (apply RL.tmp; exact rfl) | (apply RL.cell; exact rfl; (repeat (first | exact List.mem_cons_self | refine List.mem_cons_of_mem _ ?_)); exact rfl))); refine Ret.mk hM.since ?_; dsimp only [resV])
    rw [rl_eq hs hn hall (by rw [List.getElem?_eq_none (by omega)]; exact fun h => by cases h)]
set_option maxRecDepth 20000 in
theorem sameR_c (xs ys : List Int) (hx : ∀ x ∈ xs, 0 ≤ x ∧ x < 256) (hy : ∀ y ∈ ys, 0 ≤ y ∧ y < 256) (a1 a2 : Option Addr) (m1 m2 c1 c2 : Nat) (h1 : xs.length = m1) (h2 : ys.length = m2) (own : Nat → Prop) (W : World) (hl : ∀ b, own b → b < W.heap.size) (hv1 : Has own W (RdF (Value.int .u8) a1 xs)) (hv2 : Has own W (RdF (Value.int .u8) a2 ys)) :
    Calls Try.prog 54 ⟨[.slice a1 m1 c1, .slice a2 m2 c2]⟩ W (Ret W fun v _ => v = .bool (decide (xs = ys))) := by
  have hM := ((Mm.start hl).known hv1).known hv2
  refine f_start Try.func54 rfl Try.ntmps54 rfl rfl ?_; intro a hF
  (repeat (first | (with_reducible refine w_seq ?_) | (with_reducible refine c_region ?_) | (with_reducible refine s_nil ?_) | ((with_reducible apply s_b2s hF hM); exact rfl; exact rfl; (repeat (first | exact List.mem_cons_self | refine List.mem_cons_of_mem _ ?_)); exact rfl; exact rfl; exact rfl; exact rfl; (first | with_reducible assumption | rfl); clear hF a; intro a hF) | ((with_reducible apply s_eqS hF); exact rfl; exact rfl; exact rfl; kernel_rfl; exact rfl; (with_reducible assumption); (with_reducible assumption); clear hF a; intro a hF) | (with_reducible refine q_then_n ?_) | ((with_reducible apply s_pure hF); exact rfl; exact rfl; exact rfl; (first | exact trivial | omega | exact ⟨Int.natCast_nonneg _, Int.ofNat_lt.2 (by assumption)⟩ | decide); clear hF a; intro a hF) | (with_reducible refine w_ret ?_)))
  (apply f_ret Try.results54 hF hM; (repeat (first | exact RL.nil | (apply RL.tmp; exact rfl) | (apply RL.cell; exact rfl; (repeat (first | exact List.mem_cons_self | refine List.mem_cons_of_mem _ ?_)); exact rfl))); refine Ret.mk hM.since ?_; dsimp only [resV])
end Go.Proofs.Ytocgpllmfdnfjaa

/- The reference of runlength: Groups, Encode, Same. -/
namespace Go.Proofs.Ytocgpllmfdnfjaa
open Go.RowKit Go.Shelf
/-- The groups, as numbers. -/
def gl (l : List (List Int)) (p : List (Fin l.length)) : List (List Int) := p.map fun (i : Fin l.length) => [((nx l i).1 : Int), ((i : Nat) : Int), ((nx l i).2 : Int)]
theorem gl_app (l : List (List Int)) (p : List (Fin l.length)) (i : Fin l.length) : (gl l (p ++ [i])).flatten = (gl l p).flatten ++ [((nx l i).1 : Int), ((i : Nat) : Int), ((nx l i).2 : Int)] := by simp [gl]
theorem gl_3 (l : List (List Int)) (p : List (Fin l.length)) : ∀ y ∈ gl l p, y.length = 3 := by
  intro y hy
  obtain ⟨i, _, rfl⟩ := List.mem_map.1 hy
  rfl
set_option maxRecDepth 20000 in
theorem GroupsR_c (l : List (List Int)) (hw : W8 l) (hlen : l.length ≤ 30000) (a0 : Option Addr) (c0 : Nat) (own : Nat → Prop) (W : World) (hl : ∀ b, own b → b < W.heap.size) (hv : Has own W (RdF (Value.int .u8) a0 l.flatten)) :
    Calls Try.prog 51 ⟨[.slice a0 l.length c0]⟩ W (Ret W fun v w' => ∃ a' c', v = .slice a' (grp l).length c' ∧ Owns w' W.heap.size [⟨88, 3, .slice a' (grp l).length c', (grp l).length, (gl l (grp l)).flatten.map (Value.int .i64)⟩]) := by
  have hM := (Mm.start hl).known hv
  have hw' : ∀ y ∈ l, y.length = 8 := hw
  refine f_start Try.func51 rfl Try.ntmps51 rfl rfl ?_; intro a hF
  (repeat (first | (with_reducible refine w_seq ?_) | (with_reducible refine c_region ?_) | (with_reducible refine s_nil ?_) | (with_reducible refine q_then_n ?_) | ((with_reducible apply s_pure hF); exact rfl; exact rfl; exact rfl; (first | exact trivial | omega | exact ⟨Int.natCast_nonneg _, Int.ofNat_lt.2 (by assumption)⟩ | decide); clear hF a; intro a hF) | (with_reducible refine w_block ?_)))
  replace hM := hM.nilRow 88 3
  refine c_loop (m := l.length) (fun m a w' => ∃ (i f : Nat) (p : List (Fin l.length)) (v : Value) (n : Nat), m + i = l.length ∧ l.length ≤ i + f ∧ grp l = p ++ grpF l f i ∧ p.length = n ∧ n ≤ i ∧
    Fr 61 [] [(4, .int .i64 i), (3, v), (0, .slice a0 l.length c0)] a ∧ Mm own W [] [⟨88, 3, v, n, (gl l p).flatten.map (Value.int .i64)⟩] [RdF (Value.int .u8) a0 l.flatten] w') ⟨0, l.length, [], _, 0, by omega, by omega, rfl, rfl, Nat.le_refl _, hF.sub (by repeat (first | exact Sub.nil | refine Sub.cons rfl (by first | with_reducible rfl | (refine congrArg (Value.int _) ?_; omega) | exact rfl) ?_)), hM⟩ ?_
  clear hF hM a
  rintro m a w' ⟨i, f, p, v, n, hm, hf, hp, hn, hni, hF, hM⟩
  by_cases hlt : i < l.length
  · have h1 := rl_pos (l := l) (i := i)
    have h2 := rl_le hlt
    have hnp := nx_pos (l := l) (i := i)
    have hnl := nx_le hlt
    obtain ⟨f, rfl⟩ : ∃ f', f = f' + 1 := ⟨f - 1, by omega⟩
    rw [grpF, dif_pos hlt] at hp
    have hga := gl_app l p ⟨i, hlt⟩
    obtain ⟨s, hs⟩ := get_of_lt hlt
    have hs8 := hw s (List.mem_of_getElem? hs)
    have hs' : l[((i : Int)).toNat]? = some s := by rw [Int.toNat_natCast]; exact hs
    obtain ⟨ad, rfl⟩ : ∃ ad, a0 = some ad := rd_some hM (by (repeat (first | exact List.mem_cons_self | refine List.mem_cons_of_mem _ ?_))) (flat_get (q := 0) hw hs (List.getElem?_eq_getElem (by omega)))
    (repeat (first | (with_reducible refine w_seq ?_) | (with_reducible refine c_region ?_) | (with_reducible refine s_nil ?_) | (with_reducible refine q_then_n ?_) | ((with_reducible apply s_pure hF); exact rfl; exact rfl; exact rfl; (first | exact trivial | omega | exact ⟨Int.natCast_nonneg _, Int.ofNat_lt.2 (by assumption)⟩ | decide); clear hF a; intro a hF)))
    rw [decide_eq_true (show (i : Int) < (l.length : Int) by omega)] at hF
    (repeat (first | (with_reducible refine w_seq ?_) | (with_reducible refine c_region ?_) | (with_reducible refine s_nil ?_) | ((with_reducible apply s_call (f := 59) hF hM); exact rfl; exact rfl; exact rfl; exact rfl; exact rfl; exact (equalR_c l hw i _ rfl hlt (by omega) _ c0 _ _ hM.lt (hM.facts _ (by (repeat (first | exact List.mem_cons_self | refine List.mem_cons_of_mem _ ?_))))); clear hF hM a; rintro v w a rfl - hM hF) | ((with_reducible apply s_eqA (ys := zr) hF); exact rfl; exact rfl; exact rfl; exact rfl; kernel_rfl; exact rfl; exact rfl; (first | with_reducible assumption | rfl); rfl; clear hF a; intro a hF) | ((with_reducible apply s_loadS hF hM); exact rfl; exact rfl; (repeat (first | exact List.mem_cons_self | refine List.mem_cons_of_mem _ ?_)); exact rfl; exact rfl; (first | with_reducible assumption | (simp only [Int.toNat_natCast]; with_reducible assumption)); (with_reducible assumption); clear hF a; intro a hF) | (with_reducible refine q_then_n ?_) | ((with_reducible apply s_pure hF); exact rfl; exact rfl; exact rfl; (first | exact trivial | omega | exact ⟨Int.natCast_nonneg _, Int.ofNat_lt.2 (by assumption)⟩ | decide); clear hF a; intro a hF) | (with_reducible refine w_skip ?_) | (with_reducible refine w_block ?_) | ((with_reducible apply c_true2 hF); exact rfl; (first | with_reducible rfl | (refine congrArg Value.bool ?_; focus (simp; done))))))
    by_cases hz : s = zr
    · have hnx : nx l i = (2, rl l i) := by unfold nx; rw [if_pos (by rw [hs, hz])]
      rw [decide_eq_true hz] at hF
      rw [hnx] at hp hga hnp hnl
      (repeat' (first | (with_reducible refine w_seq ?_) | (with_reducible refine c_region ?_) | (with_reducible refine s_nil ?_) | (with_reducible refine q_then_n ?_) | ((with_reducible apply s_pure hF); exact rfl; exact rfl; exact rfl; (first | exact trivial | omega | exact ⟨Int.natCast_nonneg _, Int.ofNat_lt.2 (by assumption)⟩ | decide); clear hF a; intro a hF) | ((with_reducible apply s_lit hF hM); exact rfl; exact rfl; exact rfl; exact rfl; clear hF hM a; intro bl w a hM hF) | ((with_reducible apply s_app hF hM); exact rfl; exact rfl; exact rfl; exact rfl; (repeat (first | exact Kth.z | apply Kth.s)); exact rfl; exact rfl; exact rfl; exact rfl; omega; clear hF hM a; intro g cap w a hM hF; dsimp only [List.set] at hM) | (with_reducible refine q_blk_n ?_) | ((with_reducible apply c_true2 hF); exact rfl; (first | with_reducible rfl | (refine congrArg Value.bool ?_; focus (simp; done))))))
      refine ⟨m - rl l i, by omega, i + rl l i, f, p ++ [⟨i, hlt⟩], .slice (some ⟨g, 0, none⟩) (n + 1) cap, n + 1, by omega, by omega, by rw [hp]; simp, by simp [hn], by omega, hF.sub (by repeat (first | exact Sub.nil | refine Sub.cons rfl (by first | with_reducible rfl | (refine congrArg (Value.int _) ?_; omega) | exact rfl) ?_)), ?_⟩
      rw [hga, List.map_append]
      exact hM
    rw [decide_eq_false hz] at hF
    by_cases h2 : 2 ≤ rl l i
    · have hnx : nx l i = (1, rl l i) := by unfold nx; rw [if_neg (by rw [hs]; intro h; injection h with h; exact hz h), if_pos h2]
      rw [hnx] at hp hga hnp hnl
      (repeat' (first | (with_reducible refine w_seq ?_) | (with_reducible refine c_region ?_) | (with_reducible refine s_nil ?_) | (with_reducible refine q_then_n ?_) | ((with_reducible apply s_pure hF); exact rfl; exact rfl; exact rfl; (first | exact trivial | omega | exact ⟨Int.natCast_nonneg _, Int.ofNat_lt.2 (by assumption)⟩ | decide); clear hF a; intro a hF) | ((with_reducible apply s_lit hF hM); exact rfl; exact rfl; exact rfl; exact rfl; clear hF hM a; intro bl w a hM hF) | ((with_reducible apply s_app hF hM); exact rfl; exact rfl; exact rfl; exact rfl; (repeat (first | exact Kth.z | apply Kth.s)); exact rfl; exact rfl; exact rfl; exact rfl; omega; clear hF hM a; intro g cap w a hM hF; dsimp only [List.set] at hM) | (with_reducible refine q_blk_n ?_) | ((with_reducible apply c_false2 hF); exact rfl; (first | with_reducible rfl | (refine congrArg Value.bool ?_; focus (simp; done)))) | ((with_reducible apply c_dec hF); exact rfl; all_goals intro hc; all_goals (try (exfalso; omega)))))
      refine ⟨m - rl l i, by omega, i + rl l i, f, p ++ [⟨i, hlt⟩], .slice (some ⟨g, 0, none⟩) (n + 1) cap, n + 1, by omega, by omega, by rw [hp]; simp, by simp [hn], by omega, hF.sub (by repeat (first | exact Sub.nil | refine Sub.cons rfl (by first | with_reducible rfl | (refine congrArg (Value.int _) ?_; omega) | exact rfl) ?_)), ?_⟩
      rw [hga, List.map_append]
      exact hM
    have hnx : nx l i = (0, lit l i) := by unfold nx; rw [if_neg (by rw [hs]; intro h; injection h with h; exact hz h), if_neg h2]
    have hr1 : rl l i = 1 := by omega
    rw [hnx] at hp hga hnp hnl
    rw [hr1] at hF
    (repeat' (first | (with_reducible refine w_seq ?_) | (with_reducible refine c_region ?_) | (with_reducible refine s_nil ?_) | (with_reducible refine q_then_n ?_) | ((with_reducible apply s_pure hF); exact rfl; exact rfl; exact rfl; (first | exact trivial | omega | exact ⟨Int.natCast_nonneg _, Int.ofNat_lt.2 (by assumption)⟩ | decide); clear hF a; intro a hF) | (with_reducible refine w_block ?_) | ((with_reducible apply c_false2 hF); exact rfl; (first | with_reducible rfl | (refine congrArg Value.bool ?_; focus (simp; done))))))
    refine c_loop (m := l.length) (fun k a w' => ∃ q : Nat, k + q = l.length + 1 ∧ 1 ≤ q ∧ i + q ≤ l.length ∧ lit l i = q + litF l (l.length - (i + q)) (i + q) ∧
      Fr 61 [] [(5, .int .i64 q), (6, .int .i64 0), (4, .int .i64 i), (3, v), (0, .slice (some ad) l.length c0)] a ∧ Mm own W [] [⟨88, 3, v, n, (gl l p).flatten.map (Value.int .i64)⟩] [RdF (Value.int .u8) (some ad) l.flatten] w') ⟨1, by omega, by omega, by omega, rfl, hF.sub (by repeat (first | exact Sub.nil | refine Sub.cons rfl (by first | with_reducible rfl | (refine congrArg (Value.int _) ?_; omega) | exact rfl) ?_)), hM⟩ ?_
    clear hF hM a
    rintro k a w' ⟨q, hk, hq, hiq, hlit, hF, hM⟩
    by_cases hlt2 : i + q < l.length
    · obtain ⟨s2, hs2⟩ := get_of_lt hlt2
      have hs28 := hw s2 (List.mem_of_getElem? hs2)
      have hs2' : l[((i : Int) + (q : Int)).toNat]? = some s2 := by rw [show ((i : Int) + (q : Int)).toNat = i + q by omega]; exact hs2
      rw [show l.length - (i + q) = (l.length - (i + (q + 1))) + 1 by omega, litF, show i + q + 1 = i + (q + 1) by omega] at hlit
      (repeat' (first | (with_reducible refine w_seq ?_) | (with_reducible refine c_region ?_) | (with_reducible refine s_nil ?_) | ((with_reducible apply s_call (f := 59) hF hM); exact rfl; exact rfl; exact rfl; exact rfl; exact rfl; exact (equalR_c l hw (i + q) _ (by omega) hlt2 (by omega) _ c0 _ _ hM.lt (hM.facts _ (by (repeat (first | exact List.mem_cons_self | refine List.mem_cons_of_mem _ ?_))))); clear hF hM a; rintro v w a rfl - hM hF) | ((with_reducible apply s_eqA (ys := zr) hF); exact rfl; exact rfl; exact rfl; exact rfl; kernel_rfl; exact rfl; exact rfl; (first | with_reducible assumption | rfl); rfl; clear hF a; intro a hF) | ((with_reducible apply s_loadS hF hM); exact rfl; exact rfl; (repeat (first | exact List.mem_cons_self | refine List.mem_cons_of_mem _ ?_)); exact rfl; exact rfl; (first | with_reducible assumption | (simp only [Int.toNat_natCast]; with_reducible assumption)); (with_reducible assumption); clear hF a; intro a hF) | (with_reducible refine q_then_n ?_) | ((with_reducible apply s_pure hF); exact rfl; exact rfl; exact rfl; (first | exact trivial | omega | exact ⟨Int.natCast_nonneg _, Int.ofNat_lt.2 (by assumption)⟩ | decide); clear hF a; intro a hF) | ((with_reducible apply s_lit hF hM); exact rfl; exact rfl; exact rfl; exact rfl; clear hF hM a; intro bl w a hM hF) | ((with_reducible apply s_app hF hM); exact rfl; exact rfl; exact rfl; exact rfl; (repeat (first | exact Kth.z | apply Kth.s)); exact rfl; exact rfl; exact rfl; exact rfl; omega; clear hF hM a; intro g cap w a hM hF; dsimp only [List.set] at hM) | (with_reducible refine w_skip ?_) | (with_reducible refine w_block ?_) | (with_reducible refine w_exit ?_) | (with_reducible refine q_then_x ?_) | (with_reducible refine q_blk_n ?_) | (with_reducible refine q_blk_x ?_) | ((with_reducible apply c_false2 hF); exact rfl; (first | with_reducible rfl | (refine congrArg Value.bool ?_; focus (simp; done)))) | ((with_reducible apply s_skip hF); exact rfl; exact rfl; clear hF a; intro a hF) | ((with_reducible apply g_dec hF); exact rfl; exact rfl; all_goals (clear hF; intro hc hF); all_goals (try (exfalso; omega))) | ((with_reducible apply g_ndec hF); exact rfl; exact rfl; all_goals (clear hF; intro hc hF); all_goals (try (exfalso; omega))) | ((with_reducible apply c_dec hF); exact rfl; all_goals intro hc; all_goals (try (exfalso; omega)))))
      · have hz2 : ¬ s2 = zr := by assumption
        rw [if_pos ⟨by rw [hs2]; intro h; injection h with h; exact hz2 h, by omega⟩] at hlit
        exact ⟨k - 1, by omega, q + 1, by omega, by omega, by omega, by omega, hF.sub (by repeat (first | exact Sub.nil | refine Sub.cons rfl (by first | with_reducible rfl | (refine congrArg (Value.int _) ?_; omega) | exact rfl) ?_)), hM⟩
      · rw [if_neg (fun h => by have := h.2; omega)] at hlit
        rw [Nat.add_zero] at hlit
        rw [hlit] at hp hga hnp hnl
        refine ⟨m - q, by omega, i + q, f, p ++ [⟨i, hlt⟩], .slice (some ⟨g, 0, none⟩) (n + 1) cap, n + 1, by omega, by omega, by rw [hp]; simp, by simp [hn], by omega, hF.sub (by repeat (first | exact Sub.nil | refine Sub.cons rfl (by first | with_reducible rfl | (refine congrArg (Value.int _) ?_; omega) | exact rfl) ?_)), ?_⟩
        rw [hga, List.map_append]
        exact hM
      · have hz2 : s2 = zr := by assumption
        rw [if_neg (fun h => h.1 (by rw [hs2, hz2])), Nat.add_zero] at hlit
        rw [hlit] at hp hga hnp hnl
        refine ⟨m - q, by omega, i + q, f, p ++ [⟨i, hlt⟩], .slice (some ⟨g, 0, none⟩) (n + 1) cap, n + 1, by omega, by omega, by rw [hp]; simp, by simp [hn], by omega, hF.sub (by repeat (first | exact Sub.nil | refine Sub.cons rfl (by first | with_reducible rfl | (refine congrArg (Value.int _) ?_; omega) | exact rfl) ?_)), ?_⟩
        rw [hga, List.map_append]
        exact hM
    · rw [show l.length - (i + q) = 0 by omega, litF, Nat.add_zero] at hlit
      rw [hlit] at hp hga hnp hnl
      (repeat' (first | (with_reducible refine w_seq ?_) | (with_reducible refine c_region ?_) | (with_reducible refine s_nil ?_) | (with_reducible refine q_then_n ?_) | ((with_reducible apply s_pure hF); exact rfl; exact rfl; exact rfl; (first | exact trivial | omega | exact ⟨Int.natCast_nonneg _, Int.ofNat_lt.2 (by assumption)⟩ | decide); clear hF a; intro a hF) | ((with_reducible apply s_lit hF hM); exact rfl; exact rfl; exact rfl; exact rfl; clear hF hM a; intro bl w a hM hF) | ((with_reducible apply s_app hF hM); exact rfl; exact rfl; exact rfl; exact rfl; (repeat (first | exact Kth.z | apply Kth.s)); exact rfl; exact rfl; exact rfl; exact rfl; omega; clear hF hM a; intro g cap w a hM hF; dsimp only [List.set] at hM) | (with_reducible refine w_exit ?_) | (with_reducible refine q_then_x ?_) | (with_reducible refine q_blk_n ?_) | (with_reducible refine q_blk_x ?_) | ((with_reducible apply c_false2 hF); exact rfl; (first | with_reducible rfl | (refine congrArg Value.bool ?_; focus (simp; done)))) | ((with_reducible apply s_skip hF); exact rfl; exact rfl; clear hF a; intro a hF) | ((with_reducible apply g_dec hF); exact rfl; exact rfl; all_goals (clear hF; intro hc hF); all_goals (try (exfalso; omega)))))
      refine ⟨m - q, by omega, i + q, f, p ++ [⟨i, hlt⟩], .slice (some ⟨g, 0, none⟩) (n + 1) cap, n + 1, by omega, by omega, by rw [hp]; simp, by simp [hn], by omega, hF.sub (by repeat (first | exact Sub.nil | refine Sub.cons rfl (by first | with_reducible rfl | (refine congrArg (Value.int _) ?_; omega) | exact rfl) ?_)), ?_⟩
      rw [hga, List.map_append]
      exact hM
  · have he : grp l = p := by
      rw [hp]
      cases f with
      | zero => rw [grpF, List.append_nil]
      | succ f => rw [grpF, dif_neg hlt, List.append_nil]
    obtain ⟨a', c', rfl⟩ : ∃ a' c', v = .slice a' n c' := by
      have := hM.mem.own.own _ List.mem_cons_self
      rcases this.2 with ⟨h1, h2⟩ | ⟨g, cap, cur, e1, _⟩
      · exact ⟨none, 0, by rw [show n = 0 from h2]; exact h1⟩
      · exact ⟨_, _, e1⟩
    (repeat' (first | (with_reducible refine w_seq ?_) | (with_reducible refine c_region ?_) | (with_reducible refine s_nil ?_) | (with_reducible refine q_then_n ?_) | ((with_reducible apply s_pure hF); exact rfl; exact rfl; exact rfl; (first | exact trivial | omega | exact ⟨Int.natCast_nonneg _, Int.ofNat_lt.2 (by assumption)⟩ | decide); clear hF a; intro a hF) | (with_reducible refine w_exit ?_) | (with_reducible refine w_ret ?_) | (with_reducible refine q_then_x ?_) | (with_reducible refine q_blk_x ?_) | ((with_reducible apply c_dec hF); exact rfl; all_goals intro hc; all_goals (try (exfalso; omega)))))
    (apply f_ret Try.results51 hF hM; (repeat (first | exact RL.nil | (apply RL.tmp; exact rfl) | (apply RL.cell; exact rfl; (repeat (first | exact List.mem_cons_self | refine List.mem_cons_of_mem _ ?_)); exact rfl))); refine Ret.mk hM.since ?_; dsimp only [resV])
    rw [he, hn]
    exact ⟨a', c', rfl, hM.mem.own⟩
def extL (p : List (Nat × Nat)) : List (List Int) := p.map fun e => [(e.1 : Int), (e.2 : Int)]
theorem extC_L (p : List (Nat × Nat)) : extC p = (extL p).flatten.map (Value.int .i64) := by
  induction p with
  | nil => rfl
  | cons e p ih =>
    rw [show extC (e :: p) = [Value.int .i64 e.1, Value.int .i64 e.2] ++ extC p from rfl, ih]
    simp [extL]
end Go.Proofs.Ytocgpllmfdnfjaa
