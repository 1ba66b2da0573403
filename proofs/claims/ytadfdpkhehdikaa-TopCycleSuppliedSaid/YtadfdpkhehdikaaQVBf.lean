/- Texts of this seat, one behind the other: D4 Gv Ut D5 D6 Uv Te S4 S5 Tf S6 S8 Tg. -/
import Derived.Recover
import Derived.Test.YtadfdpkhehdikaaQVBe
set_option linter.unusedSimpArgs false
set_option linter.unusedVariables false
set_option linter.unusedSectionVars false
set_option maxRecDepth 3000
/- dictionary: literals and matches are put out. -/
namespace Go.Proofs.Ytadfdpkhehdikaa
open Go.RowKit Go.Shelf
theorem sadr_z (a : Option Addr) (c n : Nat) : sadr a 0 c n = a := by
  unfold sadr
  cases a with
  | none => simp
  | some ad =>
    obtain ⟨b, o, s⟩ := ad
    cases s <;> simp [Addr.add]
/-- Literals as tokens. -/
def litsB : Nat → List Int → List Int
  | 0, _ => []
  | f + 1, l => if l = [] then [] else ((min l.length 127 : Nat) : Int) :: (l.take (min l.length 127) ++ litsB f (l.drop (min l.length 127)))
def litz (l : List Int) : List Int := litsB l.length l
theorem litsB_nil : ∀ f, litsB f [] = []
  | 0 => rfl
  | f + 1 => by rw [litsB, if_pos rfl]
theorem litsB_len : ∀ (f : Nat) (l : List Int), (litsB f l).length ≤ 2 * l.length
  | 0, _ => by simp [litsB]
  | f + 1, l => by
    rw [litsB]
    split
    · simp
    · rename_i h
      have h1 : 0 < l.length := List.length_pos_iff.2 h
      have h2 := litsB_len f (l.drop (min l.length 127))
      simp only [List.length_cons, List.length_append, List.length_take, List.length_drop] at h2 ⊢
      omega
theorem litz_len (l : List Int) : (litz l).length ≤ 2 * l.length := litsB_len _ _
theorem one_map' (l : List Int) : ∀ v ∈ l.map (Value.int .u8), v.oneCell' = true := by
  intro v hv
  obtain ⟨y, _, rfl⟩ := List.mem_map.1 hv
  rfl
section
variable {own : Nat → Prop} {w0 W : World} {bs : List BoxE} {L : List Ent} {Fs : List (World → Prop)} (eb : Nat) (tv wv x1 x2 x3 : Value) (toks wt : List Int) (m1 : Nat) (hm1 : m1 = toks.length) {Ew : Ent} (hW : OffR 5 1 wv wt.length (wt.map (Value.int .u8)) Ew) (hwl : wt.length ≤ 1000000) (htl : toks.length ≤ 1000000000)
  (hM : Mm own w0 (⟨eb, ⟨[tv, wv, x1, x2, x3]⟩, 133⟩ :: bs) (⟨5, 1, tv, m1, toks.map (Value.int .u8)⟩ :: Ew :: L) Fs W)
include hm1 hW hwl htl hM
set_option maxRecDepth 20000 in
theorem literal_c (x : Int) : Calls Try.prog 62 ⟨[.pointer (some ⟨eb, 0, none⟩), .int .u8 x]⟩ W (Rtn fun _ w' => ∃ wv' Ew', OffR 5 1 wv' (wt.length + 1) ((wt ++ [x]).map (Value.int .u8)) Ew' ∧
    Mm own w0 (⟨eb, ⟨[tv, wv', x1, x2, x3]⟩, 133⟩ :: bs) (⟨5, 1, tv, m1, toks.map (Value.int .u8)⟩ :: Ew' :: L) Fs w') := by
  refine f_start Try.func62 rfl Try.ntmps62 rfl rfl ?_; intro a hF
  (repeat (first | (with_reducible refine c_region ?_) | ((with_reducible apply s_pure hF); exact rfl; exact rfl; exact rfl; (first | exact trivial | omega | exact ⟨Int.natCast_nonneg _, Int.ofNat_lt.2 (by assumption)⟩ | decide); clear hF a; intro a hF) | ((with_reducible apply s_load hF hM); exact rfl; exact rfl; (repeat (first | exact List.mem_cons_self | refine List.mem_cons_of_mem _ ?_)); exact rfl; exact rfl; clear hF a; intro a hF) | ((with_reducible apply s_lit hF hM); exact rfl; exact rfl; exact rfl; exact rfl; clear hF hM a; intro bl w a hM hF)))
  apply s_appO 1 hF hM hW
  · exact rfl
  · exact rfl
  · exact rfl
  · exact rfl
  · exact .s .z
  · exact rfl
  · exact rfl
  · exact rfl
  · exact rfl
  · omega
  clear hF hM a
  intro wv' Ew' w a hW' hM hF
  dsimp only [List.set] at hM
  obtain ⟨ao', c', rfl, _⟩ := OffR.shape hM (k := 1) rfl hW'
  (repeat (first | (with_reducible refine s_nil ?_) | ((with_reducible apply s_pure hF); exact rfl; exact rfl; exact rfl; (first | exact trivial | omega | exact ⟨Int.natCast_nonneg _, Int.ofNat_lt.2 (by assumption)⟩ | decide); clear hF a; intro a hF) | ((with_reducible apply s_store hF hM); exact rfl; exact rfl; exact rfl; exact rfl; (repeat (first | exact Upd.z | apply Upd.s)); exact rfl; exact rfl; exact rfl; clear hM; intro w hM)))
  (apply f_end Try.results62 hF hM; (repeat (first | exact RL.nil | (apply RL.tmp; exact rfl) | (apply RL.cell; exact rfl; (repeat (first | exact List.mem_cons_self | refine List.mem_cons_of_mem _ ?_)); exact rfl))); refine Both.mk ?_; try dsimp only [resV])
  exact ⟨_, Ew', by rw [List.map_append]; exact hW', hM⟩
set_option maxRecDepth 20000 in
theorem flush_c : Calls Try.prog 63 ⟨[.pointer (some ⟨eb, 0, none⟩)]⟩ W (Rtn fun _ w' => ∃ tv' wv' Ew', OffR 5 1 wv' 0 [] Ew' ∧
    Mm own w0 (⟨eb, ⟨[tv', wv', x1, x2, x3]⟩, 133⟩ :: bs) (⟨5, 1, tv', (toks ++ litz wt).length, (toks ++ litz wt).map (Value.int .u8)⟩ :: Ew' :: L) Fs w') := by
  subst hm1
  refine f_start Try.func63 rfl Try.ntmps63 rfl rfl ?_; intro a hF
  (repeat (first | (with_reducible refine w_block ?_)))
  refine c_loop (m := wt.length) (fun m a w' => ∃ (tk cur : List Int) (tv2 wv2 : Value) (Ew2 : Ent), toks ++ litz wt = tk ++ litsB m cur ∧ cur.length ≤ m ∧ m ≤ wt.length ∧ tk.length + 2 * cur.length ≤ toks.length + 2 * wt.length ∧ OffR 5 1 wv2 cur.length (cur.map (Value.int .u8)) Ew2 ∧
    Fr 42 [] [(0, .pointer (some ⟨eb, 0, none⟩))] a ∧
    Mm own w0 (⟨eb, ⟨[tv2, wv2, x1, x2, x3]⟩, 133⟩ :: bs) (⟨5, 1, tv2, tk.length, tk.map (Value.int .u8)⟩ :: Ew2 :: L) Fs w')
    ⟨toks, wt, tv, wv, Ew, rfl, Nat.le_refl _, Nat.le_refl _, Nat.le_refl _, hW, hF.sub (by repeat (first | exact Sub.nil | refine Sub.cons rfl (by first | with_reducible rfl | (refine congrArg (Value.int _) ?_; omega) | exact rfl) ?_)), hM⟩ ?_
  clear hF hM a hW
  rintro m a w' ⟨tk, cur, tv2, wv2, Ew2, he, hcm, hmw, htk, hW, hF, hM⟩
  obtain ⟨ao, c, rfl, hcc, hsome⟩ := OffR.shape hM (k := 1) rfl hW
  by_cases h0 : 0 < cur.length
  · obtain ⟨ad, rfl⟩ := hsome h0
    obtain ⟨m, rfl⟩ : ∃ k, m = k + 1 := ⟨m - 1, by omega⟩
    have hne : cur ≠ [] := List.length_pos_iff.1 h0
    rw [litsB, if_neg hne] at he
    obtain ⟨q, hq⟩ : ∃ q, q = min cur.length 127 := ⟨_, rfl⟩
    rw [← hq] at he
    (repeat' (first | (with_reducible refine w_seq ?_) | (with_reducible refine c_region ?_) | (with_reducible refine s_nil ?_) | (with_reducible refine q_then_n ?_) | ((with_reducible apply s_pure hF); exact rfl; exact rfl; exact rfl; (first | exact trivial | omega | exact ⟨Int.natCast_nonneg _, Int.ofNat_lt.2 (by assumption)⟩ | decide); clear hF a; intro a hF) | ((with_reducible apply s_load hF hM); exact rfl; exact rfl; (repeat (first | exact List.mem_cons_self | refine List.mem_cons_of_mem _ ?_)); exact rfl; exact rfl; clear hF a; intro a hF) | (with_reducible refine w_skip ?_) | (with_reducible refine w_block ?_) | ((with_reducible apply c_dec hF); exact rfl; all_goals intro hc; all_goals (try (exfalso; omega)))))
    rw [show min (cur.length : Int) 127 = (q : Int) by omega] at hF
    have hcl := OffR.cells hM (k := 1) rfl hW rfl
    refine c_draw (fun i => Nat.ble 18 i) hM ?_; clear hM; intro w hM
    (first | (refine t_pure (i := 0) hF rfl rfl rfl rfl (by kernel_rfl) hM.sm (fun _ _ _ h => h) ?_ ?_; (first | exact trivial | omega | decide); clear hF a; intro a hF))
    (first | (refine t_pure (i := 1) hF rfl rfl rfl rfl (by kernel_rfl) hM.sm (fun _ _ _ h => h) ?_ ?_; (first | exact trivial | omega | decide); clear hF a; intro a hF))
    (first | (refine t_pure (i := 2) hF rfl rfl rfl rfl (by kernel_rfl) hM.sm (fun _ _ _ h => h) ?_ ?_; (first | exact trivial | omega | decide); clear hF a; intro a hF))
    (first | (refine t_pure (i := 3) hF rfl rfl rfl rfl (by kernel_rfl) hM.sm (fun _ _ _ h => h) ?_ ?_; (first | exact trivial | omega | decide); clear hF a; intro a hF))
    (first | (apply t_load (i := 4) hF rfl rfl rfl; (repeat (first | exact List.mem_cons_self | refine List.mem_cons_of_mem _ ?_)); exact rfl; exact rfl; kernel_rfl; exact hM.sm; exact (fun _ _ _ h => h); clear hF a; intro a hF))
    (first | (refine t_pure (i := 5) hF rfl rfl rfl rfl (by kernel_rfl) hM.sm (fun _ _ _ h => h) ?_ ?_; (first | exact trivial | omega | decide); clear hF a; intro a hF))
    (first | (refine t_pure (i := 6) hF rfl rfl rfl rfl (by kernel_rfl) hM.sm (fun _ _ _ h => h) ?_ ?_; (first | exact trivial | omega | decide); clear hF a; intro a hF))
    rw [show (q : Int) % 256 = (q : Int) by omega] at hF
    (first | (refine t_pure (i := 9) hF rfl rfl rfl rfl (by kernel_rfl) (hM.sm.sub (fun x hx => by repeat (first | exact hx | refine List.mem_cons_of_mem _ ?_)) (fun _ h => by repeat (first | exact h | refine List.mem_cons_of_mem _ ?_))) (fun _ _ _ h => h) ?_ ?_; (first | exact trivial | omega | decide); clear hF a; intro a hF))
    (first | (refine t_pure (i := 10) hF rfl rfl rfl rfl (by kernel_rfl) (hM.sm.sub (fun x hx => by repeat (first | exact hx | refine List.mem_cons_of_mem _ ?_)) (fun _ h => by repeat (first | exact h | refine List.mem_cons_of_mem _ ?_))) (fun _ _ _ h => h) ?_ ?_; (first | exact trivial | omega | decide); clear hF a; intro a hF))
    (first | (refine t_pure (i := 11) hF rfl rfl rfl rfl (by kernel_rfl) (hM.sm.sub (fun x hx => by repeat (first | exact hx | refine List.mem_cons_of_mem _ ?_)) (fun _ h => by repeat (first | exact h | refine List.mem_cons_of_mem _ ?_))) (fun _ _ _ h => h) ?_ ?_; (first | exact trivial | omega | decide); clear hF a; intro a hF))
    (first | (apply t_load (i := 12) hF rfl rfl rfl; (repeat (first | exact List.mem_cons_self | refine List.mem_cons_of_mem _ ?_)); exact rfl; exact rfl; kernel_rfl; exact (hM.sm.sub (fun x hx => by repeat (first | exact hx | refine List.mem_cons_of_mem _ ?_)) (fun _ h => by repeat (first | exact h | refine List.mem_cons_of_mem _ ?_))); exact (fun _ _ _ h => h); clear hF a; intro a hF))
    (first | (refine t_pure (i := 13) hF rfl rfl rfl rfl (by kernel_rfl) (hM.sm.sub (fun x hx => by repeat (first | exact hx | refine List.mem_cons_of_mem _ ?_)) (fun _ h => by repeat (first | exact h | refine List.mem_cons_of_mem _ ?_))) (fun _ _ _ h => h) ?_ ?_; (first | exact trivial | omega | decide); clear hF a; intro a hF))
    (first | (refine t_pure (i := 14) hF rfl rfl rfl rfl (by kernel_rfl) (hM.sm.sub (fun x hx => by repeat (first | exact hx | refine List.mem_cons_of_mem _ ?_)) (fun _ h => by repeat (first | exact h | refine List.mem_cons_of_mem _ ?_))) (fun _ _ _ h => h) ?_ ?_; (first | exact trivial | omega | decide); clear hF a; intro a hF))
    rw [show ((0 : Int)).toNat = 0 from rfl, sadr_z, Int.toNat_natCast, Nat.sub_zero] at hF
    refine t_one (i := 7) hF rfl (by kernel_rfl) rfl ?_
    intro K hK
    (refine x_lit hF hM rfl rfl rfl ?_; clear hF hM a; intro bl w a hM hF)
    refine hK _ _ (fun _ => (hM.sm.sub (fun x hx => by repeat (first | exact hx | refine List.mem_cons_of_mem _ ?_)) (fun _ h => by repeat (first | exact h | refine List.mem_cons_of_mem _ ?_)))) ?_; clear hK
    refine t_one (i := 8) hF rfl (by kernel_rfl) rfl ?_
    intro K hK
    (apply x_app hF hM rfl rfl rfl; (repeat (first | exact List.mem_cons_self | refine List.mem_cons_of_mem _ ?_)); (repeat (first | exact Kth.z | apply Kth.s)); exact rfl; exact rfl; exact rfl; exact rfl; omega; clear hF hM a; intro g cap w a hM hF; dsimp only [List.set] at hM)
    refine hK _ _ (fun _ => (hM.sm.sub (fun x hx => by repeat (first | exact hx | refine List.mem_cons_of_mem _ ?_)) (fun _ h => by repeat (first | exact h | refine List.mem_cons_of_mem _ ?_)))) ?_; clear hK
    refine t_one (i := 15) hF rfl (by kernel_rfl) rfl ?_
    intro K hK
    (have hcl := OffR.cells hM (k := 1) rfl hW rfl; refine e_app (k := 0) (ys := (cur.map (Value.int .u8)).take q) hF hM rfl rfl rfl .z (by rw [List.length_take, List.length_map]; omega) (fun j u hu => hcl j u (by rw [List.getElem?_take] at hu; split at hu; exact hu; cases hu)) (fun u hu => one_map' cur u (List.mem_of_mem_take hu)) (by omega) ⟨by omega, by omega⟩ ?_; clear hcl hM; intro gA cap w hM; dsimp only [List.set] at hM; replace hF := hF.put (d := 30) rfl (.slice (some ⟨gA, 0, none⟩) (tk.length + 1 + q) cap); generalize a.put (some 30) _ = a at *)
    refine hK _ _ (fun _ => (hM.sm.sub (fun x hx => by repeat (first | exact hx | refine List.mem_cons_of_mem _ ?_)) (fun _ h => by repeat (first | exact h | refine List.mem_cons_of_mem _ ?_)))) ?_; clear hK
    (first | (refine t_pure (i := 16) hF rfl rfl rfl rfl (by kernel_rfl) (hM.sm.sub (fun x hx => by repeat (first | exact hx | refine List.mem_cons_of_mem _ ?_)) (fun _ h => by repeat (first | exact h | refine List.mem_cons_of_mem _ ?_))) (fun _ _ _ h => h) ?_ ?_; (first | exact trivial | omega | decide); clear hF a; intro a hF))
    (first | (refine t_pure (i := 17) hF rfl rfl rfl rfl (by kernel_rfl) (hM.sm.sub (fun x hx => by repeat (first | exact hx | refine List.mem_cons_of_mem _ ?_)) (fun _ h => by repeat (first | exact h | refine List.mem_cons_of_mem _ ?_))) (fun _ _ _ h => h) ?_ ?_; (first | exact trivial | omega | decide); clear hF a; intro a hF))
    refine t_one (i := 18) hF rfl (by kernel_rfl) rfl ?_
    intro K hK
    (apply x_store hF hM rfl rfl rfl; (repeat (first | exact Upd.z | apply Upd.s)); exact rfl; exact rfl; exact rfl; clear hF hM a; intro w a hM hF)
    refine hK _ _ (fun h => by cases h) ?_; clear hK
    refine t_done (by kernel_rfl) ?_
    (repeat' (first | (with_reducible refine c_region ?_) | (with_reducible refine s_nil ?_) | (with_reducible refine q_then_n ?_) | ((with_reducible apply s_pure hF); exact rfl; exact rfl; exact rfl; (first | exact trivial | omega | exact ⟨Int.natCast_nonneg _, Int.ofNat_lt.2 (by assumption)⟩ | decide); clear hF a; intro a hF) | ((with_reducible apply s_load hF hM); exact rfl; exact rfl; (repeat (first | exact List.mem_cons_self | refine List.mem_cons_of_mem _ ?_)); exact rfl; exact rfl; clear hF a; intro a hF) | ((with_reducible apply s_store hF hM); exact rfl; exact rfl; exact rfl; exact rfl; (repeat (first | exact Upd.z | apply Upd.s)); exact rfl; exact rfl; exact rfl; clear hM; intro w hM) | (with_reducible refine q_blk_n ?_)))
    rw [Int.toNat_natCast, Int.toNat_natCast] at hM
    have hW2 := OffR.drop hM (k := 1) rfl hW q (by omega)
    refine ⟨m, by omega, tk ++ [(q : Int)] ++ cur.take q, cur.drop q, .slice (some ⟨gA, 0, none⟩) (tk.length + 1 + q) cap, .slice (sadr (some ad) q c 1) (cur.length - q) (c - q), Ew2, ?_, by rw [List.length_drop]; omega, by omega, ?_, ?_, hF.sub (by repeat (first | exact Sub.nil | refine Sub.cons rfl (by first | with_reducible rfl | (refine congrArg (Value.int _) ?_; omega) | exact rfl) ?_)), ?_⟩
    · rw [he]; simp
    · simp only [List.length_append, List.length_cons, List.length_nil, List.length_take, List.length_drop]; omega
    · rw [List.length_drop, List.map_drop]
      rw [Nat.mul_one] at hW2
      exact hW2
    · have hlen3 : (tk ++ [(q : Int)] ++ cur.take q).length = tk.length + 1 + q := by
        simp only [List.length_append, List.length_cons, List.length_nil, List.length_take]; omega
      rw [hlen3, List.map_append, List.map_append, List.map_take]
      exact hM.sub (.cons _ (.refl _)) (.refl _) (fun _ h => h)
  · obtain rfl : cur = [] := List.length_eq_zero_iff.1 (by omega)
    rw [litsB_nil, List.append_nil] at he
    (repeat' (first | (with_reducible refine w_seq ?_) | (with_reducible refine c_region ?_) | (with_reducible refine s_nil ?_) | (with_reducible refine q_then_n ?_) | ((with_reducible apply s_pure hF); exact rfl; exact rfl; exact rfl; (first | exact trivial | omega | exact ⟨Int.natCast_nonneg _, Int.ofNat_lt.2 (by assumption)⟩ | decide); clear hF a; intro a hF) | ((with_reducible apply s_load hF hM); exact rfl; exact rfl; (repeat (first | exact List.mem_cons_self | refine List.mem_cons_of_mem _ ?_)); exact rfl; exact rfl; clear hF a; intro a hF) | (with_reducible refine w_exit ?_) | (with_reducible refine q_then_x ?_) | (with_reducible refine q_blk_x ?_) | ((with_reducible apply c_false2 hF); exact rfl; (first | with_reducible rfl | (refine congrArg Value.bool ?_; focus (simp; done))))))
    (apply f_end Try.results63 hF hM; (repeat (first | exact RL.nil | (apply RL.tmp; exact rfl) | (apply RL.cell; exact rfl; (repeat (first | exact List.mem_cons_self | refine List.mem_cons_of_mem _ ?_)); exact rfl))); refine Both.mk ?_; try dsimp only [resV])
    rw [he]
    exact ⟨tv2, _, Ew2, hW, hM⟩
set_option maxRecDepth 20000 in
theorem match_c (d n : Nat) (hd : d ≤ 4096) (hn : 4 ≤ n ∧ n ≤ 131) : Calls Try.prog 61 ⟨[.pointer (some ⟨eb, 0, none⟩), .int .i64 d, .int .i64 n]⟩ W (Rtn fun _ w' => ∃ tv' wv' Ew', OffR 5 1 wv' 0 [] Ew' ∧
    Mm own w0 (⟨eb, ⟨[tv', wv', x1, x2, x3]⟩, 133⟩ :: bs) (⟨5, 1, tv', (toks ++ litz wt ++ [(124 + n : Int)] ++ puts d).length, (toks ++ litz wt ++ [(124 + n : Int)] ++ puts d).map (Value.int .u8)⟩ :: Ew' :: L) Fs w') := by
  have hll := litz_len wt
  refine f_start Try.func61 rfl Try.ntmps61 rfl rfl ?_; intro a hF
  have hTl : (toks ++ litz wt).length ≤ 2000000000 := by rw [List.length_append]; omega
  (repeat (first | (with_reducible refine w_seq ?_) | (with_reducible refine c_region ?_) | (with_reducible refine s_nil ?_) | ((with_reducible apply s_callM (f := 63) hF); exact rfl; exact rfl; exact rfl; exact rfl; exact rfl; exact (flush_c eb tv wv x1 x2 x3 toks wt m1 hm1 hW hwl htl hM); clear hF hM a; rintro v w a ⟨tv', wv', Ew', hW', hM⟩ hF; generalize toks ++ litz wt = T at *) | (with_reducible refine q_then_n ?_) | ((with_reducible apply s_pure hF); exact rfl; exact rfl; exact rfl; (first | exact trivial | omega | exact ⟨Int.natCast_nonneg _, Int.ofNat_lt.2 (by assumption)⟩ | decide); clear hF a; intro a hF) | ((with_reducible apply s_load hF hM); exact rfl; exact rfl; (repeat (first | exact List.mem_cons_self | refine List.mem_cons_of_mem _ ?_)); exact rfl; exact rfl; clear hF a; intro a hF) | ((with_reducible apply s_lit hF hM); exact rfl; exact rfl; exact rfl; exact rfl; clear hF hM a; intro bl w a hM hF) | ((with_reducible apply s_app hF hM); exact rfl; exact rfl; exact rfl; exact rfl; (repeat (first | exact Kth.z | apply Kth.s)); exact rfl; exact rfl; exact rfl; exact rfl; omega; clear hF hM a; intro g cap w a hM hF; dsimp only [List.set] at hM)))
  have hrow : T.map (Value.int .u8) ++ Value.int .u8 ((128 + (n : Int) - 4) % 256) :: [].append (zerosL [Value.int .u8 0] 0) = (T ++ [(124 + n : Int)]).map (Value.int .u8) := by
    rw [List.map_append, show (128 + (n : Int) - 4) % 256 = 124 + n by omega]
    rfl
  rw [hrow] at hM
  clear hrow
  have hpl := puts_len 2 d (by omega)
  have hP := PutInt_z d _ rfl (by omega) (some ⟨g, 0, none⟩) cap (T ++ [(124 + n : Int)]) (T.length + 1) List.length_append own _ (fun b h => hM.lt b (.inl h)) (hM.rowFact List.mem_cons_self) (by omega)
  (repeat (first | (with_reducible refine s_nil ?_) | ((with_reducible apply s_callO (f := 55) hF); exact rfl; exact rfl; exact rfl; exact rfl; exact rfl; exact (hP); clear hF a; rintro v wn a ⟨a2, c2, rfl, hO⟩ hS hF; replace hM := hM.addRows hS hO; clear hS hO; dsimp only [List.cons_append, List.nil_append] at hM) | ((with_reducible apply s_pure hF); exact rfl; exact rfl; exact rfl; (first | exact trivial | omega | exact ⟨Int.natCast_nonneg _, Int.ofNat_lt.2 (by assumption)⟩ | decide); clear hF a; intro a hF) | ((with_reducible apply s_store hF hM); exact rfl; exact rfl; exact rfl; exact rfl; (repeat (first | exact Upd.z | apply Upd.s)); exact rfl; exact rfl; exact rfl; clear hM; intro w hM)))
  (apply f_end Try.results61 hF hM; (repeat (first | exact RL.nil | (apply RL.tmp; exact rfl) | (apply RL.cell; exact rfl; (repeat (first | exact List.mem_cons_self | refine List.mem_cons_of_mem _ ?_)); exact rfl))); refine Both.mk ?_; try dsimp only [resV])
  refine ⟨.slice a2 (T.length + 1 + (puts d).length) c2, wv', Ew', hW', ?_⟩
  rw [show (T ++ [(124 + n : Int)] ++ puts d).length = T.length + 1 + (puts d).length by simp only [List.length_append, List.length_cons, List.length_nil]]
  exact hM.sub (.refl _) (.cons_cons _ (.cons _ (.refl _))) (fun _ h => h)
end
end Go.Proofs.Ytadfdpkhehdikaa


/- Deferred calls and recover. -/
namespace Go.Proofs.Ytadfdpkhehdikaa
open Go.RowKit Go.Shelf
section
variable {n : Nat} {ds : List Deferred} {l : List (Nat × Value)} {a : Act} {w w' w0 : World} {own : Nat → Prop} {bs : List BoxE} {L : List Ent} {Fs : List (World → Prop)}
variable {os rest : List Oper} {Q : Exit → Act → World → Prop} {K : Act → World → Prop}
variable {d : Nat} {op : Op} {ty : TypeId} {pos : String} {af : Array Edge} {g : Option (Nat × Bool)}
theorem CallsD.mono {P : Program} {f : FuncId} {args : Array Value} {u : FrameMode} {w : World} {R R' : Ending → FrameMode → World → Prop} (h : CallsD P f args u w R) (hr : ∀ e u w, R e u w → R' e u w) : CallsD P f args u w R' := by
  intro c cs hc
  obtain ⟨e, u', w', fr, h1, h2⟩ := h c cs hc
  exact ⟨e, u', w', fr, hr _ _ _ h1, h2⟩
end
end Go.Proofs.Ytadfdpkhehdikaa


/- Small laws that the texts of run lengths have too. -/
namespace Go.Proofs.Ytadfdpkhehdikaa
open Go.RowKit Go.Shelf
theorem row_capB {own : Nat → Prop} {w w0 : World} {bs : List BoxE} {L : List Ent} {Fs : List (World → Prop)} (hM : Mm own w0 bs L Fs w) {e : TypeId} {size : Nat} {a : Option Addr} {m c : Nat} {xs : List Value} (h : (⟨e, size, .slice a m c, m, xs⟩ : Ent) ∈ L) : m ≤ c := by
  rcases (hM.mem.own.own _ h).2 with ⟨h1, h2⟩ | ⟨g, cap, cur, h1, _, _, h2, _⟩
  · simp only at h2; omega
  · simp only [Value.slice.injEq] at h1
    have h3 : m ≤ cap := h2
    omega
theorem row_some {own : Nat → Prop} {w w0 : World} {bs : List BoxE} {L : List Ent} {Fs : List (World → Prop)} (hM : Mm own w0 bs L Fs w) {e : TypeId} {size : Nat} {a : Option Addr} {m c : Nat} {xs : List Value} (h : (⟨e, size, .slice a m c, m, xs⟩ : Ent) ∈ L) (h0 : 0 < m) : ∃ g, a = some ⟨g, 0, none⟩ := by
  rcases (hM.mem.own.own _ h).2 with ⟨h1, h2⟩ | ⟨g, cap, cur, h1, _⟩
  · have h3 : m = 0 := h2
    omega
  · simp only [Value.slice.injEq] at h1
    exact ⟨g, h1.1⟩
theorem rdN_nnU : ∀ (f i : Nat) (n : Int) (xs : List Int), 0 ≤ n → (∀ x ∈ xs, 0 ≤ x ∧ x < 256) → 0 ≤ (rdN xs f i n).1 ∧ (rdN xs f i n).1 ≤ 9007199254740991
  | 0, _, _, _, _, _ => by simp [rdN]
  | f + 1, i, n, xs, hn, hx => by
    rw [rdN]
    split
    · simp
    · rename_i b hb
      have hb0 := hx b (List.mem_of_getElem? hb)
      have hp : (0 : Int) ≤ b % 128 * 128 ^ i := Int.mul_nonneg (by omega) (Int.pow_nonneg (by decide))
      split
      · exact rdN_nnU f (i + 1) _ xs (by omega) hx
      · split
        · simp
        · rename_i h
          simp only
          omega
def By (xs : List Int) : Prop := ∀ x ∈ xs, 0 ≤ x ∧ x < 256
theorem By.take {xs : List Int} (h : By xs) (k : Nat) : By (xs.take k) := fun x hx => h x (List.mem_of_mem_take hx)
theorem By.drop {xs : List Int} (h : By xs) (k : Nat) : By (xs.drop k) := fun x hx => h x (List.mem_of_mem_drop hx)
end Go.Proofs.Ytadfdpkhehdikaa


/- bytes.Clone; dictionary.Encode. -/
namespace Go.Proofs.Ytadfdpkhehdikaa
open Go.RowKit Go.Shelf
set_option maxRecDepth 20000 in
theorem bclone_c (a0 : Option Addr) (c0 : Nat) (xs : List Int) (own : Nat → Prop) (W : World) (hl : ∀ b, own b → b < W.heap.size) (hv : Has own W (RdF (Value.int .u8) a0 xs)) (hb : xs.length ≤ 10000000000) :
    Calls Try.prog 58 ⟨[.slice a0 xs.length c0]⟩ W (Ret W fun v w' => ∃ a' c', v = .slice a' xs.length c' ∧ Owns w' W.heap.size [⟨5, 1, .slice a' xs.length c', xs.length, xs.map (Value.int .u8)⟩]) := by
  have hM := (Mm.start hl).known hv
  cases a0 with
  | none =>
    obtain rfl : xs = [] := by
      cases xs with
      | nil => rfl
      | cons x r => obtain ⟨ad, h⟩ := rd_some hM (by (repeat (first | exact List.mem_cons_self | refine List.mem_cons_of_mem _ ?_))) (k := 0) (x := x) rfl; cases h
    refine f_start Try.func58 rfl Try.ntmps58 rfl rfl ?_; intro a hF
    (repeat' (first | (with_reducible refine w_seq ?_) | (with_reducible refine c_region ?_) | (with_reducible refine s_nil ?_) | ((with_reducible apply s_eqn hF); exact rfl; exact rfl; exact rfl; exact rfl; exact rfl; exact rfl; clear hF a; intro a hF) | (with_reducible refine q_then_n ?_) | ((with_reducible apply s_pure hF); exact rfl; exact rfl; exact rfl; (first | exact trivial | omega | exact ⟨Int.natCast_nonneg _, Int.ofNat_lt.2 (by assumption)⟩ | decide); clear hF a; intro a hF) | (with_reducible refine w_ret ?_) | (with_reducible refine q_then_r ?_) | ((with_reducible apply c_true2 hF); exact rfl; (first | with_reducible rfl | (refine congrArg Value.bool ?_; focus (simp; done))))))
    (apply f_ret Try.results58 hF hM; (repeat (first | exact RL.nil | (apply RL.tmp; exact rfl) | (apply RL.cell; exact rfl; (repeat (first | exact List.mem_cons_self | refine List.mem_cons_of_mem _ ?_)); exact rfl))); refine Ret.mk hM.since ?_; dsimp only [resV])
    exact ⟨none, 0, rfl, (Owns.nil _ _).cons _ _⟩
  | some ad =>
    refine f_start Try.func58 rfl Try.ntmps58 rfl rfl ?_; intro a hF
    (repeat' (first | (with_reducible refine w_seq ?_) | (with_reducible refine c_region ?_) | (with_reducible refine s_nil ?_) | ((with_reducible apply s_eqn hF); exact rfl; exact rfl; exact rfl; exact rfl; exact rfl; exact rfl; clear hF a; intro a hF) | ((with_reducible apply s_appF hF hM); exact rfl; exact rfl; (repeat (first | exact List.mem_cons_self | refine List.mem_cons_of_mem _ ?_)); exact rfl; exact rfl; (repeat (first | exact Kth.z | apply Kth.s)); (intro _; exact rfl); exact rfl; omega; clear hF hM a; intro g cap w a hM hF; dsimp only [List.set] at hM) | ((with_reducible apply s_lit0 hF hM); exact rfl; exact rfl; exact rfl; exact rfl; clear hF hM a; intro bl w a hM hF) | (with_reducible refine q_then_n ?_) | ((with_reducible apply s_pure hF); exact rfl; exact rfl; exact rfl; (first | exact trivial | omega | exact ⟨Int.natCast_nonneg _, Int.ofNat_lt.2 (by assumption)⟩ | decide); clear hF a; intro a hF) | (with_reducible refine w_skip ?_) | (with_reducible refine w_ret ?_) | ((with_reducible apply c_false2 hF); exact rfl; (first | with_reducible rfl | (refine congrArg Value.bool ?_; focus (simp; done))))))
    (apply f_ret Try.results58 hF hM; (repeat (first | exact RL.nil | (apply RL.tmp; exact rfl) | (apply RL.cell; exact rfl; (repeat (first | exact List.mem_cons_self | refine List.mem_cons_of_mem _ ?_)); exact rfl))); refine Ret.mk hM.since ?_; dsimp only [resV])
    simp only [Nat.zero_add, List.nil_append] at hM ⊢
    exact ⟨_, _, rfl, hM.mem.own⟩
/-- The tokens from a place on. -/
def encF (all : List Int) : Nat → Nat → List Int → List Int → List Int
  | 0, _, toks, run => toks ++ litz run
  | f + 1, t, toks, run =>
    if t < all.length then
      (if (best all t).2 = 0 then encF all f (t + 1) toks (run ++ [all.getD t 0])
       else encF all f (t + (best all t).2) (toks ++ litz run ++ [(124 + (best all t).2 : Int)] ++ puts (best all t).1) [])
    else toks ++ litz run
theorem encF_fuel (all : List Int) : ∀ (f g t : Nat) (toks run : List Int), all.length ≤ f + t → all.length ≤ g + t → encF all f t toks run = encF all g t toks run
  | 0, 0, _, _, _, _, _ => rfl
  | 0, g + 1, t, _, _, h, _ => by rw [encF, encF, if_neg (by omega)]
  | f + 1, 0, t, _, _, _, h => by rw [encF, encF, if_neg (by omega)]
  | f + 1, g + 1, t, toks, run, h1, h2 => by
    rw [encF, encF]
    by_cases ht : t < all.length
    · rw [if_pos ht, if_pos ht]
      by_cases h0 : (best all t).2 = 0
      · rw [if_pos h0, if_pos h0]
        exact encF_fuel all f g _ _ _ (by omega) (by omega)
      · rw [if_neg h0, if_neg h0]
        exact encF_fuel all f g _ _ _ (by omega) (by omega)
    · rw [if_neg ht, if_neg ht]
def encD (dict b : List Int) : List Int := encF (dict ++ b) b.length dict.length [] []
theorem bestTo_four (all : List Int) (t : Nat) : ∀ D, (bestTo all t D).2 ≠ 0 → 4 ≤ (bestTo all t D).2 ∧ 1 ≤ (bestTo all t D).1 ∧ (bestTo all t D).1 ≤ D
  | 0, h => by simp [bestTo] at h
  | D + 1, h => by
    rw [bestTo, bstep] at h ⊢
    split
    · rename_i h1; exact ⟨h1.1, by simp, by simp⟩
    · rename_i h1
      rw [if_neg h1] at h
      have := bestTo_four all t D h
      omega
theorem bestTo_eq (all : List Int) (t : Nat) : ∀ D, (bestTo all t D).2 ≠ 0 → (bestTo all t D).2 = mlen all (t - (bestTo all t D).1) t
  | 0, h => by simp [bestTo] at h
  | D + 1, h => by
    rw [bestTo, bstep] at h ⊢
    split
    · rfl
    · rename_i h1
      rw [if_neg h1] at h
      exact bestTo_eq all t D h
theorem best_ok {all : List Int} {t : Nat} (h : (best all t).2 ≠ 0) : 4 ≤ (best all t).2 ∧ (best all t).2 ≤ 131 ∧ 1 ≤ (best all t).1 ∧ (best all t).1 ≤ 4096 ∧ (best all t).1 ≤ t ∧ t + (best all t).2 ≤ all.length ∧ (best all t).2 = mlen all (t - (best all t).1) t := by
  have h1 := bestTo_four all t _ h
  have h2 := bestTo_eq all t _ h
  have h3 := bestTo_le all t (min 4096 t)
  have h4 : t + (best all t).2 ≤ all.length := by
    have h5 := (mlen_ge (all := all) (p := t - (best all t).1) (t := t) (k := (best all t).2) h3).1 (Nat.le_of_eq h2) ((best all t).2 - 1) (by have := h1.1; unfold best; omega)
    have := h1.1
    unfold best at h5 ⊢
    omega
  exact ⟨h1.1, h3, h1.2.1, by have := h1.2.2; unfold best; omega, by have := h1.2.2; unfold best; omega, h4, h2⟩
theorem pl_sv {own : Nat → Prop} {w w0 : World} {bs : List BoxE} {L1 : List Ent} {Fs : List (World → Prop)} {E : Pl} (hM : Mm own w0 bs (L1 ++ rowsE E) Fs w) (k : List Int) : ∃ ao cp, (kadd k (.slice none 0 0) (esOf E)).2.2 = .slice ao (lookP k E).length cp ∧ Has own w (RdF nE ao (lookP k E)) := by
  unfold kadd
  cases h : kfind k (esOf E) 0 with
  | some j =>
    obtain ⟨_, sv, h2⟩ := lookP_get h
    rw [Nat.sub_zero] at h2
    have hmem : (⟨3, 1, sv, (lookP k E).length, (lookP k E).map nE⟩ : Ent) ∈ L1 ++ rowsE E := List.mem_append_right _ (List.mem_iff_getElem?.2 ⟨j, by rw [rowsE_get, h2]; rfl⟩)
    obtain ⟨ao, cp, rfl, _, _⟩ := hM.row hmem
    exact ⟨ao, cp, by simp [esOf_get, h2], hM.rowFact hmem⟩
  | none => exact ⟨none, 0, by rw [lookP_none h]; rfl, by rw [lookP_none h]; exact RdF.nil⟩
section
variable (dict y : List Int) (hlen : dict.length ≤ 10000 ∧ y.length ≤ 10000) (a1 a2 : Option Addr) (c1 c2 : Nat) (own : Nat → Prop) (W : World) (hl : ∀ b, own b → b < W.heap.size) (hv1 : Has own W (RdF (Value.int .u8) a1 dict)) (hv2 : Has own W (RdF (Value.int .u8) a2 y))
include hlen hl hv1 hv2
set_option maxRecDepth 20000 in
theorem EncodeD_c : Calls Try.prog 21 ⟨[.slice a1 dict.length c1, .slice a2 y.length c2]⟩ W (Ret W fun v w' => ∃ a' c', v = .slice a' (encD dict y).length c' ∧ Owns w' W.heap.size [⟨5, 1, .slice a' (encD dict y).length c', (encD dict y).length, (encD dict y).map (Value.int .u8)⟩]) := by
  obtain ⟨hd, hy⟩ := hlen
  have hM := ((Mm.start hl).known hv1).known hv2
  refine f_start Try.func21 rfl Try.ntmps21 rfl rfl ?_; intro a hF
  (repeat (first | (with_reducible refine w_seq ?_) | (with_reducible refine c_region ?_) | (with_reducible refine s_nil ?_) | ((with_reducible apply s_callO (f := 58) hF); exact rfl; exact rfl; exact rfl; exact rfl; exact rfl; exact (bclone_c a1 c1 dict _ _ hM.lt (hM.facts _ (by (repeat (first | exact List.mem_cons_self | refine List.mem_cons_of_mem _ ?_)))) (by omega)); clear hF a; rintro v wn a ⟨a3, c3, rfl, hO⟩ hS hF; replace hM := hM.addRows hS hO; clear hS hO; dsimp only [List.cons_append, List.nil_append] at hM) | ((with_reducible apply s_appF hF hM); exact rfl; exact rfl; (repeat (first | exact List.mem_cons_self | refine List.mem_cons_of_mem _ ?_)); exact rfl; exact rfl; (repeat (first | exact Kth.z | apply Kth.s)); (intro _; exact rfl); exact rfl; omega; clear hF hM a; intro g cap w a hM hF; dsimp only [List.set] at hM) | (with_reducible refine q_then_n ?_) | ((with_reducible apply s_pure hF); exact rfl; exact rfl; exact rfl; (first | exact trivial | omega | exact ⟨Int.natCast_nonneg _, Int.ofNat_lt.2 (by assumption)⟩ | decide); clear hF a; intro a hF)))
  obtain ⟨all, hall⟩ : ∃ all, all = dict ++ y := ⟨_, rfl⟩
  have hal : all.length = dict.length + y.length := by rw [hall, List.length_append]
  rw [← List.map_append, ← hall] at hM
  rw [← hal] at hM hF
  have hcap := row_capB hM List.mem_cons_self
  replace hM := hM.freezeRow
  have hlen : all.length ≤ 1000000 := by omega
  apply s_makeMapE (ek := kA) hF hM
  · exact rfl
  · exact rfl
  clear hF hM a
  intro mb w a hmb hM hF
  (repeat (first | (with_reducible refine w_seq ?_) | (with_reducible refine c_region ?_) | (with_reducible refine s_nil ?_) | (with_reducible refine q_then_n ?_) | ((with_reducible apply s_pure hF); exact rfl; exact rfl; exact rfl; (first | exact trivial | omega | exact ⟨Int.natCast_nonneg _, Int.ofNat_lt.2 (by assumption)⟩ | decide); clear hF a; intro a hF) | ((with_reducible apply s_box hF hM); exact rfl; exact rfl; exact rfl; exact rfl; clear hF hM a; intro b w a hM hF) | (with_reducible refine w_block ?_)))
  generalize b = eb at *
  have hcf : ∀ f ∈ ([] : List (World → Prop)), Cf f := by simp
  refine c_loop (m := dict.length) (fun m a w' => ∃ (i : Nat) (E : Pl), m + i = dict.length ∧ PlOk E ∧ (∀ k, lookP k E = plc all i k) ∧
    Fr 90 [] [(20, .int .i64 i), (19, .int .i64 dict.length), (5, .pointer (some ⟨eb, 0, none⟩))] a ∧
    Mm own W [⟨eb, ⟨[.slice none 0 0, .slice none 0 0, .slice g all.length cap, .int .i64 dict.length, .map (some mb)]⟩, 133⟩] (⟨5, 1, .slice none 0 0, 0, []⟩ :: ⟨5, 1, .slice none 0 0, 0, []⟩ :: rowsE E) [MpE kA mb (esOf E), RdF (Value.int .u8) g all] w')
    ⟨0, [], by omega, by simp [PlOk], fun k => by simp [lookP, plc], hF.sub (by repeat (first | exact Sub.nil | refine Sub.cons rfl (by first | with_reducible rfl | (refine congrArg (Value.int _) ?_; omega) | exact rfl) ?_)), ((hM.nilRow 5 1).nilRow 5 1).sub (.refl _) (.refl _) (by intro f hf; simp only [List.mem_cons, List.not_mem_nil, or_false] at hf; (repeat (rcases hf with rfl | hf; · (repeat (first | exact List.mem_cons_self | refine List.mem_cons_of_mem _ ?_)))); first | (subst hf; (repeat (first | exact List.mem_cons_self | refine List.mem_cons_of_mem _ ?_)); done) | (repeat (first | exact hf | refine List.mem_cons_of_mem _ ?_)))⟩ ?_
  clear hF hM a
  rintro m a w' ⟨i, E, hm, hE, hlk, hF, hM⟩
  by_cases hi : i < dict.length
  · (repeat' (first | (with_reducible refine w_seq ?_) | (with_reducible refine c_region ?_) | (with_reducible refine s_nil ?_) | ((with_reducible apply s_callM (f := 59) hF); exact rfl; exact rfl; exact rfl; exact rfl; exact rfl; exact (note_c (L1 := [_, _]) all hlen g cap hcap eb _ mb _ _ hE (fun k => Nat.le_trans (Nat.le_of_eq (congrArg _ (hlk k))) (Nat.le_trans (plc_len _ _ _) (by omega))) hmb hcf hM i _ rfl (by omega)); clear hF hM a; rintro v w a ⟨E', hE', hlk', hM⟩ hF; dsimp only [List.cons_append, List.nil_append] at hM) | (with_reducible refine q_then_n ?_) | ((with_reducible apply s_pure hF); exact rfl; exact rfl; exact rfl; (first | exact trivial | omega | exact ⟨Int.natCast_nonneg _, Int.ofNat_lt.2 (by assumption)⟩ | decide); clear hF a; intro a hF) | (with_reducible refine w_skip ?_) | (with_reducible refine w_block ?_) | (with_reducible refine q_blk_n ?_) | ((with_reducible apply c_dec hF); exact rfl; all_goals intro hc; all_goals (try (exfalso; omega)))))
    exact ⟨m - 1, by omega, i + 1, E', by omega, hE', fun k => by rw [hlk', hlk, plc_succ], hF.sub (by repeat (first | exact Sub.nil | refine Sub.cons rfl (by first | with_reducible rfl | (refine congrArg (Value.int _) ?_; omega) | exact rfl) ?_)), hM⟩
  · obtain rfl : i = dict.length := by omega
    (repeat' (first | (with_reducible refine w_seq ?_) | (with_reducible refine c_region ?_) | (with_reducible refine s_nil ?_) | (with_reducible refine q_then_n ?_) | ((with_reducible apply s_pure hF); exact rfl; exact rfl; exact rfl; (first | exact trivial | omega | exact ⟨Int.natCast_nonneg _, Int.ofNat_lt.2 (by assumption)⟩ | decide); clear hF a; intro a hF) | (with_reducible refine w_block ?_) | (with_reducible refine w_exit ?_) | (with_reducible refine q_then_x ?_) | (with_reducible refine q_blk_x ?_) | ((with_reducible apply c_false2 hF); exact rfl; (first | with_reducible rfl | (refine congrArg Value.bool ?_; focus (simp; done))))))
    refine c_loop (m := y.length) (fun f a w' => ∃ (t : Nat) (toks run : List Int) (tv wv : Value) (Ew : Ent) (E : Pl), f + t = all.length ∧ dict.length ≤ t ∧ encD dict y = encF all f t toks run ∧ toks.length + 2 * run.length ≤ 4 * t ∧ run.length ≤ t ∧ PlOk E ∧ (∀ k, lookP k E = plc all t k) ∧
      OffR 5 1 wv run.length (run.map (Value.int .u8)) Ew ∧
      Fr 90 [] [(5, .pointer (some ⟨eb, 0, none⟩))] a ∧
      Mm own W [⟨eb, ⟨[tv, wv, .slice g all.length cap, .int .i64 t, .map (some mb)]⟩, 133⟩] (⟨5, 1, tv, toks.length, toks.map (Value.int .u8)⟩ :: Ew :: rowsE E) [MpE kA mb (esOf E), RdF (Value.int .u8) g all] w')
      ⟨dict.length, [], [], .slice none 0 0, .slice none 0 0, ⟨5, 1, .slice none 0 0, 0, []⟩, E, by omega, by omega, by rw [hall]; rfl, by simp, by simp, hE, hlk, OffR.nil, hF.sub (by repeat (first | exact Sub.nil | refine Sub.cons rfl (by first | with_reducible rfl | (refine congrArg (Value.int _) ?_; omega) | exact rfl) ?_)), hM⟩ ?_
    clear hF hM a hE hlk E
    rintro f a w' ⟨t, toks, run, tv, wv, Ew, E, hft, hdt, henc, hbd, hrt, hE, hlk, hW, hF, hM⟩
    by_cases ht : t < all.length
    · obtain ⟨f, rfl⟩ : ∃ k, f = k + 1 := ⟨f - 1, by omega⟩
      rw [encF, if_pos ht] at henc
      with_reducible refine w_seq ?_
      with_reducible refine w_seq ?_
      refine c_draw (fun i => Nat.ble 10 i) hM ?_; clear hM; intro w hM
      (first | (refine t_pure (i := 0) hF rfl rfl rfl rfl (by kernel_rfl) hM.sm (fun _ _ _ h => h) ?_ ?_; (first | exact trivial | omega | decide); clear hF a; intro a hF))
      (first | (refine t_pure (i := 1) hF rfl rfl rfl rfl (by kernel_rfl) hM.sm (fun _ _ _ h => h) ?_ ?_; (first | exact trivial | omega | decide); clear hF a; intro a hF))
      (first | (refine t_pure (i := 2) hF rfl rfl rfl rfl (by kernel_rfl) hM.sm (fun _ _ _ h => h) ?_ ?_; (first | exact trivial | omega | decide); clear hF a; intro a hF))
      (first | (apply t_load (i := 3) hF rfl rfl rfl; (repeat (first | exact List.mem_cons_self | refine List.mem_cons_of_mem _ ?_)); exact rfl; exact rfl; kernel_rfl; exact hM.sm; exact (fun _ _ _ h => h); clear hF a; intro a hF))
      (first | (refine t_pure (i := 4) hF rfl rfl rfl rfl (by kernel_rfl) hM.sm (fun _ _ _ h => h) ?_ ?_; (first | exact trivial | omega | decide); clear hF a; intro a hF))
      (first | (refine t_pure (i := 5) hF rfl rfl rfl rfl (by kernel_rfl) hM.sm (fun _ _ _ h => h) ?_ ?_; (first | exact trivial | omega | decide); clear hF a; intro a hF))
      (first | (refine t_pure (i := 6) hF rfl rfl rfl rfl (by kernel_rfl) hM.sm (fun _ _ _ h => h) ?_ ?_; (first | exact trivial | omega | decide); clear hF a; intro a hF))
      (first | (apply t_load (i := 7) hF rfl rfl rfl; (repeat (first | exact List.mem_cons_self | refine List.mem_cons_of_mem _ ?_)); exact rfl; exact rfl; kernel_rfl; exact hM.sm; exact (fun _ _ _ h => h); clear hF a; intro a hF))
      (first | (refine t_pure (i := 8) hF rfl rfl rfl rfl (by kernel_rfl) hM.sm (fun _ _ _ h => h) ?_ ?_; (first | exact trivial | omega | decide); clear hF a; intro a hF))
      (first | (refine t_pure (i := 9) hF rfl rfl rfl rfl (by kernel_rfl) hM.sm (fun _ _ _ h => h) ?_ ?_; (first | exact trivial | omega | decide); clear hF a; intro a hF))
      rw [show decide ((t : Int) < (all.length : Int)) = true from decide_eq_true (by omega)] at hF
      refine t_done (by kernel_rfl) ?_
      obtain ⟨ao, cp, hsv, hrp⟩ := pl_sv (L1 := [_, _]) hM (keyV all t)
      rw [hlk] at hsv hrp
      (repeat (first | (with_reducible refine w_seq ?_) | (with_reducible refine c_region ?_) | (with_reducible refine s_nil ?_) | ((with_reducible apply s_call (f := 60) hF hM); exact rfl; exact rfl; exact rfl; exact rfl; exact rfl; exact (best_c all hlen g cap hcap eb t mb tv wv own _ (fun b h => hM.lt b (.inl h)) (hM.boxFact (by (repeat (first | exact List.mem_cons_self | refine List.mem_cons_of_mem _ ?_)))) (hM.factOut (by (repeat (first | exact List.mem_cons_self | refine List.mem_cons_of_mem _ ?_)))) E hE (hM.factOut (by (repeat (first | exact List.mem_cons_self | refine List.mem_cons_of_mem _ ?_)))) _ rfl ao cp hsv hrp (by omega)); clear hF hM a; rintro v w a rfl - hM hF) | (with_reducible refine q_then_n ?_) | ((with_reducible apply s_pure hF); exact rfl; exact rfl; exact rfl; (first | exact trivial | omega | exact ⟨Int.natCast_nonneg _, Int.ofNat_lt.2 (by assumption)⟩ | decide); clear hF a; intro a hF) | (with_reducible refine w_skip ?_) | (with_reducible refine w_block ?_) | ((with_reducible apply c_true2 hF); exact rfl; (first | with_reducible rfl | (refine congrArg Value.bool ?_; focus (simp; done))))))
      by_cases h0 : (best all t).2 = 0
      · rw [if_pos h0] at henc
        rw [show decide (0 < ((best all t).2 : Int)) = false from decide_eq_false (by omega)] at hF
        obtain ⟨x, hx⟩ := get_of_lt ht
        have hgx : all.getD t 0 = x := by rw [List.getD_eq_getElem?_getD, hx]; rfl
        obtain ⟨ad, rfl⟩ : ∃ ad, g = some ad := rd_some hM (by (repeat (first | exact List.mem_cons_self | refine List.mem_cons_of_mem _ ?_))) hx
        rw [hgx] at henc
        (repeat (first | (with_reducible refine w_seq ?_) | (with_reducible refine c_region ?_) | (with_reducible refine s_nil ?_) | (with_reducible refine q_then_n ?_) | ((with_reducible apply s_pure hF); exact rfl; exact rfl; exact rfl; (first | exact trivial | omega | exact ⟨Int.natCast_nonneg _, Int.ofNat_lt.2 (by assumption)⟩ | decide); clear hF a; intro a hF) | ((with_reducible apply c_false2 hF); exact rfl; (first | with_reducible rfl | (refine congrArg Value.bool ?_; focus (simp; done))))))
        refine c_draw (fun i => Nat.ble 13 i) hM ?_; clear hM; intro w hM
        (first | (refine t_pure (i := 0) hF rfl rfl rfl rfl (by kernel_rfl) hM.sm (fun _ _ _ h => h) ?_ ?_; (first | exact trivial | omega | decide); clear hF a; intro a hF))
        (first | (refine t_pure (i := 1) hF rfl rfl rfl rfl (by kernel_rfl) hM.sm (fun _ _ _ h => h) ?_ ?_; (first | exact trivial | omega | decide); clear hF a; intro a hF))
        (first | (refine t_pure (i := 2) hF rfl rfl rfl rfl (by kernel_rfl) hM.sm (fun _ _ _ h => h) ?_ ?_; (first | exact trivial | omega | decide); clear hF a; intro a hF))
        (first | (refine t_pure (i := 3) hF rfl rfl rfl rfl (by kernel_rfl) hM.sm (fun _ _ _ h => h) ?_ ?_; (first | exact trivial | omega | decide); clear hF a; intro a hF))
        (first | (refine t_pure (i := 4) hF rfl rfl rfl rfl (by kernel_rfl) hM.sm (fun _ _ _ h => h) ?_ ?_; (first | exact trivial | omega | decide); clear hF a; intro a hF))
        (first | (refine t_pure (i := 5) hF rfl rfl rfl rfl (by kernel_rfl) hM.sm (fun _ _ _ h => h) ?_ ?_; (first | exact trivial | omega | decide); clear hF a; intro a hF))
        (first | (apply t_load (i := 6) hF rfl rfl rfl; (repeat (first | exact List.mem_cons_self | refine List.mem_cons_of_mem _ ?_)); exact rfl; exact rfl; kernel_rfl; exact hM.sm; exact (fun _ _ _ h => h); clear hF a; intro a hF))
        (first | (refine t_pure (i := 7) hF rfl rfl rfl rfl (by kernel_rfl) hM.sm (fun _ _ _ h => h) ?_ ?_; (first | exact trivial | omega | decide); clear hF a; intro a hF))
        (first | (refine t_pure (i := 8) hF rfl rfl rfl rfl (by kernel_rfl) hM.sm (fun _ _ _ h => h) ?_ ?_; (first | exact trivial | omega | decide); clear hF a; intro a hF))
        (first | (refine t_pure (i := 9) hF rfl rfl rfl rfl (by kernel_rfl) hM.sm (fun _ _ _ h => h) ?_ ?_; (first | exact trivial | omega | decide); clear hF a; intro a hF))
        (first | (apply t_load (i := 10) hF rfl rfl rfl; (repeat (first | exact List.mem_cons_self | refine List.mem_cons_of_mem _ ?_)); exact rfl; exact rfl; kernel_rfl; exact hM.sm; exact (fun _ _ _ h => h); clear hF a; intro a hF))
        (first | (refine t_pure (i := 11) hF rfl rfl rfl rfl (by kernel_rfl) hM.sm (fun _ _ _ h => h) ?_ ?_; (first | exact trivial | omega | decide); clear hF a; intro a hF))
        (first | (apply t_loadF (i := 12) hF rfl rfl rfl; (repeat (first | exact List.mem_cons_self | refine List.mem_cons_of_mem _ ?_)); (first | with_reducible assumption | (simp only [Int.toNat_natCast]; with_reducible assumption)); exact rfl; exact rfl; kernel_rfl; exact hM.sm; exact (fun _ _ _ h => h); clear hF a; intro a hF))
        refine t_one (i := 13) hF rfl (by kernel_rfl) rfl ?_
        intro K hK
        (refine x_callM (f := 62) hF rfl rfl rfl rfl (literal_c eb tv wv _ _ _ toks run _ rfl hW (by omega) (by omega) hM x) ?_; clear hF hM a; rintro v w a ⟨wv', Ew', hW', hM⟩ hF)
        refine hK _ _ (fun h => by cases h) ?_; clear hK
        refine t_done (by kernel_rfl) ?_
        (repeat (first | (with_reducible refine w_seq ?_) | (with_reducible refine c_region ?_) | (with_reducible refine s_nil ?_) | (with_reducible refine q_then_n ?_) | ((with_reducible apply s_pure hF); exact rfl; exact rfl; exact rfl; (first | exact trivial | omega | exact ⟨Int.natCast_nonneg _, Int.ofNat_lt.2 (by assumption)⟩ | decide); clear hF a; intro a hF) | (with_reducible refine w_block ?_)))
        rw [show (1 : Int) = ((1 : Nat) : Int) from rfl] at hF
        have hfin : encD dict y = encF all (all.length - (t + 1)) (t + 1) toks (run ++ [x]) := by rw [henc]; exact encF_fuel _ _ _ _ _ _ (by omega) (by omega)
        refine c_loop (m := 1) (fun m a w' => ∃ (j : Nat) (E2 : Pl), m + j = 1 ∧ PlOk E2 ∧ (∀ k, lookP k E2 = plc all (t + j) k) ∧
          Fr 90 [] [(65, .int .i64 j), (64, .int .i64 (1 : Nat)), (5, .pointer (some ⟨eb, 0, none⟩))] a ∧
          Mm own W [⟨eb, ⟨[tv, wv', .slice (some ad) all.length cap, .int .i64 (t + j : Nat), .map (some mb)]⟩, 133⟩] (⟨5, 1, tv, (toks).length, (toks).map (Value.int .u8)⟩ :: Ew' :: rowsE E2) [MpE kA mb (esOf E2), RdF (Value.int .u8) (some ad) all] w')
          ⟨0, E, by omega, hE, hlk, hF.sub (by repeat (first | exact Sub.nil | refine Sub.cons rfl (by first | with_reducible rfl | (refine congrArg (Value.int _) ?_; omega) | exact rfl) ?_)), hM⟩ ?_
        clear hF hM a hE hlk hsv hrp E
        rintro m a w' ⟨j, E, hm, hE, hlk, hF, hM⟩
        by_cases hj : j < 1
        · (repeat' (first | (with_reducible refine w_seq ?_) | (with_reducible refine c_region ?_) | (with_reducible refine s_nil ?_) | ((with_reducible apply s_callM (f := 59) hF); exact rfl; exact rfl; exact rfl; exact rfl; exact rfl; exact (note_c (L1 := [_, _]) all hlen (some ad) cap hcap eb _ mb _ _ hE (fun k => Nat.le_trans (Nat.le_of_eq (congrArg _ (hlk k))) (Nat.le_trans (plc_len _ _ _) (by omega))) hmb hcf hM (t + j) _ rfl (by omega)); clear hF hM a; rintro v w a ⟨E', hE', hlk', hM⟩ hF; dsimp only [List.cons_append, List.nil_append] at hM) | (with_reducible refine q_then_n ?_) | ((with_reducible apply s_pure hF); exact rfl; exact rfl; exact rfl; (first | exact trivial | omega | exact ⟨Int.natCast_nonneg _, Int.ofNat_lt.2 (by assumption)⟩ | decide); clear hF a; intro a hF) | ((with_reducible apply s_load hF hM); exact rfl; exact rfl; (repeat (first | exact List.mem_cons_self | refine List.mem_cons_of_mem _ ?_)); exact rfl; exact rfl; clear hF a; intro a hF) | ((with_reducible apply s_store hF hM); exact rfl; exact rfl; exact rfl; exact rfl; (repeat (first | exact Upd.z | apply Upd.s)); exact rfl; exact rfl; exact rfl; clear hM; intro w hM) | (with_reducible refine w_skip ?_) | (with_reducible refine w_block ?_) | (with_reducible refine q_blk_n ?_) | ((with_reducible apply c_dec hF); exact rfl; all_goals intro hc; all_goals (try (exfalso; omega)))))
          rw [show (((t + j : Nat) : Int) + 1) = ((t + (j + 1) : Nat) : Int) by omega] at hM
          exact ⟨m - 1, by omega, j + 1, E', by omega, hE', fun k => by rw [hlk', hlk, show t + (j + 1) = t + j + 1 by omega, plc_succ], hF.sub (by repeat (first | exact Sub.nil | refine Sub.cons rfl (by first | with_reducible rfl | (refine congrArg (Value.int _) ?_; omega) | exact rfl) ?_)), hM⟩
        · have hje : 1 = j := by omega
          subst hje
          (repeat' (first | (with_reducible refine w_seq ?_) | (with_reducible refine c_region ?_) | (with_reducible refine s_nil ?_) | (with_reducible refine q_then_n ?_) | ((with_reducible apply s_pure hF); exact rfl; exact rfl; exact rfl; (first | exact trivial | omega | exact ⟨Int.natCast_nonneg _, Int.ofNat_lt.2 (by assumption)⟩ | decide); clear hF a; intro a hF) | (with_reducible refine w_exit ?_) | (with_reducible refine q_then_x ?_) | (with_reducible refine q_blk_n ?_) | (with_reducible refine q_blk_x ?_) | ((with_reducible apply c_false2 hF); exact rfl; (first | with_reducible rfl | (refine congrArg Value.bool ?_; focus (simp; done))))))
          refine ⟨all.length - (t + 1), by omega, t + 1, toks, run ++ [x], tv, wv', Ew', E, by omega, by omega, hfin, ?_, ?_, hE, hlk, ?_, hF.sub (by repeat (first | exact Sub.nil | refine Sub.cons rfl (by first | with_reducible rfl | (refine congrArg (Value.int _) ?_; omega) | exact rfl) ?_)), hM⟩
          · rw [List.length_append, List.length_singleton]; omega
          · rw [List.length_append, List.length_singleton]; omega
          · rw [List.length_append, List.length_singleton]; exact hW'
      · rw [if_neg h0] at henc
        rw [show decide (0 < ((best all t).2 : Int)) = true from decide_eq_true (by omega)] at hF
        obtain ⟨hn4, hn131, hd1, hd2, hd3, htn, _⟩ := best_ok h0
        generalize (best all t).2 = n at *
        generalize (best all t).1 = d at *
        have hll := litz_len run
        have hpl := puts_len 2 d (by omega)
        (repeat (first | (with_reducible refine w_seq ?_) | (with_reducible refine c_region ?_) | (with_reducible refine s_nil ?_) | ((with_reducible apply s_callM (f := 61) hF); exact rfl; exact rfl; exact rfl; exact rfl; exact rfl; exact (match_c eb tv wv _ _ _ toks run _ rfl hW (by omega) (by omega) hM d n hd2 ⟨hn4, hn131⟩); clear hF hM a; rintro v w a ⟨tv', wv', Ew', hW', hM⟩ hF) | (with_reducible refine q_then_n ?_) | ((with_reducible apply s_pure hF); exact rfl; exact rfl; exact rfl; (first | exact trivial | omega | exact ⟨Int.natCast_nonneg _, Int.ofNat_lt.2 (by assumption)⟩ | decide); clear hF a; intro a hF) | (with_reducible refine w_block ?_) | ((with_reducible apply c_true2 hF); exact rfl; (first | with_reducible rfl | (refine congrArg Value.bool ?_; focus (simp; done))))))
        have hfin : encD dict y = encF all (all.length - (t + n)) (t + n) (toks ++ litz run ++ [(124 + n : Int)] ++ puts d) [] := by rw [henc]; exact encF_fuel _ _ _ _ _ _ (by omega) (by omega)
        have hTl : (toks ++ litz run ++ [(124 + n : Int)] ++ puts d).length ≤ 4 * (t + n) := by
          simp only [List.length_append, List.length_singleton]; omega
        generalize toks ++ litz run ++ [(124 + n : Int)] ++ puts d = T at *
        refine c_loop (m := n) (fun m a w' => ∃ (j : Nat) (E2 : Pl), m + j = n ∧ PlOk E2 ∧ (∀ k, lookP k E2 = plc all (t + j) k) ∧
          Fr 90 [] [(65, .int .i64 j), (64, .int .i64 (n : Nat)), (5, .pointer (some ⟨eb, 0, none⟩))] a ∧
          Mm own W [⟨eb, ⟨[tv', wv', .slice g all.length cap, .int .i64 (t + j : Nat), .map (some mb)]⟩, 133⟩] (⟨5, 1, tv', (T).length, (T).map (Value.int .u8)⟩ :: Ew' :: rowsE E2) [MpE kA mb (esOf E2), RdF (Value.int .u8) g all] w')
          ⟨0, E, by omega, hE, hlk, hF.sub (by repeat (first | exact Sub.nil | refine Sub.cons rfl (by first | with_reducible rfl | (refine congrArg (Value.int _) ?_; omega) | exact rfl) ?_)), hM⟩ ?_
        clear hF hM a hE hlk hsv hrp E
        rintro m a w' ⟨j, E, hm, hE, hlk, hF, hM⟩
        by_cases hj : j < n
        · (repeat' (first | (with_reducible refine w_seq ?_) | (with_reducible refine c_region ?_) | (with_reducible refine s_nil ?_) | ((with_reducible apply s_callM (f := 59) hF); exact rfl; exact rfl; exact rfl; exact rfl; exact rfl; exact (note_c (L1 := [_, _]) all hlen g cap hcap eb _ mb _ _ hE (fun k => Nat.le_trans (Nat.le_of_eq (congrArg _ (hlk k))) (Nat.le_trans (plc_len _ _ _) (by omega))) hmb hcf hM (t + j) _ rfl (by omega)); clear hF hM a; rintro v w a ⟨E', hE', hlk', hM⟩ hF; dsimp only [List.cons_append, List.nil_append] at hM) | (with_reducible refine q_then_n ?_) | ((with_reducible apply s_pure hF); exact rfl; exact rfl; exact rfl; (first | exact trivial | omega | exact ⟨Int.natCast_nonneg _, Int.ofNat_lt.2 (by assumption)⟩ | decide); clear hF a; intro a hF) | ((with_reducible apply s_load hF hM); exact rfl; exact rfl; (repeat (first | exact List.mem_cons_self | refine List.mem_cons_of_mem _ ?_)); exact rfl; exact rfl; clear hF a; intro a hF) | ((with_reducible apply s_store hF hM); exact rfl; exact rfl; exact rfl; exact rfl; (repeat (first | exact Upd.z | apply Upd.s)); exact rfl; exact rfl; exact rfl; clear hM; intro w hM) | (with_reducible refine w_skip ?_) | (with_reducible refine w_block ?_) | (with_reducible refine q_blk_n ?_) | ((with_reducible apply c_dec hF); exact rfl; all_goals intro hc; all_goals (try (exfalso; omega)))))
          rw [show (((t + j : Nat) : Int) + 1) = ((t + (j + 1) : Nat) : Int) by omega] at hM
          exact ⟨m - 1, by omega, j + 1, E', by omega, hE', fun k => by rw [hlk', hlk, show t + (j + 1) = t + j + 1 by omega, plc_succ], hF.sub (by repeat (first | exact Sub.nil | refine Sub.cons rfl (by first | with_reducible rfl | (refine congrArg (Value.int _) ?_; omega) | exact rfl) ?_)), hM⟩
        · have hje : n = j := by omega
          subst hje
          (repeat' (first | (with_reducible refine w_seq ?_) | (with_reducible refine c_region ?_) | (with_reducible refine s_nil ?_) | (with_reducible refine q_then_n ?_) | ((with_reducible apply s_pure hF); exact rfl; exact rfl; exact rfl; (first | exact trivial | omega | exact ⟨Int.natCast_nonneg _, Int.ofNat_lt.2 (by assumption)⟩ | decide); clear hF a; intro a hF) | (with_reducible refine w_exit ?_) | (with_reducible refine q_then_x ?_) | (with_reducible refine q_blk_n ?_) | (with_reducible refine q_blk_x ?_) | ((with_reducible apply c_false2 hF); exact rfl; (first | with_reducible rfl | (refine congrArg Value.bool ?_; focus (simp; done))))))
          refine ⟨all.length - (t + n), by omega, t + n, T, [], tv', wv', Ew', E, by omega, by omega, hfin, ?_, by simp, hE, hlk, hW', hF.sub (by repeat (first | exact Sub.nil | refine Sub.cons rfl (by first | with_reducible rfl | (refine congrArg (Value.int _) ?_; omega) | exact rfl) ?_)), hM⟩
          rw [List.length_nil]; omega
    · obtain rfl : f = 0 := by omega
      rw [encF] at henc
      with_reducible refine w_seq ?_
      with_reducible refine w_seq ?_
      refine c_draw (fun i => Nat.ble 10 i) hM ?_; clear hM; intro w hM
      (first | (refine t_pure (i := 0) hF rfl rfl rfl rfl (by kernel_rfl) hM.sm (fun _ _ _ h => h) ?_ ?_; (first | exact trivial | omega | decide); clear hF a; intro a hF))
      (first | (refine t_pure (i := 1) hF rfl rfl rfl rfl (by kernel_rfl) hM.sm (fun _ _ _ h => h) ?_ ?_; (first | exact trivial | omega | decide); clear hF a; intro a hF))
      (first | (refine t_pure (i := 2) hF rfl rfl rfl rfl (by kernel_rfl) hM.sm (fun _ _ _ h => h) ?_ ?_; (first | exact trivial | omega | decide); clear hF a; intro a hF))
      (first | (apply t_load (i := 3) hF rfl rfl rfl; (repeat (first | exact List.mem_cons_self | refine List.mem_cons_of_mem _ ?_)); exact rfl; exact rfl; kernel_rfl; exact hM.sm; exact (fun _ _ _ h => h); clear hF a; intro a hF))
      (first | (refine t_pure (i := 4) hF rfl rfl rfl rfl (by kernel_rfl) hM.sm (fun _ _ _ h => h) ?_ ?_; (first | exact trivial | omega | decide); clear hF a; intro a hF))
      (first | (refine t_pure (i := 5) hF rfl rfl rfl rfl (by kernel_rfl) hM.sm (fun _ _ _ h => h) ?_ ?_; (first | exact trivial | omega | decide); clear hF a; intro a hF))
      (first | (refine t_pure (i := 6) hF rfl rfl rfl rfl (by kernel_rfl) hM.sm (fun _ _ _ h => h) ?_ ?_; (first | exact trivial | omega | decide); clear hF a; intro a hF))
      (first | (apply t_load (i := 7) hF rfl rfl rfl; (repeat (first | exact List.mem_cons_self | refine List.mem_cons_of_mem _ ?_)); exact rfl; exact rfl; kernel_rfl; exact hM.sm; exact (fun _ _ _ h => h); clear hF a; intro a hF))
      (first | (refine t_pure (i := 8) hF rfl rfl rfl rfl (by kernel_rfl) hM.sm (fun _ _ _ h => h) ?_ ?_; (first | exact trivial | omega | decide); clear hF a; intro a hF))
      (first | (refine t_pure (i := 9) hF rfl rfl rfl rfl (by kernel_rfl) hM.sm (fun _ _ _ h => h) ?_ ?_; (first | exact trivial | omega | decide); clear hF a; intro a hF))
      rw [show decide ((t : Int) < (all.length : Int)) = false from decide_eq_false (by omega)] at hF
      refine t_done (by kernel_rfl) ?_
      (repeat' (first | (with_reducible refine w_seq ?_) | (with_reducible refine c_region ?_) | (with_reducible refine s_nil ?_) | ((with_reducible apply s_callM (f := 63) hF); exact rfl; exact rfl; exact rfl; exact rfl; exact rfl; exact (flush_c eb tv wv _ _ _ toks run _ rfl hW (by omega) (by omega) hM); clear hF hM a; rintro v w a ⟨tv', wv', Ew', hW', hM⟩ hF) | (with_reducible refine q_then_n ?_) | ((with_reducible apply s_pure hF); exact rfl; exact rfl; exact rfl; (first | exact trivial | omega | exact ⟨Int.natCast_nonneg _, Int.ofNat_lt.2 (by assumption)⟩ | decide); clear hF a; intro a hF) | ((with_reducible apply s_load hF hM); exact rfl; exact rfl; (repeat (first | exact List.mem_cons_self | refine List.mem_cons_of_mem _ ?_)); exact rfl; exact rfl; clear hF a; intro a hF) | (with_reducible refine w_exit ?_) | (with_reducible refine w_ret ?_) | (with_reducible refine q_then_x ?_) | (with_reducible refine q_blk_x ?_) | ((with_reducible apply c_false2 hF); exact rfl; (first | with_reducible rfl | (refine congrArg Value.bool ?_; focus (simp; done))))))
      (apply f_ret Try.results21 hF hM; (repeat (first | exact RL.nil | (apply RL.tmp; exact rfl) | (apply RL.cell; exact rfl; (repeat (first | exact List.mem_cons_self | refine List.mem_cons_of_mem _ ?_)); exact rfl))); refine Ret.mk hM.since ?_; dsimp only [resV])
      rw [henc]
      obtain ⟨a', c', rfl, _, _⟩ := hM.row (enc := Value.int .u8) List.mem_cons_self
      exact ⟨a', c', rfl, (hM.sub (List.nil_sublist _) (.cons_cons _ (List.nil_sublist _)) (fun _ h => h)).mem.own⟩
end
end Go.Proofs.Ytadfdpkhehdikaa


/- dictionary.Decode. -/
namespace Go.Proofs.Ytadfdpkhehdikaa
open Go.RowKit Go.Shelf
theorem rd_cells {own : Nat → Prop} {w : World} {α : Type} {enc : α → Value} {ad : Addr} {ys : List α} (h : Has own w (RdF enc (some ad) ys)) (q : Nat) : ∀ (j : Nat) (u : Value), ((ys.take q).map enc)[j]? = some u → w.cell? (ad.add j) = some u := by
  intro j u hu
  rw [List.getElem?_map, List.getElem?_take] at hu
  split at hu
  · cases hy : ys[j]? with
    | none => rw [hy] at hu; cases hu
    | some y =>
      rw [hy] at hu
      injection hu with hu
      obtain ⟨b, off, e1, _, e2⟩ := h.get j y hy
      injection e1 with e1
      subst e1
      rw [add_lit, e2, hu]
  · cases hu
theorem RdF.dropO {α : Type} {enc : α → Value} {own : Nat → Prop} {w : World} {ao : Option Addr} {xs : List α} (h : Has own w (RdF enc ao xs)) (k m : Nat) (hm : xs.length ≤ m) : Has own w (RdF enc (sadr ao k m 1) (xs.drop k)) := by
  cases ao with
  | some ad => exact RdF.drop h k m hm
  | none =>
    cases xs with
    | nil => rw [List.drop_nil]; exact RdF.nil
    | cons x r => obtain ⟨_, _, e, _⟩ := h.get 0 x rfl; cases e
/-- Bytes copied from d before the end. -/
def copyN (d : Nat) : Nat → List Int → List Int
  | 0, al => al
  | n + 1, al => copyN d n (al ++ [al.getD (al.length - d) 0])
theorem copyN_len (d : Nat) : ∀ (n : Nat) (al : List Int), (copyN d n al).length = al.length + n
  | 0, al => rfl
  | n + 1, al => by rw [copyN, copyN_len d n, List.length_append, List.length_singleton]; omega
theorem copyN_succ (d : Nat) : ∀ (n : Nat) (al : List Int), copyN d (n + 1) al = copyN d n al ++ [(copyN d n al).getD ((copyN d n al).length - d) 0]
  | 0, al => rfl
  | n + 1, al => by rw [copyN, copyN_succ d n]; rfl
/-- What tokens add to what is there. -/
def dcF (dl : Nat) (most : Int) : Nat → List Int → List Int → Except Int (List Int)
  | 0, _, al => .ok al
  | _ + 1, [], al => .ok al
  | f + 1, x :: b, al =>
    if x = 0 then .error 3
    else if x ≤ 127 then
      if (b.length : Int) < x then .error 10
      else if most < (al.length : Int) + x - dl then .error 5
      else dcF dl most f (b.drop x.toNat) (al ++ b.take x.toNat)
    else if (rdNum b).2.1 ≠ 0 then .error (rdNum b).2.1
    else if (rdNum b).1 < 1 ∨ 4096 < (rdNum b).1 ∨ (al.length : Int) < (rdNum b).1 then .error 3
    else if most < (al.length : Int) + (x - 124) - dl then .error 5
    else dcF dl most f (b.drop (rdNum b).2.2) (copyN (rdNum b).1.toNat (x - 124).toNat al)
def finD (dl : Nat) (r : Except Int (List Int)) : Except Int (List Int) := match r with
  | .error e => .error e
  | .ok al => .ok (al.drop dl)
def decD (dict y : List Int) (most : Int) : Except Int (List Int) := if most < 0 then .error 2 else finD dict.length (dcF dict.length most y.length y dict)
theorem dcF_nil (dl : Nat) (most : Int) (f : Nat) (al : List Int) : dcF dl most f [] al = .ok al := by cases f <;> rfl
/-- Bytes or an error. -/
def BDec (own : Nat → Prop) (r : Except Int (List Int)) (v : Value) (w' : World) : Prop := match r with
  | .error e => v = .tuple #[.slice none 0 0, .int .i64 e]
  | .ok xs => ∃ a' c', v = .tuple #[.slice a' xs.length c', .int .i64 0] ∧ xs.length ≤ c' ∧ Has own w' (RdF (Value.int .u8) a' xs)
section
variable (dict y : List Int) (hy : By y) (hlen : dict.length ≤ 10000 ∧ y.length ≤ 10000) (most : Int) (hmost : most ≤ 9223372036854775807 ∧ -9223372036854775808 ≤ most) (a1 a2 : Option Addr) (c1 c2 : Nat) (hc2 : y.length ≤ c2) (own : Nat → Prop) (W : World) (hl : ∀ b, own b → b < W.heap.size) (hv1 : Has own W (RdF (Value.int .u8) a1 dict)) (hv2 : Has own W (RdF (Value.int .u8) a2 y))
include hy hlen hmost hc2 hl hv1 hv2
set_option maxRecDepth 20000 in
theorem DecodeD_c : Calls Try.prog 22 ⟨[.slice a1 dict.length c1, .slice a2 y.length c2, .int .i64 most]⟩ W (Ret W (BDec own (decD dict y most))) := by
  obtain ⟨hd, hyl⟩ := hlen
  have hM := ((Mm.start hl).known hv1).known hv2
  by_cases h0 : most < 0
  · have hD : decD dict y most = .error 2 := by unfold decD; rw [if_pos h0]
    rw [hD]
    refine f_start Try.func22 rfl Try.ntmps22 rfl rfl ?_; intro a hF
    (repeat' (first | (with_reducible refine w_seq ?_) | (with_reducible refine c_region ?_) | (with_reducible refine s_nil ?_) | (with_reducible refine q_then_n ?_) | ((with_reducible apply s_pure hF); exact rfl; exact rfl; exact rfl; (first | exact trivial | omega | exact ⟨Int.natCast_nonneg _, Int.ofNat_lt.2 (by assumption)⟩ | decide); clear hF a; intro a hF) | (with_reducible refine w_ret ?_) | (with_reducible refine q_then_r ?_) | ((with_reducible apply c_dec hF); exact rfl; all_goals intro hc; all_goals (try (exfalso; omega)))))
    (apply f_ret Try.results22 hF hM; (repeat (first | exact RL.nil | (apply RL.tmp; exact rfl) | (apply RL.cell; exact rfl; (repeat (first | exact List.mem_cons_self | refine List.mem_cons_of_mem _ ?_)); exact rfl))); refine Ret.mk hM.since ?_; dsimp only [resV])
    rfl
  have hD : decD dict y most = finD dict.length (dcF dict.length most y.length y dict) := by unfold decD; rw [if_neg h0]
  refine f_start Try.func22 rfl Try.ntmps22 rfl rfl ?_; intro a hF
  (repeat' (first | (with_reducible refine w_seq ?_) | (with_reducible refine c_region ?_) | (with_reducible refine s_nil ?_) | ((with_reducible apply s_callO (f := 58) hF); exact rfl; exact rfl; exact rfl; exact rfl; exact rfl; exact (bclone_c a1 c1 dict _ _ hM.lt (hM.facts _ (by (repeat (first | exact List.mem_cons_self | refine List.mem_cons_of_mem _ ?_)))) (by omega)); clear hF a; rintro v wn a ⟨a3, c3, rfl, hO⟩ hS hF; replace hM := hM.addRows hS hO; clear hS hO; dsimp only [List.cons_append, List.nil_append] at hM) | (with_reducible refine q_then_n ?_) | ((with_reducible apply s_pure hF); exact rfl; exact rfl; exact rfl; (first | exact trivial | omega | exact ⟨Int.natCast_nonneg _, Int.ofNat_lt.2 (by assumption)⟩ | decide); clear hF a; intro a hF) | (with_reducible refine w_skip ?_) | (with_reducible refine w_block ?_) | ((with_reducible apply c_dec hF); exact rfl; all_goals intro hc; all_goals (try (exfalso; omega)))))
  refine c_loop (m := y.length) (fun f a w' => ∃ (xs al : List Int) (ax av : Option Addr) (cx cv : Nat), decD dict y most = finD dict.length (dcF dict.length most f xs al) ∧ xs.length ≤ f ∧ By xs ∧ xs.length ≤ cx ∧ dict.length ≤ al.length ∧ al.length + 10000 * f ≤ dict.length + 10000 * y.length ∧ f ≤ y.length ∧
    Fr 94 [] [(8, .slice av al.length cv), (1, .slice ax xs.length cx), (0, .slice a1 dict.length c1), (2, .int .i64 most)] a ∧
    Mm own W [] [⟨5, 1, .slice av al.length cv, al.length, al.map (Value.int .u8)⟩] [RdF (Value.int .u8) ax xs] w')
    ⟨y, dict, a2, a3, c2, c3, hD, Nat.le_refl _, hy, hc2, Nat.le_refl _, Nat.le_refl _, Nat.le_refl _, hF.sub (by repeat (first | exact Sub.nil | refine Sub.cons rfl (by first | with_reducible rfl | (refine congrArg (Value.int _) ?_; omega) | exact rfl) ?_)), hM.sub (.refl _) (.refl _) (by intro f hf; simp only [List.mem_cons, List.not_mem_nil, or_false] at hf; (repeat (rcases hf with rfl | hf; · (repeat (first | exact List.mem_cons_self | refine List.mem_cons_of_mem _ ?_)))); first | (subst hf; (repeat (first | exact List.mem_cons_self | refine List.mem_cons_of_mem _ ?_)); done) | (repeat (first | exact hf | refine List.mem_cons_of_mem _ ?_)))⟩ ?_
  clear hF hM a hD
  rintro f a w' ⟨xs, al, ax, av, cx, cv, hD, hxf, hxb, hcx, hdal, hal, hfy, hF, hM⟩
  have hcap := row_capB hM List.mem_cons_self
  match hxs : xs with
  | [] =>
    rw [dcF_nil] at hD
    (repeat' (first | (with_reducible refine w_seq ?_) | (with_reducible refine c_region ?_) | (with_reducible refine s_nil ?_) | (with_reducible refine q_then_n ?_) | ((with_reducible apply s_pure hF); exact rfl; exact rfl; exact rfl; (first | exact trivial | omega | exact ⟨Int.natCast_nonneg _, Int.ofNat_lt.2 (by assumption)⟩ | decide); clear hF a; intro a hF) | (with_reducible refine w_exit ?_) | (with_reducible refine q_then_x ?_) | (with_reducible refine q_blk_x ?_) | ((with_reducible apply c_false2 hF); exact rfl; (first | with_reducible rfl | (refine congrArg Value.bool ?_; focus (simp; done))))))
    rw [Int.toNat_natCast, Int.toNat_natCast, show al.length - dict.length = (al.drop dict.length).length from List.length_drop.symm] at hF
    have hrd := RdF.dropO (hM.rowFact List.mem_cons_self) dict.length cv hcap
    have hdl : (al.drop dict.length).length ≤ 10000000000 := by rw [List.length_drop]; omega
    (repeat (first | (with_reducible refine s_nil ?_) | ((with_reducible apply s_callO (f := 58) hF); exact rfl; exact rfl; exact rfl; exact rfl; exact rfl; exact (bclone_c _ _ (al.drop dict.length) own _ (fun b h => hM.lt b (.inl h)) hrd hdl); clear hF a; rintro v wn a ⟨a4, c4, rfl, hO⟩ hS hF; replace hM := hM.addRows hS hO; clear hS hO; dsimp only [List.cons_append, List.nil_append] at hM) | (with_reducible refine q_then_n ?_) | ((with_reducible apply s_pure hF); exact rfl; exact rfl; exact rfl; (first | exact trivial | omega | exact ⟨Int.natCast_nonneg _, Int.ofNat_lt.2 (by assumption)⟩ | decide); clear hF a; intro a hF) | (with_reducible refine w_ret ?_)))
    have hcap2 := row_capB hM List.mem_cons_self
    (apply f_ret Try.results22 hF hM; (repeat (first | exact RL.nil | (apply RL.tmp; exact rfl) | (apply RL.cell; exact rfl; (repeat (first | exact List.mem_cons_self | refine List.mem_cons_of_mem _ ?_)); exact rfl))); refine Ret.mk hM.since ?_; dsimp only [resV])
    rw [hD]
    exact ⟨a4, c4, rfl, hcap2, hM.rowFact List.mem_cons_self⟩
  | x :: b =>
    obtain ⟨f, rfl⟩ : ∃ k, f = k + 1 := ⟨f - 1, by simp at hxf; omega⟩
    rw [dcF] at hD
    have hlx : (x :: b).length = b.length + 1 := List.length_cons
    have hx := hxb x List.mem_cons_self
    have hbb : By b := fun z hz => hxb z (List.mem_cons_of_mem _ hz)
    have hbl : b.length ≤ f := by simpa using hxf
    have hx0 : (x :: b)[((0 : Int)).toNat]? = some x := rfl
    obtain ⟨ad, rfl⟩ : ∃ ad, ax = some ad := rd_some hM (by (repeat (first | exact List.mem_cons_self | refine List.mem_cons_of_mem _ ?_))) (k := 0) (x := x) rfl
    have hbf := RdF.drop (hM.facts (RdF (Value.int .u8) (some ad) (x :: b)) (by (repeat (first | exact List.mem_cons_self | refine List.mem_cons_of_mem _ ?_)))) 1 cx hcx
    rw [show (x :: b).drop 1 = b from rfl] at hbf
    have hcx' : b.length ≤ cx - 1 := by simp at hcx; omega
    by_cases hz : x = 0
    · rw [if_pos hz] at hD
      (repeat' (first | (with_reducible refine w_seq ?_) | (with_reducible refine c_region ?_) | (with_reducible refine s_nil ?_) | (with_reducible refine q_then_n ?_) | ((with_reducible apply s_pure hF); exact rfl; exact rfl; exact rfl; (first | exact trivial | omega | exact ⟨Int.natCast_nonneg _, Int.ofNat_lt.2 (by assumption)⟩ | decide); clear hF a; intro a hF) | ((with_reducible apply s_loadF hF hM); exact rfl; exact rfl; (repeat (first | exact List.mem_cons_self | refine List.mem_cons_of_mem _ ?_)); exact rfl; exact rfl; (first | with_reducible assumption | (simp only [Int.toNat_natCast]; with_reducible assumption)); clear hF a; intro a hF) | (with_reducible refine w_skip ?_) | (with_reducible refine w_block ?_) | (with_reducible refine w_ret ?_) | (with_reducible refine q_then_r ?_) | (with_reducible refine q_blk_r ?_) | ((with_reducible apply c_true2 hF); exact rfl; (first | with_reducible rfl | (refine congrArg Value.bool ?_; focus (simp; done)))) | ((with_reducible apply c_dec hF); exact rfl; all_goals intro hc; all_goals (try (exfalso; omega)))))
      (apply f_ret Try.results22 hF hM; (repeat (first | exact RL.nil | (apply RL.tmp; exact rfl) | (apply RL.cell; exact rfl; (repeat (first | exact List.mem_cons_self | refine List.mem_cons_of_mem _ ?_)); exact rfl))); refine Ret.mk hM.since ?_; dsimp only [resV])
      rw [hD]
      rfl
    rw [if_neg hz] at hD
    by_cases h127 : x ≤ 127
    · rw [if_pos h127] at hD
      by_cases htorn : (b.length : Int) < x
      · rw [if_pos htorn] at hD
        (repeat' (first | (with_reducible refine w_seq ?_) | (with_reducible refine c_region ?_) | (with_reducible refine s_nil ?_) | (with_reducible refine q_then_n ?_) | ((with_reducible apply s_pure hF); exact rfl; exact rfl; exact rfl; (first | exact trivial | omega | exact ⟨Int.natCast_nonneg _, Int.ofNat_lt.2 (by assumption)⟩ | decide); clear hF a; intro a hF) | ((with_reducible apply s_loadF hF hM); exact rfl; exact rfl; (repeat (first | exact List.mem_cons_self | refine List.mem_cons_of_mem _ ?_)); exact rfl; exact rfl; (first | with_reducible assumption | (simp only [Int.toNat_natCast]; with_reducible assumption)); clear hF a; intro a hF) | (with_reducible refine w_skip ?_) | (with_reducible refine w_block ?_) | (with_reducible refine w_ret ?_) | (with_reducible refine q_then_r ?_) | (with_reducible refine q_blk_r ?_) | ((with_reducible apply c_true2 hF); exact rfl; (first | with_reducible rfl | (refine congrArg Value.bool ?_; focus (simp; done)))) | ((with_reducible apply c_dec hF); exact rfl; all_goals intro hc; all_goals (try (exfalso; omega)))))
        (apply f_ret Try.results22 hF hM; (repeat (first | exact RL.nil | (apply RL.tmp; exact rfl) | (apply RL.cell; exact rfl; (repeat (first | exact List.mem_cons_self | refine List.mem_cons_of_mem _ ?_)); exact rfl))); refine Ret.mk hM.since ?_; dsimp only [resV])
        rw [hD]
        rfl
      rw [if_neg htorn] at hD
      obtain ⟨n, rfl⟩ : ∃ n : Nat, x = n := ⟨x.toNat, by omega⟩
      rw [Int.toNat_natCast] at hD
      obtain ⟨x2, hx2⟩ := get_of_lt (l := b) (i := 0) (by omega)
      obtain ⟨ad2, hAd⟩ : ∃ ad2, sadr (some ad) 1 cx 1 = some ad2 := by unfold sadr; split <;> exact ⟨_, rfl⟩
      (repeat' (first | (with_reducible refine w_seq ?_) | (with_reducible refine c_region ?_) | (with_reducible refine s_nil ?_) | (with_reducible refine q_then_n ?_) | ((with_reducible apply s_pure hF); exact rfl; exact rfl; exact rfl; (first | exact trivial | omega | exact ⟨Int.natCast_nonneg _, Int.ofNat_lt.2 (by assumption)⟩ | decide); clear hF a; intro a hF) | ((with_reducible apply s_loadF hF hM); exact rfl; exact rfl; (repeat (first | exact List.mem_cons_self | refine List.mem_cons_of_mem _ ?_)); exact rfl; exact rfl; (first | with_reducible assumption | (simp only [Int.toNat_natCast]; with_reducible assumption)); clear hF a; intro a hF) | (with_reducible refine w_skip ?_) | (with_reducible refine w_block ?_) | ((with_reducible apply c_true2 hF); exact rfl; (first | with_reducible rfl | (refine congrArg Value.bool ?_; focus (simp; done)))) | ((with_reducible apply c_dec hF); exact rfl; all_goals intro hc; all_goals (try (exfalso; omega)))))
      rw [show (((((n : Int) :: b).length : Nat) : Int)).toNat - (1 : Int).toNat = b.length by rw [hlx]; omega, show (1 : Int).toNat = 1 from rfl, hAd] at hF
      rw [hAd] at hbf
      replace hM := hM.addFact hbf
      refine c_draw (fun i => Nat.ble 10 i) hM ?_; clear hM; intro w hM
      (first | (refine t_pure (i := 0) hF rfl rfl rfl rfl (by kernel_rfl) hM.sm (fun _ _ _ h => h) ?_ ?_; (first | exact trivial | omega | decide); clear hF a; intro a hF))
      (first | (refine t_pure (i := 1) hF rfl rfl rfl rfl (by kernel_rfl) hM.sm (fun _ _ _ h => h) ?_ ?_; (first | exact trivial | omega | decide); clear hF a; intro a hF))
      (first | (refine t_pure (i := 2) hF rfl rfl rfl rfl (by kernel_rfl) hM.sm (fun _ _ _ h => h) ?_ ?_; (first | exact trivial | omega | decide); clear hF a; intro a hF))
      (first | (refine t_pure (i := 3) hF rfl rfl rfl rfl (by kernel_rfl) hM.sm (fun _ _ _ h => h) ?_ ?_; (first | exact trivial | omega | decide); clear hF a; intro a hF))
      rw [show ((0 : Int)).toNat = 0 from rfl, sadr_z, Int.toNat_natCast, Nat.sub_zero] at hF
      (first | (refine t_pure (i := 5) hF rfl rfl rfl rfl (by kernel_rfl) (hM.sm.sub (fun x hx => by repeat (first | exact hx | refine List.mem_cons_of_mem _ ?_)) (fun _ h => by repeat (first | exact h | refine List.mem_cons_of_mem _ ?_))) (fun _ _ _ h => h) ?_ ?_; (first | exact trivial | omega | decide); clear hF a; intro a hF))
      (first | (refine t_pure (i := 6) hF rfl rfl rfl rfl (by kernel_rfl) (hM.sm.sub (fun x hx => by repeat (first | exact hx | refine List.mem_cons_of_mem _ ?_)) (fun _ h => by repeat (first | exact h | refine List.mem_cons_of_mem _ ?_))) (fun _ _ _ h => h) ?_ ?_; (first | exact trivial | omega | decide); clear hF a; intro a hF))
      (first | (refine t_pure (i := 7) hF rfl rfl rfl rfl (by kernel_rfl) (hM.sm.sub (fun x hx => by repeat (first | exact hx | refine List.mem_cons_of_mem _ ?_)) (fun _ h => by repeat (first | exact h | refine List.mem_cons_of_mem _ ?_))) (fun _ _ _ h => h) ?_ ?_; (first | exact trivial | omega | decide); clear hF a; intro a hF))
      rw [Int.toNat_natCast, Int.toNat_natCast] at hF
      refine t_one (i := 4) hF rfl (by kernel_rfl) rfl ?_
      intro K hK
      (refine e_app (k := 0) (ys := (b.take n).map (Value.int .u8)) hF hM rfl rfl rfl .z (by rw [List.length_map, List.length_take]; omega) (rd_cells (hM.facts _ List.mem_cons_self) n) (one_map' _) (by omega) ⟨by omega, by omega⟩ ?_; clear hM; intro gA cap w hM; dsimp only [List.set] at hM; replace hF := hF.put (d := 78) rfl (.slice (some ⟨gA, 0, none⟩) (al.length + n) cap); generalize a.put (some 78) _ = a at *)
      refine hK _ _ (fun _ => (hM.sm.sub (fun x hx => by repeat (first | exact hx | refine List.mem_cons_of_mem _ ?_)) (fun _ h => by repeat (first | exact h | refine List.mem_cons_of_mem _ ?_)))) ?_; clear hK
      (first | (refine t_pure (i := 8) hF rfl rfl rfl rfl (by kernel_rfl) (hM.sm.sub (fun x hx => by repeat (first | exact hx | refine List.mem_cons_of_mem _ ?_)) (fun _ h => by repeat (first | exact h | refine List.mem_cons_of_mem _ ?_))) (fun _ _ _ h => h) ?_ ?_; (first | exact trivial | omega | decide); clear hF a; intro a hF))
      (first | (refine t_pure (i := 9) hF rfl rfl rfl rfl (by kernel_rfl) (hM.sm.sub (fun x hx => by repeat (first | exact hx | refine List.mem_cons_of_mem _ ?_)) (fun _ h => by repeat (first | exact h | refine List.mem_cons_of_mem _ ?_))) (fun _ _ _ h => h) ?_ ?_; (first | exact trivial | omega | decide); clear hF a; intro a hF))
      refine t_done (by kernel_rfl) ?_
      by_cases hlong : most < (al.length : Int) + n - dict.length
      · rw [if_pos hlong] at hD
        (repeat' (first | (with_reducible refine w_seq ?_) | (with_reducible refine c_region ?_) | (with_reducible refine s_nil ?_) | (with_reducible refine q_then_n ?_) | ((with_reducible apply s_pure hF); exact rfl; exact rfl; exact rfl; (first | exact trivial | omega | exact ⟨Int.natCast_nonneg _, Int.ofNat_lt.2 (by assumption)⟩ | decide); clear hF a; intro a hF) | (with_reducible refine w_ret ?_) | (with_reducible refine q_then_r ?_) | (with_reducible refine q_blk_n ?_) | (with_reducible refine q_blk_r ?_) | ((with_reducible apply c_dec hF); exact rfl; all_goals intro hc; all_goals (try (exfalso; omega)))))
        (apply f_ret Try.results22 hF hM; (repeat (first | exact RL.nil | (apply RL.tmp; exact rfl) | (apply RL.cell; exact rfl; (repeat (first | exact List.mem_cons_self | refine List.mem_cons_of_mem _ ?_)); exact rfl))); refine Ret.mk hM.since ?_; dsimp only [resV])
        rw [hD]
        rfl
      · rw [if_neg hlong] at hD
        (repeat' (first | (with_reducible refine w_seq ?_) | (with_reducible refine c_region ?_) | (with_reducible refine s_nil ?_) | (with_reducible refine q_then_n ?_) | ((with_reducible apply s_pure hF); exact rfl; exact rfl; exact rfl; (first | exact trivial | omega | exact ⟨Int.natCast_nonneg _, Int.ofNat_lt.2 (by assumption)⟩ | decide); clear hF a; intro a hF) | (with_reducible refine w_skip ?_) | (with_reducible refine q_blk_n ?_) | ((with_reducible apply c_dec hF); exact rfl; all_goals intro hc; all_goals (try (exfalso; omega)))))
        have e1 : (al ++ b.take n).length = al.length + n := by rw [List.length_append, List.length_take]; omega
        have e2 : (b.drop n).length = b.length - n := List.length_drop
        refine ⟨f, by omega, b.drop n, al ++ b.take n, sadr (some ad2) n (cx - 1) 1, some ⟨gA, 0, none⟩, cx - 1 - n, cap, hD, by omega, fun z hz => hbb z (List.mem_of_mem_drop hz), by omega, by omega, by omega, by omega, ?_, ?_⟩
        · rw [e1, e2]
          exact hF.sub (by repeat (first | exact Sub.nil | refine Sub.cons rfl (by first | with_reducible rfl | (refine congrArg (Value.int _) ?_; omega) | exact rfl) ?_))
        · rw [e1, List.map_append]
          exact (hM.addFact (RdF.drop (hM.facts _ List.mem_cons_self) n (cx - 1) hcx')).sub (.refl _) (.refl _) (by intro f hf; simp only [List.mem_cons, List.not_mem_nil, or_false] at hf; (repeat (rcases hf with rfl | hf; · (repeat (first | exact List.mem_cons_self | refine List.mem_cons_of_mem _ ?_)))); first | (subst hf; (repeat (first | exact List.mem_cons_self | refine List.mem_cons_of_mem _ ?_)); done) | (repeat (first | exact hf | refine List.mem_cons_of_mem _ ?_)))
    · rw [if_neg h127] at hD
      obtain ⟨n, hn⟩ : ∃ n : Nat, x - 124 = n := ⟨(x - 124).toNat, by omega⟩
      rw [hn, Int.toNat_natCast] at hD
      obtain ⟨ab, hAb⟩ : ∃ ab, sadr (some ad) 1 cx 1 = ab := ⟨_, rfl⟩
      rw [hAb] at hbf
      replace hM := hM.addFact hbf
      clear hbf
      (repeat' (first | (with_reducible refine w_seq ?_) | (with_reducible refine c_region ?_) | (with_reducible refine s_nil ?_) | (with_reducible refine q_then_n ?_) | ((with_reducible apply s_pure hF); exact rfl; exact rfl; exact rfl; (first | exact trivial | omega | exact ⟨Int.natCast_nonneg _, Int.ofNat_lt.2 (by assumption)⟩ | decide); clear hF a; intro a hF) | ((with_reducible apply s_loadF hF hM); exact rfl; exact rfl; (repeat (first | exact List.mem_cons_self | refine List.mem_cons_of_mem _ ?_)); exact rfl; exact rfl; (first | with_reducible assumption | (simp only [Int.toNat_natCast]; with_reducible assumption)); clear hF a; intro a hF) | (with_reducible refine w_skip ?_) | (with_reducible refine w_block ?_) | ((with_reducible apply c_true2 hF); exact rfl; (first | with_reducible rfl | (refine congrArg Value.bool ?_; focus (simp; done)))) | ((with_reducible apply c_dec hF); exact rfl; all_goals intro hc; all_goals (try (exfalso; omega)))))
      rw [show ((((x :: b).length : Nat) : Int)).toNat - (1 : Int).toNat = b.length by rw [hlx]; omega, show (1 : Int).toNat = 1 from rfl, hAb] at hF
      have hv3 := hM.factOut (f := RdF (Value.int .u8) ab b) (by (repeat (first | exact List.mem_cons_self | refine List.mem_cons_of_mem _ ?_)))
      by_cases he : (rdNum b).2.1 = 0
      · rw [if_neg (by rw [he]; simp)] at hD
        obtain ⟨d, hd2⟩ : ∃ d : Nat, (rdNum b).1 = d := ⟨(rdNum b).1.toNat, by have := (rdN_nnU 8 0 0 b (by omega) hbb).1; unfold rdNum; omega⟩
        have hdb : d ≤ 9007199254740991 := by have := (rdN_nnU 8 0 0 b (by omega) hbb).2; unfold rdNum at hd2; omega
        have hIO := Int_ok b hbb (by omega) ab (cx - 1) hcx' own _ (fun b h => hM.lt b (.inl h)) hv3 he
        rw [hd2] at hD hIO
        have hdrop : (b.drop (rdNum b).2.2).length ≤ b.length := by rw [List.length_drop]; omega
        have hdb2 : By (b.drop (rdNum b).2.2) := fun z hz => hbb z (List.mem_of_mem_drop hz)
        generalize b.drop (rdNum b).2.2 = rb at *
        (repeat (first | (with_reducible refine w_seq ?_) | (with_reducible refine c_region ?_) | (with_reducible refine s_nil ?_) | ((with_reducible apply s_callO (f := 64) hF); exact rfl; exact rfl; exact rfl; exact rfl; exact rfl; exact (hIO); clear hF a; rintro v wn a ⟨ar, cr, rfl, hO⟩ hS hF; replace hM := hM.addRows hS hO; clear hS hO; dsimp only [List.cons_append, List.nil_append] at hM) | (with_reducible refine q_then_n ?_) | ((with_reducible apply s_pure hF); exact rfl; exact rfl; exact rfl; (first | exact trivial | omega | exact ⟨Int.natCast_nonneg _, Int.ofNat_lt.2 (by assumption)⟩ | decide); clear hF a; intro a hF) | (with_reducible refine w_skip ?_) | ((with_reducible apply c_false2 hF); exact rfl; (first | with_reducible rfl | (refine congrArg Value.bool ?_; focus (simp; done))))))
        by_cases hbad : (d : Int) < 1 ∨ 4096 < (d : Int) ∨ (al.length : Int) < d
        · rw [if_pos hbad] at hD
          (repeat' (first | (with_reducible refine w_seq ?_) | (with_reducible refine c_region ?_) | (with_reducible refine s_nil ?_) | (with_reducible refine q_then_n ?_) | ((with_reducible apply s_pure hF); exact rfl; exact rfl; exact rfl; (first | exact trivial | omega | exact ⟨Int.natCast_nonneg _, Int.ofNat_lt.2 (by assumption)⟩ | decide); clear hF a; intro a hF) | (with_reducible refine w_ret ?_) | (with_reducible refine q_then_r ?_) | (with_reducible refine q_blk_r ?_) | ((with_reducible apply c_true2 hF); exact rfl; (first | with_reducible rfl | (refine congrArg Value.bool ?_; focus (simp; done)))) | ((with_reducible apply s_skip hF); exact rfl; exact rfl; clear hF a; intro a hF) | ((fail_if_success ((with_reducible refine g_known true hF ?_ ?_); focus exact rfl)); (fail_if_success ((with_reducible refine g_known false hF ?_ ?_); focus exact rfl)); (with_reducible apply g_dec hF); exact rfl; exact rfl; all_goals (clear hF; intro hc hF); all_goals (try (exfalso; omega))) | ((with_reducible apply c_dec hF); exact rfl; all_goals intro hc; all_goals (try (exfalso; omega)))))
          all_goals
            (apply f_ret Try.results22 hF hM; (repeat (first | exact RL.nil | (apply RL.tmp; exact rfl) | (apply RL.cell; exact rfl; (repeat (first | exact List.mem_cons_self | refine List.mem_cons_of_mem _ ?_)); exact rfl))); refine Ret.mk hM.since ?_; dsimp only [resV])
            rw [hD]
            rfl
        rw [if_neg hbad] at hD
        (repeat' (first | (with_reducible refine w_seq ?_) | (with_reducible refine c_region ?_) | (with_reducible refine s_nil ?_) | (with_reducible refine q_then_n ?_) | ((with_reducible apply s_pure hF); exact rfl; exact rfl; exact rfl; (first | exact trivial | omega | exact ⟨Int.natCast_nonneg _, Int.ofNat_lt.2 (by assumption)⟩ | decide); clear hF a; intro a hF) | (with_reducible refine w_skip ?_) | (with_reducible refine w_block ?_) | ((fail_if_success ((with_reducible refine g_known true hF ?_ ?_); focus exact rfl)); (fail_if_success ((with_reducible refine g_known false hF ?_ ?_); focus exact rfl)); (with_reducible apply g_dec hF); exact rfl; exact rfl; all_goals (clear hF; intro hc hF); all_goals (try (exfalso; omega))) | ((with_reducible apply c_dec hF); exact rfl; all_goals intro hc; all_goals (try (exfalso; omega)))))
        have hcapr := row_capB hM List.mem_cons_self
        replace hM := hM.freezeRow
        rw [show x - 128 + 4 = (n : Int) by omega] at hF
        rw [Int.toNat_natCast] at hD
        refine c_loop (m := n) (fun m a w' => ∃ (j : Nat) (al2 : List Int) (av2 : Option Addr) (cv2 : Nat), m + j = n ∧ al2 = copyN d j al ∧
          Fr 94 [] [(50, .int .i64 j), (49, .int .i64 n), (10, .int .i64 d), (8, .slice av2 al2.length cv2), (11, .slice ar rb.length cr), (0, .slice a1 dict.length c1), (2, .int .i64 most)] a ∧
          Mm own W [] [⟨5, 1, .slice av2 al2.length cv2, al2.length, al2.map (Value.int .u8)⟩] [RdF (Value.int .u8) ar rb] w')
          ⟨0, al, av, cv, by omega, rfl, hF.sub (by repeat (first | exact Sub.nil | refine Sub.cons rfl (by first | with_reducible rfl | (refine congrArg (Value.int _) ?_; omega) | exact rfl) ?_)), hM.sub (.refl _) (.refl _) (by intro f hf; simp only [List.mem_cons, List.not_mem_nil, or_false] at hf; (repeat (rcases hf with rfl | hf; · (repeat (first | exact List.mem_cons_self | refine List.mem_cons_of_mem _ ?_)))); first | (subst hf; (repeat (first | exact List.mem_cons_self | refine List.mem_cons_of_mem _ ?_)); done) | (repeat (first | exact hf | refine List.mem_cons_of_mem _ ?_)))⟩ ?_
        clear hF hM a hcap
        rintro m a w' ⟨j, al2, av2, cv2, hm, hal2, hF, hM⟩
        have hl2 : al2.length = al.length + j := by rw [hal2, copyN_len]
        by_cases hj : j < n
        · obtain ⟨z, hz2⟩ := get_of_lt (l := al2) (i := al2.length - d) (by omega)
          obtain ⟨g2, rfl⟩ := row_some hM List.mem_cons_self (by omega)
          have hz' : al2[((al2.length : Int) - (d : Int)).toNat]? = some z := by rw [show ((al2.length : Int) - (d : Int)).toNat = al2.length - d by omega]; exact hz2
          have hcs : copyN d (j + 1) al = al2 ++ [z] := by rw [copyN_succ, ← hal2, List.getD_eq_getElem?_getD, hz2]; rfl
          (repeat' (first | (with_reducible refine w_seq ?_) | (with_reducible refine c_region ?_) | (with_reducible refine s_nil ?_) | (with_reducible refine q_then_n ?_) | ((with_reducible apply s_pure hF); exact rfl; exact rfl; exact rfl; (first | exact trivial | omega | exact ⟨Int.natCast_nonneg _, Int.ofNat_lt.2 (by assumption)⟩ | decide); clear hF a; intro a hF) | ((with_reducible apply s_loadR hF hM); exact rfl; exact rfl; (repeat (first | exact List.mem_cons_self | refine List.mem_cons_of_mem _ ?_)); exact rfl; exact rfl; (first | with_reducible assumption | (simp only [Int.toNat_natCast]; with_reducible assumption)); clear hF a; intro a hF) | ((with_reducible apply s_lit hF hM); exact rfl; exact rfl; exact rfl; exact rfl; clear hF hM a; intro bl w a hM hF) | ((with_reducible apply s_app hF hM); exact rfl; exact rfl; exact rfl; exact rfl; (repeat (first | exact Kth.z | apply Kth.s)); exact rfl; exact rfl; exact rfl; exact rfl; omega; clear hF hM a; intro g cap w a hM hF; dsimp only [List.set] at hM) | (with_reducible refine w_skip ?_) | (with_reducible refine w_block ?_) | (with_reducible refine q_blk_n ?_) | ((with_reducible apply c_dec hF); exact rfl; all_goals intro hc; all_goals (try (exfalso; omega)))))
          refine ⟨m - 1, by omega, j + 1, al2 ++ [z], some ⟨g, 0, none⟩, cap, by omega, hcs.symm, ?_, ?_⟩
          · rw [List.length_append, List.length_singleton]
            exact hF.sub (by repeat (first | exact Sub.nil | refine Sub.cons rfl (by first | with_reducible rfl | (refine congrArg (Value.int _) ?_; omega) | exact rfl) ?_))
          · rw [List.length_append, List.length_singleton, List.map_append]
            exact hM
        · have hje : n = j := by omega
          subst hje
          rw [← hal2] at hD
          have hcap := row_capB hM List.mem_cons_self
          by_cases hlong : most < (al.length : Int) + n - dict.length
          · rw [if_pos hlong] at hD
            (repeat' (first | (with_reducible refine w_seq ?_) | (with_reducible refine c_region ?_) | (with_reducible refine s_nil ?_) | (with_reducible refine q_then_n ?_) | ((with_reducible apply s_pure hF); exact rfl; exact rfl; exact rfl; (first | exact trivial | omega | exact ⟨Int.natCast_nonneg _, Int.ofNat_lt.2 (by assumption)⟩ | decide); clear hF a; intro a hF) | (with_reducible refine w_exit ?_) | (with_reducible refine w_ret ?_) | (with_reducible refine q_then_x ?_) | (with_reducible refine q_then_r ?_) | (with_reducible refine q_blk_n ?_) | (with_reducible refine q_blk_r ?_) | (with_reducible refine q_blk_x ?_) | ((with_reducible apply c_false2 hF); exact rfl; (first | with_reducible rfl | (refine congrArg Value.bool ?_; focus (simp; done)))) | ((with_reducible apply c_dec hF); exact rfl; all_goals intro hc; all_goals (try (exfalso; omega)))))
            (apply f_ret Try.results22 hF hM; (repeat (first | exact RL.nil | (apply RL.tmp; exact rfl) | (apply RL.cell; exact rfl; (repeat (first | exact List.mem_cons_self | refine List.mem_cons_of_mem _ ?_)); exact rfl))); refine Ret.mk hM.since ?_; dsimp only [resV])
            rw [hD]
            rfl
          · rw [if_neg hlong] at hD
            (repeat' (first | (with_reducible refine w_seq ?_) | (with_reducible refine c_region ?_) | (with_reducible refine s_nil ?_) | (with_reducible refine q_then_n ?_) | ((with_reducible apply s_pure hF); exact rfl; exact rfl; exact rfl; (first | exact trivial | omega | exact ⟨Int.natCast_nonneg _, Int.ofNat_lt.2 (by assumption)⟩ | decide); clear hF a; intro a hF) | (with_reducible refine w_skip ?_) | (with_reducible refine w_exit ?_) | (with_reducible refine q_then_x ?_) | (with_reducible refine q_blk_n ?_) | (with_reducible refine q_blk_x ?_) | ((with_reducible apply c_false2 hF); exact rfl; (first | with_reducible rfl | (refine congrArg Value.bool ?_; focus (simp; done)))) | ((with_reducible apply c_dec hF); exact rfl; all_goals intro hc; all_goals (try (exfalso; omega)))))
            refine ⟨f, by omega, rb, al2, ar, av2, cr, cv2, hD, by omega, hdb2, hcapr, by omega, by omega, by omega, hF.sub (by repeat (first | exact Sub.nil | refine Sub.cons rfl (by first | with_reducible rfl | (refine congrArg (Value.int _) ?_; omega) | exact rfl) ?_)), hM⟩
      · rw [if_pos he] at hD
        have hIE := Int_err b hbb (by omega) ab (cx - 1) hcx' own _ (fun b h => hM.lt b (.inl h)) hv3 he
        (repeat' (first | (with_reducible refine w_seq ?_) | (with_reducible refine c_region ?_) | (with_reducible refine s_nil ?_) | ((with_reducible apply s_call (f := 64) hF hM); exact rfl; exact rfl; exact rfl; exact rfl; exact rfl; exact (hIE); clear hF hM a; rintro v w a rfl - hM hF) | (with_reducible refine q_then_n ?_) | ((with_reducible apply s_pure hF); exact rfl; exact rfl; exact rfl; (first | exact trivial | omega | exact ⟨Int.natCast_nonneg _, Int.ofNat_lt.2 (by assumption)⟩ | decide); clear hF a; intro a hF) | (with_reducible refine w_ret ?_) | (with_reducible refine q_then_r ?_) | (with_reducible refine q_blk_r ?_) | ((with_reducible apply c_dec hF); exact rfl; all_goals intro hc; all_goals (try (exfalso; omega)))))
        (apply f_ret Try.results22 hF hM; (repeat (first | exact RL.nil | (apply RL.tmp; exact rfl) | (apply RL.cell; exact rfl; (repeat (first | exact List.mem_cons_self | refine List.mem_cons_of_mem _ ?_)); exact rfl))); refine Ret.mk hM.since ?_; dsimp only [resV])
        rw [hD]
        rfl
end
end Go.Proofs.Ytadfdpkhehdikaa


/- Plain laws of dictionary: what is encoded is decoded. -/
namespace Go.Proofs.Ytadfdpkhehdikaa
open Go.RowKit Go.Shelf D29
theorem puts_By (n : Nat) : By (puts n) := by
  induction n using Nat.strongRecOn with
  | _ n ih =>
    by_cases h : n < 128
    · rw [puts_lt h]
      intro x hx
      simp at hx
      omega
    · rw [puts_ge h]
      intro x hx
      rcases List.mem_cons.1 hx with rfl | hx
      · omega
      · exact ih (n / 128) (by omega) x hx
theorem copyN_take {all : List Int} {d t : Nat} (hd : 1 ≤ d) (hdt : d ≤ t) : ∀ (n : Nat), t + n ≤ all.length → (∀ j, j < n → all[t - d + j]? = all[t + j]?) → copyN d n (all.take t) = all.take (t + n)
  | 0, _, _ => rfl
  | n + 1, h, hj => by
    rw [copyN_succ, copyN_take hd hdt n (by omega) (fun j h2 => hj j (by omega))]
    have hl : (all.take (t + n)).length = t + n := by rw [List.length_take]; omega
    have hx := hj n (by omega)
    have hlt : t + n < all.length := by omega
    rw [hl, ← Nat.add_assoc, List.take_add_one, List.getD_eq_getElem?_getD, List.getElem?_take, if_pos (by omega), show t + n - d = t - d + n by omega, hx, List.getElem?_eq_getElem hlt]
    rfl
theorem dcF_fuel {dl : Nat} {most : Int} : ∀ (f g : Nat) (xs al : List Int), xs.length ≤ f → xs.length ≤ g → dcF dl most f xs al = dcF dl most g xs al
  | 0, g, xs, al, h, _ => by rw [List.length_eq_zero_iff.1 (by omega : xs.length = 0), dcF_nil, dcF_nil]
  | f + 1, 0, xs, al, _, h => by rw [List.length_eq_zero_iff.1 (by omega : xs.length = 0), dcF_nil, dcF_nil]
  | f + 1, g + 1, [], al, _, _ => rfl
  | f + 1, g + 1, x :: b, al, h1, h2 => by
    have hb1 : b.length ≤ f := by simpa using h1
    have hb2 : b.length ≤ g := by simpa using h2
    rw [dcF, dcF, dcF_fuel f g (b.drop x.toNat) _ (by rw [List.length_drop]; omega) (by rw [List.length_drop]; omega), dcF_fuel f g (b.drop (rdNum b).2.2) _ (by rw [List.length_drop]; omega) (by rw [List.length_drop]; omega)]
def dc (dl : Nat) (most : Int) (xs al : List Int) : Except Int (List Int) := dcF dl most xs.length xs al
section
variable {dl : Nat} {most : Int}
theorem dc_lit (l rest al : List Int) (h1 : 1 ≤ l.length) (h2 : l.length ≤ 127) : dc dl most ((l.length : Int) :: (l ++ rest)) al = if most < (al.length : Int) + l.length - dl then .error 5 else dc dl most rest (al ++ l) := by
  unfold dc
  rw [List.length_cons, dcF, if_neg (by omega), if_pos (by omega), if_neg (by rw [List.length_append]; omega), Int.toNat_natCast, List.drop_left, List.take_left, dcF_fuel _ rest.length rest _ (by rw [List.length_append]; omega) (Nat.le_refl _)]
theorem dc_lits (rest : List Int) : ∀ (f : Nat) (l al : List Int), l.length ≤ f → (al.length : Int) - dl ≤ most → dc dl most (litsB f l ++ rest) al = if most < (al.length : Int) + l.length - dl then .error 5 else dc dl most rest (al ++ l)
  | 0, l, al, h, h2 => by
    obtain rfl : l = [] := List.length_eq_zero_iff.1 (by omega)
    rw [litsB, List.nil_append, List.append_nil, if_neg (by simp; omega)]
  | f + 1, l, al, h, h2 => by
    rw [litsB]
    by_cases e : l = []
    · subst e
      rw [if_pos rfl, List.nil_append, List.append_nil, if_neg (by simp; omega)]
    · have hp : 0 < l.length := List.length_pos_iff.2 e
      obtain ⟨q, hq⟩ : ∃ q, min l.length 127 = q := ⟨_, rfl⟩
      rw [if_neg e, hq, List.cons_append, List.append_assoc]
      have hql : (l.take q).length = q := by rw [List.length_take]; omega
      have hdl : (l.drop q).length = l.length - q := List.length_drop
      have := dc_lit (dl := dl) (most := most) (l.take q) (litsB f (l.drop q) ++ rest) al (by omega) (by omega)
      rw [hql] at this
      rw [this]
      by_cases hm : most < (al.length : Int) + q - dl
      · rw [if_pos hm, if_pos (by omega)]
      · rw [if_neg hm, dc_lits rest f (l.drop q) (al ++ l.take q) (by omega) (by rw [List.length_append, hql]; omega), List.append_assoc, List.take_append_drop, List.length_append, hql, hdl]
        have e2 : ((al.length + q : Nat) : Int) + ((l.length - q : Nat) : Int) - dl = (al.length : Int) + l.length - dl := by omega
        rw [e2]
theorem dc_litz (rest l al : List Int) (h : (al.length : Int) - dl ≤ most) : dc dl most (litz l ++ rest) al = if most < (al.length : Int) + l.length - dl then .error 5 else dc dl most rest (al ++ l) := dc_lits rest _ l al (Nat.le_refl _) h
theorem dc_match {n d : Nat} (hn : 4 ≤ n ∧ n ≤ 131) (hd : 1 ≤ d ∧ d ≤ 4096) (rest al : List Int) (hdl : d ≤ al.length) : dc dl most ((124 + n : Int) :: (puts d ++ rest)) al = if most < (al.length : Int) + n - dl then .error 5 else dc dl most rest (copyN d n al) := by
  unfold dc
  rw [List.length_cons, dcF, if_neg (by omega), if_neg (by omega), rdNum_puts (by omega)]
  simp only
  rw [if_neg (by simp), if_neg (by omega), show (124 + (n : Int) - 124) = n by omega, Int.toNat_natCast, Int.toNat_natCast, List.drop_left, dcF_fuel _ rest.length rest _ (by rw [List.length_append]; omega) (Nat.le_refl _)]
end
theorem encF_toks (all : List Int) : ∀ (f t : Nat) (toks run : List Int), encF all f t toks run = toks ++ encF all f t [] run
  | 0, t, toks, run => by rw [encF, encF, List.nil_append]
  | f + 1, t, toks, run => by
    rw [encF, encF]
    split
    · split
      · exact encF_toks all f _ toks _
      · rw [encF_toks all f _ (toks ++ litz run ++ _ ++ _), encF_toks all f _ ([] ++ litz run ++ _ ++ _)]
        simp only [List.nil_append, List.append_assoc]
    · rw [List.nil_append]
theorem best_get {all : List Int} {t : Nat} (h : (best all t).2 ≠ 0) : ∀ j, j < (best all t).2 → all[t - (best all t).1 + j]? = all[t + j]? := by
  obtain ⟨_, h2, _, _, _, _, h7⟩ := best_ok h
  intro j hj
  exact ((mlen_ge (all := all) (p := t - (best all t).1) (t := t) h2).1 (Nat.le_of_eq h7) j hj).2
theorem dc_encF {all : List Int} {dl : Nat} {most : Int} (rest : List Int) : ∀ (f t : Nat) (run al : List Int), all.length ≤ f + t → t ≤ all.length → al ++ run = all.take t → (al.length : Int) - dl ≤ most → dc dl most (encF all f t [] run ++ rest) al = if most < (all.length : Int) - dl then .error 5 else dc dl most rest all
  | 0, t, run, al, h1, h2, h3, h4 => by
    have e := congrArg List.length h3
    rw [List.length_append, List.length_take] at e
    rw [encF, List.nil_append, dc_litz _ _ _ h4, h3, List.take_of_length_le (by omega), show (al.length : Int) + run.length = all.length by omega]
  | f + 1, t, run, al, h1, h2, h3, h4 => by
    have e := congrArg List.length h3
    rw [List.length_append, List.length_take] at e
    rw [encF]
    by_cases ht : t < all.length
    · rw [if_pos ht]
      by_cases h0 : (best all t).2 = 0
      · rw [if_pos h0]
        refine dc_encF rest f (t + 1) _ al (by omega) ht ?_ h4
        rw [← List.append_assoc, h3, List.take_add_one, List.getD_eq_getElem?_getD, List.getElem?_eq_getElem ht]
        rfl
      · rw [if_neg h0]
        obtain ⟨b1, b2, b3, b4, b5, b6, _⟩ := best_ok h0
        have hg := best_get h0
        generalize (best all t).2 = n at *
        generalize (best all t).1 = d at *
        have hlt : (all.take t).length = t := by rw [List.length_take]; omega
        rw [encF_toks, List.nil_append]
        simp only [List.append_assoc]
        rw [dc_litz _ _ _ h4, h3, List.singleton_append]
        by_cases hm1 : most < (al.length : Int) + run.length - dl
        · rw [if_pos hm1, if_pos (by omega)]
        · rw [if_neg hm1, dc_match ⟨b1, b2⟩ ⟨b3, b4⟩ _ _ (by omega), hlt]
          by_cases hm2 : most < (t : Int) + n - dl
          · rw [if_pos hm2, if_pos (by omega)]
          · rw [if_neg hm2, copyN_take b3 b5 n b6 hg]
            have hl2 : (all.take (t + n)).length = t + n := by rw [List.length_take]; omega
            exact dc_encF rest f (t + n) [] (all.take (t + n)) (by omega) b6 (by rw [List.append_nil]) (by rw [hl2]; omega)
    · rw [if_neg ht, List.nil_append, dc_litz _ _ _ h4, h3, List.take_of_length_le (by omega), show (al.length : Int) + run.length = all.length by omega]
theorem dc_encD {dl : Nat} {most : Int} (dict b rest : List Int) (h : (dict.length : Int) - dl ≤ most) : dc dl most (encD dict b ++ rest) dict = if most < (dict.length : Int) + b.length - dl then .error 5 else dc dl most rest (dict ++ b) := by
  have := dc_encF (all := dict ++ b) (dl := dl) (most := most) rest b.length dict.length [] dict (by rw [List.length_append]; omega) (by rw [List.length_append]; omega) (by rw [List.append_nil, List.take_left]) h
  rw [List.length_append, Int.natCast_add] at this
  exact this
theorem decD_dc {dict y : List Int} {most : Int} (h : 0 ≤ most) : decD dict y most = finD dict.length (dc dict.length most y dict) := by
  unfold decD dc
  rw [if_neg (by omega)]
theorem dc_nil (dl : Nat) (most : Int) (al : List Int) : dc dl most [] al = .ok al := rfl
/-- What is encoded is decoded. -/
theorem decD_encD (dict b : List Int) {most : Int} (h : (b.length : Int) ≤ most) : decD dict (encD dict b) most = .ok b := by
  rw [decD_dc (by omega)]
  have := dc_encD (dl := dict.length) (most := most) dict b [] (by omega)
  rw [List.append_nil, if_neg (by omega), dc_nil] at this
  rw [this, finD, List.drop_left]
theorem litsB_By : ∀ (f : Nat) (l : List Int), By l → By (litsB f l)
  | 0, l, h => by rw [litsB]; intro x hx; cases hx
  | f + 1, l, h => by
    rw [litsB]
    split
    · intro x hx; cases hx
    · intro x hx
      rcases List.mem_cons.1 hx with rfl | hx
      · omega
      · rcases List.mem_append.1 hx with hx | hx
        · exact h.take _ x hx
        · exact litsB_By f _ (h.drop _) x hx
theorem By.app {xs ys : List Int} (h1 : By xs) (h2 : By ys) : By (xs ++ ys) := fun x hx => (List.mem_append.1 hx).elim (h1 x) (h2 x)
theorem encF_By {all : List Int} (h : By all) : ∀ (f t : Nat) (toks run : List Int), By toks → By run → By (encF all f t toks run)
  | 0, t, toks, run, h1, h2 => by rw [encF]; exact h1.app (litsB_By _ _ h2)
  | f + 1, t, toks, run, h1, h2 => by
    rw [encF]
    split
    · rename_i ht
      split
      · refine encF_By h f _ _ _ h1 (h2.app ?_)
        intro x hx
        rw [List.mem_singleton] at hx
        rw [hx, List.getD_eq_getElem?_getD, List.getElem?_eq_getElem ht]
        exact h _ (List.getElem_mem ht)
      · rename_i h0
        have := best_ok h0
        refine encF_By h f _ _ _ (((h1.app (litsB_By _ _ h2)).app ?_).app (puts_By _)) (fun x hx => by cases hx)
        intro x hx
        rw [List.mem_singleton] at hx
        omega
    · exact h1.app (litsB_By _ _ h2)
theorem encD_By {dict b : List Int} (h1 : By dict) (h2 : By b) : By (encD dict b) := encF_By (h1.app h2) _ _ _ _ (fun x hx => by cases hx) (fun x hx => by cases hx)
theorem encF_len (all : List Int) : ∀ (f t : Nat) (toks run : List Int), t ≤ all.length → (encF all f t toks run).length ≤ toks.length + 2 * run.length + 4 * (all.length - t)
  | 0, t, toks, run, _ => by
    have := litz_len run
    rw [encF, List.length_append]; omega
  | f + 1, t, toks, run, ht => by
    have h1 := litz_len run
    rw [encF]
    split
    · split
      · have := encF_len all f (t + 1) toks (run ++ [all.getD t 0]) (by omega)
        rw [List.length_append, List.length_singleton] at this
        omega
      · rename_i h0
        obtain ⟨hn4, hn131, hd1, hd2, hd3, htn, _⟩ := best_ok h0
        have hp := puts_len 2 (best all t).1 (by omega)
        have := encF_len all f (t + (best all t).2) (toks ++ litz run ++ [(124 + (best all t).2 : Int)] ++ puts (best all t).1) [] htn
        simp only [List.length_append, List.length_singleton, List.length_nil] at this
        omega
    · rw [List.length_append]; omega
theorem encD_len (dict y : List Int) : (encD dict y).length ≤ 4 * y.length := by
  have := encF_len (dict ++ y) y.length dict.length [] [] (by rw [List.length_append]; omega)
  unfold encD
  rw [List.length_append] at this
  simp only [List.length_nil] at this
  omega
end Go.Proofs.Ytadfdpkhehdikaa


/- Tokens carried over a link, compressed; streams that are small; stores that are equal. -/
namespace Go.Proofs.Ytadfdpkhehdikaa
open Go.RowKit Go.Shelf D29
namespace D29
theorem bits_u64 {op : BinOp} {x y : Int} : 0 ≤ bits op .u64 x y ∧ bits op .u64 x y < 18446744073709551616 := by
  unfold bits
  dsimp only
  rw [IntKind.wrap_u64]
  omega
theorem dg_bd (x : Dat) : 0 ≤ dg x ∧ dg x < 18446744073709551616 := by
  unfold dg dgB dgf
  exact bits_u64
/-- Tokens that stand for chunks of words: what their bytes come to. -/
theorem StL.put {ts : List Tok} {xs : List Dat} (h : StL ts xs) : (∀ x ∈ xs, W8 x ∧ x.length ≤ 120) → ((ts.map putTok).flatten).length ≤ 10 * xs.flatten.length := by
  induction h with
  | nil => intro _; simp
  | @cons t x ts xs h1 h2 ih =>
    intro hx
    obtain ⟨hx8, hxl⟩ := hx x List.mem_cons_self
    have h3 := ih fun y hy => hx y (List.mem_cons_of_mem _ hy)
    obtain ⟨hch, h1⟩ := h1
    have hx1 : 1 ≤ x.length := by
      unfold isCh at hch
      rw [decide_eq_true_eq] at hch
      exact hch.1
    have h4 : (putTok t).length ≤ 10 * x.length := by
      unfold putTok
      rcases h1 with ⟨hr, -, -⟩ | ⟨hr, -, hx⟩
      · rw [if_pos hr, List.length_cons, le_len]
        omega
      · rw [hr, if_neg (by decide), hx, List.length_cons, List.length_append, puts_lt (by omega), flat_len hx8, List.length_singleton]
        omega
    rw [List.map_cons, List.flatten_cons, List.length_append, List.flatten_cons, List.length_append]
    omega
theorem StL.len {ts : List Tok} {xs : List Dat} (h : StL ts xs) : (∀ x ∈ xs, isCh x = true) → ts.length ≤ xs.flatten.length := by
  induction h with
  | nil => intro _; simp
  | @cons t x ts xs h1 h2 ih =>
    intro hx
    have h3 := ih fun y hy => hx y (List.mem_cons_of_mem _ hy)
    have hch := hx x List.mem_cons_self
    unfold isCh at hch
    rw [decide_eq_true_eq] at hch
    rw [List.length_cons, List.flatten_cons, List.length_append]
    omega
theorem StL.wrd {ts : List Tok} {xs : List Dat} (h : StL ts xs) : (∀ x ∈ xs, W8 x) → ∀ t ∈ ts, TokW t ∧ corT t = true := by
  induction h with
  | nil => intro _ t ht; simp at ht
  | @cons t0 x ts xs h1 h2 ih =>
    intro hx t ht
    rcases List.mem_cons.1 ht with rfl | ht
    · refine ⟨?_, h1.cor⟩
      obtain ⟨hch, ⟨hr, hd, hx0⟩ | ⟨hr, hd, hx0⟩⟩ := h1
      · exact ⟨by rw [hx0]; intro s hs; simp at hs, by rw [hd]; exact dg_bd x⟩
      · exact ⟨by rw [hx0]; exact hx x List.mem_cons_self, by rw [hd]; omega⟩
    · exact ih (fun y hy => hx y (List.mem_cons_of_mem _ hy)) t ht
def totS (ls : List SP) : Nat := (ls.map fun q => q.1.length).sum
theorem totS_take {ls : List SP} {k : Nat} {q : SP} (h : ls[k]? = some q) : totS (ls.take (k + 1)) = totS (ls.take k) + q.1.length := by
  unfold totS
  rw [take_snoc h]
  simp
theorem totS_mem {ls : List SP} {q : SP} (h : q ∈ ls) : q.1.length ≤ totS ls := by
  induction ls with
  | nil => simp at h
  | cons p r ih =>
    have e : totS (p :: r) = p.1.length + totS r := by simp [totS]
    rcases List.mem_cons.1 h with rfl | h
    · omega
    · have := ih h; omega
end D29
set_option maxRecDepth 20000 in
theorem fewS_c (x y : Int) (ls : List SP) (hq : ∀ q ∈ ls, q.1.length ≤ 1000000000000000) (al ab : Option Addr) (cl nb cb : Nat) (own : Nat → Prop) (W : World) (hl : ∀ b, own b → b < W.heap.size) (h1 : Has own W (RdF encSP al ls)) :
    Calls Try.prog 6 ⟨[.agg #[.int .u8 x, .int .u8 y, .slice al ls.length cl, .slice ab nb cb]]⟩ W (Ret W fun v _ => ∃ f : Bool, v = .bool f ∧ (f = true → ls.length ≤ 21 ∧ totS ls ≤ 120 ∧ nb ≤ 30)) := by
  have hM := (Mm.start hl).known h1
  refine f_start Try.func6 rfl Try.ntmps6 rfl rfl ?_; intro a hF
  (repeat (first | (with_reducible refine w_seq ?_) | (with_reducible refine c_region ?_) | (with_reducible refine s_nil ?_) | (with_reducible refine q_then_n ?_) | ((with_reducible apply s_pure hF); exact rfl; exact rfl; exact rfl; (first | exact trivial | omega | exact ⟨Int.natCast_nonneg _, Int.ofNat_lt.2 (by assumption)⟩ | decide); clear hF a; intro a hF) | ((with_reducible apply s_load hF hM); exact rfl; exact rfl; (repeat (first | exact List.mem_cons_self | refine List.mem_cons_of_mem _ ?_)); exact rfl; exact rfl; clear hF a; intro a hF) | ((with_reducible apply s_box hF hM); exact rfl; exact rfl; exact rfl; exact rfl; clear hF hM a; intro b w a hM hF) | (with_reducible refine w_block ?_)))
  refine c_loop (m := ls.length) (fun m a w' => ∃ k n : Nat, m + k = ls.length ∧ n = totS (ls.take k) ∧ k ≤ 21 ∧ n ≤ 120 ∧
    Fr 29 [] [(9, .int .i64 k), (8, .int .i64 ls.length), (7, .slice al ls.length cl), (3, .int .i64 n), (1, .pointer (some ⟨b, 0, none⟩))] a ∧
    Mm own W [⟨b, ⟨[.int .u8 x, .int .u8 y, .slice al ls.length cl, .slice ab nb cb]⟩, 25⟩] [] [RdF encSP al ls] w') ⟨0, 0, by omega, by simp [totS], by omega, by omega, hF.sub (by repeat (first | exact Sub.nil | refine Sub.cons rfl (by first | with_reducible rfl | (refine congrArg (Value.int _) ?_; omega) | exact rfl) ?_)), hM⟩ ?_
  clear hF hM a
  rintro m a w' ⟨k, n, hm, hn, hk21, hn120, hF, hM⟩
  by_cases hk : k < ls.length
  · obtain ⟨q, hq0⟩ := get_of_lt hk
    have hqm := List.mem_of_getElem? hq0
    have hql := hq q hqm
    obtain ⟨ad, rfl⟩ : ∃ ad, al = some ad := rd_some hM (enc := encSP) (a := al) (xs := ls) (by (repeat (first | exact List.mem_cons_self | refine List.mem_cons_of_mem _ ?_))) hq0
    have ht := totS_take hq0
    obtain ⟨l, aq, cq⟩ := q
    dsimp only at hql ht
    (repeat (first | (with_reducible refine w_seq ?_) | (with_reducible refine c_region ?_) | (with_reducible refine s_nil ?_) | (with_reducible refine q_then_n ?_) | ((with_reducible apply s_pure hF); exact rfl; exact rfl; exact rfl; (first | exact trivial | omega | exact ⟨Int.natCast_nonneg _, Int.ofNat_lt.2 (by assumption)⟩ | decide); clear hF a; intro a hF)))
    rw [decide_eq_true (show (k : Int) < (ls.length : Int) by omega)] at hF
    (repeat (first | (with_reducible refine w_seq ?_) | (with_reducible refine c_region ?_) | (with_reducible refine s_nil ?_) | (with_reducible refine q_then_n ?_) | ((with_reducible apply s_pure hF); exact rfl; exact rfl; exact rfl; (first | exact trivial | omega | exact ⟨Int.natCast_nonneg _, Int.ofNat_lt.2 (by assumption)⟩ | decide); clear hF a; intro a hF) | ((with_reducible apply s_loadF hF hM); exact rfl; exact rfl; (repeat (first | exact List.mem_cons_self | refine List.mem_cons_of_mem _ ?_)); exact rfl; exact rfl; (first | with_reducible assumption | (simp only [Int.toNat_natCast]; with_reducible assumption)); clear hF a; intro a hF) | (with_reducible refine w_skip ?_) | (with_reducible refine w_block ?_) | ((with_reducible apply c_true2 hF); exact rfl; (first | with_reducible rfl | (refine congrArg Value.bool ?_; focus (simp; done))))))
    unfold encSP at hF
    dsimp only at hF
    by_cases hc : 20 < k ∨ 120 < n + l.length
    · (repeat' (first | (with_reducible refine w_seq ?_) | (with_reducible refine c_region ?_) | (with_reducible refine s_nil ?_) | (with_reducible refine q_then_n ?_) | ((with_reducible apply s_pure hF); exact rfl; exact rfl; exact rfl; (first | exact trivial | omega | exact ⟨Int.natCast_nonneg _, Int.ofNat_lt.2 (by assumption)⟩ | decide); clear hF a; intro a hF) | (with_reducible refine w_ret ?_) | (with_reducible refine q_then_r ?_) | (with_reducible refine q_blk_r ?_) | ((with_reducible apply c_true2 hF); exact rfl; (first | with_reducible rfl | (refine congrArg Value.bool ?_; focus (simp; done)))) | ((with_reducible apply s_skip hF); exact rfl; exact rfl; clear hF a; intro a hF) | ((fail_if_success ((with_reducible refine g_known true hF ?_ ?_); focus exact rfl)); (fail_if_success ((with_reducible refine g_known false hF ?_ ?_); focus exact rfl)); (with_reducible apply g_dec hF); exact rfl; exact rfl; all_goals (clear hF; intro hc hF); all_goals (try (exfalso; omega))) | ((with_reducible apply c_dec hF); exact rfl; all_goals intro hc; all_goals (try (exfalso; omega)))))
      all_goals first | (exfalso; omega) | skip
      all_goals (apply f_ret Try.results6 hF hM; (repeat (first | exact RL.nil | (apply RL.tmp; exact rfl) | (apply RL.cell; exact rfl; (repeat (first | exact List.mem_cons_self | refine List.mem_cons_of_mem _ ?_)); exact rfl))); refine Ret.mk hM.since ?_; dsimp only [resV])
      all_goals exact ⟨false, rfl, fun h => by cases h⟩
    · (repeat' (first | (with_reducible refine w_seq ?_) | (with_reducible refine c_region ?_) | (with_reducible refine s_nil ?_) | (with_reducible refine q_then_n ?_) | ((with_reducible apply s_pure hF); exact rfl; exact rfl; exact rfl; (first | exact trivial | omega | exact ⟨Int.natCast_nonneg _, Int.ofNat_lt.2 (by assumption)⟩ | decide); clear hF a; intro a hF) | (with_reducible refine w_skip ?_) | (with_reducible refine q_blk_n ?_) | ((fail_if_success ((with_reducible refine g_known true hF ?_ ?_); focus exact rfl)); (fail_if_success ((with_reducible refine g_known false hF ?_ ?_); focus exact rfl)); (with_reducible apply g_dec hF); exact rfl; exact rfl; all_goals (clear hF; intro hc hF); all_goals (try (exfalso; omega))) | ((with_reducible apply c_dec hF); exact rfl; all_goals intro hc; all_goals (try (exfalso; omega)))))
      all_goals first | (exfalso; omega) | skip
      exact ⟨m - 1, by omega, k + 1, n + l.length, by omega, by omega, by omega, by omega, hF.sub (by repeat (first | exact Sub.nil | refine Sub.cons rfl (by first | with_reducible rfl | (refine congrArg (Value.int _) ?_; omega) | exact rfl) ?_)), hM⟩
  · rw [List.take_of_length_le (by omega)] at hn
    (repeat' (first | (with_reducible refine w_seq ?_) | (with_reducible refine c_region ?_) | (with_reducible refine s_nil ?_) | (with_reducible refine q_then_n ?_) | ((with_reducible apply s_pure hF); exact rfl; exact rfl; exact rfl; (first | exact trivial | omega | exact ⟨Int.natCast_nonneg _, Int.ofNat_lt.2 (by assumption)⟩ | decide); clear hF a; intro a hF) | ((with_reducible apply s_load hF hM); exact rfl; exact rfl; (repeat (first | exact List.mem_cons_self | refine List.mem_cons_of_mem _ ?_)); exact rfl; exact rfl; clear hF a; intro a hF) | (with_reducible refine w_exit ?_) | (with_reducible refine w_ret ?_) | (with_reducible refine q_then_x ?_) | (with_reducible refine q_blk_x ?_) | ((with_reducible apply c_dec hF); exact rfl; all_goals intro hc; all_goals (try (exfalso; omega)))))
    (apply f_ret Try.results6 hF hM; (repeat (first | exact RL.nil | (apply RL.tmp; exact rfl) | (apply RL.cell; exact rfl; (repeat (first | exact List.mem_cons_self | refine List.mem_cons_of_mem _ ?_)); exact rfl))); refine Ret.mk hM.since ?_; dsimp only [resV])
    exact ⟨_, rfl, fun h => ⟨by omega, by omega, by rw [decide_eq_true_eq] at h; omega⟩⟩
set_option maxRecDepth 20000 in
theorem runCarry_c (ts : List TP) (hts : DatW (tP ts)) (htw : ∀ t ∈ tms ts, TokW t ∧ corT t = true) (hx4 : ∀ t ∈ ts, t.1.x.length ≤ 4096) (hB : (putToks (tms ts)).length ≤ 2400) (n : Nat) (hn : ts.length = n) (hn4 : n ≤ 10000) (al : Option Addr) (cl : Nat) (own : Nat → Prop) (W : World) (hl : ∀ b, own b → b < W.heap.size) (h1 : Has own W (RdF id al (cellsT ts))) (h2 : Has own W (DatF (tP ts))) :
    Calls Try.prog 9 ⟨[.slice al n cl]⟩ W (Ret W fun v w' => ∃ a1 c1, v = .tuple #[.slice a1 n c1, .bool true] ∧ TkR own (tms ts) a1 c1 w') := by
  subst hn
  have hM := ((Mm.start hl).known h2).known h1
  have e1 := fun {own W} hl h1 h2 => PutTokens_c ts hts hx4 hn4 [] (by simp) none al 0 0 ts.length cl rfl rfl own W hl RdF.nil h1 h2
  rw [List.nil_append] at e1
  have hpb := putToks_by (datw_by hts)
  have hrd := tokens_put htw (by rw [tms_len]; omega) []
  rw [List.append_nil] at hrd
  generalize putToks (tms ts) = P at *
  obtain ⟨pl, hpq⟩ : ∃ q, 0 + P.length = q := ⟨_, rfl⟩
  rw [hpq] at e1
  have hE := encD_len [] P
  have hEb := encD_By (dict := []) (b := P) (fun x hx => by cases hx) hpb
  have hdd := decD_encD [] P (most := (pl : Int)) (by omega)
  have hpl : P.length = pl := by omega
  have e2 := fun {own W} a2 c2 hl hv => EncodeD_c [] P ⟨by simp, by omega⟩ none a2 0 c2 own W hl RdF.nil hv
  rw [hpl] at e2
  generalize encD [] P = E at *
  have e3 := fun {own W} a2 c2 hc hl hv => DecodeD_c [] E hEb ⟨by simp, by omega⟩ (pl : Int) (by omega) none a2 0 c2 hc own W hl RdF.nil hv
  rw [hdd] at e3
  have e4 := fun {own W} a0 c0 hc hl hv => Tokens_c P hpb (by omega) a0 c0 hc own W hl hv
  rw [hrd] at e4
  refine f_start Try.func9 rfl Try.ntmps9 rfl rfl ?_; intro a hF
  (repeat (first | (with_reducible refine w_seq ?_) | (with_reducible refine c_region ?_) | (with_reducible refine s_nil ?_) | ((with_reducible apply s_callO (f := 39) hF); exact rfl; exact rfl; exact rfl; exact rfl; exact rfl; exact (e1 hM.lt (hM.facts (RdF id al (cellsT ts)) (by (repeat (first | with_reducible exact List.mem_cons_self | refine List.mem_cons_of_mem _ ?_)))) (hM.facts (DatF (tP ts)) (by (repeat (first | with_reducible exact List.mem_cons_self | refine List.mem_cons_of_mem _ ?_))))); clear hF a; rintro v wn a ⟨a3, c3, rfl, hO⟩ hS hF; replace hM := hM.addRows hS hO; clear hS hO; dsimp only [List.cons_append, List.nil_append] at hM; replace hM := hM.freezeN) | (with_reducible refine q_then_n ?_) | ((with_reducible apply s_pure hF); exact rfl; exact rfl; exact rfl; (first | exact trivial | omega | exact ⟨Int.natCast_nonneg _, Int.ofNat_lt.2 (by assumption)⟩ | decide); clear hF a; intro a hF)))
  (repeat (first | (with_reducible refine w_seq ?_) | (with_reducible refine c_region ?_) | (with_reducible refine s_nil ?_) | ((with_reducible apply s_callO (f := 21) hF); exact rfl; exact rfl; exact rfl; exact rfl; exact rfl; exact (e2 a3 c3 hM.lt (hM.facts (RdF (Value.int .u8) a3 P) (by (repeat (first | with_reducible exact List.mem_cons_self | refine List.mem_cons_of_mem _ ?_))))); clear hF a; rintro v wn a ⟨a4, c4, rfl, hO⟩ hS hF; replace hM := hM.addRows hS hO; clear hS hO; dsimp only [List.cons_append, List.nil_append] at hM) | (with_reducible refine q_then_n ?_) | ((with_reducible apply s_pure hF); exact rfl; exact rfl; exact rfl; (first | exact trivial | omega | exact ⟨Int.natCast_nonneg _, Int.ofNat_lt.2 (by assumption)⟩ | decide); clear hF a; intro a hF)))
  have hcap := row_capB hM List.mem_cons_self
  replace hM := hM.freezeN
  (((with_reducible apply s_call (f := 22) hF hM); exact rfl; exact rfl; exact rfl; exact rfl; exact rfl; exact (e3 a4 c4 hcap hM.lt (hM.facts (RdF (Value.int .u8) a4 E) (by (repeat (first | with_reducible exact List.mem_cons_self | refine List.mem_cons_of_mem _ ?_))))); clear hF hM a; rintro v w a ⟨a5, c5, rfl, hc5, h5⟩ - hM hF; replace hM := hM.addFact h5))
  (repeat' (first | (with_reducible refine w_seq ?_) | (with_reducible refine c_region ?_) | (with_reducible refine s_nil ?_) | (with_reducible refine q_then_n ?_) | ((with_reducible apply s_pure hF); exact rfl; exact rfl; exact rfl; (first | exact trivial | omega | exact ⟨Int.natCast_nonneg _, Int.ofNat_lt.2 (by assumption)⟩ | decide); clear hF a; intro a hF) | (with_reducible refine w_skip ?_) | ((with_reducible apply c_false2 hF); exact rfl; (first | with_reducible rfl | (refine congrArg Value.bool ?_; focus (simp; done))))))
  (((with_reducible apply s_call (f := 40) hF hM); exact rfl; exact rfl; exact rfl; exact rfl; exact rfl; exact (e4 a5 c5 hc5 hM.lt (hM.facts (RdF (Value.int .u8) a5 P) (by (repeat (first | with_reducible exact List.mem_cons_self | refine List.mem_cons_of_mem _ ?_))))); clear hF hM a; rintro v w a ⟨x1, y1, x2, y2, rfl, ⟨us, u1, u2, u3, u4, u5⟩, u6, u7⟩ - hM hF; replace hM := (hM.addFact u3).addFact u4))
  (repeat' (first | (with_reducible refine w_seq ?_) | (with_reducible refine c_region ?_) | (with_reducible refine s_nil ?_) | (with_reducible refine q_then_n ?_) | ((with_reducible apply s_pure hF); exact rfl; exact rfl; exact rfl; (first | exact trivial | omega | exact ⟨Int.natCast_nonneg _, Int.ofNat_lt.2 (by assumption)⟩ | decide); clear hF a; intro a hF) | (with_reducible refine w_ret ?_)))
  (apply f_ret Try.results9 hF hM; (repeat (first | exact RL.nil | (apply RL.tmp; exact rfl) | (apply RL.cell; exact rfl; (repeat (first | exact List.mem_cons_self | refine List.mem_cons_of_mem _ ?_)); exact rfl))); refine Ret.mk hM.since ?_; dsimp only [resV])
  exact ⟨x1, y1, by rw [tms_len]; rfl, us, u1, u2, hM.factOut (f := RdF id x1 (cellsT us)) (by (repeat (first | with_reducible exact List.mem_cons_self | refine List.mem_cons_of_mem _ ?_))), hM.factOut (f := DatF (tP us)) (by (repeat (first | with_reducible exact List.mem_cons_self | refine List.mem_cons_of_mem _ ?_))), u5⟩
end Go.Proofs.Ytadfdpkhehdikaa


/- Layer 29: the laws of the stores, and of Missing and Supply. -/
namespace Go.Proofs.Ytadfdpkhehdikaa
open Go.RowKit Go.Shelf D29
namespace D29
theorem misR_len {c : St} {l : List Tok} : (misR c l).length ≤ l.length := by
  have key : ∀ (ts : List Tok) (k o : List Int), (misI c.cap ts k o).length ≤ o.length + ts.length := by
    intro ts
    induction ts with
    | nil => intro k o; exact Nat.le_refl _
    | cons t r ih =>
      intro k o
      rw [misI]
      split
      · have := ih k o
        simp only [List.length_cons]
        omega
      · have := ih (knw c.cap k (tokD t)) (if t.r = true ∧ tokD t ∉ o then o ++ [tokD t] else o)
        simp only [List.length_cons]
        have hif : (if t.r = true ∧ tokD t ∉ o then o ++ [tokD t] else o).length ≤ o.length + 1 := by
          split
          · rw [List.length_append, List.length_singleton]; exact Nat.le_refl _
          · omega
        omega
  unfold misR
  split
  · have := key l (c.items.map (·.d)) []
    simpa using this
  · simp
end D29
end Go.Proofs.Ytadfdpkhehdikaa


/- Layer 29: the law of mirrors. -/
namespace Go.Proofs.Ytadfdpkhehdikaa
open Go.RowKit Go.Shelf D29
namespace D29
theorem enc_ok {c : St} (h : check c = 0) {n : Nat} (h1 : 1 ≤ n) (h2 : n ≤ 4096) (l : Dat) : encR c l n = .ok (encI c.cap (parts n l) c.items) := by
  unfold encR
  rw [h, if_neg (by simp), if_neg (by omega)]
  rfl
theorem dec_mir {cap : Int} {l : List Itm} (h : check ⟨cap, l⟩ = 0) {n : Nat} (h1 : 1 ≤ n) (h2 : n ≤ 4096) (x : Dat) : decR ⟨cap, l⟩ (encI cap (parts n x) l).2 = .ok ((encI cap (parts n x) l).1, x) := by
  unfold decR
  rw [h, if_neg (by simp)]
  show decI cap _ l [] = _
  rw [mirror cap (parts_ch h1 h2), List.nil_append, parts_flat h1]
end D29
end Go.Proofs.Ytadfdpkhehdikaa


/- The law TopCycleDeduplicated. -/
namespace Go.Proofs.Ytadfdpkhehdikaa
open Go.RowKit Go.Shelf D29
namespace D29
theorem parts_in {n : Nat} {l : Dat} (hn : 1 ≤ n) {x : Dat} (h : x ∈ parts n l) : (∀ s ∈ x, s ∈ l) ∧ x.length ≤ l.length := by
  have e := parts_flat (l := l) hn
  have hs := List.sublist_flatten_of_mem h
  rw [e] at hs
  exact ⟨fun s hx => hs.subset hx, hs.length_le⟩
/-- What is carried over of a list that is encoded. -/
theorem enc_carry {cap : Int} {n : Nat} (h1 : 1 ≤ n) (h2 : n ≤ 4096) {l : Dat} (hl8 : W8 l) (hl : l.length ≤ 120) (its : List Itm) : (∀ t ∈ (encI cap (parts n l) its).2, TokW t ∧ corT t = true) ∧ (putToks (encI cap (parts n l) its).2).length ≤ 2400 ∧ (encI cap (parts n l) its).2.length ≤ 120 := by
  have hch := parts_ch (l := l) h1 h2
  have hs : StL (encI cap (parts n l) its).2 (parts n l) := enc_stl hch
  have hw : ∀ x ∈ parts n l, W8 x ∧ x.length ≤ 120 := fun x hx => by
    obtain ⟨q1, q2⟩ := parts_in h1 hx
    exact ⟨fun s hs => hl8 s (q1 s hs), by omega⟩
  have e1 := hs.put hw
  have e2 := hs.len hch
  rw [parts_flat h1] at e1 e2
  refine ⟨hs.wrd fun x hx => (hw x hx).1, ?_, by omega⟩
  have hp0 := puts_len 7 (encI cap (parts n l) its).2.length (by omega)
  unfold putToks
  rw [List.length_append]
  omega
end D29
end Go.Proofs.Ytadfdpkhehdikaa


/- Layer 29: the laws' own functions: chunks, collide. -/
namespace Go.Proofs.Ytadfdpkhehdikaa
open Go.RowKit Go.Shelf D29
section
variable {n : Nat} {ds : List Deferred} {l : List (Nat × Value)} {a : Act} {w : World} {os rest : List Oper} {Q : Exit → Act → World → Prop} {d : Nat} {ty : TypeId} {pos : String} {af : Array Edge} {g : Option (Nat × Bool)}
theorem s_neB {t t' : TypeId} {X Y : Operand} {x y : Bool} (hF : Fr n ds l a) (hg : wantO os l g = some true) (hX : ev l X = some (.bool x)) (hY : ev l Y = some (.bool y)) (hu : Try.prog.underlying t = some .bool) (hq : Try.prog.eqGuardType Try.prog.depth t = false) (hd : Nat.blt d n = true)
    (kk : ∀ a, Fr n ds ((d, .bool (decide (x ≠ y))) :: l) a → wl ⟨os⟩ Q rest a w) : wl ⟨os⟩ Q (⟨some d, .binOp .neq t X Y t', ty, pos, af, g⟩ :: rest) a w :=
  s_op hF hg fun _ hK => upon_value (e_neB hF hX hY hu hq w) (hK _ _ (kk _ (hF.put hd _)))
end
namespace D29
/-- A store in a slice of stores. -/
abbrev SL := Int × List P × Option Addr × Nat
abbrev stC (s : SL) : List Value := [.int .i64 s.1, .slice s.2.2.1 s.2.1.length s.2.2.2]
def StF (S : List SL) : World → Prop := fun w => ∀ s ∈ S, RdF id s.2.2.1 (cellsP s.2.1) w ∧ DatF s.2.1 w
theorem StF.all {own : Nat → Prop} {w : World} : ∀ {S : List SL}, (∀ s ∈ S, Has own w (RdF id s.2.2.1 (cellsP s.2.1)) ∧ Has own w (DatF s.2.1)) → Has own w (StF S)
  | [], _ => Has.pure fun _ p hp => by simp at hp
  | p :: l, h => (((h p List.mem_cons_self).1.and (h p List.mem_cons_self).2).and (StF.all fun q hq => h q (List.mem_cons_of_mem _ hq))).imp fun w h q hq => by
    rcases List.mem_cons.1 hq with rfl | hq
    · exact h.1
    · exact h.2 q hq
theorem StF.one {own : Nat → Prop} {w : World} {S : List SL} (h : Has own w (StF S)) {s : SL} (hs : s ∈ S) : Has own w (RdF id s.2.2.1 (cellsP s.2.1)) ∧ Has own w (DatF s.2.1) := ⟨h.imp fun _ k => (k s hs).1, h.imp fun _ k => (k s hs).2⟩
theorem DatF.app {own : Nat → Prop} {w : World} {l m : List P} (h : Has own w (DatF l)) (k : Has own w (DatF m)) : Has own w (DatF (l ++ m)) := (h.and k).imp fun w h q hq => by
  rcases List.mem_append.1 hq with hq | hq
  · exact h.1 q hq
  · exact h.2 q hq
theorem DatW.app {l m : List P} (h : DatW l) (k : DatW m) : DatW (l ++ m) := fun q hq => by
  rcases List.mem_append.1 hq with hq | hq
  · exact h q hq
  · exact k q hq
end D29
section
variable (l : Dat) (hl8 : W8 l) (hlb : By8 l) (al : Option Addr) (cl nl : Nat) (hnl : l.length = nl) (hnl4 : nl ≤ 4096) (hcl : nl ≤ cl) (n : Nat) (hn : 1 ≤ n ∧ n ≤ 4096) (S : List SL) (ns : Nat) (hns : S.length = ns) (hS2 : ns ≤ 2) (hS : ∀ s ∈ S, DatW s.2.1 ∧ s.2.1.length ≤ 4096) (asl : Option Addr) (cs : Nat)
  (own : Nat → Prop) (W : World) (hl : ∀ b, own b → b < W.heap.size) (hx : Has own W (RdF (Value.int .u8) al l.flatten)) (hs : Has own W (RdF id asl (S.map stC).flatten)) (hs2 : Has own W (StF S))
include hl8 hlb hnl hnl4 hcl hn hns hS2 hS hl hx hs hs2
end
section
variable (ps : List P) (a0 : Option Addr) (c0 n : Nat) (hn : ps.length = n) (hlen : n ≤ 100000) (hDW : DatW ps) (hpx : ∀ p ∈ ps, p.1.x.length ≤ 100000) (hc0 : n ≤ c0)
  (own : Nat → Prop) (W : World) (hl : ∀ b, own b → b < W.heap.size) (h1 : Has own W (RdF id a0 (cellsP ps))) (h2 : Has own W (DatF ps))
include hn hlen hDW hpx hc0 hl h1 h2
end
end Go.Proofs.Ytadfdpkhehdikaa


/- Layer 29: the law of what is recovered. -/
namespace Go.Proofs.Ytadfdpkhehdikaa
open Go.RowKit Go.Shelf D29
namespace D29
theorem StL.cor {ts : List Tok} {xs : List Dat} (h : StL ts xs) : ∀ t ∈ ts, corT t = true := by
  induction h with
  | nil => intro t ht; simp at ht
  | cons h1 h2 ih =>
    intro t ht
    rcases List.mem_cons.1 ht with rfl | ht
    · exact h1.cor
    · exact ih t ht
theorem StL.ref {ts : List Tok} {xs : List Dat} (h : StL ts xs) : ∀ t ∈ ts, t.r = true → ∃ x ∈ xs, t.d = dg x := by
  induction h with
  | nil => intro t ht; simp at ht
  | @cons t0 x0 ts xs h1 h2 ih =>
    intro t ht hr
    rcases List.mem_cons.1 ht with rfl | ht
    · obtain ⟨_, ⟨a, b, c⟩ | ⟨a, b, c⟩⟩ := h1
      · exact ⟨x0, List.mem_cons_self, b⟩
      · rw [hr] at a; cases a
    · obtain ⟨x, hx, e⟩ := ih t ht hr
      exact ⟨x, List.mem_cons_of_mem _ hx, e⟩
theorem StL.nany {ts : List Tok} {xs : List Dat} (h : StL ts xs) : (ts.any fun t => !corT t) = false := by
  rw [List.any_eq_false]
  intro t ht
  rw [h.cor t ht]
  simp
end D29
end Go.Proofs.Ytadfdpkhehdikaa


/- Chunks of lists; whether they collide; which chunks are supplied. -/
namespace Go.Proofs.Ytadfdpkhehdikaa
open Go.RowKit Go.Shelf D29
section
variable {n : Nat} {ds : List Deferred} {l : List (Nat × Value)} {a : Act} {w : World} {d : Nat} {ty : TypeId} {pos : String} {af : Array Edge} {g : Option (Nat × Bool)}
theorem e_neS {t t' : TypeId} {X Y : Operand} {xs ys : List Int} (hF : Fr n ds l a) (hX : ev l X = some (.string (strOfNums xs))) (hY : ev l Y = some (.string (strOfNums ys))) (hg : Try.prog.eqGuardType Try.prog.depth t = false) (hx : ∀ x ∈ xs, 0 ≤ x ∧ x < 256) (hy : ∀ y ∈ ys, 0 ≤ y ∧ y < 256) (w : World) {dst : Option Tmp} :
    (execOp a.eval ⟨dst, .binOp .neq t X Y t', ty, pos, af, g⟩).run Try.prog w = .ok (.value (.bool (decide (xs ≠ ys)))) w := by
  simp [execOp, hF.eval hX, hF.eval hY, eqGuard, Sem.run_bind, Result.andThen, hg, binOp, Op.stringOp, bne, strOf_beq hx hy]
end
namespace D29
theorem flat_inj : ∀ {x y : Dat}, W8 x → W8 y → x.flatten = y.flatten → x = y
  | [], [], _, _, _ => rfl
  | [], t :: y, _, hy, h => by
    have := congrArg List.length h
    rw [List.flatten_cons, List.length_append, hy t List.mem_cons_self] at this
    simp at this
    omega
  | s :: x, [], hx, _, h => by
    have := congrArg List.length h
    rw [List.flatten_cons, List.length_append, hx s List.mem_cons_self] at this
    simp at this
  | s :: x, t :: y, hx, hy, h => by
    rw [List.flatten_cons, List.flatten_cons] at h
    obtain ⟨h1, h2⟩ := List.append_inj h (by rw [hx s List.mem_cons_self, hy t List.mem_cons_self])
    rw [h1, flat_inj (fun y h => hx y (List.mem_cons_of_mem _ h)) (fun z h => hy z (List.mem_cons_of_mem _ h)) h2]
theorem sP_app (l m : List SP) : sP (l ++ m) = sP l ++ sP m := by simp [sP]
theorem sms_app (l m : List SP) : sms (l ++ m) = sms l ++ sms m := by simp [sms]
theorem dat_sp {own : Nat → Prop} {w : World} {l : List SP} (h : Has own w (DatF (sP l))) {q : SP} (hq : q ∈ l) : Has own w (RdF (Value.int .u8) q.2.1 q.1.flatten) := dat_one h (p := ((⟨0, q.1⟩ : Itm), q.2)) (List.mem_map.2 ⟨q, hq, rfl⟩)
/-- The chunks of lists. -/
def chL (n : Nat) (ls : List Dat) : List Dat := (ls.map (parts n)).flatten
end D29
section
variable (ls : List SP) (hls : DatW (sP ls)) (ht : totS ls ≤ 120) (hl21 : ls.length ≤ 21) (al : Option Addr) (cl : Nat) (own : Nat → Prop) (W : World) (hl : ∀ b, own b → b < W.heap.size) (h1 : Has own W (RdF encSP al ls)) (h2 : Has own W (DatF (sP ls)))
include hls ht hl21 hl h1 h2
set_option maxRecDepth 20000 in
set_option maxHeartbeats 4000000 in
theorem runChunks_c (n : Nat) (hn : 1 ≤ n ∧ n ≤ 4096) : Calls Try.prog 13 ⟨[.slice al ls.length cl, .int .i64 n]⟩ W (Ret W fun v w' => ∃ (a : Option Addr) (c : Nat) (outs : List SP), v = .slice a outs.length c ∧ sms outs = chL n (sms ls) ∧ outs.length ≤ 120 ∧ DatW (sP outs) ∧ Has own w' (RdF encSP a outs) ∧ Has own w' (DatF (sP outs))) := by
  have hM := ((Mm.start hl).known h2).known h1
  refine f_start Try.func13 rfl Try.ntmps13 rfl rfl ?_; intro a hF
  (repeat (first | (with_reducible refine w_seq ?_) | (with_reducible refine c_region ?_) | (with_reducible refine s_nil ?_) | (with_reducible refine q_then_n ?_) | ((with_reducible apply s_pure hF); exact rfl; exact rfl; exact rfl; (first | exact trivial | omega | exact ⟨Int.natCast_nonneg _, Int.ofNat_lt.2 (by assumption)⟩ | decide); clear hF a; intro a hF) | (with_reducible refine w_block ?_)))
  have hrow := (hM.nilRow 33 1).addFact (f := DatF (sP [])) (Has.pure fun _ p hp => by simp [sP] at hp)
  refine c_loop (m := ls.length) (fun m a w' => ∃ (k : Nat) (outs : List SP) (ov : Value) (q : Nat), m + k = ls.length ∧ outs.length = q ∧ q ≤ totS (ls.take k) ∧ sms outs = chL n (sms (ls.take k)) ∧ DatW (sP outs) ∧
    Fr 33 [] [(11, .int .i64 k), (10, .int .i64 ls.length), (9, .slice al ls.length cl), (5, ov), (1, .int .i64 n)] a ∧
    Mm own W [] [⟨33, 1, ov, q, outs.map encSP⟩] [DatF (sP outs), RdF encSP al ls, DatF (sP ls)] w')
    ⟨0, [], _, 0, by omega, rfl, by omega, rfl, fun p hp => by simp [sP] at hp, hF.sub (by repeat (first | exact Sub.nil | refine Sub.cons rfl (by first | with_reducible rfl | (refine congrArg (Value.int _) ?_; omega) | exact rfl) ?_)), hrow.sub (.refl _) (.refl _) (fun f hf => by simp only [List.mem_cons, List.not_mem_nil, or_false] at hf ⊢; rcases hf with h | h | h <;> simp [h])⟩ ?_
  clear hF hM hrow a
  rintro m a w' ⟨k, outs, ov, q, hm, hol, hqt, hos, how, hF, hM⟩
  by_cases hk : k < ls.length
  · obtain ⟨x, hx⟩ := get_of_lt hk
    have hxm := List.mem_of_getElem? hx
    obtain ⟨hx8, hxc, hxb⟩ := hls ((⟨0, x.1⟩ : Itm), x.2) (List.mem_map.2 ⟨x, hxm, rfl⟩)
    have hxr := dat_sp (hM.facts (DatF (sP ls)) (by (repeat (first | with_reducible exact List.mem_cons_self | refine List.mem_cons_of_mem _ ?_)))) hxm
    have htk := totS_take hx
    have htl : totS (ls.take (k + 1)) ≤ totS ls := by
      have : totS ls = totS (ls.take (k + 1)) + totS (ls.drop (k + 1)) := by
        unfold totS
        rw [← List.sum_append, ← List.map_append, List.take_append_drop]
      omega
    have hch : chL n (sms (ls.take (k + 1))) = chL n (sms (ls.take k)) ++ parts n x.1 := by
      rw [take_snoc hx, sms_app]
      simp [chL, sms]
    obtain ⟨ad, rfl⟩ : ∃ ad, al = some ad := rd_some hM (enc := encSP) (a := al) (xs := ls) (by (repeat (first | exact List.mem_cons_self | refine List.mem_cons_of_mem _ ?_))) hx
    obtain ⟨x, ax, cx⟩ := x
    dsimp only at hx8 hxc hxb hxr htk hch
    replace hM := hM.addFact hxr
    (repeat (first | (with_reducible refine w_seq ?_) | (with_reducible refine c_region ?_) | (with_reducible refine s_nil ?_) | (with_reducible refine q_then_n ?_) | ((with_reducible apply s_pure hF); exact rfl; exact rfl; exact rfl; (first | exact trivial | omega | exact ⟨Int.natCast_nonneg _, Int.ofNat_lt.2 (by assumption)⟩ | decide); clear hF a; intro a hF)))
    rw [decide_eq_true (show (k : Int) < (ls.length : Int) by omega)] at hF
    (repeat (first | (with_reducible refine w_seq ?_) | (with_reducible refine c_region ?_) | (with_reducible refine s_nil ?_) | (with_reducible refine q_then_n ?_) | ((with_reducible apply s_pure hF); exact rfl; exact rfl; exact rfl; (first | exact trivial | omega | exact ⟨Int.natCast_nonneg _, Int.ofNat_lt.2 (by assumption)⟩ | decide); clear hF a; intro a hF) | ((with_reducible apply s_loadF hF hM); exact rfl; exact rfl; (repeat (first | exact List.mem_cons_self | refine List.mem_cons_of_mem _ ?_)); exact rfl; exact rfl; (first | with_reducible assumption | (simp only [Int.toNat_natCast]; with_reducible assumption)); clear hF a; intro a hF) | (with_reducible refine w_skip ?_) | (with_reducible refine w_block ?_) | ((with_reducible apply c_true2 hF); exact rfl; (first | with_reducible rfl | (refine congrArg Value.bool ?_; focus (simp; done))))))
    unfold encSP at hF
    dsimp only at hF
    refine c_loop (m := x.length) (fun f a w' => ∃ (y : Dat) (ay : Option Addr) (cy : Nat) (outs : List SP) (ov : Value) (q : Nat), y.length ≤ f ∧ W8 y ∧ By8 y ∧ y.length ≤ cy ∧ chL n (sms (ls.take (k + 1))) = sms outs ++ parts n y ∧ outs.length = q ∧ q + y.length ≤ totS (ls.take (k + 1)) ∧ DatW (sP outs) ∧
      Fr 33 [] [(7, .slice ay y.length cy), (11, .int .i64 k), (10, .int .i64 ls.length), (9, .slice (some ad) ls.length cl), (5, ov), (1, .int .i64 n)] a ∧
      Mm own W [] [⟨33, 1, ov, q, outs.map encSP⟩] [RdF (Value.int .u8) ay y.flatten, DatF (sP outs), RdF encSP (some ad) ls, DatF (sP ls)] w')
      ⟨x, ax, cx, outs, ov, q, Nat.le_refl _, hx8, hxb, hxc, by rw [hch, hos], hol, by omega, how, hF.sub (by repeat (first | exact Sub.nil | refine Sub.cons rfl (by first | with_reducible rfl | (refine congrArg (Value.int _) ?_; omega) | exact rfl) ?_)), hM⟩ ?_
    clear hF hM a hxr hos how hol hqt
    rintro f a w' ⟨y, ay, cy, outs, ov, q, hyf, hy8, hyb, hyc, hcy, hol, hqt, how, hF, hM⟩
    by_cases hy0 : 0 < y.length
    · obtain ⟨e, he⟩ : ∃ e, (y.take n).length = e := ⟨_, rfl⟩
      have he2 : e = min n y.length := by rw [← he, List.length_take]
      have hmin : min (n : Int) (y.length : Int) = (e : Int) := by omega
      have hdl : (y.drop n).length = y.length - e := by rw [List.length_drop]; omega
      have hd : y.drop n = y.drop e := by
        by_cases h : n ≤ y.length
        · rw [show e = n by omega]
        · rw [List.drop_of_length_le (by omega), List.drop_of_length_le (by omega)]
      have f1 := take_rd (hM.facts (RdF (Value.int .u8) ay y.flatten) (by (repeat (first | with_reducible exact List.mem_cons_self | refine List.mem_cons_of_mem _ ?_)))) n
      have f2 := drop_rd hy8 (hM.facts (RdF (Value.int .u8) ay y.flatten) (by (repeat (first | with_reducible exact List.mem_cons_self | refine List.mem_cons_of_mem _ ?_)))) e cy hyc
      rw [← hd] at f2
      rw [parts_cons hn.1 hy0] at hcy
      have hs1 : Value.slice (sadr ay (Int.toNat 0) cy 8) ((e : Int).toNat - Int.toNat 0) (cy - Int.toNat 0) = .slice ay e cy := by
        rw [show Int.toNat 0 = 0 from rfl, sadr_zero, Int.toNat_natCast]
        rfl
      have hs2 : Value.slice (sadr ay (e : Int).toNat cy 8) (((y.length : Nat) : Int).toNat - (e : Int).toNat) (cy - (e : Int).toNat) = .slice (sadr ay e cy 8) (y.drop n).length (cy - e) := by
        rw [Int.toNat_natCast, Int.toNat_natCast, hdl]
      replace hM := (hM.addFact f1).addFact f2
      (repeat' (first | (with_reducible refine w_seq ?_) | (with_reducible refine c_region ?_) | (with_reducible refine s_nil ?_) | (with_reducible refine q_then_n ?_) | ((with_reducible apply s_pure hF); exact rfl; exact rfl; exact rfl; (first | exact trivial | omega | exact ⟨Int.natCast_nonneg _, Int.ofNat_lt.2 (by assumption)⟩ | decide); clear hF a; intro a hF) | (with_reducible refine w_skip ?_) | (with_reducible refine w_block ?_) | ((with_reducible apply c_dec hF); exact rfl; all_goals intro hc; all_goals (try (exfalso; omega)))))
      rw [hmin] at hF
      refine c_draw (fun i => Nat.ble 11 i) hM ?_; clear hM; intro w hM
      (first | (refine t_pure (i := 0) hF rfl rfl rfl rfl (by kernel_rfl) hM.sm (fun _ _ _ h => h) ?_ ?_; (first | exact trivial | omega | decide); clear hF a; intro a hF))
      (first | (refine t_pure (i := 1) hF rfl rfl rfl rfl (by kernel_rfl) hM.sm (fun _ _ _ h => h) ?_ ?_; (first | exact trivial | omega | decide); clear hF a; intro a hF))
      (first | (refine t_pure (i := 2) hF rfl rfl rfl rfl (by kernel_rfl) hM.sm (fun _ _ _ h => h) ?_ ?_; (first | exact trivial | omega | decide); clear hF a; intro a hF))
      (first | (refine t_pure (i := 3) hF rfl rfl rfl rfl (by kernel_rfl) hM.sm (fun _ _ _ h => h) ?_ ?_; (first | exact trivial | omega | decide); clear hF a; intro a hF))
      rw [hs1] at hF
      (first | (refine t_pure (i := 6) hF rfl rfl rfl rfl (by kernel_rfl) (hM.sm.sub (fun x hx => by repeat (first | exact hx | refine List.mem_cons_of_mem _ ?_)) (fun _ h => by repeat (first | exact h | refine List.mem_cons_of_mem _ ?_))) (fun _ _ _ h => h) ?_ ?_; (first | exact trivial | omega | decide); clear hF a; intro a hF))
      (first | (refine t_pure (i := 7) hF rfl rfl rfl rfl (by kernel_rfl) (hM.sm.sub (fun x hx => by repeat (first | exact hx | refine List.mem_cons_of_mem _ ?_)) (fun _ h => by repeat (first | exact h | refine List.mem_cons_of_mem _ ?_))) (fun _ _ _ h => h) ?_ ?_; (first | exact trivial | omega | decide); clear hF a; intro a hF))
      (first | (refine t_pure (i := 8) hF rfl rfl rfl rfl (by kernel_rfl) (hM.sm.sub (fun x hx => by repeat (first | exact hx | refine List.mem_cons_of_mem _ ?_)) (fun _ h => by repeat (first | exact h | refine List.mem_cons_of_mem _ ?_))) (fun _ _ _ h => h) ?_ ?_; (first | exact trivial | omega | decide); clear hF a; intro a hF))
      rw [hs2] at hF
      refine t_one (i := 4) hF rfl (by kernel_rfl) rfl ?_
      intro K hK
      (refine x_lit hF hM rfl rfl rfl ?_; clear hF hM a; intro bl w a hM hF)
      refine hK _ _ (fun _ => (hM.sm.sub (fun x hx => by repeat (first | exact hx | refine List.mem_cons_of_mem _ ?_)) (fun _ h => by repeat (first | exact h | refine List.mem_cons_of_mem _ ?_)))) ?_; clear hK
      refine t_one (i := 5) hF rfl (by kernel_rfl) rfl ?_
      intro K hK
      (apply x_app hF hM rfl rfl rfl; (repeat (first | exact List.mem_cons_self | refine List.mem_cons_of_mem _ ?_)); (repeat (first | exact Kth.z | apply Kth.s)); exact rfl; exact rfl; exact rfl; exact rfl; omega; clear hF hM a; intro g cap w a hM hF; dsimp only [List.set] at hM)
      refine hK _ _ (fun _ => (hM.sm.sub (fun x hx => by repeat (first | exact hx | refine List.mem_cons_of_mem _ ?_)) (fun _ h => by repeat (first | exact h | refine List.mem_cons_of_mem _ ?_)))) ?_; clear hK
      (first | (refine t_pure (i := 9) hF rfl rfl rfl rfl (by kernel_rfl) (hM.sm.sub (fun x hx => by repeat (first | exact hx | refine List.mem_cons_of_mem _ ?_)) (fun _ h => by repeat (first | exact h | refine List.mem_cons_of_mem _ ?_))) (fun _ _ _ h => h) ?_ ?_; (first | exact trivial | omega | decide); clear hF a; intro a hF))
      (first | (refine t_pure (i := 10) hF rfl rfl rfl rfl (by kernel_rfl) (hM.sm.sub (fun x hx => by repeat (first | exact hx | refine List.mem_cons_of_mem _ ?_)) (fun _ h => by repeat (first | exact h | refine List.mem_cons_of_mem _ ?_))) (fun _ _ _ h => h) ?_ ?_; (first | exact trivial | omega | decide); clear hF a; intro a hF))
      refine t_done (by kernel_rfl) ?_
      (repeat' (first | (with_reducible refine q_then_n ?_) | (with_reducible refine q_blk_n ?_)))
      have hD := DatF.snoc (p := ((⟨0, y.take n⟩ : Itm), ay, cy)) (hM.facts (DatF (sP outs)) (by (repeat (first | with_reducible exact List.mem_cons_self | refine List.mem_cons_of_mem _ ?_)))) (hM.facts (RdF (Value.int .u8) ay (y.take n).flatten) (by (repeat (first | with_reducible exact List.mem_cons_self | refine List.mem_cons_of_mem _ ?_))))
      have hce : (outs ++ [((y.take n : Dat), ay, cy)]).map encSP = outs.map encSP ++ [.slice ay e cy] := by rw [List.map_append, ← he]; rfl
      refine ⟨f - 1, by omega, y.drop n, sadr ay e cy 8, cy - e, outs ++ [((y.take n : Dat), ay, cy)], .slice (some ⟨g, 0, none⟩) (q + 1) cap, q + 1, by omega, fun s hs => hy8 s (List.mem_of_mem_drop hs), fun s hs => hyb s (List.mem_of_mem_drop hs), by omega, ?_, by simp; omega, by omega, ?_, hF.sub (by repeat (first | exact Sub.nil | refine Sub.cons rfl (by first | with_reducible rfl | (refine congrArg (Value.int _) ?_; omega) | exact rfl) ?_)), ?_⟩
      · rw [hcy, sms_app, List.append_assoc]
        rfl
      · rw [sP_app]
        exact how.snoc ⟨fun s hs => hy8 s (List.mem_of_mem_take hs), by show (y.take n).length ≤ cy; omega, fun s hs => hyb s (List.mem_of_mem_take hs)⟩
      · rw [hce, sP_app]
        exact (hM.addFact hD).sub (by first | exact .refl _ | exact .cons _ (.refl _)) (.refl _) (fun f hf => by simp only [List.mem_cons, List.not_mem_nil, or_false] at hf ⊢; rcases hf with h | h | h | h <;> simp [h, sP])
    · obtain rfl : y = [] := List.eq_nil_of_length_eq_zero (by omega)
      rw [parts_nil n hn.1, List.append_nil] at hcy
      (repeat' (first | (with_reducible refine w_seq ?_) | (with_reducible refine c_region ?_) | (with_reducible refine s_nil ?_) | (with_reducible refine q_then_n ?_) | ((with_reducible apply s_pure hF); exact rfl; exact rfl; exact rfl; (first | exact trivial | omega | exact ⟨Int.natCast_nonneg _, Int.ofNat_lt.2 (by assumption)⟩ | decide); clear hF a; intro a hF) | (with_reducible refine w_exit ?_) | (with_reducible refine q_then_x ?_) | (with_reducible refine q_blk_n ?_) | (with_reducible refine q_blk_x ?_) | ((with_reducible apply c_false2 hF); exact rfl; (first | with_reducible rfl | (refine congrArg Value.bool ?_; focus (simp; done))))))
      refine ⟨m - 1, by omega, k + 1, outs, ov, q, by omega, hol, by simpa using hqt, hcy.symm, how, hF.sub (by repeat (first | exact Sub.nil | refine Sub.cons rfl (by first | with_reducible rfl | (refine congrArg (Value.int _) ?_; omega) | exact rfl) ?_)), ?_⟩
      exact hM.sub (.refl _) (.refl _) (fun f hf => List.mem_cons_of_mem _ hf)
  · obtain rfl : k = ls.length := by omega
    rw [List.take_of_length_le (Nat.le_refl _)] at hos hqt
    obtain ⟨av, cv, rfl, hcv, -⟩ := OffR.shape hM (k := 0) rfl (OffR.plain hM List.mem_cons_self)
    replace hM := Mm.freezeN hM
    (repeat' (first | (with_reducible refine w_seq ?_) | (with_reducible refine c_region ?_) | (with_reducible refine s_nil ?_) | (with_reducible refine q_then_n ?_) | ((with_reducible apply s_pure hF); exact rfl; exact rfl; exact rfl; (first | exact trivial | omega | exact ⟨Int.natCast_nonneg _, Int.ofNat_lt.2 (by assumption)⟩ | decide); clear hF a; intro a hF) | (with_reducible refine w_exit ?_) | (with_reducible refine w_ret ?_) | (with_reducible refine q_then_x ?_) | (with_reducible refine q_blk_x ?_) | ((with_reducible apply c_false2 hF); exact rfl; (first | with_reducible rfl | (refine congrArg Value.bool ?_; focus (simp; done))))))
    (apply f_ret Try.results13 hF hM; (repeat (first | exact RL.nil | (apply RL.tmp; exact rfl) | (apply RL.cell; exact rfl; (repeat (first | exact List.mem_cons_self | refine List.mem_cons_of_mem _ ?_)); exact rfl))); refine Ret.mk hM.since ?_; dsimp only [resV])
    exact ⟨av, cv, outs, by rw [hol], hos, by omega, how, hM.factOut (by (repeat (first | with_reducible exact List.mem_cons_self | refine List.mem_cons_of_mem _ ?_))), hM.factOut (by (repeat (first | with_reducible exact List.mem_cons_self | refine List.mem_cons_of_mem _ ?_)))⟩
end
section
variable (cs : List SP) (hcs : DatW (sP cs)) (hcx : ∀ q ∈ cs, q.1.length ≤ 4096) (n : Nat) (hn : cs.length = n) (hn4 : n ≤ 10000) (ac : Option Addr) (cc : Nat) (own : Nat → Prop) (W : World) (hl : ∀ b, own b → b < W.heap.size) (h1 : Has own W (RdF encSP ac cs)) (h2 : Has own W (DatF (sP cs)))
include hcs hcx hn hn4 hl h1 h2
set_option maxRecDepth 20000 in
set_option maxHeartbeats 4000000 in
theorem Collides_c : Calls Try.prog 14 ⟨[.slice ac n cc]⟩ W (Ret W fun v _ => ∃ f : Bool, v = .bool f ∧ (f = false → ∀ x ∈ sms cs, ∀ y ∈ sms cs, dg x = dg y → x = y)) := by
  have hM := ((Mm.start hl).known h2).known h1
  subst hn
  refine f_start Try.func14 rfl Try.ntmps14 rfl rfl ?_; intro a hF
  (repeat (first | (with_reducible refine w_seq ?_) | (with_reducible refine c_region ?_) | (with_reducible refine s_nil ?_) | (with_reducible refine q_then_n ?_) | ((with_reducible apply s_pure hF); exact rfl; exact rfl; exact rfl; (first | exact trivial | omega | exact ⟨Int.natCast_nonneg _, Int.ofNat_lt.2 (by assumption)⟩ | decide); clear hF a; intro a hF) | (with_reducible refine w_block ?_)))
  refine c_loop (m := cs.length) (fun m a w' => ∃ k : Nat, m + k = cs.length ∧ (∀ x ∈ sms (cs.take k), ∀ y ∈ sms (cs.take k), dg x = dg y → x = y) ∧
    Fr 42 [] [(3, .int .i64 k), (0, .slice ac cs.length cc)] a ∧
    Mm own W [] [] [RdF encSP ac cs, DatF (sP cs)] w') ⟨0, by omega, by simp [sms], hF.sub (by repeat (first | exact Sub.nil | refine Sub.cons rfl (by first | with_reducible rfl | (refine congrArg (Value.int _) ?_; omega) | exact rfl) ?_)), hM⟩ ?_
  clear hF hM a
  rintro m a w' ⟨k, hm, hk0, hF, hM⟩
  by_cases hk : k < cs.length
  · obtain ⟨X, hX⟩ := get_of_lt hk
    have hXm := List.mem_of_getElem? hX
    obtain ⟨hX8, hXc, hXb⟩ := hcs ((⟨0, X.1⟩ : Itm), X.2) (List.mem_map.2 ⟨X, hXm, rfl⟩)
    have hXl := hcx X hXm
    have hXr := dat_sp (hM.facts (DatF (sP cs)) (by (repeat (first | with_reducible exact List.mem_cons_self | refine List.mem_cons_of_mem _ ?_)))) hXm
    have htk : sms (cs.take (k + 1)) = sms (cs.take k) ++ [X.1] := by rw [take_snoc hX, sms_app]; rfl
    obtain ⟨ad, rfl⟩ : ∃ ad, ac = some ad := rd_some hM (enc := encSP) (a := ac) (xs := cs) (by (repeat (first | exact List.mem_cons_self | refine List.mem_cons_of_mem _ ?_))) hX
    obtain ⟨X, ax, cx⟩ := X
    dsimp only at hX8 hXc hXb hXl hXr htk
    replace hM := hM.addFact hXr
    (repeat' (first | (with_reducible refine w_seq ?_) | (with_reducible refine c_region ?_) | (with_reducible refine s_nil ?_) | (with_reducible refine q_then_n ?_) | ((with_reducible apply s_pure hF); exact rfl; exact rfl; exact rfl; (first | exact trivial | omega | exact ⟨Int.natCast_nonneg _, Int.ofNat_lt.2 (by assumption)⟩ | decide); clear hF a; intro a hF) | (with_reducible refine w_skip ?_) | (with_reducible refine w_block ?_) | ((with_reducible apply c_dec hF); exact rfl; all_goals intro hc; all_goals (try (exfalso; omega)))))
    refine c_loop (m := k) (fun mj a w' => ∃ j : Nat, mj + j = k ∧ (∀ y ∈ sms (cs.take j), dg X = dg y → X = y) ∧
      Fr 42 [] [(4, .int .i64 j), (3, .int .i64 k), (0, .slice (some ad) cs.length cc)] a ∧
      Mm own W [] [] [RdF (Value.int .u8) ax X.flatten, RdF encSP (some ad) cs, DatF (sP cs)] w') ⟨0, by omega, by simp [sms], hF.sub (by repeat (first | exact Sub.nil | refine Sub.cons rfl (by first | with_reducible rfl | (refine congrArg (Value.int _) ?_; omega) | exact rfl) ?_)), hM⟩ ?_
    clear hF hM a hXr
    rintro mj a w' ⟨j, hmj, hj0, hF, hM⟩
    by_cases hj : j < k
    · obtain ⟨Y, hY⟩ := get_of_lt (l := cs) (i := j) (by omega)
      have hYm := List.mem_of_getElem? hY
      obtain ⟨hY8, hYc, hYb⟩ := hcs ((⟨0, Y.1⟩ : Itm), Y.2) (List.mem_map.2 ⟨Y, hYm, rfl⟩)
      have hYl := hcx Y hYm
      have hYr := dat_sp (hM.facts (DatF (sP cs)) (by (repeat (first | with_reducible exact List.mem_cons_self | refine List.mem_cons_of_mem _ ?_)))) hYm
      have htj : sms (cs.take (j + 1)) = sms (cs.take j) ++ [Y.1] := by rw [take_snoc hY, sms_app]; rfl
      obtain ⟨Y, ay, cy⟩ := Y
      dsimp only at hY8 hYc hYb hYl hYr htj
      replace hM := hM.addFact hYr
      have hjn : (dg X = dg Y → X = Y) → ∀ y ∈ sms (cs.take (j + 1)), dg X = dg y → X = y := fun h y hy => by
        rw [htj] at hy
        rcases List.mem_append.1 hy with hy | hy
        · exact hj0 y hy
        · rw [List.mem_singleton.1 hy]; exact h
      by_cases hd : dg X = dg Y
      case neg =>
        (repeat' (first | (with_reducible refine w_seq ?_) | (with_reducible refine c_region ?_) | (with_reducible refine s_nil ?_) | (with_reducible refine q_then_n ?_) | ((with_reducible apply s_pure hF); exact rfl; exact rfl; exact rfl; (first | exact trivial | omega | exact ⟨Int.natCast_nonneg _, Int.ofNat_lt.2 (by assumption)⟩ | decide); clear hF a; intro a hF) | (with_reducible refine w_skip ?_) | (with_reducible refine w_block ?_) | ((with_reducible apply c_dec hF); exact rfl; all_goals intro hc; all_goals (try (exfalso; omega)))))
        refine c_draw (fun i => Nat.ble 26 i) hM ?_; clear hM; intro w hM
        (first | (refine t_pure (i := 0) hF rfl rfl rfl rfl (by kernel_rfl) hM.sm (fun _ _ _ h => h) ?_ ?_; (first | exact trivial | omega | decide); clear hF a; intro a hF))
        (first | (refine t_pure (i := 1) hF rfl rfl rfl rfl (by kernel_rfl) hM.sm (fun _ _ _ h => h) ?_ ?_; (first | exact trivial | omega | decide); clear hF a; intro a hF))
        (first | (refine t_pure (i := 2) hF rfl rfl rfl rfl (by kernel_rfl) hM.sm (fun _ _ _ h => h) ?_ ?_; (first | exact trivial | omega | decide); clear hF a; intro a hF))
        (first | (apply t_loadF (i := 3) hF rfl rfl rfl; (repeat (first | exact List.mem_cons_self | refine List.mem_cons_of_mem _ ?_)); (first | with_reducible assumption | (simp only [Int.toNat_natCast]; with_reducible assumption)); exact rfl; exact rfl; kernel_rfl; exact hM.sm; exact (fun _ _ _ h => h); clear hF a; intro a hF))
        unfold encSP at hF; dsimp only at hF
        (first | (refine t_pure (i := 5) hF rfl rfl rfl rfl (by kernel_rfl) (hM.sm.sub (fun x hx => by repeat (first | exact hx | refine List.mem_cons_of_mem _ ?_)) (fun _ h => by repeat (first | exact h | refine List.mem_cons_of_mem _ ?_))) (fun _ _ _ h => h) ?_ ?_; (first | exact trivial | omega | decide); clear hF a; intro a hF))
        (first | (refine t_pure (i := 6) hF rfl rfl rfl rfl (by kernel_rfl) (hM.sm.sub (fun x hx => by repeat (first | exact hx | refine List.mem_cons_of_mem _ ?_)) (fun _ h => by repeat (first | exact h | refine List.mem_cons_of_mem _ ?_))) (fun _ _ _ h => h) ?_ ?_; (first | exact trivial | omega | decide); clear hF a; intro a hF))
        (first | (refine t_pure (i := 7) hF rfl rfl rfl rfl (by kernel_rfl) (hM.sm.sub (fun x hx => by repeat (first | exact hx | refine List.mem_cons_of_mem _ ?_)) (fun _ h => by repeat (first | exact h | refine List.mem_cons_of_mem _ ?_))) (fun _ _ _ h => h) ?_ ?_; (first | exact trivial | omega | decide); clear hF a; intro a hF))
        (first | (apply t_loadF (i := 8) hF rfl rfl rfl; (repeat (first | exact List.mem_cons_self | refine List.mem_cons_of_mem _ ?_)); (first | with_reducible assumption | (simp only [Int.toNat_natCast]; with_reducible assumption)); exact rfl; exact rfl; kernel_rfl; exact (hM.sm.sub (fun x hx => by repeat (first | exact hx | refine List.mem_cons_of_mem _ ?_)) (fun _ h => by repeat (first | exact h | refine List.mem_cons_of_mem _ ?_))); exact (fun _ _ _ h => h); clear hF a; intro a hF))
        unfold encSP at hF; dsimp only at hF
        refine t_one (i := 4) hF rfl (by kernel_rfl) rfl ?_
        intro K hK
        (apply x_call hF hM; exact rfl; exact rfl; exact rfl; exact rfl; exact (Sectors4_c X hX8 ax cx _ rfl (by omega) _ _ hM.lt (hM.facts (RdF (Value.int .u8) ax X.flatten) (by (repeat (first | with_reducible exact List.mem_cons_self | refine List.mem_cons_of_mem _ ?_))))); clear hF hM a; rintro v w a rfl - hM hF)
        refine hK _ _ (fun _ => (hM.sm.sub (fun x hx => by repeat (first | exact hx | refine List.mem_cons_of_mem _ ?_)) (fun _ h => by repeat (first | exact h | refine List.mem_cons_of_mem _ ?_)))) ?_; clear hK
        refine t_one (i := 9) hF rfl (by kernel_rfl) rfl ?_
        intro K hK
        (apply x_call hF hM; exact rfl; exact rfl; exact rfl; exact rfl; exact (Sectors4_c Y hY8 ay cy _ rfl (by omega) _ _ hM.lt (hM.facts (RdF (Value.int .u8) ay Y.flatten) (by (repeat (first | with_reducible exact List.mem_cons_self | refine List.mem_cons_of_mem _ ?_))))); clear hF hM a; rintro v w a rfl - hM hF)
        refine hK _ _ (fun _ => (hM.sm.sub (fun x hx => by repeat (first | exact hx | refine List.mem_cons_of_mem _ ?_)) (fun _ h => by repeat (first | exact h | refine List.mem_cons_of_mem _ ?_)))) ?_; clear hK
        (first | (refine t_pure (i := 10) hF rfl rfl rfl rfl (by kernel_rfl) (hM.sm.sub (fun x hx => by repeat (first | exact hx | refine List.mem_cons_of_mem _ ?_)) (fun _ h => by repeat (first | exact h | refine List.mem_cons_of_mem _ ?_))) (fun _ _ _ h => h) ?_ ?_; (first | exact trivial | omega | decide); clear hF a; intro a hF))
        rw [decide_eq_false hd] at hF
        (first | (refine t_pure (i := 11) hF rfl rfl rfl rfl (by kernel_rfl) (hM.sm.sub (fun x hx => by repeat (first | exact hx | refine List.mem_cons_of_mem _ ?_)) (fun _ h => by repeat (first | exact h | refine List.mem_cons_of_mem _ ?_))) (fun _ _ _ h => h) ?_ ?_; (first | exact trivial | omega | decide); clear hF a; intro a hF))
        (first | (refine t_skip (i := 12) hF rfl rfl rfl (by kernel_rfl) (hM.sm.sub (fun x hx => by repeat (first | exact hx | refine List.mem_cons_of_mem _ ?_)) (fun _ h => by repeat (first | exact h | refine List.mem_cons_of_mem _ ?_))) (fun _ _ _ h => h) ?_; clear hF a; intro a hF))
        (first | (refine t_skip (i := 13) hF rfl rfl rfl (by kernel_rfl) (hM.sm.sub (fun x hx => by repeat (first | exact hx | refine List.mem_cons_of_mem _ ?_)) (fun _ h => by repeat (first | exact h | refine List.mem_cons_of_mem _ ?_))) (fun _ _ _ h => h) ?_; clear hF a; intro a hF))
        (first | (refine t_skip (i := 14) hF rfl rfl rfl (by kernel_rfl) (hM.sm.sub (fun x hx => by repeat (first | exact hx | refine List.mem_cons_of_mem _ ?_)) (fun _ h => by repeat (first | exact h | refine List.mem_cons_of_mem _ ?_))) (fun _ _ _ h => h) ?_; clear hF a; intro a hF))
        (first | (refine t_skip (i := 15) hF rfl rfl rfl (by kernel_rfl) (hM.sm.sub (fun x hx => by repeat (first | exact hx | refine List.mem_cons_of_mem _ ?_)) (fun _ h => by repeat (first | exact h | refine List.mem_cons_of_mem _ ?_))) (fun _ _ _ h => h) ?_; clear hF a; intro a hF))
        (refine t_skip (i := 16) hF rfl rfl rfl (by kernel_rfl) (hM.sm.sub (fun x hx => by repeat (first | exact hx | refine List.mem_cons_of_mem _ ?_)) (fun _ h => by repeat (first | exact h | refine List.mem_cons_of_mem _ ?_))) (fun _ _ _ h => h) ?_; clear hF a; intro a hF)
        (first | (refine t_skip (i := 17) hF rfl rfl rfl (by kernel_rfl) (hM.sm.sub (fun x hx => by repeat (first | exact hx | refine List.mem_cons_of_mem _ ?_)) (fun _ h => by repeat (first | exact h | refine List.mem_cons_of_mem _ ?_))) (fun _ _ _ h => h) ?_; clear hF a; intro a hF))
        (first | (refine t_skip (i := 18) hF rfl rfl rfl (by kernel_rfl) (hM.sm.sub (fun x hx => by repeat (first | exact hx | refine List.mem_cons_of_mem _ ?_)) (fun _ h => by repeat (first | exact h | refine List.mem_cons_of_mem _ ?_))) (fun _ _ _ h => h) ?_; clear hF a; intro a hF))
        (first | (refine t_skip (i := 19) hF rfl rfl rfl (by kernel_rfl) (hM.sm.sub (fun x hx => by repeat (first | exact hx | refine List.mem_cons_of_mem _ ?_)) (fun _ h => by repeat (first | exact h | refine List.mem_cons_of_mem _ ?_))) (fun _ _ _ h => h) ?_; clear hF a; intro a hF))
        (first | (refine t_skip (i := 20) hF rfl rfl rfl (by kernel_rfl) (hM.sm.sub (fun x hx => by repeat (first | exact hx | refine List.mem_cons_of_mem _ ?_)) (fun _ h => by repeat (first | exact h | refine List.mem_cons_of_mem _ ?_))) (fun _ _ _ h => h) ?_; clear hF a; intro a hF))
        (first | (refine t_skip (i := 21) hF rfl rfl rfl (by kernel_rfl) (hM.sm.sub (fun x hx => by repeat (first | exact hx | refine List.mem_cons_of_mem _ ?_)) (fun _ h => by repeat (first | exact h | refine List.mem_cons_of_mem _ ?_))) (fun _ _ _ h => h) ?_; clear hF a; intro a hF))
        (refine t_skip (i := 22) hF rfl rfl rfl (by kernel_rfl) (hM.sm.sub (fun x hx => by repeat (first | exact hx | refine List.mem_cons_of_mem _ ?_)) (fun _ h => by repeat (first | exact h | refine List.mem_cons_of_mem _ ?_))) (fun _ _ _ h => h) ?_; clear hF a; intro a hF)
        (first | (refine t_skip (i := 23) hF rfl rfl rfl (by kernel_rfl) (hM.sm.sub (fun x hx => by repeat (first | exact hx | refine List.mem_cons_of_mem _ ?_)) (fun _ h => by repeat (first | exact h | refine List.mem_cons_of_mem _ ?_))) (fun _ _ _ h => h) ?_; clear hF a; intro a hF))
        (first | (refine t_skip (i := 24) hF rfl rfl rfl (by kernel_rfl) (hM.sm.sub (fun x hx => by repeat (first | exact hx | refine List.mem_cons_of_mem _ ?_)) (fun _ h => by repeat (first | exact h | refine List.mem_cons_of_mem _ ?_))) (fun _ _ _ h => h) ?_; clear hF a; intro a hF))
        (first | (refine t_pure (i := 25) hF rfl rfl rfl rfl (by kernel_rfl) (hM.sm.sub (fun x hx => by repeat (first | exact hx | refine List.mem_cons_of_mem _ ?_)) (fun _ h => by repeat (first | exact h | refine List.mem_cons_of_mem _ ?_))) (fun _ _ _ h => h) ?_ ?_; (first | exact trivial | omega | decide); clear hF a; intro a hF))
        refine t_done (by kernel_rfl) ?_
        (repeat' (first | (with_reducible refine c_region ?_) | (with_reducible refine s_nil ?_) | (with_reducible refine q_then_n ?_) | ((with_reducible apply s_pure hF); exact rfl; exact rfl; exact rfl; (first | exact trivial | omega | exact ⟨Int.natCast_nonneg _, Int.ofNat_lt.2 (by assumption)⟩ | decide); clear hF a; intro a hF) | (with_reducible refine w_skip ?_) | (with_reducible refine q_blk_n ?_) | ((with_reducible apply c_false2 hF); exact rfl; (first | with_reducible rfl | (refine congrArg Value.bool ?_; focus (simp; done))))))
        exact ⟨mj - 1, by omega, j + 1, by omega, hjn (fun h => absurd h hd), hF.sub (by repeat (first | exact Sub.nil | refine Sub.cons rfl (by first | with_reducible rfl | (refine congrArg (Value.int _) ?_; omega) | exact rfl) ?_)), hM.sub (.refl _) (.refl _) (by intro f hf; simp only [List.mem_cons, List.not_mem_nil, or_false] at hf; (repeat (rcases hf with rfl | hf; · (repeat (first | exact List.mem_cons_self | refine List.mem_cons_of_mem _ ?_)))); first | (subst hf; (repeat (first | exact List.mem_cons_self | refine List.mem_cons_of_mem _ ?_)); done) | (repeat (first | exact hf | refine List.mem_cons_of_mem _ ?_)))⟩
      have hXf : ∀ b ∈ X.flatten, 0 ≤ b ∧ b < 256 := fun b hb => by
        obtain ⟨s, hs, hb⟩ := List.mem_flatten.1 hb
        exact hXb s hs b hb
      have hYf : ∀ b ∈ Y.flatten, 0 ≤ b ∧ b < 256 := fun b hb => by
        obtain ⟨s, hs, hb⟩ := List.mem_flatten.1 hb
        exact hYb s hs b hb
      by_cases he : X = Y
      · have hne : decide (X.flatten ≠ Y.flatten) = false := decide_eq_false (fun h => h (by rw [he]))
        (repeat' (first | (with_reducible refine w_seq ?_) | (with_reducible refine c_region ?_) | (with_reducible refine s_nil ?_) | (with_reducible refine q_then_n ?_) | ((with_reducible apply s_pure hF); exact rfl; exact rfl; exact rfl; (first | exact trivial | omega | exact ⟨Int.natCast_nonneg _, Int.ofNat_lt.2 (by assumption)⟩ | decide); clear hF a; intro a hF) | (with_reducible refine w_skip ?_) | (with_reducible refine w_block ?_) | ((with_reducible apply c_dec hF); exact rfl; all_goals intro hc; all_goals (try (exfalso; omega)))))
        refine c_draw (fun i => Nat.ble 26 i) hM ?_; clear hM; intro w hM
        (first | (refine t_pure (i := 0) hF rfl rfl rfl rfl (by kernel_rfl) hM.sm (fun _ _ _ h => h) ?_ ?_; (first | exact trivial | omega | decide); clear hF a; intro a hF))
        (first | (refine t_pure (i := 1) hF rfl rfl rfl rfl (by kernel_rfl) hM.sm (fun _ _ _ h => h) ?_ ?_; (first | exact trivial | omega | decide); clear hF a; intro a hF))
        (first | (refine t_pure (i := 2) hF rfl rfl rfl rfl (by kernel_rfl) hM.sm (fun _ _ _ h => h) ?_ ?_; (first | exact trivial | omega | decide); clear hF a; intro a hF))
        (first | (apply t_loadF (i := 3) hF rfl rfl rfl; (repeat (first | exact List.mem_cons_self | refine List.mem_cons_of_mem _ ?_)); (first | with_reducible assumption | (simp only [Int.toNat_natCast]; with_reducible assumption)); exact rfl; exact rfl; kernel_rfl; exact hM.sm; exact (fun _ _ _ h => h); clear hF a; intro a hF))
        unfold encSP at hF; dsimp only at hF
        (first | (refine t_pure (i := 5) hF rfl rfl rfl rfl (by kernel_rfl) (hM.sm.sub (fun x hx => by repeat (first | exact hx | refine List.mem_cons_of_mem _ ?_)) (fun _ h => by repeat (first | exact h | refine List.mem_cons_of_mem _ ?_))) (fun _ _ _ h => h) ?_ ?_; (first | exact trivial | omega | decide); clear hF a; intro a hF))
        (first | (refine t_pure (i := 6) hF rfl rfl rfl rfl (by kernel_rfl) (hM.sm.sub (fun x hx => by repeat (first | exact hx | refine List.mem_cons_of_mem _ ?_)) (fun _ h => by repeat (first | exact h | refine List.mem_cons_of_mem _ ?_))) (fun _ _ _ h => h) ?_ ?_; (first | exact trivial | omega | decide); clear hF a; intro a hF))
        (first | (refine t_pure (i := 7) hF rfl rfl rfl rfl (by kernel_rfl) (hM.sm.sub (fun x hx => by repeat (first | exact hx | refine List.mem_cons_of_mem _ ?_)) (fun _ h => by repeat (first | exact h | refine List.mem_cons_of_mem _ ?_))) (fun _ _ _ h => h) ?_ ?_; (first | exact trivial | omega | decide); clear hF a; intro a hF))
        (first | (apply t_loadF (i := 8) hF rfl rfl rfl; (repeat (first | exact List.mem_cons_self | refine List.mem_cons_of_mem _ ?_)); (first | with_reducible assumption | (simp only [Int.toNat_natCast]; with_reducible assumption)); exact rfl; exact rfl; kernel_rfl; exact (hM.sm.sub (fun x hx => by repeat (first | exact hx | refine List.mem_cons_of_mem _ ?_)) (fun _ h => by repeat (first | exact h | refine List.mem_cons_of_mem _ ?_))); exact (fun _ _ _ h => h); clear hF a; intro a hF))
        unfold encSP at hF; dsimp only at hF
        refine t_one (i := 4) hF rfl (by kernel_rfl) rfl ?_
        intro K hK
        (apply x_call hF hM; exact rfl; exact rfl; exact rfl; exact rfl; exact (Sectors4_c X hX8 ax cx _ rfl (by omega) _ _ hM.lt (hM.facts (RdF (Value.int .u8) ax X.flatten) (by (repeat (first | with_reducible exact List.mem_cons_self | refine List.mem_cons_of_mem _ ?_))))); clear hF hM a; rintro v w a rfl - hM hF)
        refine hK _ _ (fun _ => (hM.sm.sub (fun x hx => by repeat (first | exact hx | refine List.mem_cons_of_mem _ ?_)) (fun _ h => by repeat (first | exact h | refine List.mem_cons_of_mem _ ?_)))) ?_; clear hK
        refine t_one (i := 9) hF rfl (by kernel_rfl) rfl ?_
        intro K hK
        (apply x_call hF hM; exact rfl; exact rfl; exact rfl; exact rfl; exact (Sectors4_c Y hY8 ay cy _ rfl (by omega) _ _ hM.lt (hM.facts (RdF (Value.int .u8) ay Y.flatten) (by (repeat (first | with_reducible exact List.mem_cons_self | refine List.mem_cons_of_mem _ ?_))))); clear hF hM a; rintro v w a rfl - hM hF)
        refine hK _ _ (fun _ => (hM.sm.sub (fun x hx => by repeat (first | exact hx | refine List.mem_cons_of_mem _ ?_)) (fun _ h => by repeat (first | exact h | refine List.mem_cons_of_mem _ ?_)))) ?_; clear hK
        (first | (refine t_pure (i := 10) hF rfl rfl rfl rfl (by kernel_rfl) (hM.sm.sub (fun x hx => by repeat (first | exact hx | refine List.mem_cons_of_mem _ ?_)) (fun _ h => by repeat (first | exact h | refine List.mem_cons_of_mem _ ?_))) (fun _ _ _ h => h) ?_ ?_; (first | exact trivial | omega | decide); clear hF a; intro a hF))
        rw [decide_eq_true hd] at hF
        (first | (refine t_pure (i := 11) hF rfl rfl rfl rfl (by kernel_rfl) (hM.sm.sub (fun x hx => by repeat (first | exact hx | refine List.mem_cons_of_mem _ ?_)) (fun _ h => by repeat (first | exact h | refine List.mem_cons_of_mem _ ?_))) (fun _ _ _ h => h) ?_ ?_; (first | exact trivial | omega | decide); clear hF a; intro a hF))
        (first | (refine t_pure (i := 12) hF rfl rfl rfl rfl (by kernel_rfl) (hM.sm.sub (fun x hx => by repeat (first | exact hx | refine List.mem_cons_of_mem _ ?_)) (fun _ h => by repeat (first | exact h | refine List.mem_cons_of_mem _ ?_))) (fun _ _ _ h => h) ?_ ?_; (first | exact trivial | omega | decide); clear hF a; intro a hF))
        (first | (refine t_pure (i := 13) hF rfl rfl rfl rfl (by kernel_rfl) (hM.sm.sub (fun x hx => by repeat (first | exact hx | refine List.mem_cons_of_mem _ ?_)) (fun _ h => by repeat (first | exact h | refine List.mem_cons_of_mem _ ?_))) (fun _ _ _ h => h) ?_ ?_; (first | exact trivial | omega | decide); clear hF a; intro a hF))
        (first | (refine t_pure (i := 14) hF rfl rfl rfl rfl (by kernel_rfl) (hM.sm.sub (fun x hx => by repeat (first | exact hx | refine List.mem_cons_of_mem _ ?_)) (fun _ h => by repeat (first | exact h | refine List.mem_cons_of_mem _ ?_))) (fun _ _ _ h => h) ?_ ?_; (first | exact trivial | omega | decide); clear hF a; intro a hF))
        (first | (apply t_loadF (i := 15) hF rfl rfl rfl; (repeat (first | exact List.mem_cons_self | refine List.mem_cons_of_mem _ ?_)); (first | with_reducible assumption | (simp only [Int.toNat_natCast]; with_reducible assumption)); exact rfl; exact rfl; kernel_rfl; exact (hM.sm.sub (fun x hx => by repeat (first | exact hx | refine List.mem_cons_of_mem _ ?_)) (fun _ h => by repeat (first | exact h | refine List.mem_cons_of_mem _ ?_))); exact (fun _ _ _ h => h); clear hF a; intro a hF))
        unfold encSP at hF; dsimp only at hF
        (first | (refine t_pure (i := 18) hF rfl rfl rfl rfl (by kernel_rfl) (hM.sm.sub (fun x hx => by repeat (first | exact hx | refine List.mem_cons_of_mem _ ?_)) (fun _ h => by repeat (first | exact h | refine List.mem_cons_of_mem _ ?_))) (fun _ _ _ h => h) ?_ ?_; (first | exact trivial | omega | decide); clear hF a; intro a hF))
        (first | (refine t_pure (i := 19) hF rfl rfl rfl rfl (by kernel_rfl) (hM.sm.sub (fun x hx => by repeat (first | exact hx | refine List.mem_cons_of_mem _ ?_)) (fun _ h => by repeat (first | exact h | refine List.mem_cons_of_mem _ ?_))) (fun _ _ _ h => h) ?_ ?_; (first | exact trivial | omega | decide); clear hF a; intro a hF))
        (first | (refine t_pure (i := 20) hF rfl rfl rfl rfl (by kernel_rfl) (hM.sm.sub (fun x hx => by repeat (first | exact hx | refine List.mem_cons_of_mem _ ?_)) (fun _ h => by repeat (first | exact h | refine List.mem_cons_of_mem _ ?_))) (fun _ _ _ h => h) ?_ ?_; (first | exact trivial | omega | decide); clear hF a; intro a hF))
        (first | (apply t_loadF (i := 21) hF rfl rfl rfl; (repeat (first | exact List.mem_cons_self | refine List.mem_cons_of_mem _ ?_)); (first | with_reducible assumption | (simp only [Int.toNat_natCast]; with_reducible assumption)); exact rfl; exact rfl; kernel_rfl; exact (hM.sm.sub (fun x hx => by repeat (first | exact hx | refine List.mem_cons_of_mem _ ?_)) (fun _ h => by repeat (first | exact h | refine List.mem_cons_of_mem _ ?_))); exact (fun _ _ _ h => h); clear hF a; intro a hF))
        unfold encSP at hF; dsimp only at hF
        refine t_one (i := 16) hF rfl (by kernel_rfl) rfl ?_
        intro K hK
        (apply x_call hF hM; exact rfl; exact rfl; exact rfl; exact rfl; exact (BytesR_c X hX8 ax cx _ rfl (by omega) _ _ hM.lt (hM.facts (RdF (Value.int .u8) ax X.flatten) (by (repeat (first | with_reducible exact List.mem_cons_self | refine List.mem_cons_of_mem _ ?_))))); clear hF hM a; rintro v w a ⟨a5, c5, rfl, h5⟩ - hM hF)
        replace hM := hM.addFact h5
        refine hK _ _ (fun _ => (hM.sm.sub (fun x hx => by repeat (first | exact hx | refine List.mem_cons_of_mem _ ?_)) (fun _ h => by repeat (first | exact h | refine List.mem_cons_of_mem _ ?_)))) ?_; clear hK
        refine t_two (i := 17) (j := 22) hF rfl rfl (by kernel_rfl) rfl rfl ?_ ?_
        ·
          intro K hK
          refine upon_value (e_b2s (xs := X.flatten) hF hM rfl (by (repeat (first | with_reducible exact List.mem_cons_self | refine List.mem_cons_of_mem _ ?_))) rfl rfl rfl rfl) ?_; replace hF := hF.put (d := 33) rfl (.string (strOfNums X.flatten)); generalize a.put (some 33) _ = a at *
          refine hK _ _ (fun _ => (hM.sm.sub (fun x hx => by repeat (first | exact hx | refine List.mem_cons_of_mem _ ?_)) (fun _ h => by repeat (first | exact h | refine List.mem_cons_of_mem _ ?_)))) ?_; clear hK
          refine t_one (i := 22) hF rfl (by kernel_rfl) rfl ?_
          intro K hK
          (apply x_call hF hM; exact rfl; exact rfl; exact rfl; exact rfl; exact (BytesR_c Y hY8 ay cy _ rfl (by omega) _ _ hM.lt (hM.facts (RdF (Value.int .u8) ay Y.flatten) (by (repeat (first | with_reducible exact List.mem_cons_self | refine List.mem_cons_of_mem _ ?_))))); clear hF hM a; rintro v w a ⟨a6, c6, rfl, h6⟩ - hM hF)
          replace hM := hM.addFact h6
          refine hK _ _ (fun _ => (hM.sm.sub (fun x hx => by repeat (first | exact hx | refine List.mem_cons_of_mem _ ?_)) (fun _ h => by repeat (first | exact h | refine List.mem_cons_of_mem _ ?_)))) ?_; clear hK
          refine t_one (i := 23) hF rfl (by kernel_rfl) rfl ?_
          intro K hK
          refine upon_value (e_b2s (xs := Y.flatten) hF hM rfl (by (repeat (first | with_reducible exact List.mem_cons_self | refine List.mem_cons_of_mem _ ?_))) rfl rfl rfl rfl) ?_; replace hF := hF.put (d := 39) rfl (.string (strOfNums Y.flatten)); generalize a.put (some 39) _ = a at *
          refine hK _ _ (fun _ => (hM.sm.sub (fun x hx => by repeat (first | exact hx | refine List.mem_cons_of_mem _ ?_)) (fun _ h => by repeat (first | exact h | refine List.mem_cons_of_mem _ ?_)))) ?_; clear hK
          refine t_one (i := 24) hF rfl (by kernel_rfl) rfl ?_
          intro K hK
          refine upon_value (e_neS (xs := X.flatten) (ys := Y.flatten) hF rfl rfl (by kernel_rfl) hXf hYf w) ?_; replace hF := hF.put (d := 40) rfl (.bool (decide (X.flatten ≠ Y.flatten))); generalize a.put (some 40) _ = a at *; rw [hne] at hF
          refine hK _ _ (fun _ => (hM.sm.sub (fun x hx => by repeat (first | exact hx | refine List.mem_cons_of_mem _ ?_)) (fun _ h => by repeat (first | exact h | refine List.mem_cons_of_mem _ ?_)))) ?_; clear hK
          (first | (refine t_pure (i := 25) hF rfl rfl rfl rfl (by kernel_rfl) (hM.sm.sub (fun x hx => by repeat (first | exact hx | refine List.mem_cons_of_mem _ ?_)) (fun _ h => by repeat (first | exact h | refine List.mem_cons_of_mem _ ?_))) (fun _ _ _ h => h) ?_ ?_; (first | exact trivial | omega | decide); clear hF a; intro a hF))
          refine t_done (by kernel_rfl) ?_
          (repeat' (first | (with_reducible refine c_region ?_) | (with_reducible refine s_nil ?_) | (with_reducible refine q_then_n ?_) | ((with_reducible apply s_pure hF); exact rfl; exact rfl; exact rfl; (first | exact trivial | omega | exact ⟨Int.natCast_nonneg _, Int.ofNat_lt.2 (by assumption)⟩ | decide); clear hF a; intro a hF) | (with_reducible refine w_skip ?_) | (with_reducible refine q_blk_n ?_) | ((with_reducible apply c_false2 hF); exact rfl; (first | with_reducible rfl | (refine congrArg Value.bool ?_; focus (simp; done))))))
          all_goals first | ((apply f_ret Try.results14 hF hM; (repeat (first | exact RL.nil | (apply RL.tmp; exact rfl) | (apply RL.cell; exact rfl; (repeat (first | exact List.mem_cons_self | refine List.mem_cons_of_mem _ ?_)); exact rfl))); refine Ret.mk hM.since ?_; dsimp only [resV]); exact ⟨true, rfl, fun h => by cases h⟩) | exact ⟨mj - 1, by omega, j + 1, by omega, hjn (fun _ => by first | exact he | exact absurd rfl he), hF.sub (by repeat (first | exact Sub.nil | refine Sub.cons rfl (by first | with_reducible rfl | (refine congrArg (Value.int _) ?_; omega) | exact rfl) ?_)), hM.sub (.refl _) (.refl _) (by intro f hf; simp only [List.mem_cons, List.not_mem_nil, or_false] at hf; (repeat (rcases hf with rfl | hf; · (repeat (first | exact List.mem_cons_self | refine List.mem_cons_of_mem _ ?_)))); first | (subst hf; (repeat (first | exact List.mem_cons_self | refine List.mem_cons_of_mem _ ?_)); done) | (repeat (first | exact hf | refine List.mem_cons_of_mem _ ?_)))⟩
        ·
          intro K hK
          (apply x_call hF hM; exact rfl; exact rfl; exact rfl; exact rfl; exact (BytesR_c Y hY8 ay cy _ rfl (by omega) _ _ hM.lt (hM.facts (RdF (Value.int .u8) ay Y.flatten) (by (repeat (first | with_reducible exact List.mem_cons_self | refine List.mem_cons_of_mem _ ?_))))); clear hF hM a; rintro v w a ⟨a6, c6, rfl, h6⟩ - hM hF)
          replace hM := hM.addFact h6
          refine hK _ _ (fun _ => (hM.sm.sub (fun x hx => by repeat (first | exact hx | refine List.mem_cons_of_mem _ ?_)) (fun _ h => by repeat (first | exact h | refine List.mem_cons_of_mem _ ?_)))) ?_; clear hK
          refine t_two (i := 17) (j := 23) hF rfl rfl (by kernel_rfl) rfl rfl ?_ ?_
          ·
            intro K hK
            refine upon_value (e_b2s (xs := X.flatten) hF hM rfl (by (repeat (first | with_reducible exact List.mem_cons_self | refine List.mem_cons_of_mem _ ?_))) rfl rfl rfl rfl) ?_; replace hF := hF.put (d := 33) rfl (.string (strOfNums X.flatten)); generalize a.put (some 33) _ = a at *
            refine hK _ _ (fun _ => (hM.sm.sub (fun x hx => by repeat (first | exact hx | refine List.mem_cons_of_mem _ ?_)) (fun _ h => by repeat (first | exact h | refine List.mem_cons_of_mem _ ?_)))) ?_; clear hK
            refine t_one (i := 23) hF rfl (by kernel_rfl) rfl ?_
            intro K hK
            refine upon_value (e_b2s (xs := Y.flatten) hF hM rfl (by (repeat (first | with_reducible exact List.mem_cons_self | refine List.mem_cons_of_mem _ ?_))) rfl rfl rfl rfl) ?_; replace hF := hF.put (d := 39) rfl (.string (strOfNums Y.flatten)); generalize a.put (some 39) _ = a at *
            refine hK _ _ (fun _ => (hM.sm.sub (fun x hx => by repeat (first | exact hx | refine List.mem_cons_of_mem _ ?_)) (fun _ h => by repeat (first | exact h | refine List.mem_cons_of_mem _ ?_)))) ?_; clear hK
            refine t_one (i := 24) hF rfl (by kernel_rfl) rfl ?_
            intro K hK
            refine upon_value (e_neS (xs := X.flatten) (ys := Y.flatten) hF rfl rfl (by kernel_rfl) hXf hYf w) ?_; replace hF := hF.put (d := 40) rfl (.bool (decide (X.flatten ≠ Y.flatten))); generalize a.put (some 40) _ = a at *; rw [hne] at hF
            refine hK _ _ (fun _ => (hM.sm.sub (fun x hx => by repeat (first | exact hx | refine List.mem_cons_of_mem _ ?_)) (fun _ h => by repeat (first | exact h | refine List.mem_cons_of_mem _ ?_)))) ?_; clear hK
            (first | (refine t_pure (i := 25) hF rfl rfl rfl rfl (by kernel_rfl) (hM.sm.sub (fun x hx => by repeat (first | exact hx | refine List.mem_cons_of_mem _ ?_)) (fun _ h => by repeat (first | exact h | refine List.mem_cons_of_mem _ ?_))) (fun _ _ _ h => h) ?_ ?_; (first | exact trivial | omega | decide); clear hF a; intro a hF))
            refine t_done (by kernel_rfl) ?_
            (repeat' (first | (with_reducible refine c_region ?_) | (with_reducible refine s_nil ?_) | (with_reducible refine q_then_n ?_) | ((with_reducible apply s_pure hF); exact rfl; exact rfl; exact rfl; (first | exact trivial | omega | exact ⟨Int.natCast_nonneg _, Int.ofNat_lt.2 (by assumption)⟩ | decide); clear hF a; intro a hF) | (with_reducible refine w_skip ?_) | (with_reducible refine q_blk_n ?_) | ((with_reducible apply c_false2 hF); exact rfl; (first | with_reducible rfl | (refine congrArg Value.bool ?_; focus (simp; done))))))
            all_goals first | ((apply f_ret Try.results14 hF hM; (repeat (first | exact RL.nil | (apply RL.tmp; exact rfl) | (apply RL.cell; exact rfl; (repeat (first | exact List.mem_cons_self | refine List.mem_cons_of_mem _ ?_)); exact rfl))); refine Ret.mk hM.since ?_; dsimp only [resV]); exact ⟨true, rfl, fun h => by cases h⟩) | exact ⟨mj - 1, by omega, j + 1, by omega, hjn (fun _ => by first | exact he | exact absurd rfl he), hF.sub (by repeat (first | exact Sub.nil | refine Sub.cons rfl (by first | with_reducible rfl | (refine congrArg (Value.int _) ?_; omega) | exact rfl) ?_)), hM.sub (.refl _) (.refl _) (by intro f hf; simp only [List.mem_cons, List.not_mem_nil, or_false] at hf; (repeat (rcases hf with rfl | hf; · (repeat (first | exact List.mem_cons_self | refine List.mem_cons_of_mem _ ?_)))); first | (subst hf; (repeat (first | exact List.mem_cons_self | refine List.mem_cons_of_mem _ ?_)); done) | (repeat (first | exact hf | refine List.mem_cons_of_mem _ ?_)))⟩
          ·
            intro K hK
            refine upon_value (e_b2s (xs := Y.flatten) hF hM rfl (by (repeat (first | with_reducible exact List.mem_cons_self | refine List.mem_cons_of_mem _ ?_))) rfl rfl rfl rfl) ?_; replace hF := hF.put (d := 39) rfl (.string (strOfNums Y.flatten)); generalize a.put (some 39) _ = a at *
            refine hK _ _ (fun _ => (hM.sm.sub (fun x hx => by repeat (first | exact hx | refine List.mem_cons_of_mem _ ?_)) (fun _ h => by repeat (first | exact h | refine List.mem_cons_of_mem _ ?_)))) ?_; clear hK
            refine t_one (i := 17) hF rfl (by kernel_rfl) rfl ?_
            intro K hK
            refine upon_value (e_b2s (xs := X.flatten) hF hM rfl (by (repeat (first | with_reducible exact List.mem_cons_self | refine List.mem_cons_of_mem _ ?_))) rfl rfl rfl rfl) ?_; replace hF := hF.put (d := 33) rfl (.string (strOfNums X.flatten)); generalize a.put (some 33) _ = a at *
            refine hK _ _ (fun _ => (hM.sm.sub (fun x hx => by repeat (first | exact hx | refine List.mem_cons_of_mem _ ?_)) (fun _ h => by repeat (first | exact h | refine List.mem_cons_of_mem _ ?_)))) ?_; clear hK
            refine t_one (i := 24) hF rfl (by kernel_rfl) rfl ?_
            intro K hK
            refine upon_value (e_neS (xs := X.flatten) (ys := Y.flatten) hF rfl rfl (by kernel_rfl) hXf hYf w) ?_; replace hF := hF.put (d := 40) rfl (.bool (decide (X.flatten ≠ Y.flatten))); generalize a.put (some 40) _ = a at *; rw [hne] at hF
            refine hK _ _ (fun _ => (hM.sm.sub (fun x hx => by repeat (first | exact hx | refine List.mem_cons_of_mem _ ?_)) (fun _ h => by repeat (first | exact h | refine List.mem_cons_of_mem _ ?_)))) ?_; clear hK
            (first | (refine t_pure (i := 25) hF rfl rfl rfl rfl (by kernel_rfl) (hM.sm.sub (fun x hx => by repeat (first | exact hx | refine List.mem_cons_of_mem _ ?_)) (fun _ h => by repeat (first | exact h | refine List.mem_cons_of_mem _ ?_))) (fun _ _ _ h => h) ?_ ?_; (first | exact trivial | omega | decide); clear hF a; intro a hF))
            refine t_done (by kernel_rfl) ?_
            (repeat' (first | (with_reducible refine c_region ?_) | (with_reducible refine s_nil ?_) | (with_reducible refine q_then_n ?_) | ((with_reducible apply s_pure hF); exact rfl; exact rfl; exact rfl; (first | exact trivial | omega | exact ⟨Int.natCast_nonneg _, Int.ofNat_lt.2 (by assumption)⟩ | decide); clear hF a; intro a hF) | (with_reducible refine w_skip ?_) | (with_reducible refine q_blk_n ?_) | ((with_reducible apply c_false2 hF); exact rfl; (first | with_reducible rfl | (refine congrArg Value.bool ?_; focus (simp; done))))))
            all_goals first | ((apply f_ret Try.results14 hF hM; (repeat (first | exact RL.nil | (apply RL.tmp; exact rfl) | (apply RL.cell; exact rfl; (repeat (first | exact List.mem_cons_self | refine List.mem_cons_of_mem _ ?_)); exact rfl))); refine Ret.mk hM.since ?_; dsimp only [resV]); exact ⟨true, rfl, fun h => by cases h⟩) | exact ⟨mj - 1, by omega, j + 1, by omega, hjn (fun _ => by first | exact he | exact absurd rfl he), hF.sub (by repeat (first | exact Sub.nil | refine Sub.cons rfl (by first | with_reducible rfl | (refine congrArg (Value.int _) ?_; omega) | exact rfl) ?_)), hM.sub (.refl _) (.refl _) (by intro f hf; simp only [List.mem_cons, List.not_mem_nil, or_false] at hf; (repeat (rcases hf with rfl | hf; · (repeat (first | exact List.mem_cons_self | refine List.mem_cons_of_mem _ ?_)))); first | (subst hf; (repeat (first | exact List.mem_cons_self | refine List.mem_cons_of_mem _ ?_)); done) | (repeat (first | exact hf | refine List.mem_cons_of_mem _ ?_)))⟩
      · have hne : decide (X.flatten ≠ Y.flatten) = true := decide_eq_true (fun h => he (flat_inj hX8 hY8 h))
        (repeat' (first | (with_reducible refine w_seq ?_) | (with_reducible refine c_region ?_) | (with_reducible refine s_nil ?_) | (with_reducible refine q_then_n ?_) | ((with_reducible apply s_pure hF); exact rfl; exact rfl; exact rfl; (first | exact trivial | omega | exact ⟨Int.natCast_nonneg _, Int.ofNat_lt.2 (by assumption)⟩ | decide); clear hF a; intro a hF) | (with_reducible refine w_skip ?_) | (with_reducible refine w_block ?_) | ((with_reducible apply c_dec hF); exact rfl; all_goals intro hc; all_goals (try (exfalso; omega)))))
        refine c_draw (fun i => Nat.ble 26 i) hM ?_; clear hM; intro w hM
        (first | (refine t_pure (i := 0) hF rfl rfl rfl rfl (by kernel_rfl) hM.sm (fun _ _ _ h => h) ?_ ?_; (first | exact trivial | omega | decide); clear hF a; intro a hF))
        (first | (refine t_pure (i := 1) hF rfl rfl rfl rfl (by kernel_rfl) hM.sm (fun _ _ _ h => h) ?_ ?_; (first | exact trivial | omega | decide); clear hF a; intro a hF))
        (first | (refine t_pure (i := 2) hF rfl rfl rfl rfl (by kernel_rfl) hM.sm (fun _ _ _ h => h) ?_ ?_; (first | exact trivial | omega | decide); clear hF a; intro a hF))
        (first | (apply t_loadF (i := 3) hF rfl rfl rfl; (repeat (first | exact List.mem_cons_self | refine List.mem_cons_of_mem _ ?_)); (first | with_reducible assumption | (simp only [Int.toNat_natCast]; with_reducible assumption)); exact rfl; exact rfl; kernel_rfl; exact hM.sm; exact (fun _ _ _ h => h); clear hF a; intro a hF))
        unfold encSP at hF; dsimp only at hF
        (first | (refine t_pure (i := 5) hF rfl rfl rfl rfl (by kernel_rfl) (hM.sm.sub (fun x hx => by repeat (first | exact hx | refine List.mem_cons_of_mem _ ?_)) (fun _ h => by repeat (first | exact h | refine List.mem_cons_of_mem _ ?_))) (fun _ _ _ h => h) ?_ ?_; (first | exact trivial | omega | decide); clear hF a; intro a hF))
        (first | (refine t_pure (i := 6) hF rfl rfl rfl rfl (by kernel_rfl) (hM.sm.sub (fun x hx => by repeat (first | exact hx | refine List.mem_cons_of_mem _ ?_)) (fun _ h => by repeat (first | exact h | refine List.mem_cons_of_mem _ ?_))) (fun _ _ _ h => h) ?_ ?_; (first | exact trivial | omega | decide); clear hF a; intro a hF))
        (first | (refine t_pure (i := 7) hF rfl rfl rfl rfl (by kernel_rfl) (hM.sm.sub (fun x hx => by repeat (first | exact hx | refine List.mem_cons_of_mem _ ?_)) (fun _ h => by repeat (first | exact h | refine List.mem_cons_of_mem _ ?_))) (fun _ _ _ h => h) ?_ ?_; (first | exact trivial | omega | decide); clear hF a; intro a hF))
        (first | (apply t_loadF (i := 8) hF rfl rfl rfl; (repeat (first | exact List.mem_cons_self | refine List.mem_cons_of_mem _ ?_)); (first | with_reducible assumption | (simp only [Int.toNat_natCast]; with_reducible assumption)); exact rfl; exact rfl; kernel_rfl; exact (hM.sm.sub (fun x hx => by repeat (first | exact hx | refine List.mem_cons_of_mem _ ?_)) (fun _ h => by repeat (first | exact h | refine List.mem_cons_of_mem _ ?_))); exact (fun _ _ _ h => h); clear hF a; intro a hF))
        unfold encSP at hF; dsimp only at hF
        refine t_one (i := 4) hF rfl (by kernel_rfl) rfl ?_
        intro K hK
        (apply x_call hF hM; exact rfl; exact rfl; exact rfl; exact rfl; exact (Sectors4_c X hX8 ax cx _ rfl (by omega) _ _ hM.lt (hM.facts (RdF (Value.int .u8) ax X.flatten) (by (repeat (first | with_reducible exact List.mem_cons_self | refine List.mem_cons_of_mem _ ?_))))); clear hF hM a; rintro v w a rfl - hM hF)
        refine hK _ _ (fun _ => (hM.sm.sub (fun x hx => by repeat (first | exact hx | refine List.mem_cons_of_mem _ ?_)) (fun _ h => by repeat (first | exact h | refine List.mem_cons_of_mem _ ?_)))) ?_; clear hK
        refine t_one (i := 9) hF rfl (by kernel_rfl) rfl ?_
        intro K hK
        (apply x_call hF hM; exact rfl; exact rfl; exact rfl; exact rfl; exact (Sectors4_c Y hY8 ay cy _ rfl (by omega) _ _ hM.lt (hM.facts (RdF (Value.int .u8) ay Y.flatten) (by (repeat (first | with_reducible exact List.mem_cons_self | refine List.mem_cons_of_mem _ ?_))))); clear hF hM a; rintro v w a rfl - hM hF)
        refine hK _ _ (fun _ => (hM.sm.sub (fun x hx => by repeat (first | exact hx | refine List.mem_cons_of_mem _ ?_)) (fun _ h => by repeat (first | exact h | refine List.mem_cons_of_mem _ ?_)))) ?_; clear hK
        (first | (refine t_pure (i := 10) hF rfl rfl rfl rfl (by kernel_rfl) (hM.sm.sub (fun x hx => by repeat (first | exact hx | refine List.mem_cons_of_mem _ ?_)) (fun _ h => by repeat (first | exact h | refine List.mem_cons_of_mem _ ?_))) (fun _ _ _ h => h) ?_ ?_; (first | exact trivial | omega | decide); clear hF a; intro a hF))
        rw [decide_eq_true hd] at hF
        (first | (refine t_pure (i := 11) hF rfl rfl rfl rfl (by kernel_rfl) (hM.sm.sub (fun x hx => by repeat (first | exact hx | refine List.mem_cons_of_mem _ ?_)) (fun _ h => by repeat (first | exact h | refine List.mem_cons_of_mem _ ?_))) (fun _ _ _ h => h) ?_ ?_; (first | exact trivial | omega | decide); clear hF a; intro a hF))
        (first | (refine t_pure (i := 12) hF rfl rfl rfl rfl (by kernel_rfl) (hM.sm.sub (fun x hx => by repeat (first | exact hx | refine List.mem_cons_of_mem _ ?_)) (fun _ h => by repeat (first | exact h | refine List.mem_cons_of_mem _ ?_))) (fun _ _ _ h => h) ?_ ?_; (first | exact trivial | omega | decide); clear hF a; intro a hF))
        (first | (refine t_pure (i := 13) hF rfl rfl rfl rfl (by kernel_rfl) (hM.sm.sub (fun x hx => by repeat (first | exact hx | refine List.mem_cons_of_mem _ ?_)) (fun _ h => by repeat (first | exact h | refine List.mem_cons_of_mem _ ?_))) (fun _ _ _ h => h) ?_ ?_; (first | exact trivial | omega | decide); clear hF a; intro a hF))
        (first | (refine t_pure (i := 14) hF rfl rfl rfl rfl (by kernel_rfl) (hM.sm.sub (fun x hx => by repeat (first | exact hx | refine List.mem_cons_of_mem _ ?_)) (fun _ h => by repeat (first | exact h | refine List.mem_cons_of_mem _ ?_))) (fun _ _ _ h => h) ?_ ?_; (first | exact trivial | omega | decide); clear hF a; intro a hF))
        (first | (apply t_loadF (i := 15) hF rfl rfl rfl; (repeat (first | exact List.mem_cons_self | refine List.mem_cons_of_mem _ ?_)); (first | with_reducible assumption | (simp only [Int.toNat_natCast]; with_reducible assumption)); exact rfl; exact rfl; kernel_rfl; exact (hM.sm.sub (fun x hx => by repeat (first | exact hx | refine List.mem_cons_of_mem _ ?_)) (fun _ h => by repeat (first | exact h | refine List.mem_cons_of_mem _ ?_))); exact (fun _ _ _ h => h); clear hF a; intro a hF))
        unfold encSP at hF; dsimp only at hF
        (first | (refine t_pure (i := 18) hF rfl rfl rfl rfl (by kernel_rfl) (hM.sm.sub (fun x hx => by repeat (first | exact hx | refine List.mem_cons_of_mem _ ?_)) (fun _ h => by repeat (first | exact h | refine List.mem_cons_of_mem _ ?_))) (fun _ _ _ h => h) ?_ ?_; (first | exact trivial | omega | decide); clear hF a; intro a hF))
        (first | (refine t_pure (i := 19) hF rfl rfl rfl rfl (by kernel_rfl) (hM.sm.sub (fun x hx => by repeat (first | exact hx | refine List.mem_cons_of_mem _ ?_)) (fun _ h => by repeat (first | exact h | refine List.mem_cons_of_mem _ ?_))) (fun _ _ _ h => h) ?_ ?_; (first | exact trivial | omega | decide); clear hF a; intro a hF))
        (first | (refine t_pure (i := 20) hF rfl rfl rfl rfl (by kernel_rfl) (hM.sm.sub (fun x hx => by repeat (first | exact hx | refine List.mem_cons_of_mem _ ?_)) (fun _ h => by repeat (first | exact h | refine List.mem_cons_of_mem _ ?_))) (fun _ _ _ h => h) ?_ ?_; (first | exact trivial | omega | decide); clear hF a; intro a hF))
        (first | (apply t_loadF (i := 21) hF rfl rfl rfl; (repeat (first | exact List.mem_cons_self | refine List.mem_cons_of_mem _ ?_)); (first | with_reducible assumption | (simp only [Int.toNat_natCast]; with_reducible assumption)); exact rfl; exact rfl; kernel_rfl; exact (hM.sm.sub (fun x hx => by repeat (first | exact hx | refine List.mem_cons_of_mem _ ?_)) (fun _ h => by repeat (first | exact h | refine List.mem_cons_of_mem _ ?_))); exact (fun _ _ _ h => h); clear hF a; intro a hF))
        unfold encSP at hF; dsimp only at hF
        refine t_one (i := 16) hF rfl (by kernel_rfl) rfl ?_
        intro K hK
        (apply x_call hF hM; exact rfl; exact rfl; exact rfl; exact rfl; exact (BytesR_c X hX8 ax cx _ rfl (by omega) _ _ hM.lt (hM.facts (RdF (Value.int .u8) ax X.flatten) (by (repeat (first | with_reducible exact List.mem_cons_self | refine List.mem_cons_of_mem _ ?_))))); clear hF hM a; rintro v w a ⟨a5, c5, rfl, h5⟩ - hM hF)
        replace hM := hM.addFact h5
        refine hK _ _ (fun _ => (hM.sm.sub (fun x hx => by repeat (first | exact hx | refine List.mem_cons_of_mem _ ?_)) (fun _ h => by repeat (first | exact h | refine List.mem_cons_of_mem _ ?_)))) ?_; clear hK
        refine t_two (i := 17) (j := 22) hF rfl rfl (by kernel_rfl) rfl rfl ?_ ?_
        ·
          intro K hK
          refine upon_value (e_b2s (xs := X.flatten) hF hM rfl (by (repeat (first | with_reducible exact List.mem_cons_self | refine List.mem_cons_of_mem _ ?_))) rfl rfl rfl rfl) ?_; replace hF := hF.put (d := 33) rfl (.string (strOfNums X.flatten)); generalize a.put (some 33) _ = a at *
          refine hK _ _ (fun _ => (hM.sm.sub (fun x hx => by repeat (first | exact hx | refine List.mem_cons_of_mem _ ?_)) (fun _ h => by repeat (first | exact h | refine List.mem_cons_of_mem _ ?_)))) ?_; clear hK
          refine t_one (i := 22) hF rfl (by kernel_rfl) rfl ?_
          intro K hK
          (apply x_call hF hM; exact rfl; exact rfl; exact rfl; exact rfl; exact (BytesR_c Y hY8 ay cy _ rfl (by omega) _ _ hM.lt (hM.facts (RdF (Value.int .u8) ay Y.flatten) (by (repeat (first | with_reducible exact List.mem_cons_self | refine List.mem_cons_of_mem _ ?_))))); clear hF hM a; rintro v w a ⟨a6, c6, rfl, h6⟩ - hM hF)
          replace hM := hM.addFact h6
          refine hK _ _ (fun _ => (hM.sm.sub (fun x hx => by repeat (first | exact hx | refine List.mem_cons_of_mem _ ?_)) (fun _ h => by repeat (first | exact h | refine List.mem_cons_of_mem _ ?_)))) ?_; clear hK
          refine t_one (i := 23) hF rfl (by kernel_rfl) rfl ?_
          intro K hK
          refine upon_value (e_b2s (xs := Y.flatten) hF hM rfl (by (repeat (first | with_reducible exact List.mem_cons_self | refine List.mem_cons_of_mem _ ?_))) rfl rfl rfl rfl) ?_; replace hF := hF.put (d := 39) rfl (.string (strOfNums Y.flatten)); generalize a.put (some 39) _ = a at *
          refine hK _ _ (fun _ => (hM.sm.sub (fun x hx => by repeat (first | exact hx | refine List.mem_cons_of_mem _ ?_)) (fun _ h => by repeat (first | exact h | refine List.mem_cons_of_mem _ ?_)))) ?_; clear hK
          refine t_one (i := 24) hF rfl (by kernel_rfl) rfl ?_
          intro K hK
          refine upon_value (e_neS (xs := X.flatten) (ys := Y.flatten) hF rfl rfl (by kernel_rfl) hXf hYf w) ?_; replace hF := hF.put (d := 40) rfl (.bool (decide (X.flatten ≠ Y.flatten))); generalize a.put (some 40) _ = a at *; rw [hne] at hF
          refine hK _ _ (fun _ => (hM.sm.sub (fun x hx => by repeat (first | exact hx | refine List.mem_cons_of_mem _ ?_)) (fun _ h => by repeat (first | exact h | refine List.mem_cons_of_mem _ ?_)))) ?_; clear hK
          (first | (refine t_pure (i := 25) hF rfl rfl rfl rfl (by kernel_rfl) (hM.sm.sub (fun x hx => by repeat (first | exact hx | refine List.mem_cons_of_mem _ ?_)) (fun _ h => by repeat (first | exact h | refine List.mem_cons_of_mem _ ?_))) (fun _ _ _ h => h) ?_ ?_; (first | exact trivial | omega | decide); clear hF a; intro a hF))
          refine t_done (by kernel_rfl) ?_
          (repeat' (first | (with_reducible refine w_seq ?_) | (with_reducible refine c_region ?_) | (with_reducible refine s_nil ?_) | (with_reducible refine q_then_n ?_) | ((with_reducible apply s_pure hF); exact rfl; exact rfl; exact rfl; (first | exact trivial | omega | exact ⟨Int.natCast_nonneg _, Int.ofNat_lt.2 (by assumption)⟩ | decide); clear hF a; intro a hF) | (with_reducible refine w_ret ?_) | (with_reducible refine q_then_r ?_) | (with_reducible refine q_blk_r ?_) | ((with_reducible apply c_true2 hF); exact rfl; (first | with_reducible rfl | (refine congrArg Value.bool ?_; focus (simp; done))))))
          all_goals first | ((apply f_ret Try.results14 hF hM; (repeat (first | exact RL.nil | (apply RL.tmp; exact rfl) | (apply RL.cell; exact rfl; (repeat (first | exact List.mem_cons_self | refine List.mem_cons_of_mem _ ?_)); exact rfl))); refine Ret.mk hM.since ?_; dsimp only [resV]); exact ⟨true, rfl, fun h => by cases h⟩) | exact ⟨mj - 1, by omega, j + 1, by omega, hjn (fun _ => by first | exact he | exact absurd rfl he), hF.sub (by repeat (first | exact Sub.nil | refine Sub.cons rfl (by first | with_reducible rfl | (refine congrArg (Value.int _) ?_; omega) | exact rfl) ?_)), hM.sub (.refl _) (.refl _) (by intro f hf; simp only [List.mem_cons, List.not_mem_nil, or_false] at hf; (repeat (rcases hf with rfl | hf; · (repeat (first | exact List.mem_cons_self | refine List.mem_cons_of_mem _ ?_)))); first | (subst hf; (repeat (first | exact List.mem_cons_self | refine List.mem_cons_of_mem _ ?_)); done) | (repeat (first | exact hf | refine List.mem_cons_of_mem _ ?_)))⟩
        ·
          intro K hK
          (apply x_call hF hM; exact rfl; exact rfl; exact rfl; exact rfl; exact (BytesR_c Y hY8 ay cy _ rfl (by omega) _ _ hM.lt (hM.facts (RdF (Value.int .u8) ay Y.flatten) (by (repeat (first | with_reducible exact List.mem_cons_self | refine List.mem_cons_of_mem _ ?_))))); clear hF hM a; rintro v w a ⟨a6, c6, rfl, h6⟩ - hM hF)
          replace hM := hM.addFact h6
          refine hK _ _ (fun _ => (hM.sm.sub (fun x hx => by repeat (first | exact hx | refine List.mem_cons_of_mem _ ?_)) (fun _ h => by repeat (first | exact h | refine List.mem_cons_of_mem _ ?_)))) ?_; clear hK
          refine t_two (i := 17) (j := 23) hF rfl rfl (by kernel_rfl) rfl rfl ?_ ?_
          ·
            intro K hK
            refine upon_value (e_b2s (xs := X.flatten) hF hM rfl (by (repeat (first | with_reducible exact List.mem_cons_self | refine List.mem_cons_of_mem _ ?_))) rfl rfl rfl rfl) ?_; replace hF := hF.put (d := 33) rfl (.string (strOfNums X.flatten)); generalize a.put (some 33) _ = a at *
            refine hK _ _ (fun _ => (hM.sm.sub (fun x hx => by repeat (first | exact hx | refine List.mem_cons_of_mem _ ?_)) (fun _ h => by repeat (first | exact h | refine List.mem_cons_of_mem _ ?_)))) ?_; clear hK
            refine t_one (i := 23) hF rfl (by kernel_rfl) rfl ?_
            intro K hK
            refine upon_value (e_b2s (xs := Y.flatten) hF hM rfl (by (repeat (first | with_reducible exact List.mem_cons_self | refine List.mem_cons_of_mem _ ?_))) rfl rfl rfl rfl) ?_; replace hF := hF.put (d := 39) rfl (.string (strOfNums Y.flatten)); generalize a.put (some 39) _ = a at *
            refine hK _ _ (fun _ => (hM.sm.sub (fun x hx => by repeat (first | exact hx | refine List.mem_cons_of_mem _ ?_)) (fun _ h => by repeat (first | exact h | refine List.mem_cons_of_mem _ ?_)))) ?_; clear hK
            refine t_one (i := 24) hF rfl (by kernel_rfl) rfl ?_
            intro K hK
            refine upon_value (e_neS (xs := X.flatten) (ys := Y.flatten) hF rfl rfl (by kernel_rfl) hXf hYf w) ?_; replace hF := hF.put (d := 40) rfl (.bool (decide (X.flatten ≠ Y.flatten))); generalize a.put (some 40) _ = a at *; rw [hne] at hF
            refine hK _ _ (fun _ => (hM.sm.sub (fun x hx => by repeat (first | exact hx | refine List.mem_cons_of_mem _ ?_)) (fun _ h => by repeat (first | exact h | refine List.mem_cons_of_mem _ ?_)))) ?_; clear hK
            (first | (refine t_pure (i := 25) hF rfl rfl rfl rfl (by kernel_rfl) (hM.sm.sub (fun x hx => by repeat (first | exact hx | refine List.mem_cons_of_mem _ ?_)) (fun _ h => by repeat (first | exact h | refine List.mem_cons_of_mem _ ?_))) (fun _ _ _ h => h) ?_ ?_; (first | exact trivial | omega | decide); clear hF a; intro a hF))
            refine t_done (by kernel_rfl) ?_
            (repeat' (first | (with_reducible refine w_seq ?_) | (with_reducible refine c_region ?_) | (with_reducible refine s_nil ?_) | (with_reducible refine q_then_n ?_) | ((with_reducible apply s_pure hF); exact rfl; exact rfl; exact rfl; (first | exact trivial | omega | exact ⟨Int.natCast_nonneg _, Int.ofNat_lt.2 (by assumption)⟩ | decide); clear hF a; intro a hF) | (with_reducible refine w_ret ?_) | (with_reducible refine q_then_r ?_) | (with_reducible refine q_blk_r ?_) | ((with_reducible apply c_true2 hF); exact rfl; (first | with_reducible rfl | (refine congrArg Value.bool ?_; focus (simp; done))))))
            all_goals first | ((apply f_ret Try.results14 hF hM; (repeat (first | exact RL.nil | (apply RL.tmp; exact rfl) | (apply RL.cell; exact rfl; (repeat (first | exact List.mem_cons_self | refine List.mem_cons_of_mem _ ?_)); exact rfl))); refine Ret.mk hM.since ?_; dsimp only [resV]); exact ⟨true, rfl, fun h => by cases h⟩) | exact ⟨mj - 1, by omega, j + 1, by omega, hjn (fun _ => by first | exact he | exact absurd rfl he), hF.sub (by repeat (first | exact Sub.nil | refine Sub.cons rfl (by first | with_reducible rfl | (refine congrArg (Value.int _) ?_; omega) | exact rfl) ?_)), hM.sub (.refl _) (.refl _) (by intro f hf; simp only [List.mem_cons, List.not_mem_nil, or_false] at hf; (repeat (rcases hf with rfl | hf; · (repeat (first | exact List.mem_cons_self | refine List.mem_cons_of_mem _ ?_)))); first | (subst hf; (repeat (first | exact List.mem_cons_self | refine List.mem_cons_of_mem _ ?_)); done) | (repeat (first | exact hf | refine List.mem_cons_of_mem _ ?_)))⟩
          ·
            intro K hK
            refine upon_value (e_b2s (xs := Y.flatten) hF hM rfl (by (repeat (first | with_reducible exact List.mem_cons_self | refine List.mem_cons_of_mem _ ?_))) rfl rfl rfl rfl) ?_; replace hF := hF.put (d := 39) rfl (.string (strOfNums Y.flatten)); generalize a.put (some 39) _ = a at *
            refine hK _ _ (fun _ => (hM.sm.sub (fun x hx => by repeat (first | exact hx | refine List.mem_cons_of_mem _ ?_)) (fun _ h => by repeat (first | exact h | refine List.mem_cons_of_mem _ ?_)))) ?_; clear hK
            refine t_one (i := 17) hF rfl (by kernel_rfl) rfl ?_
            intro K hK
            refine upon_value (e_b2s (xs := X.flatten) hF hM rfl (by (repeat (first | with_reducible exact List.mem_cons_self | refine List.mem_cons_of_mem _ ?_))) rfl rfl rfl rfl) ?_; replace hF := hF.put (d := 33) rfl (.string (strOfNums X.flatten)); generalize a.put (some 33) _ = a at *
            refine hK _ _ (fun _ => (hM.sm.sub (fun x hx => by repeat (first | exact hx | refine List.mem_cons_of_mem _ ?_)) (fun _ h => by repeat (first | exact h | refine List.mem_cons_of_mem _ ?_)))) ?_; clear hK
            refine t_one (i := 24) hF rfl (by kernel_rfl) rfl ?_
            intro K hK
            refine upon_value (e_neS (xs := X.flatten) (ys := Y.flatten) hF rfl rfl (by kernel_rfl) hXf hYf w) ?_; replace hF := hF.put (d := 40) rfl (.bool (decide (X.flatten ≠ Y.flatten))); generalize a.put (some 40) _ = a at *; rw [hne] at hF
            refine hK _ _ (fun _ => (hM.sm.sub (fun x hx => by repeat (first | exact hx | refine List.mem_cons_of_mem _ ?_)) (fun _ h => by repeat (first | exact h | refine List.mem_cons_of_mem _ ?_)))) ?_; clear hK
            (first | (refine t_pure (i := 25) hF rfl rfl rfl rfl (by kernel_rfl) (hM.sm.sub (fun x hx => by repeat (first | exact hx | refine List.mem_cons_of_mem _ ?_)) (fun _ h => by repeat (first | exact h | refine List.mem_cons_of_mem _ ?_))) (fun _ _ _ h => h) ?_ ?_; (first | exact trivial | omega | decide); clear hF a; intro a hF))
            refine t_done (by kernel_rfl) ?_
            (repeat' (first | (with_reducible refine w_seq ?_) | (with_reducible refine c_region ?_) | (with_reducible refine s_nil ?_) | (with_reducible refine q_then_n ?_) | ((with_reducible apply s_pure hF); exact rfl; exact rfl; exact rfl; (first | exact trivial | omega | exact ⟨Int.natCast_nonneg _, Int.ofNat_lt.2 (by assumption)⟩ | decide); clear hF a; intro a hF) | (with_reducible refine w_ret ?_) | (with_reducible refine q_then_r ?_) | (with_reducible refine q_blk_r ?_) | ((with_reducible apply c_true2 hF); exact rfl; (first | with_reducible rfl | (refine congrArg Value.bool ?_; focus (simp; done))))))
            all_goals first | ((apply f_ret Try.results14 hF hM; (repeat (first | exact RL.nil | (apply RL.tmp; exact rfl) | (apply RL.cell; exact rfl; (repeat (first | exact List.mem_cons_self | refine List.mem_cons_of_mem _ ?_)); exact rfl))); refine Ret.mk hM.since ?_; dsimp only [resV]); exact ⟨true, rfl, fun h => by cases h⟩) | exact ⟨mj - 1, by omega, j + 1, by omega, hjn (fun _ => by first | exact he | exact absurd rfl he), hF.sub (by repeat (first | exact Sub.nil | refine Sub.cons rfl (by first | with_reducible rfl | (refine congrArg (Value.int _) ?_; omega) | exact rfl) ?_)), hM.sub (.refl _) (.refl _) (by intro f hf; simp only [List.mem_cons, List.not_mem_nil, or_false] at hf; (repeat (rcases hf with rfl | hf; · (repeat (first | exact List.mem_cons_self | refine List.mem_cons_of_mem _ ?_)))); first | (subst hf; (repeat (first | exact List.mem_cons_self | refine List.mem_cons_of_mem _ ?_)); done) | (repeat (first | exact hf | refine List.mem_cons_of_mem _ ?_)))⟩
    · obtain rfl : j = k := by omega
      (repeat' (first | (with_reducible refine w_seq ?_) | (with_reducible refine c_region ?_) | (with_reducible refine s_nil ?_) | (with_reducible refine q_then_n ?_) | ((with_reducible apply s_pure hF); exact rfl; exact rfl; exact rfl; (first | exact trivial | omega | exact ⟨Int.natCast_nonneg _, Int.ofNat_lt.2 (by assumption)⟩ | decide); clear hF a; intro a hF) | (with_reducible refine w_exit ?_) | (with_reducible refine q_then_x ?_) | (with_reducible refine q_blk_n ?_) | (with_reducible refine q_blk_x ?_) | ((with_reducible apply c_false2 hF); exact rfl; (first | with_reducible rfl | (refine congrArg Value.bool ?_; focus (simp; done))))))
      refine ⟨m - 1, by omega, j + 1, by omega, ?_, hF.sub (by repeat (first | exact Sub.nil | refine Sub.cons rfl (by first | with_reducible rfl | (refine congrArg (Value.int _) ?_; omega) | exact rfl) ?_)), hM.sub (.refl _) (.refl _) (by intro f hf; simp only [List.mem_cons, List.not_mem_nil, or_false] at hf; (repeat (rcases hf with rfl | hf; · (repeat (first | exact List.mem_cons_self | refine List.mem_cons_of_mem _ ?_)))); first | (subst hf; (repeat (first | exact List.mem_cons_self | refine List.mem_cons_of_mem _ ?_)); done) | (repeat (first | exact hf | refine List.mem_cons_of_mem _ ?_)))⟩
      rw [htk]
      intro x hx y hy e
      rcases List.mem_append.1 hx with hx | hx
      · rcases List.mem_append.1 hy with hy | hy
        · exact hk0 x hx y hy e
        · rw [List.mem_singleton.1 hy] at e ⊢; exact (hj0 x hx e.symm).symm
      · rw [List.mem_singleton.1 hx] at e ⊢
        rcases List.mem_append.1 hy with hy | hy
        · exact hj0 y hy e
        · rw [List.mem_singleton.1 hy]
  · rw [List.take_of_length_le (by omega)] at hk0
    (repeat' (first | (with_reducible refine w_seq ?_) | (with_reducible refine c_region ?_) | (with_reducible refine s_nil ?_) | (with_reducible refine q_then_n ?_) | ((with_reducible apply s_pure hF); exact rfl; exact rfl; exact rfl; (first | exact trivial | omega | exact ⟨Int.natCast_nonneg _, Int.ofNat_lt.2 (by assumption)⟩ | decide); clear hF a; intro a hF) | (with_reducible refine w_exit ?_) | (with_reducible refine w_ret ?_) | (with_reducible refine q_then_x ?_) | (with_reducible refine q_blk_x ?_) | ((with_reducible apply c_dec hF); exact rfl; all_goals intro hc; all_goals (try (exfalso; omega)))))
    (apply f_ret Try.results14 hF hM; (repeat (first | exact RL.nil | (apply RL.tmp; exact rfl) | (apply RL.cell; exact rfl; (repeat (first | exact List.mem_cons_self | refine List.mem_cons_of_mem _ ?_)); exact rfl))); refine Ret.mk hM.since ?_; dsimp only [resV])
    exact ⟨_, rfl, fun _ => hk0⟩
set_option maxRecDepth 20000 in
set_option maxHeartbeats 4000000 in
theorem runFound_c (ms : List Int) (hms : ∀ d ∈ ms, ∃ x ∈ sms cs, dg x = d) (hml : ms.length ≤ 10000) (am : Option Addr) (cm nm : Nat) (hnm : ms.length = nm) (h3 : Has own W (RdF (Value.int .u64) am ms)) :
    Calls Try.prog 17 ⟨[.slice ac n cc, .slice am nm cm]⟩ W (Ret W fun v w' => ∃ (a : Option Addr) (c : Nat) (fd : List P), v = .slice a nm c ∧ fd.length = nm ∧ (ims fd).map (·.d) = ms ∧ (∀ p ∈ fd, p.1.x ∈ sms cs ∧ dg p.1.x = p.1.d) ∧ DatW fd ∧ Has own w' (RdF id a (cellsP fd)) ∧ Has own w' (DatF fd)) := by
  have hM := (((Mm.start hl).known h3).known h2).known h1
  subst hn hnm
  refine f_start Try.func17 rfl Try.ntmps17 rfl rfl ?_; intro a hF
  (repeat (first | (with_reducible refine w_seq ?_) | (with_reducible refine c_region ?_) | (with_reducible refine s_nil ?_) | (with_reducible refine q_then_n ?_) | ((with_reducible apply s_pure hF); exact rfl; exact rfl; exact rfl; (first | exact trivial | omega | exact ⟨Int.natCast_nonneg _, Int.ofNat_lt.2 (by assumption)⟩ | decide); clear hF a; intro a hF) | (with_reducible refine w_block ?_)))
  have hrow := (hM.nilRow 102 2).addFact (f := DatF []) (Has.pure fun _ p hp => by simp at hp)
  refine c_loop (m := ms.length) (fun m a w' => ∃ (k : Nat) (fd : List P) (fv : Value), m + k = ms.length ∧ fd.length = k ∧ (ims fd).map (·.d) = ms.take k ∧ (∀ p ∈ fd, p.1.x ∈ sms cs ∧ dg p.1.x = p.1.d) ∧ DatW fd ∧
    Fr 35 [] [(12, .int .i64 k), (11, .int .i64 ms.length), (10, .slice am ms.length cm), (5, fv), (0, .slice ac cs.length cc)] a ∧
    Mm own W [] [⟨102, 2, fv, k, cellsP fd⟩] [DatF fd, RdF (Value.int .u64) am ms, RdF encSP ac cs, DatF (sP cs)] w')
    ⟨0, [], _, by omega, rfl, rfl, fun p hp => by simp at hp, fun p hp => by simp at hp, hF.sub (by repeat (first | exact Sub.nil | refine Sub.cons rfl (by first | with_reducible rfl | (refine congrArg (Value.int _) ?_; omega) | exact rfl) ?_)), hrow.sub (.refl _) (.refl _) (fun f hf => by simp only [List.mem_cons, List.not_mem_nil, or_false] at hf ⊢; rcases hf with h | h | h | h <;> simp [h])⟩ ?_
  clear hF hM hrow a
  rintro m a w' ⟨k, fd, fv, hm, hfk, hfd, hfr, hfw, hF, hM⟩
  by_cases hk : k < ms.length
  · obtain ⟨d, hd⟩ := get_of_lt hk
    obtain ⟨am', rfl⟩ : ∃ ad, am = some ad := rd_some hM (enc := Value.int .u64) (a := am) (xs := ms) (by (repeat (first | exact List.mem_cons_self | refine List.mem_cons_of_mem _ ?_))) hd
    obtain ⟨x0, hx0, hx0d⟩ := hms d (List.mem_of_getElem? hd)
    (repeat' (first | (with_reducible refine w_seq ?_) | (with_reducible refine c_region ?_) | (with_reducible refine s_nil ?_) | (with_reducible refine q_then_n ?_) | ((with_reducible apply s_pure hF); exact rfl; exact rfl; exact rfl; (first | exact trivial | omega | exact ⟨Int.natCast_nonneg _, Int.ofNat_lt.2 (by assumption)⟩ | decide); clear hF a; intro a hF) | ((with_reducible apply s_loadF hF hM); exact rfl; exact rfl; (repeat (first | exact List.mem_cons_self | refine List.mem_cons_of_mem _ ?_)); exact rfl; exact rfl; (first | with_reducible assumption | (simp only [Int.toNat_natCast]; with_reducible assumption)); clear hF a; intro a hF) | (with_reducible refine w_skip ?_) | (with_reducible refine w_block ?_) | ((with_reducible apply c_dec hF); exact rfl; all_goals intro hc; all_goals (try (exfalso; omega)))))
    refine c_loop (m := cs.length) (fun mj a w' => ∃ j : Nat, mj + j = cs.length ∧ (∀ y ∈ sms (cs.take j), dg y ≠ d) ∧
      Fr 35 [] [(18, .int .i64 j), (17, .int .i64 cs.length), (16, .slice ac cs.length cc), (7, .int .u64 d), (12, .int .i64 k), (11, .int .i64 ms.length), (10, .slice (some am') ms.length cm), (5, fv), (0, .slice ac cs.length cc)] a ∧
      Mm own W [] [⟨102, 2, fv, k, cellsP fd⟩] [DatF fd, RdF (Value.int .u64) (some am') ms, RdF encSP ac cs, DatF (sP cs)] w') ⟨0, by omega, by simp [sms], hF.sub (by repeat (first | exact Sub.nil | refine Sub.cons rfl (by first | with_reducible rfl | (refine congrArg (Value.int _) ?_; omega) | exact rfl) ?_)), hM⟩ ?_
    clear hF hM a
    rintro mj a w' ⟨j, hmj, hj0, hF, hM⟩
    by_cases hj : j < cs.length
    · obtain ⟨X, hX⟩ := get_of_lt hj
      have hXm := List.mem_of_getElem? hX
      obtain ⟨hX8, hXc, hXb⟩ := hcs ((⟨0, X.1⟩ : Itm), X.2) (List.mem_map.2 ⟨X, hXm, rfl⟩)
      have hXl := hcx X hXm
      have hXr := dat_sp (hM.facts (DatF (sP cs)) (by (repeat (first | with_reducible exact List.mem_cons_self | refine List.mem_cons_of_mem _ ?_)))) hXm
      have htj : sms (cs.take (j + 1)) = sms (cs.take j) ++ [X.1] := by rw [take_snoc hX, sms_app]; rfl
      have hXs : X.1 ∈ sms cs := List.mem_map.2 ⟨X, hXm, rfl⟩
      obtain ⟨ad, rfl⟩ : ∃ ad, ac = some ad := rd_some hM (enc := encSP) (a := ac) (xs := cs) (by (repeat (first | exact List.mem_cons_self | refine List.mem_cons_of_mem _ ?_))) hX
      obtain ⟨X, ax, cx⟩ := X
      dsimp only at hX8 hXc hXb hXl hXr htj hXs
      obtain ⟨q, hq⟩ : ∃ q, X.length = q := ⟨_, rfl⟩
      replace hM := hM.addFact hXr
      (repeat (first | (with_reducible refine w_seq ?_) | (with_reducible refine c_region ?_) | (with_reducible refine s_nil ?_) | (with_reducible refine q_then_n ?_) | ((with_reducible apply s_pure hF); exact rfl; exact rfl; exact rfl; (first | exact trivial | omega | exact ⟨Int.natCast_nonneg _, Int.ofNat_lt.2 (by assumption)⟩ | decide); clear hF a; intro a hF)))
      rw [decide_eq_true (show (j : Int) < (cs.length : Int) by omega)] at hF
      (repeat (first | (with_reducible refine w_seq ?_) | (with_reducible refine c_region ?_) | (with_reducible refine s_nil ?_) | (with_reducible refine q_then_n ?_) | ((with_reducible apply s_pure hF); exact rfl; exact rfl; exact rfl; (first | exact trivial | omega | exact ⟨Int.natCast_nonneg _, Int.ofNat_lt.2 (by assumption)⟩ | decide); clear hF a; intro a hF) | ((with_reducible apply s_loadF hF hM); exact rfl; exact rfl; (repeat (first | exact List.mem_cons_self | refine List.mem_cons_of_mem _ ?_)); exact rfl; exact rfl; (first | with_reducible assumption | (simp only [Int.toNat_natCast]; with_reducible assumption)); clear hF a; intro a hF) | (with_reducible refine w_skip ?_) | (with_reducible refine w_block ?_) | ((with_reducible apply c_true2 hF); exact rfl; (first | with_reducible rfl | (refine congrArg Value.bool ?_; focus (simp; done))))))
      unfold encSP at hF
      dsimp only at hF
      rw [hq] at hF
      (((with_reducible apply s_call (f := 42) hF hM); exact rfl; exact rfl; exact rfl; exact rfl; exact rfl; exact (Sectors4_c X hX8 ax cx q hq (by omega) _ _ hM.lt (hM.facts (RdF (Value.int .u8) ax X.flatten) (by (repeat (first | with_reducible exact List.mem_cons_self | refine List.mem_cons_of_mem _ ?_))))); clear hF hM a; rintro v w a rfl - hM hF))
      by_cases hdd : dg X = d
      · (repeat' (first | (with_reducible refine w_seq ?_) | (with_reducible refine c_region ?_) | (with_reducible refine s_nil ?_) | (with_reducible refine q_then_n ?_) | ((with_reducible apply s_pure hF); exact rfl; exact rfl; exact rfl; (first | exact trivial | omega | exact ⟨Int.natCast_nonneg _, Int.ofNat_lt.2 (by assumption)⟩ | decide); clear hF a; intro a hF) | ((with_reducible apply s_lit hF hM); exact rfl; exact rfl; exact rfl; exact rfl; clear hF hM a; intro bl w a hM hF) | ((with_reducible apply s_app hF hM); exact rfl; exact rfl; exact rfl; exact rfl; (repeat (first | exact Kth.z | apply Kth.s)); exact rfl; exact rfl; exact rfl; exact rfl; omega; clear hF hM a; intro g cap w a hM hF; dsimp only [List.set] at hM) | (with_reducible refine w_exit ?_) | (with_reducible refine q_then_x ?_) | (with_reducible refine q_blk_n ?_) | (with_reducible refine q_blk_x ?_) | (with_reducible refine q_blk_y rfl ?_) | ((with_reducible apply c_dec hF); exact rfl; all_goals intro hc; all_goals (try (exfalso; omega)))))
        have hD := DatF.snoc (p := ((⟨d, X⟩ : Itm), ax, cx)) (hM.facts (DatF fd) (by (repeat (first | with_reducible exact List.mem_cons_self | refine List.mem_cons_of_mem _ ?_)))) (hM.facts (RdF (Value.int .u8) ax X.flatten) (by (repeat (first | with_reducible exact List.mem_cons_self | refine List.mem_cons_of_mem _ ?_))))
        have hce : cellsP (fd ++ [((⟨d, X⟩ : Itm), ax, cx)]) = cellsP fd ++ [.int .u64 d, .slice ax q cx] := by rw [cellsP_app, ← hq]; rfl
        refine ⟨m - 1, by omega, k + 1, fd ++ [((⟨d, X⟩ : Itm), ax, cx)], .slice (some ⟨g, 0, none⟩) (k + 1) cap, by omega, by simp; omega, ?_, ?_, hfw.snoc ⟨hX8, by show X.length ≤ cx; omega, hXb⟩, hF.sub (by repeat (first | exact Sub.nil | refine Sub.cons rfl (by first | with_reducible rfl | (refine congrArg (Value.int _) ?_; omega) | exact rfl) ?_)), ?_⟩
        · rw [ims_app, List.map_append, hfd, take_snoc hd]
          rfl
        · intro p hp
          rcases List.mem_append.1 hp with hp | hp
          · exact hfr p hp
          · rw [List.mem_singleton.1 hp]; exact ⟨hXs, hdd⟩
        · rw [hce]
          exact (hM.addFact hD).sub (List.nil_sublist _) (.refl _) (fun f hf => by simp only [List.mem_cons, List.not_mem_nil, or_false] at hf ⊢; rcases hf with h | h | h | h <;> simp [h])
      · (repeat' (first | (with_reducible refine c_region ?_) | (with_reducible refine s_nil ?_) | (with_reducible refine q_then_n ?_) | ((with_reducible apply s_pure hF); exact rfl; exact rfl; exact rfl; (first | exact trivial | omega | exact ⟨Int.natCast_nonneg _, Int.ofNat_lt.2 (by assumption)⟩ | decide); clear hF a; intro a hF) | (with_reducible refine w_skip ?_) | (with_reducible refine q_blk_n ?_) | ((with_reducible apply c_dec hF); exact rfl; all_goals intro hc; all_goals (try (exfalso; omega)))))
        refine ⟨mj - 1, by omega, j + 1, by omega, ?_, hF.sub (by repeat (first | exact Sub.nil | refine Sub.cons rfl (by first | with_reducible rfl | (refine congrArg (Value.int _) ?_; omega) | exact rfl) ?_)), hM.sub (.refl _) (.refl _) (fun f hf => List.mem_cons_of_mem _ hf)⟩
        intro y hy
        rw [htj] at hy
        rcases List.mem_append.1 hy with hy | hy
        · exact hj0 y hy
        · rw [List.mem_singleton.1 hy]; exact hdd
    · rw [List.take_of_length_le (by omega)] at hj0
      exact absurd hx0d (hj0 x0 hx0)
  · obtain rfl : k = ms.length := by omega
    rw [List.take_of_length_le (Nat.le_refl _)] at hfd
    obtain ⟨av, cv, rfl, hcv, -⟩ := OffR.shape hM (k := 0) rfl (OffR.plain hM List.mem_cons_self)
    replace hM := Mm.freezeN (enc := id) (xs := cellsP fd) (by rw [List.map_id]; exact hM)
    (repeat' (first | (with_reducible refine w_seq ?_) | (with_reducible refine c_region ?_) | (with_reducible refine s_nil ?_) | (with_reducible refine q_then_n ?_) | ((with_reducible apply s_pure hF); exact rfl; exact rfl; exact rfl; (first | exact trivial | omega | exact ⟨Int.natCast_nonneg _, Int.ofNat_lt.2 (by assumption)⟩ | decide); clear hF a; intro a hF) | (with_reducible refine w_exit ?_) | (with_reducible refine w_ret ?_) | (with_reducible refine q_then_x ?_) | (with_reducible refine q_blk_x ?_) | ((with_reducible apply c_false2 hF); exact rfl; (first | with_reducible rfl | (refine congrArg Value.bool ?_; focus (simp; done))))))
    (apply f_ret Try.results17 hF hM; (repeat (first | exact RL.nil | (apply RL.tmp; exact rfl) | (apply RL.cell; exact rfl; (repeat (first | exact List.mem_cons_self | refine List.mem_cons_of_mem _ ?_)); exact rfl))); refine Ret.mk hM.since ?_; dsimp only [resV])
    exact ⟨av, cv, fd, rfl, hfk, hfd, hfr, hfw, hM.factOut (by (repeat (first | with_reducible exact List.mem_cons_self | refine List.mem_cons_of_mem _ ?_))), hM.factOut (by (repeat (first | with_reducible exact List.mem_cons_self | refine List.mem_cons_of_mem _ ?_)))⟩
end
end Go.Proofs.Ytadfdpkhehdikaa

