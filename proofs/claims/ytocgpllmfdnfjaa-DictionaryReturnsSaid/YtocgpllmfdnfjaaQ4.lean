/- Texts of this seat, one behind the other: Y4 Y5 Y6 D9 Da Db Dc Dd De Y7 Z1. -/
import Derived.Test.YtocgpllmfdnfjaaQ3
set_option linter.unusedSimpArgs false
set_option linter.unusedVariables false
set_option linter.unusedSectionVars false
set_option maxRecDepth 3000
/- The reference of runlength: Encode. -/
namespace Go.Proofs.Ytocgpllmfdnfjaa
open Go.RowKit Go.Shelf
theorem encL_app {l : List (List Int)} (pre : List (Fin l.length)) (x : Fin l.length) : encL l (pre ++ [x]) = (encL l pre ++ puts (4 * (nx l x).2 + (nx l x).1)) ++ ((l.drop x).take (lits l x)).flatten := by
  unfold encL encG encS
  rw [List.flatMap_append]
  simp
set_option maxRecDepth 20000 in
theorem EncodeR_c (l : List (List Int)) (hw : W8 l) (hlen : l.length ≤ 30000) (a0 : Option Addr) (c0 : Nat) (hc0 : l.length ≤ c0) (own : Nat → Prop) (W : World) (hl : ∀ b, own b → b < W.heap.size) (hv : Has own W (RdF (Value.int .u8) a0 l.flatten)) :
    Calls Try.prog 37 ⟨[.slice a0 l.length c0]⟩ W (Ret W fun v w' => ∃ a' c', v = .slice a' (enc l).length c' ∧ Owns w' W.heap.size [⟨5, 1, .slice a' (enc l).length c', (enc l).length, (enc l).map (Value.int .u8)⟩]) := by
  have hM := (Mm.start hl).known hv
  have hw' : ∀ y ∈ l, y.length = 8 := hw
  have hw3 : ∀ y ∈ gl l (grp l), y.length = 3 := gl_3 l _
  refine f_start Try.func37 rfl Try.ntmps37 rfl rfl ?_; intro a hF
  (repeat (first | (with_reducible refine w_seq ?_) | (with_reducible refine c_region ?_) | (with_reducible refine s_nil ?_) | ((with_reducible apply s_callO (f := 51) hF); exact rfl; exact rfl; exact rfl; exact rfl; exact rfl; exact (GroupsR_c l hw hlen a0 c0 _ _ hM.lt (hM.facts _ (by (repeat (first | exact List.mem_cons_self | refine List.mem_cons_of_mem _ ?_))))); clear hF a; rintro v wn a ⟨a1, c1, rfl, hO⟩ hS hF; replace hM := hM.addRows hS hO; clear hS hO; dsimp only [List.cons_append, List.nil_append] at hM) | (with_reducible refine q_then_n ?_) | ((with_reducible apply s_pure hF); exact rfl; exact rfl; exact rfl; (first | exact trivial | omega | exact ⟨Int.natCast_nonneg _, Int.ofNat_lt.2 (by assumption)⟩ | decide); clear hF a; intro a hF) | (with_reducible refine w_block ?_)))
  replace hM := hM.freezeN.nilRow 5 1
  refine c_loop (m := (grp l).length) (fun m a w' => ∃ (i : Nat) (v : Value) (N : Nat), m + i = (grp l).length ∧ N = (encL l ((grp l).take i)).length ∧
    Fr 54 [] [(5, .int .i64 i), (4, .slice a1 (grp l).length c1), (3, v), (0, .slice a0 l.length c0)] a ∧ Mm own W [] [⟨5, 1, v, N, (encL l ((grp l).take i)).map (Value.int .u8)⟩] [RdF (Value.int .i64) a1 (gl l (grp l)).flatten, RdF (Value.int .u8) a0 l.flatten] w') ⟨0, _, 0, by omega, by simp [encL], hF.sub (by repeat (first | exact Sub.nil | refine Sub.cons rfl (by first | with_reducible rfl | (refine congrArg (Value.int _) ?_; omega) | exact rfl) ?_)), by simp only [List.take_zero, encL, List.flatMap_nil, List.map_nil]; exact hM⟩ ?_
  clear hF hM a
  rintro m a w' ⟨i, v, N, hm, hN, hF, hM⟩
  obtain ⟨av, cv, rfl, -, -⟩ := hM.row List.mem_cons_self
  have hgl : (grp l).length ≤ l.length := by have := grpF_len (l := l) l.length 0; unfold grp; omega
  by_cases hi : i < (grp l).length
  case neg =>
    have he : encL l ((grp l).take i) = enc l := by rw [List.take_of_length_le (by omega)]; rfl
    rw [he] at hM hN
    subst hN
    (repeat' (first | (with_reducible refine w_seq ?_) | (with_reducible refine c_region ?_) | (with_reducible refine s_nil ?_) | (with_reducible refine q_then_n ?_) | ((with_reducible apply s_pure hF); exact rfl; exact rfl; exact rfl; (first | exact trivial | omega | exact ⟨Int.natCast_nonneg _, Int.ofNat_lt.2 (by assumption)⟩ | decide); clear hF a; intro a hF) | (with_reducible refine w_exit ?_) | (with_reducible refine w_ret ?_) | (with_reducible refine q_then_x ?_) | (with_reducible refine q_blk_x ?_) | ((with_reducible apply c_dec hF); exact rfl; all_goals intro hc; all_goals (try (exfalso; omega)))))
    (apply f_ret Try.results37 hF hM; (repeat (first | exact RL.nil | (apply RL.tmp; exact rfl) | (apply RL.cell; exact rfl; (repeat (first | exact List.mem_cons_self | refine List.mem_cons_of_mem _ ?_)); exact rfl))); refine Ret.mk hM.since ?_; dsimp only [resV])
    exact ⟨_, _, rfl, hM.mem.own⟩
  obtain ⟨x, hx⟩ := get_of_lt hi
  have hgx : (gl l (grp l))[((i : Int)).toNat]? = some [((nx l x).1 : Int), ((x : Nat) : Int), ((nx l x).2 : Int)] := by rw [Int.toNat_natCast]; unfold gl; rw [List.getElem?_map, hx]; rfl
  obtain ⟨ad1, rfl⟩ : ∃ ad, a1 = some ad := rd_some hM (enc := Value.int .i64) (a := a1) (xs := (gl l (grp l)).flatten) (by (repeat (first | exact List.mem_cons_self | refine List.mem_cons_of_mem _ ?_))) (flat_get (q := 0) hw3 hgx rfl)
  have hxl := x.2
  have hkn := nx_kind (l := l) (i := x)
  have hcn := nx_le hxl
  obtain ⟨s0, hs0⟩ := get_of_lt hxl
  have hs08 := hw s0 (List.mem_of_getElem? hs0)
  obtain ⟨ad, rfl⟩ : ∃ ad, a0 = some ad := rd_some hM (enc := Value.int .u8) (a := a0) (xs := l.flatten) (by (repeat (first | exact List.mem_cons_self | refine List.mem_cons_of_mem _ ?_))) (flat_get (q := 0) hw hs0 (List.getElem?_eq_getElem (by omega)))
  have hpl := encL_len hw hlen ((grp l).take i) (by rw [List.length_take]; omega)
  have hE : encL l ((grp l).take (i + 1)) = (encL l ((grp l).take i) ++ puts (4 * (nx l x).2 + (nx l x).1)) ++ ((l.drop x).take (lits l x)).flatten := by
    rw [List.take_add_one, hx]
    exact encL_app _ x
  have hkind : ((nx l x).1 = 0 ∧ lits l x = (nx l x).2) ∨ ((nx l x).1 = 1 ∧ lits l x = 1) ∨ ((nx l x).1 = 2 ∧ lits l x = 0) := by
    unfold lits
    rcases (show (nx l x).1 = 0 ∨ (nx l x).1 = 1 ∨ (nx l x).1 = 2 by omega) with h | h | h <;> simp [h]
  have hll := lits_le (l := l) (i := x)
  have hW8 : W8 ((l.drop x).take (lits l x)) := (hw.drop _).take _
  have hDl : ((l.drop x).take (lits l x)).length = lits l x := by rw [List.length_take, List.length_drop]; omega
  have hDg : ∀ j, j < lits l x → ((l.drop x).take (lits l x))[j]? = l[x.val + j]? := fun j hj => by rw [List.getElem?_take, if_pos hj, List.getElem?_drop]
  generalize (l.drop x).take (lits l x) = D at *
  generalize lits l x = q at *
  generalize hkk : (nx l x).1 = kd at *
  generalize hcc : (nx l x).2 = cn at *
  generalize (x : Nat) = xi at *
  generalize encL l ((grp l).take i) = E at *
  have hP := puts_len 2 (4 * cn + kd) (by omega)
  (repeat' (first | (with_reducible refine w_seq ?_) | (with_reducible refine c_region ?_) | (with_reducible refine s_nil ?_) | ((with_reducible apply s_callO (f := 31) hF); exact rfl; exact rfl; exact rfl; exact rfl; exact rfl; exact (PutIntR_c (4 * cn + kd) _ (by omega) (by omega) av cv E _ hN.symm own _ (fun b h => hM.lt b (.inl h)) (hM.rowFact List.mem_cons_self) (by omega)); clear hF a; rintro v wn a ⟨a2, c2, rfl, hO⟩ hS hF; replace hM := hM.addRows hS hO; clear hS hO; dsimp only [List.cons_append, List.nil_append] at hM) | ((with_reducible apply s_loadS hF hM); exact rfl; exact rfl; (repeat (first | exact List.mem_cons_self | refine List.mem_cons_of_mem _ ?_)); exact rfl; exact rfl; (first | with_reducible assumption | (simp only [Int.toNat_natCast]; with_reducible assumption)); (with_reducible assumption); clear hF a; intro a hF) | (with_reducible refine q_then_n ?_) | ((with_reducible apply s_pure hF); exact rfl; exact rfl; exact rfl; (first | exact trivial | omega | exact ⟨Int.natCast_nonneg _, Int.ofNat_lt.2 (by assumption)⟩ | decide); clear hF a; intro a hF) | ((with_reducible apply s_load hF hM); exact rfl; exact rfl; (repeat (first | exact List.mem_cons_self | refine List.mem_cons_of_mem _ ?_)); exact rfl; exact rfl; clear hF a; intro a hF) | ((with_reducible apply s_store hF hM); exact rfl; exact rfl; exact rfl; exact rfl; (repeat (first | exact Upd.z | apply Upd.s)); exact rfl; exact rfl; exact rfl; clear hM; intro w hM) | ((with_reducible apply s_alloc hF hM); exact rfl; exact rfl; exact rfl; clear hF hM a; intro b w a hM hF) | (with_reducible refine w_skip ?_) | (with_reducible refine w_block ?_) | (with_reducible refine q_blk_n ?_) | ((with_reducible apply c_dec hF); exact rfl; all_goals intro hc; all_goals (try (exfalso; omega)))))
  all_goals
    obtain ⟨b6, rfl⟩ : ∃ x, x = b := ⟨_, rfl⟩
    generalize puts (4 * cn + kd) = P at *
    refine c_loop (m := q) (fun m a w' => ∃ (j : Nat) (v : Value) (n : Nat), m + j = q ∧ n = N + P.length + 8 * j ∧
      Fr 54 [] [(8, .int .i64 j), (7, .int .i64 q), (6, .pointer (some ⟨b6, 0, none⟩)), (3, v), (5, .int .i64 i), (4, .slice (some ad1) (grp l).length c1), (0, .slice (some ad) l.length c0)] a ∧
      Mm own W [⟨b6, ⟨[.int .i64 kd, .int .i64 xi, .int .i64 cn]⟩, 88⟩] [⟨5, 1, v, n, ((E ++ P) ++ (D.take j).flatten).map (Value.int .u8)⟩] [RdF (Value.int .i64) (some ad1) (gl l (grp l)).flatten, RdF (Value.int .u8) (some ad) l.flatten] w')
      ⟨0, _, N + P.length, by omega, by omega, hF.sub (by repeat (first | exact Sub.nil | refine Sub.cons rfl (by first | with_reducible rfl | (refine congrArg (Value.int _) ?_; omega) | exact rfl) ?_)), by rw [List.take_zero, List.flatten_nil, List.append_nil]; exact hM.sub (.refl _) (.cons_cons _ (.cons _ .slnil)) (by intro f hf; simp only [List.mem_cons, List.not_mem_nil, or_false] at hf; (repeat (rcases hf with rfl | hf; · (repeat (first | exact List.mem_cons_self | refine List.mem_cons_of_mem _ ?_)))); first | (subst hf; (repeat (first | exact List.mem_cons_self | refine List.mem_cons_of_mem _ ?_)); done) | (repeat (first | exact hf | refine List.mem_cons_of_mem _ ?_)))⟩ ?_
    clear hF hM a hkind
    rintro mm a w' ⟨j, v, n, hmm, hn, hF, hM⟩
    by_cases hj : j < q
    · obtain ⟨s, hs⟩ := get_of_lt (l := D) (i := j) (by omega)
      have hs2 : l[((xi : Int) + (j : Int)).toNat]? = some s := by rw [show ((xi : Int) + (j : Int)).toNat = xi + j by omega, ← hDg j hj]; exact hs
      obtain ⟨x0, x1, x2, x3, x4, x5, x6, x7, rfl⟩ := len8 (hW8 s (List.mem_of_getElem? hs))
      have htk : (D.take (j + 1)).flatten = (D.take j).flatten ++ [x0, x1, x2, x3, x4, x5, x6, x7] := by rw [List.take_add_one, hs]; simp
      (repeat' (first | (with_reducible refine w_seq ?_) | (with_reducible refine c_region ?_) | (with_reducible refine s_nil ?_) | ((with_reducible apply s_loadS hF hM); exact rfl; exact rfl; (repeat (first | exact List.mem_cons_self | refine List.mem_cons_of_mem _ ?_)); exact rfl; exact rfl; (first | with_reducible assumption | (simp only [Int.toNat_natCast]; with_reducible assumption)); (with_reducible assumption); clear hF a; intro a hF) | ((with_reducible apply s_arrSl hF); exact rfl; exact rfl; exact rfl; exact rfl; clear hF a; intro a hF) | (with_reducible refine q_then_n ?_) | ((with_reducible apply s_pure hF); exact rfl; exact rfl; exact rfl; (first | exact trivial | omega | exact ⟨Int.natCast_nonneg _, Int.ofNat_lt.2 (by assumption)⟩ | decide); clear hF a; intro a hF) | ((with_reducible apply s_load hF hM); exact rfl; exact rfl; (repeat (first | exact List.mem_cons_self | refine List.mem_cons_of_mem _ ?_)); exact rfl; exact rfl; clear hF a; intro a hF) | ((with_reducible apply s_store hF hM); exact rfl; exact rfl; exact rfl; exact rfl; (repeat (first | exact Upd.z | apply Upd.s)); exact rfl; exact rfl; exact rfl; clear hM; intro w hM) | ((with_reducible apply s_alloc hF hM); exact rfl; exact rfl; exact rfl; clear hF hM a; intro b w a hM hF) | ((with_reducible apply s_app hF hM); exact rfl; exact rfl; exact rfl; exact rfl; (repeat (first | exact Kth.z | apply Kth.s)); exact rfl; exact rfl; exact rfl; exact rfl; omega; clear hF hM a; intro g cap w a hM hF; dsimp only [List.set] at hM) | (with_reducible refine w_skip ?_) | (with_reducible refine w_block ?_) | (with_reducible refine q_blk_n ?_) | ((with_reducible apply c_dec hF); exact rfl; all_goals intro hc; all_goals (try (exfalso; omega)))))
      refine ⟨mm - 1, by omega, j + 1, .slice (some ⟨g, 0, none⟩) (n + 8) cap, n + 8, by omega, by omega, hF.sub (by repeat (first | exact Sub.nil | refine Sub.cons rfl (by first | with_reducible rfl | (refine congrArg (Value.int _) ?_; omega) | exact rfl) ?_)), ?_⟩
      rw [htk, ← List.append_assoc, List.map_append]
      exact hM
    · obtain rfl : j = q := by omega
      rw [List.take_of_length_le (by omega)] at hM
      (repeat' (first | (with_reducible refine w_seq ?_) | (with_reducible refine c_region ?_) | (with_reducible refine s_nil ?_) | (with_reducible refine q_then_n ?_) | ((with_reducible apply s_pure hF); exact rfl; exact rfl; exact rfl; (first | exact trivial | omega | exact ⟨Int.natCast_nonneg _, Int.ofNat_lt.2 (by assumption)⟩ | decide); clear hF a; intro a hF) | (with_reducible refine w_exit ?_) | (with_reducible refine q_then_x ?_) | (with_reducible refine q_blk_n ?_) | (with_reducible refine q_blk_x ?_) | ((with_reducible apply c_false2 hF); exact rfl; (first | with_reducible rfl | (refine congrArg Value.bool ?_; focus (simp; done))))))
      refine ⟨m - 1, by omega, i + 1, v, n, by omega, ?_, hF.sub (by repeat (first | exact Sub.nil | refine Sub.cons rfl (by first | with_reducible rfl | (refine congrArg (Value.int _) ?_; omega) | exact rfl) ?_)), ?_⟩
      · rw [hE, List.length_append, List.length_append, flat_len hW8]; omega
      · rw [hE]
        exact hM.sub (.cons _ (.refl _)) (.refl _) (fun _ h => h)
end Go.Proofs.Ytocgpllmfdnfjaa

/- The reference of runlength: Decode. -/
namespace Go.Proofs.Ytocgpllmfdnfjaa
open Go.RowKit Go.Shelf
theorem sadr_zero (a : Option Addr) (c n : Nat) : sadr a 0 c n = a := by
  unfold sadr
  cases a with
  | none => split <;> rfl
  | some a =>
    split
    · rfl
    · simp only [Option.map_some, Nat.zero_mul]
      rfl
set_option maxRecDepth 20000 in
theorem DecodeR_c (xb : List Int) (hxb : ∀ x ∈ xb, 0 ≤ x ∧ x < 256) (hlen : xb.length ≤ 1000000) (most : Int) (a0 : Option Addr) (c0 : Nat) (hc0 : xb.length ≤ c0) (own : Nat → Prop) (W : World) (hl : ∀ b, own b → b < W.heap.size) (hv : Has own W (RdF (Value.int .u8) a0 xb)) :
    Calls Try.prog 41 ⟨[.slice a0 xb.length c0, .int .i64 most]⟩ W (Ret W (DecR W (dec (mst most) xb))) := by
  have hM := (Mm.start hl).known hv
  obtain ⟨mo, hmo⟩ : ∃ mo : Nat, mst most = mo := ⟨_, rfl⟩
  have hmo2 : max 0 (min most 4096) = (mo : Int) := by unfold mst at hmo; omega
  have hmo3 : mo ≤ 4096 := by omega
  rw [hmo]
  refine f_start Try.func41 rfl Try.ntmps41 rfl rfl ?_; intro a hF
  (repeat (first | (with_reducible refine w_seq ?_) | (with_reducible refine c_region ?_) | (with_reducible refine s_nil ?_) | (with_reducible refine q_then_n ?_) | ((with_reducible apply s_pure hF); exact rfl; exact rfl; exact rfl; (first | exact trivial | omega | exact ⟨Int.natCast_nonneg _, Int.ofNat_lt.2 (by assumption)⟩ | decide); clear hF a; intro a hF) | (with_reducible refine w_block ?_)))
  rw [hmo2] at hF
  replace hM := dup0 (hM.nilRow 44 8)
  refine c_loop (m := xb.length) (fun m a w' => ∃ (xs : List Int) (ls : List (List Int)) (a1 : Option Addr) (c1 : Nat) (ov : Value) (n : Nat), xs.length ≤ m ∧ xs.length ≤ xb.length ∧ (∀ x ∈ xs, 0 ≤ x ∧ x < 256) ∧ xs.length ≤ c1 ∧ W8 ls ∧ B8 ls ∧ ls.length ≤ mo ∧ n = ls.length ∧ decF mo xb.length xb [] = decF mo m xs ls ∧
    Fr 95 [] [(6, ov), (7, .slice a1 xs.length c1), (0, .slice a0 xb.length c0), (1, .int .i64 mo)] a ∧
    Mm own W [] [⟨44, 8, ov, n, ls.flatten.map (Value.int .u8)⟩] [RdF (Value.int .u8) a1 xs, RdF (Value.int .u8) a0 xb] w')
    ⟨xb, [], a0, c0, _, 0, Nat.le_refl _, Nat.le_refl _, hxb, hc0, (by intro y hy; cases hy), (by intro y hy; cases hy), Nat.zero_le _, rfl, rfl, hF.sub (by repeat (first | exact Sub.nil | refine Sub.cons rfl (by first | with_reducible rfl | (refine congrArg (Value.int _) ?_; omega) | exact rfl) ?_)), hM⟩ ?_
  clear hF hM a
  rintro m a w' ⟨xs, ls, a1, c1, ov, n, hm, hxl, hxb1, hc1, hls, hlB, hlm, hn, hdec, hF, hM⟩
  obtain ⟨ao, co, rfl⟩ : ∃ ao co, ov = .slice ao n co := by
    rcases (hM.mem.own.own _ List.mem_cons_self).2 with ⟨h1, h2⟩ | ⟨g, cap, cur, h1, _⟩
    · exact ⟨none, 0, by rw [show n = 0 from h2]; exact h1⟩
    · exact ⟨_, _, h1⟩
  by_cases h0 : xs.length = 0
  · rw [decF_nil h0] at hdec
    have hD := dec_ok hdec
    subst hn
    have hcap := row_capB hM List.mem_cons_self
    have hencb := enc_bytes hlB
    (repeat' (first | (with_reducible refine w_seq ?_) | (with_reducible refine c_region ?_) | (with_reducible refine s_nil ?_) | ((with_reducible apply s_callO (f := 37) hF); exact rfl; exact rfl; exact rfl; exact rfl; exact rfl; exact (EncodeR_c ls hls (by omega) ao co hcap own _ (fun b h => hM.lt b (.inl h)) (hM.rowF List.mem_cons_self)); clear hF a; rintro v wn a ⟨a2, c2, rfl, hO⟩ hS hF; replace hM := hM.addRows hS hO; clear hS hO; dsimp only [List.cons_append, List.nil_append] at hM) | ((with_reducible apply s_call (f := 54) hF hM); exact rfl; exact rfl; exact rfl; exact rfl; exact rfl; exact (sameR_c (enc ls) xb hencb hxb a2 a0 _ _ c2 c0 rfl rfl own _ (fun b h => hM.lt b (.inl h)) (hM.rowF List.mem_cons_self) ((hM.facts (RdF (Value.int .u8) a0 xb) (by (repeat (first | exact List.mem_cons_self | refine List.mem_cons_of_mem _ ?_)))).own_eq (fun _ h => .inl h))); clear hF hM a; rintro v w a rfl - hM hF) | (with_reducible refine q_then_n ?_) | ((with_reducible apply s_pure hF); exact rfl; exact rfl; exact rfl; (first | exact trivial | omega | exact ⟨Int.natCast_nonneg _, Int.ofNat_lt.2 (by assumption)⟩ | decide); clear hF a; intro a hF) | (with_reducible refine w_skip ?_) | (with_reducible refine w_exit ?_) | (with_reducible refine w_ret ?_) | (with_reducible refine q_then_x ?_) | (with_reducible refine q_then_r ?_) | (with_reducible refine q_blk_x ?_) | ((with_reducible apply c_dec hF); exact rfl; all_goals intro hc; all_goals (try (exfalso; omega))) | ((with_reducible apply c_ndec hF); exact rfl; all_goals intro hc; all_goals (try (exfalso; omega)))))
    · have hne : enc ls ≠ xb := by assumption
      rw [if_neg hne] at hD
      rw [hD]
      (apply f_ret Try.results41 hF hM; (repeat (first | exact RL.nil | (apply RL.tmp; exact rfl) | (apply RL.cell; exact rfl; (repeat (first | exact List.mem_cons_self | refine List.mem_cons_of_mem _ ?_)); exact rfl))); refine Ret.mk hM.since ?_; dsimp only [resV])
      exact rfl
    · have he : enc ls = xb := by assumption
      rw [if_pos he] at hD
      rw [hD]
      (apply f_ret Try.results41 hF hM; (repeat (first | exact RL.nil | (apply RL.tmp; exact rfl) | (apply RL.cell; exact rfl; (repeat (first | exact List.mem_cons_self | refine List.mem_cons_of_mem _ ?_)); exact rfl))); refine Ret.mk hM.since ?_; dsimp only [resV])
      exact ⟨ao, co, rfl, (hM.sub (.refl _) (.cons _ (.refl _)) (fun _ h => h)).mem.own⟩
  obtain ⟨m, rfl⟩ : ∃ m', m = m' + 1 := ⟨m - 1, by omega⟩
  (repeat (first | (with_reducible refine w_seq ?_) | (with_reducible refine c_region ?_) | (with_reducible refine s_nil ?_) | (with_reducible refine q_then_n ?_) | ((with_reducible apply s_pure hF); exact rfl; exact rfl; exact rfl; (first | exact trivial | omega | exact ⟨Int.natCast_nonneg _, Int.ofNat_lt.2 (by assumption)⟩ | decide); clear hF a; intro a hF)))
  rw [decide_eq_true (show (0 : Int) < (xs.length : Int) by omega)] at hF
  by_cases he : (rdNum xs).2.1 = 0
  case neg =>
    have hg : grpD mo xs ls = .error (rdNum xs).2.1 := by unfold grpD; rw [if_pos he]
    rw [decF_err h0 hg] at hdec
    rw [dec_err hdec]
    (repeat' (first | (with_reducible refine w_seq ?_) | (with_reducible refine c_region ?_) | (with_reducible refine s_nil ?_) | ((with_reducible apply s_call (f := 33) hF hM); exact rfl; exact rfl; exact rfl; exact rfl; exact rfl; exact (IntR_err xs hxb1 (by omega) a1 c1 hc1 _ _ hM.lt (hM.facts _ (by (repeat (first | exact List.mem_cons_self | refine List.mem_cons_of_mem _ ?_)))) he); clear hF hM a; rintro v w a rfl - hM hF) | (with_reducible refine q_then_n ?_) | ((with_reducible apply s_pure hF); exact rfl; exact rfl; exact rfl; (first | exact trivial | omega | exact ⟨Int.natCast_nonneg _, Int.ofNat_lt.2 (by assumption)⟩ | decide); clear hF a; intro a hF) | (with_reducible refine w_skip ?_) | (with_reducible refine w_block ?_) | (with_reducible refine w_ret ?_) | (with_reducible refine q_then_r ?_) | (with_reducible refine q_blk_r ?_) | ((with_reducible apply c_true2 hF); exact rfl; (first | with_reducible rfl | (refine congrArg Value.bool ?_; focus (simp; done)))) | ((with_reducible apply c_dec hF); exact rfl; all_goals intro hc; all_goals (try (exfalso; omega)))))
    (apply f_ret Try.results41 hF hM; (repeat (first | exact RL.nil | (apply RL.tmp; exact rfl) | (apply RL.cell; exact rfl; (repeat (first | exact List.mem_cons_self | refine List.mem_cons_of_mem _ ?_)); exact rfl))); refine Ret.mk hM.since ?_; dsimp only [resV])
    exact rfl
  obtain ⟨N, hN⟩ : ∃ N : Nat, (rdNum xs).1 = N := ⟨(rdNum xs).1.toNat, by have := (rdN_nn 8 0 0 xs (by omega) hxb1).1; unfold rdNum; omega⟩
  have hNb : N ≤ 9007199254740991 := by have := (rdN_nn 8 0 0 xs (by omega) hxb1).2; unfold rdNum at hN; omega
  have hD : grpD mo xs ls = (if 2 < N % 4 ∨ N / 4 = 0 then .error 3
      else if (mo : Int) - ls.length < (N / 4 : Nat) then .error 5
      else if N % 4 = 0 then (if (xs.drop (rdNum xs).2.2).length < 8 * (N / 4) then .error 10 else .ok ((xs.drop (rdNum xs).2.2).drop (8 * (N / 4)), ls ++ chunks (N / 4) (xs.drop (rdNum xs).2.2)))
      else if N % 4 = 1 then (if (xs.drop (rdNum xs).2.2).length < 8 then .error 10 else .ok ((xs.drop (rdNum xs).2.2).drop 8, ls ++ List.replicate (N / 4) ((xs.drop (rdNum xs).2.2).take 8)))
      else .ok (xs.drop (rdNum xs).2.2, ls ++ List.replicate (N / 4) zr)) := by
    unfold grpD
    rw [if_neg (by simp [he]), hN, Int.toNat_natCast]
  have hu := rdN_used 8 0 0 xs he
  rw [show rdN xs 8 0 0 = rdNum xs from rfl] at hu
  (repeat (first | (with_reducible refine w_seq ?_) | (with_reducible refine c_region ?_) | (with_reducible refine s_nil ?_) | ((with_reducible apply s_callO (f := 33) hF); exact rfl; exact rfl; exact rfl; exact rfl; exact rfl; exact (IntR_ok xs hxb1 (by omega) a1 c1 hc1 own _ (fun b h => hM.lt b (.inl h)) ((hM.facts (RdF (Value.int .u8) a1 xs) (by (repeat (first | exact List.mem_cons_self | refine List.mem_cons_of_mem _ ?_)))).own_eq (fun _ h => .inl h)) he); clear hF a; rintro v wn a ⟨a2, c2, rfl, hO⟩ hS hF; replace hM := hM.addRows hS hO; clear hS hO; dsimp only [List.cons_append, List.nil_append] at hM; rw [hN] at hF) | (with_reducible refine q_then_n ?_) | ((with_reducible apply s_pure hF); exact rfl; exact rfl; exact rfl; (first | exact trivial | omega | exact ⟨Int.natCast_nonneg _, Int.ofNat_lt.2 (by assumption)⟩ | decide); clear hF a; intro a hF) | (with_reducible refine w_skip ?_) | (with_reducible refine w_block ?_) | ((with_reducible apply c_true2 hF); exact rfl; (first | with_reducible rfl | (refine congrArg Value.bool ?_; focus (simp; done)))) | ((with_reducible apply c_false2 hF); exact rfl; (first | with_reducible rfl | (refine congrArg Value.bool ?_; focus (simp; done))))))
  have hc2 := row_capB hM List.mem_cons_self
  replace hM := hM.freezeN
  rw [show (N : Int) % 4 = ((N % 4 : Nat) : Int) by omega, show (N : Int) / 4 = ((N / 4 : Nat) : Int) by omega] at hF
  have hyl : (xs.drop (rdNum xs).2.2).length < xs.length := by rw [List.length_drop]; omega
  have hyb : ∀ y ∈ xs.drop (rdNum xs).2.2, 0 ≤ y ∧ y < 256 := fun y hy => hxb1 y (List.mem_of_mem_drop hy)
  have hM2 := hM.sub (Fs' := [RdF (Value.int .u8) a2 (xs.drop (rdNum xs).2.2), RdF (Value.int .u8) a0 xb]) (.refl _) (.refl _) (by intro f hf; simp only [List.mem_cons, List.not_mem_nil, or_false] at hf; (repeat (rcases hf with rfl | hf; · (repeat (first | exact List.mem_cons_self | refine List.mem_cons_of_mem _ ?_)))); first | (subst hf; (repeat (first | exact List.mem_cons_self | refine List.mem_cons_of_mem _ ?_)); done) | (repeat (first | exact hf | refine List.mem_cons_of_mem _ ?_)))
  clear hM
  have hM := hM2
  clear hM2
  have hdecE : ∀ e, grpD mo xs ls = .error e → dec mo xb = .error e := fun e h => by rw [decF_err h0 h] at hdec; exact dec_err hdec
  have hdecO : ∀ zs ls', grpD mo xs ls = .ok (zs, ls') → decF mo xb.length xb [] = decF mo m zs ls' := fun zs ls' h => by rw [decF_ok h0 h] at hdec; exact hdec
  have hgo : ∀ zs ls', grpD mo xs ls = .ok (zs, ls') → zs.length < xs.length ∧ ls'.length ≤ mo ∧ W8 ls' ∧ B8 ls' ∧ ∀ x ∈ zs, 0 ≤ x ∧ x < 256 := fun zs ls' h => by
    obtain ⟨k, hk1, hk2, rfl, hk4, hk5, hk6, hk7⟩ := grpD_ok h
    exact ⟨by rw [List.length_drop]; omega, hk4, hk6 hls, hk7 hxb1 hlB, fun x hx => hxb1 x (List.mem_of_mem_drop hx)⟩
  clear hdec
  generalize xs.drop (rdNum xs).2.2 = ys at *
  have hNn : N / 4 ≤ N := Nat.div_le_self _ _
  have hk4 : N % 4 < 4 := Nat.mod_lt _ (by decide)
  generalize hkd : N % 4 = kd at *
  generalize hcn : N / 4 = cn at *
  (repeat' (first | (with_reducible refine w_seq ?_) | (with_reducible refine c_region ?_) | (with_reducible refine s_nil ?_) | (with_reducible refine q_then_n ?_) | ((with_reducible apply s_pure hF); exact rfl; exact rfl; exact rfl; (first | exact trivial | omega | exact ⟨Int.natCast_nonneg _, Int.ofNat_lt.2 (by assumption)⟩ | decide); clear hF a; intro a hF) | (with_reducible refine w_skip ?_) | (with_reducible refine w_block ?_) | (with_reducible refine w_ret ?_) | (with_reducible refine q_then_r ?_) | (with_reducible refine q_blk_n ?_) | (with_reducible refine q_blk_r ?_) | ((with_reducible apply c_true2 hF); exact rfl; (first | with_reducible rfl | (refine congrArg Value.bool ?_; focus (simp; done)))) | ((with_reducible apply c_false2 hF); exact rfl; (first | with_reducible rfl | (refine congrArg Value.bool ?_; focus (simp; done)))) | ((with_reducible apply s_skip hF); exact rfl; exact rfl; clear hF a; intro a hF) | ((with_reducible apply g_dec hF); exact rfl; exact rfl; all_goals (clear hF; intro hc hF); all_goals (try (exfalso; omega))) | ((with_reducible apply c_dec hF); exact rfl; all_goals intro hc; all_goals (try (exfalso; omega)))))
  · rw [if_pos (.inl (by omega))] at hD
    rw [hdecE _ hD]
    (apply f_ret Try.results41 hF hM; (repeat (first | exact RL.nil | (apply RL.tmp; exact rfl) | (apply RL.cell; exact rfl; (repeat (first | exact List.mem_cons_self | refine List.mem_cons_of_mem _ ?_)); exact rfl))); refine Ret.mk hM.since ?_; dsimp only [resV])
    exact rfl
  · rw [if_pos (.inr (by omega))] at hD
    rw [hdecE _ hD]
    (apply f_ret Try.results41 hF hM; (repeat (first | exact RL.nil | (apply RL.tmp; exact rfl) | (apply RL.cell; exact rfl; (repeat (first | exact List.mem_cons_self | refine List.mem_cons_of_mem _ ?_)); exact rfl))); refine Ret.mk hM.since ?_; dsimp only [resV])
    exact rfl
  · rw [if_neg (by omega), if_pos (by omega)] at hD
    rw [hdecE _ hD]
    (apply f_ret Try.results41 hF hM; (repeat (first | exact RL.nil | (apply RL.tmp; exact rfl) | (apply RL.cell; exact rfl; (repeat (first | exact List.mem_cons_self | refine List.mem_cons_of_mem _ ?_)); exact rfl))); refine Ret.mk hM.since ?_; dsimp only [resV])
    exact rfl
  · rw [if_neg (by omega), if_neg (by omega), if_pos (by omega), if_pos (by omega)] at hD
    rw [hdecE _ hD]
    (apply f_ret Try.results41 hF hM; (repeat (first | exact RL.nil | (apply RL.tmp; exact rfl) | (apply RL.cell; exact rfl; (repeat (first | exact List.mem_cons_self | refine List.mem_cons_of_mem _ ?_)); exact rfl))); refine Ret.mk hM.since ?_; dsimp only [resV])
    exact rfl
  · rw [if_neg (by omega), if_neg (by omega), if_pos (by omega), if_neg (by omega)] at hD
    obtain ⟨g1, g2, g3, g4, g5⟩ := hgo _ _ hD
    have hdO := hdecO _ _ hD
    refine c_loop (m := cn) (fun mm a w' => ∃ (j : Nat) (ov : Value) (n2 : Nat), mm + j = cn ∧ n2 = ls.length + j ∧
      Fr 95 [] [(14, .int .i64 j), (13, .int .i64 cn), (12, .int .i64 kd), (11, .int .i64 cn), (9, .slice a2 ys.length c2), (6, ov), (0, .slice a0 xb.length c0), (1, .int .i64 mo)] a ∧
      Mm own W [] [⟨44, 8, ov, n2, (ls ++ chunks j ys).flatten.map (Value.int .u8)⟩] [RdF (Value.int .u8) a2 ys, RdF (Value.int .u8) a0 xb] w')
      ⟨0, _, n, by omega, by omega, hF.sub (by repeat (first | exact Sub.nil | refine Sub.cons rfl (by first | with_reducible rfl | (refine congrArg (Value.int _) ?_; omega) | exact rfl) ?_)), by simp only [chunks, List.replicate_zero, List.append_nil]; exact hM⟩ ?_
    clear hF hM a
    rintro mm a w' ⟨j, ov, n2, hmm, hn2, hF, hM⟩
    obtain ⟨ao, co, rfl⟩ : ∃ ao co, ov = .slice ao n2 co := by
      rcases (hM.mem.own.own _ List.mem_cons_self).2 with ⟨h1, h2⟩ | ⟨g, cap, cur, h1, _⟩
      · exact ⟨none, 0, by rw [show n2 = 0 from h2]; exact h1⟩
      · exact ⟨_, _, h1⟩
    by_cases hj : j < cn
    · obtain ⟨y0, hy0⟩ := get_of_lt (l := ys) (i := 0) (by omega)
      obtain ⟨ad, rfl⟩ := rd_some hM (enc := Value.int .u8) (a := a2) (xs := ys) (by (repeat (first | exact List.mem_cons_self | refine List.mem_cons_of_mem _ ?_))) hy0
      have hch := chunks_succ j ys
      replace hM := hM.addFact (RdF.take (RdF.drop (hM.facts (RdF (Value.int .u8) (some ad) ys) (by (repeat (first | exact List.mem_cons_self | refine List.mem_cons_of_mem _ ?_)))) (8 * j) c2 hc2) 8)
      have hs8 : ((ys.drop (8 * j)).take 8).length = 8 := by rw [List.length_take]; rw [List.length_drop]; omega
      generalize (ys.drop (8 * j)).take 8 = s at *
      obtain ⟨x0, x1, x2, x3, x4, x5, x6, x7, rfl⟩ := len8 hs8
      (repeat' (first | (with_reducible refine w_seq ?_) | (with_reducible refine c_region ?_) | (with_reducible refine s_nil ?_) | (with_reducible refine q_then_n ?_) | ((with_reducible apply s_pure hF); exact rfl; exact rfl; exact rfl; (first | exact trivial | omega | exact ⟨Int.natCast_nonneg _, Int.ofNat_lt.2 (by assumption)⟩ | decide); clear hF a; intro a hF) | ((with_reducible apply s_alloc hF hM); exact rfl; exact rfl; exact rfl; clear hF hM a; intro b w a hM hF) | (with_reducible refine w_skip ?_) | (with_reducible refine w_block ?_) | ((with_reducible apply c_dec hF); exact rfl; all_goals intro hc; all_goals (try (exfalso; omega)))))
      refine c_drawS (fun i => Nat.ble 9 i) (fun x hx => List.mem_cons_of_mem _ (hx)) hM ?_; clear hM; intro w hM
      (first | (apply t_arrSl (i := 0) hF rfl rfl rfl rfl rfl; kernel_rfl; exact (hM.sm.sub (fun x hx => by repeat (first | exact hx | refine List.mem_cons_of_mem _ ?_)) (fun _ h => by repeat (first | exact h | refine List.mem_cons_of_mem _ ?_))); exact (fun _ _ _ h => h); clear hF a; intro a hF))
      (first | (refine t_pure (i := 1) hF rfl rfl rfl rfl (by kernel_rfl) (hM.sm.sub (fun x hx => by repeat (first | exact hx | refine List.mem_cons_of_mem _ ?_)) (fun _ h => by repeat (first | exact h | refine List.mem_cons_of_mem _ ?_))) (fun _ _ _ h => h) ?_ ?_; (first | exact trivial | omega | decide); clear hF a; intro a hF))
      (first | (refine t_pure (i := 2) hF rfl rfl rfl rfl (by kernel_rfl) (hM.sm.sub (fun x hx => by repeat (first | exact hx | refine List.mem_cons_of_mem _ ?_)) (fun _ h => by repeat (first | exact h | refine List.mem_cons_of_mem _ ?_))) (fun _ _ _ h => h) ?_ ?_; (first | exact trivial | omega | decide); clear hF a; intro a hF))
      (first | (refine t_pure (i := 3) hF rfl rfl rfl rfl (by kernel_rfl) (hM.sm.sub (fun x hx => by repeat (first | exact hx | refine List.mem_cons_of_mem _ ?_)) (fun _ h => by repeat (first | exact h | refine List.mem_cons_of_mem _ ?_))) (fun _ _ _ h => h) ?_ ?_; (first | exact trivial | omega | decide); clear hF a; intro a hF))
      (first | (refine t_pure (i := 4) hF rfl rfl rfl rfl (by kernel_rfl) (hM.sm.sub (fun x hx => by repeat (first | exact hx | refine List.mem_cons_of_mem _ ?_)) (fun _ h => by repeat (first | exact h | refine List.mem_cons_of_mem _ ?_))) (fun _ _ _ h => h) ?_ ?_; (first | exact trivial | omega | decide); clear hF a; intro a hF))
      (first | (refine t_pure (i := 5) hF rfl rfl rfl rfl (by kernel_rfl) (hM.sm.sub (fun x hx => by repeat (first | exact hx | refine List.mem_cons_of_mem _ ?_)) (fun _ h => by repeat (first | exact h | refine List.mem_cons_of_mem _ ?_))) (fun _ _ _ h => h) ?_ ?_; (first | exact trivial | omega | decide); clear hF a; intro a hF))
      (first | (refine t_pure (i := 6) hF rfl rfl rfl rfl (by kernel_rfl) (hM.sm.sub (fun x hx => by repeat (first | exact hx | refine List.mem_cons_of_mem _ ?_)) (fun _ h => by repeat (first | exact h | refine List.mem_cons_of_mem _ ?_))) (fun _ _ _ h => h) ?_ ?_; (first | exact trivial | omega | decide); clear hF a; intro a hF))
      (first | (refine t_pure (i := 7) hF rfl rfl rfl rfl (by kernel_rfl) (hM.sm.sub (fun x hx => by repeat (first | exact hx | refine List.mem_cons_of_mem _ ?_)) (fun _ h => by repeat (first | exact h | refine List.mem_cons_of_mem _ ?_))) (fun _ _ _ h => h) ?_ ?_; (first | exact trivial | omega | decide); clear hF a; intro a hF))
      replace hF := Fr.same (t := 73) (u := .slice (sadr (some ad) (8 * j) c2 1) 8 (c2 - 8 * j)) hF rfl (by rw [show ((j : Int) * 8).toNat = 8 * j by omega, show (((j : Int) + 1) * 8).toNat - 8 * j = 8 by omega])
      refine t_one (i := 8) hF rfl (by kernel_rfl) rfl ?_
      intro K hK
      (refine e_copyB hF hM (enc := Value.int .u8) (q := 8) (k := 8) (cs' := [.int .u8 x0, .int .u8 x1, .int .u8 x2, .int .u8 x3, .int .u8 x4, .int .u8 x5, .int .u8 x6, .int .u8 x7]) rfl rfl (by (repeat (first | exact List.mem_cons_self | refine List.mem_cons_of_mem _ ?_))) rfl (fun _ => rfl) .z rfl rfl rfl rfl ?_; clear hM; intro w hM; replace hF := hF.put (d := 74) rfl (.int .i64 ((8 : Nat) : Int)); generalize a.put (some 74) _ = a at *)
      refine hK _ _ (fun _ => (hM.sm.sub (fun x hx => by repeat (first | exact hx | refine List.mem_cons_of_mem _ ?_)) (fun _ h => by repeat (first | exact h | refine List.mem_cons_of_mem _ ?_)))) ?_; clear hK
      refine t_done (by kernel_rfl) ?_
      (repeat' (first | (with_reducible refine w_seq ?_) | (with_reducible refine c_region ?_) | (with_reducible refine s_nil ?_) | (with_reducible refine q_then_n ?_) | ((with_reducible apply s_pure hF); exact rfl; exact rfl; exact rfl; (first | exact trivial | omega | exact ⟨Int.natCast_nonneg _, Int.ofNat_lt.2 (by assumption)⟩ | decide); clear hF a; intro a hF) | ((with_reducible apply s_load hF hM); exact rfl; exact rfl; (repeat (first | exact List.mem_cons_self | refine List.mem_cons_of_mem _ ?_)); exact rfl; exact rfl; clear hF a; intro a hF) | ((with_reducible apply s_lit hF hM); exact rfl; exact rfl; exact rfl; exact rfl; clear hF hM a; intro bl w a hM hF) | ((with_reducible apply s_app hF hM); exact rfl; exact rfl; exact rfl; exact rfl; (repeat (first | exact Kth.z | apply Kth.s)); exact rfl; exact rfl; exact rfl; exact rfl; omega; clear hF hM a; intro g cap w a hM hF; dsimp only [List.set] at hM) | (with_reducible refine w_skip ?_) | (with_reducible refine q_blk_n ?_) | ((with_reducible apply c_dec hF); exact rfl; all_goals intro hc; all_goals (try (exfalso; omega)))))
      refine ⟨mm - 1, by omega, j + 1, .slice (some ⟨g, 0, none⟩) (n2 + 1) cap, n2 + 1, by omega, by omega, hF.sub (by repeat (first | exact Sub.nil | refine Sub.cons rfl (by first | with_reducible rfl | (refine congrArg (Value.int _) ?_; omega) | exact rfl) ?_)), ?_⟩
      rw [hch, ← List.append_assoc, List.flatten_append, List.map_append]
      exact hM.sub (.cons _ (.refl _)) (.refl _) (by intro f hf; simp only [List.mem_cons, List.not_mem_nil, or_false] at hf; (repeat (rcases hf with rfl | hf; · (repeat (first | exact List.mem_cons_self | refine List.mem_cons_of_mem _ ?_)))); first | (subst hf; (repeat (first | exact List.mem_cons_self | refine List.mem_cons_of_mem _ ?_)); done) | (repeat (first | exact hf | refine List.mem_cons_of_mem _ ?_)))
    · obtain rfl : j = cn := by omega
      (repeat' (first | (with_reducible refine w_seq ?_) | (with_reducible refine c_region ?_) | (with_reducible refine s_nil ?_) | (with_reducible refine q_then_n ?_) | ((with_reducible apply s_pure hF); exact rfl; exact rfl; exact rfl; (first | exact trivial | omega | exact ⟨Int.natCast_nonneg _, Int.ofNat_lt.2 (by assumption)⟩ | decide); clear hF a; intro a hF) | (with_reducible refine w_exit ?_) | (with_reducible refine q_then_x ?_) | (with_reducible refine q_blk_n ?_) | (with_reducible refine q_blk_x ?_) | ((with_reducible apply c_false2 hF); exact rfl; (first | with_reducible rfl | (refine congrArg Value.bool ?_; focus (simp; done))))))
      obtain ⟨y0, hy0⟩ := get_of_lt (l := ys) (i := 0) (by omega)
      obtain ⟨ad, rfl⟩ := rd_some hM (enc := Value.int .u8) (a := a2) (xs := ys) (by (repeat (first | exact List.mem_cons_self | refine List.mem_cons_of_mem _ ?_))) hy0
      replace hM := hM.addFact (RdF.drop (hM.facts (RdF (Value.int .u8) (some ad) ys) (by (repeat (first | exact List.mem_cons_self | refine List.mem_cons_of_mem _ ?_)))) (8 * j) c2 hc2)
      have hdl := List.length_drop (i := 8 * j) (l := ys)
      rw [show ((j : Int) * 8).toNat = 8 * j by omega, show ((ys.length : Nat) : Int).toNat - 8 * j = (ys.drop (8 * j)).length by omega] at hF
      exact ⟨m, by omega, ys.drop (8 * j), _, sadr (some ad) (8 * j) c2 1, c2 - (8 * j), _, n2, by omega, by omega, g5, by omega, g3, g4, g2, by rw [List.length_append, chunks_len]; omega, hdO, hF.sub (by repeat (first | exact Sub.nil | refine Sub.cons rfl (by first | with_reducible rfl | (refine congrArg (Value.int _) ?_; omega) | exact rfl) ?_)), hM.sub (.refl _) (.refl _) (by intro f hf; simp only [List.mem_cons, List.not_mem_nil, or_false] at hf; (repeat (rcases hf with rfl | hf; · (repeat (first | exact List.mem_cons_self | refine List.mem_cons_of_mem _ ?_)))); first | (subst hf; (repeat (first | exact List.mem_cons_self | refine List.mem_cons_of_mem _ ?_)); done) | (repeat (first | exact hf | refine List.mem_cons_of_mem _ ?_)))⟩
  · rw [if_neg (by omega), if_neg (by omega), if_neg (by omega), if_pos (by omega), if_pos (by omega)] at hD
    rw [hdecE _ hD]
    (apply f_ret Try.results41 hF hM; (repeat (first | exact RL.nil | (apply RL.tmp; exact rfl) | (apply RL.cell; exact rfl; (repeat (first | exact List.mem_cons_self | refine List.mem_cons_of_mem _ ?_)); exact rfl))); refine Ret.mk hM.since ?_; dsimp only [resV])
    exact rfl
  · rw [if_neg (by omega), if_neg (by omega), if_neg (by omega), if_pos (by omega), if_neg (by omega)] at hD
    obtain ⟨g1, g2, g3, g4, g5⟩ := hgo _ _ hD
    have hdO := hdecO _ _ hD
    refine c_loop (m := cn) (fun mm a w' => ∃ (j : Nat) (ov : Value) (n2 : Nat), mm + j = cn ∧ n2 = ls.length + j ∧
      Fr 95 [] [(14, .int .i64 j), (13, .int .i64 1), (12, .int .i64 kd), (11, .int .i64 cn), (9, .slice a2 ys.length c2), (6, ov), (0, .slice a0 xb.length c0), (1, .int .i64 mo)] a ∧
      Mm own W [] [⟨44, 8, ov, n2, (ls ++ List.replicate j (ys.take 8)).flatten.map (Value.int .u8)⟩] [RdF (Value.int .u8) a2 ys, RdF (Value.int .u8) a0 xb] w')
      ⟨0, _, n, by omega, by omega, hF.sub (by repeat (first | exact Sub.nil | refine Sub.cons rfl (by first | with_reducible rfl | (refine congrArg (Value.int _) ?_; omega) | exact rfl) ?_)), by simp only [chunks, List.replicate_zero, List.append_nil]; exact hM⟩ ?_
    clear hF hM a
    rintro mm a w' ⟨j, ov, n2, hmm, hn2, hF, hM⟩
    obtain ⟨ao, co, rfl⟩ : ∃ ao co, ov = .slice ao n2 co := by
      rcases (hM.mem.own.own _ List.mem_cons_self).2 with ⟨h1, h2⟩ | ⟨g, cap, cur, h1, _⟩
      · exact ⟨none, 0, by rw [show n2 = 0 from h2]; exact h1⟩
      · exact ⟨_, _, h1⟩
    by_cases hj : j < cn
    · obtain ⟨y0, hy0⟩ := get_of_lt (l := ys) (i := 0) (by omega)
      obtain ⟨ad, rfl⟩ := rd_some hM (enc := Value.int .u8) (a := a2) (xs := ys) (by (repeat (first | exact List.mem_cons_self | refine List.mem_cons_of_mem _ ?_))) hy0
      have hch : List.replicate (j + 1) (ys.take 8) = List.replicate j (ys.take 8) ++ [ys.take 8] := List.replicate_succ'
      replace hM := hM.addFact (RdF.take (hM.facts (RdF (Value.int .u8) (some ad) ys) (by (repeat (first | exact List.mem_cons_self | refine List.mem_cons_of_mem _ ?_)))) 8)
      have hs8 : (ys.take 8).length = 8 := by rw [List.length_take]; omega
      generalize List.take 8 ys = s at *
      obtain ⟨x0, x1, x2, x3, x4, x5, x6, x7, rfl⟩ := len8 hs8
      (repeat' (first | (with_reducible refine w_seq ?_) | (with_reducible refine c_region ?_) | (with_reducible refine s_nil ?_) | (with_reducible refine q_then_n ?_) | ((with_reducible apply s_pure hF); exact rfl; exact rfl; exact rfl; (first | exact trivial | omega | exact ⟨Int.natCast_nonneg _, Int.ofNat_lt.2 (by assumption)⟩ | decide); clear hF a; intro a hF) | ((with_reducible apply s_alloc hF hM); exact rfl; exact rfl; exact rfl; clear hF hM a; intro b w a hM hF) | (with_reducible refine w_skip ?_) | (with_reducible refine w_block ?_) | ((with_reducible apply c_dec hF); exact rfl; all_goals intro hc; all_goals (try (exfalso; omega)))))
      refine c_drawS (fun i => Nat.ble 4 i) (fun x hx => List.mem_cons_of_mem _ (hx)) hM ?_; clear hM; intro w hM
      (first | (apply t_arrSl (i := 0) hF rfl rfl rfl rfl rfl; kernel_rfl; exact (hM.sm.sub (fun x hx => by repeat (first | exact hx | refine List.mem_cons_of_mem _ ?_)) (fun _ h => by repeat (first | exact h | refine List.mem_cons_of_mem _ ?_))); exact (fun _ _ _ h => h); clear hF a; intro a hF))
      (first | (refine t_pure (i := 1) hF rfl rfl rfl rfl (by kernel_rfl) (hM.sm.sub (fun x hx => by repeat (first | exact hx | refine List.mem_cons_of_mem _ ?_)) (fun _ h => by repeat (first | exact h | refine List.mem_cons_of_mem _ ?_))) (fun _ _ _ h => h) ?_ ?_; (first | exact trivial | omega | decide); clear hF a; intro a hF))
      (first | (refine t_pure (i := 2) hF rfl rfl rfl rfl (by kernel_rfl) (hM.sm.sub (fun x hx => by repeat (first | exact hx | refine List.mem_cons_of_mem _ ?_)) (fun _ h => by repeat (first | exact h | refine List.mem_cons_of_mem _ ?_))) (fun _ _ _ h => h) ?_ ?_; (first | exact trivial | omega | decide); clear hF a; intro a hF))
      replace hF := Fr.same (t := 79) (u := .slice (some ad) 8 (c2 - 0)) hF rfl (by rw [show (0 : Int).toNat = 0 from rfl, sadr_zero]; rfl)
      refine t_one (i := 3) hF rfl (by kernel_rfl) rfl ?_
      intro K hK
      (refine e_copyB hF hM (enc := Value.int .u8) (q := 8) (k := 8) (cs' := [.int .u8 x0, .int .u8 x1, .int .u8 x2, .int .u8 x3, .int .u8 x4, .int .u8 x5, .int .u8 x6, .int .u8 x7]) rfl rfl (by (repeat (first | exact List.mem_cons_self | refine List.mem_cons_of_mem _ ?_))) rfl (fun _ => rfl) .z rfl rfl rfl rfl ?_; clear hM; intro w hM; replace hF := hF.put (d := 80) rfl (.int .i64 ((8 : Nat) : Int)); generalize a.put (some 80) _ = a at *)
      refine hK _ _ (fun _ => (hM.sm.sub (fun x hx => by repeat (first | exact hx | refine List.mem_cons_of_mem _ ?_)) (fun _ h => by repeat (first | exact h | refine List.mem_cons_of_mem _ ?_)))) ?_; clear hK
      refine t_done (by kernel_rfl) ?_
      (repeat' (first | (with_reducible refine c_region ?_) | (with_reducible refine s_nil ?_) | (with_reducible refine q_then_n ?_) | ((with_reducible apply s_pure hF); exact rfl; exact rfl; exact rfl; (first | exact trivial | omega | exact ⟨Int.natCast_nonneg _, Int.ofNat_lt.2 (by assumption)⟩ | decide); clear hF a; intro a hF) | ((with_reducible apply s_load hF hM); exact rfl; exact rfl; (repeat (first | exact List.mem_cons_self | refine List.mem_cons_of_mem _ ?_)); exact rfl; exact rfl; clear hF a; intro a hF) | ((with_reducible apply s_lit hF hM); exact rfl; exact rfl; exact rfl; exact rfl; clear hF hM a; intro bl w a hM hF) | ((with_reducible apply s_app hF hM); exact rfl; exact rfl; exact rfl; exact rfl; (repeat (first | exact Kth.z | apply Kth.s)); exact rfl; exact rfl; exact rfl; exact rfl; omega; clear hF hM a; intro g cap w a hM hF; dsimp only [List.set] at hM) | (with_reducible refine q_blk_n ?_)))
      refine ⟨mm - 1, by omega, j + 1, .slice (some ⟨g, 0, none⟩) (n2 + 1) cap, n2 + 1, by omega, by omega, hF.sub (by repeat (first | exact Sub.nil | refine Sub.cons rfl (by first | with_reducible rfl | (refine congrArg (Value.int _) ?_; omega) | exact rfl) ?_)), ?_⟩
      rw [hch, ← List.append_assoc, List.flatten_append, List.map_append]
      exact hM.sub (.cons _ (.refl _)) (.refl _) (by intro f hf; simp only [List.mem_cons, List.not_mem_nil, or_false] at hf; (repeat (rcases hf with rfl | hf; · (repeat (first | exact List.mem_cons_self | refine List.mem_cons_of_mem _ ?_)))); first | (subst hf; (repeat (first | exact List.mem_cons_self | refine List.mem_cons_of_mem _ ?_)); done) | (repeat (first | exact hf | refine List.mem_cons_of_mem _ ?_)))
    · obtain rfl : j = cn := by omega
      (repeat' (first | (with_reducible refine w_seq ?_) | (with_reducible refine c_region ?_) | (with_reducible refine s_nil ?_) | (with_reducible refine q_then_n ?_) | ((with_reducible apply s_pure hF); exact rfl; exact rfl; exact rfl; (first | exact trivial | omega | exact ⟨Int.natCast_nonneg _, Int.ofNat_lt.2 (by assumption)⟩ | decide); clear hF a; intro a hF) | (with_reducible refine w_exit ?_) | (with_reducible refine q_then_x ?_) | (with_reducible refine q_blk_n ?_) | (with_reducible refine q_blk_x ?_) | ((with_reducible apply c_false2 hF); exact rfl; (first | with_reducible rfl | (refine congrArg Value.bool ?_; focus (simp; done))))))
      obtain ⟨y0, hy0⟩ := get_of_lt (l := ys) (i := 0) (by omega)
      obtain ⟨ad, rfl⟩ := rd_some hM (enc := Value.int .u8) (a := a2) (xs := ys) (by (repeat (first | exact List.mem_cons_self | refine List.mem_cons_of_mem _ ?_))) hy0
      replace hM := hM.addFact (RdF.drop (hM.facts (RdF (Value.int .u8) (some ad) ys) (by (repeat (first | exact List.mem_cons_self | refine List.mem_cons_of_mem _ ?_)))) (8) c2 hc2)
      have hdl := List.length_drop (i := 8) (l := ys)
      rw [show ((1 : Int) * 8).toNat = 8 from rfl, show ((ys.length : Nat) : Int).toNat - 8 = (ys.drop (8)).length by omega] at hF
      exact ⟨m, by omega, ys.drop (8), _, sadr (some ad) (8) c2 1, c2 - 8, _, n2, by omega, by omega, g5, by omega, g3, g4, g2, by rw [List.length_append, List.length_replicate]; omega, hdO, hF.sub (by repeat (first | exact Sub.nil | refine Sub.cons rfl (by first | with_reducible rfl | (refine congrArg (Value.int _) ?_; omega) | exact rfl) ?_)), hM.sub (.refl _) (.refl _) (by intro f hf; simp only [List.mem_cons, List.not_mem_nil, or_false] at hf; (repeat (rcases hf with rfl | hf; · (repeat (first | exact List.mem_cons_self | refine List.mem_cons_of_mem _ ?_)))); first | (subst hf; (repeat (first | exact List.mem_cons_self | refine List.mem_cons_of_mem _ ?_)); done) | (repeat (first | exact hf | refine List.mem_cons_of_mem _ ?_)))⟩
  · rw [if_neg (by omega), if_neg (by omega), if_neg (by omega), if_neg (by omega)] at hD
    obtain ⟨g1, g2, g3, g4, g5⟩ := hgo _ _ hD
    have hdO := hdecO _ _ hD
    refine c_loop (m := cn) (fun mm a w' => ∃ (j : Nat) (ov : Value) (n2 : Nat), mm + j = cn ∧ n2 = ls.length + j ∧
      Fr 95 [] [(14, .int .i64 j), (13, .int .i64 0), (12, .int .i64 kd), (11, .int .i64 cn), (9, .slice a2 ys.length c2), (6, ov), (0, .slice a0 xb.length c0), (1, .int .i64 mo)] a ∧
      Mm own W [] [⟨44, 8, ov, n2, (ls ++ List.replicate j zr).flatten.map (Value.int .u8)⟩] [RdF (Value.int .u8) a2 ys, RdF (Value.int .u8) a0 xb] w')
      ⟨0, _, n, by omega, by omega, hF.sub (by repeat (first | exact Sub.nil | refine Sub.cons rfl (by first | with_reducible rfl | (refine congrArg (Value.int _) ?_; omega) | exact rfl) ?_)), by simp only [chunks, List.replicate_zero, List.append_nil]; exact hM⟩ ?_
    clear hF hM a
    rintro mm a w' ⟨j, ov, n2, hmm, hn2, hF, hM⟩
    obtain ⟨ao, co, rfl⟩ : ∃ ao co, ov = .slice ao n2 co := by
      rcases (hM.mem.own.own _ List.mem_cons_self).2 with ⟨h1, h2⟩ | ⟨g, cap, cur, h1, _⟩
      · exact ⟨none, 0, by rw [show n2 = 0 from h2]; exact h1⟩
      · exact ⟨_, _, h1⟩
    by_cases hj : j < cn
    · have hch : List.replicate (j + 1) zr = List.replicate j zr ++ [zr] := List.replicate_succ'
      (repeat' (first | (with_reducible refine w_seq ?_) | (with_reducible refine c_region ?_) | (with_reducible refine s_nil ?_) | (with_reducible refine q_then_n ?_) | ((with_reducible apply s_pure hF); exact rfl; exact rfl; exact rfl; (first | exact trivial | omega | exact ⟨Int.natCast_nonneg _, Int.ofNat_lt.2 (by assumption)⟩ | decide); clear hF a; intro a hF) | ((with_reducible apply s_load hF hM); exact rfl; exact rfl; (repeat (first | exact List.mem_cons_self | refine List.mem_cons_of_mem _ ?_)); exact rfl; exact rfl; clear hF a; intro a hF) | ((with_reducible apply s_alloc hF hM); exact rfl; exact rfl; exact rfl; clear hF hM a; intro b w a hM hF) | ((with_reducible apply s_lit hF hM); exact rfl; exact rfl; exact rfl; exact rfl; clear hF hM a; intro bl w a hM hF) | ((with_reducible apply s_app hF hM); exact rfl; exact rfl; exact rfl; exact rfl; (repeat (first | exact Kth.z | apply Kth.s)); exact rfl; exact rfl; exact rfl; exact rfl; omega; clear hF hM a; intro g cap w a hM hF; dsimp only [List.set] at hM) | (with_reducible refine w_skip ?_) | (with_reducible refine w_block ?_) | (with_reducible refine q_blk_n ?_) | ((with_reducible apply c_dec hF); exact rfl; all_goals intro hc; all_goals (try (exfalso; omega)))))
      refine ⟨mm - 1, by omega, j + 1, .slice (some ⟨g, 0, none⟩) (n2 + 1) cap, n2 + 1, by omega, by omega, hF.sub (by repeat (first | exact Sub.nil | refine Sub.cons rfl (by first | with_reducible rfl | (refine congrArg (Value.int _) ?_; omega) | exact rfl) ?_)), ?_⟩
      rw [hch, ← List.append_assoc, List.flatten_append, List.map_append]
      exact hM.sub (.cons _ (.refl _)) (.refl _) (fun _ h => h)
    · obtain rfl : j = cn := by omega
      (repeat' (first | (with_reducible refine w_seq ?_) | (with_reducible refine c_region ?_) | (with_reducible refine s_nil ?_) | (with_reducible refine q_then_n ?_) | ((with_reducible apply s_pure hF); exact rfl; exact rfl; exact rfl; (first | exact trivial | omega | exact ⟨Int.natCast_nonneg _, Int.ofNat_lt.2 (by assumption)⟩ | decide); clear hF a; intro a hF) | (with_reducible refine w_exit ?_) | (with_reducible refine q_then_x ?_) | (with_reducible refine q_blk_n ?_) | (with_reducible refine q_blk_x ?_) | ((with_reducible apply c_false2 hF); exact rfl; (first | with_reducible rfl | (refine congrArg Value.bool ?_; focus (simp; done))))))
      rw [show ((0 : Int) * 8).toNat = 0 from rfl, Nat.sub_zero, sadr_zero, Int.toNat_natCast, Nat.sub_zero] at hF
      exact ⟨m, by omega, ys, _, a2, c2, _, n2, by omega, by omega, g5, hc2, g3, g4, g2, by rw [List.length_append, List.length_replicate]; omega, hdO, hF.sub (by repeat (first | exact Sub.nil | refine Sub.cons rfl (by first | with_reducible rfl | (refine congrArg (Value.int _) ?_; omega) | exact rfl) ?_)), hM⟩
end Go.Proofs.Ytocgpllmfdnfjaa

/- Layer 5's law helpers; contracts that return facts. -/
namespace Go.Proofs.Ytocgpllmfdnfjaa
open Go.RowKit Go.Shelf
theorem Owns.fact {α : Type} {enc : α → Value} {own : Nat → Prop} {w : World} {base : Nat} {e : TypeId} {size : Nat} {ao : Option Addr} {m c : Nat} {xs : List α} (h : Owns w base [⟨e, size, .slice ao m c, m, xs.map enc⟩]) (hl : ∀ b, own b → b < base) : m ≤ c ∧ Has own w (RdF enc ao xs) := by
  have ho := h.own _ List.mem_cons_self
  refine ⟨?_, RdF.has (own_readsN ho) ?_⟩
  · rcases ho.2 with ⟨h1, h2⟩ | ⟨g, cap, cur, h1, _, _, h2, _⟩
    · simp only at h2; omega
    · simp only [Value.slice.injEq] at h1
      have h3 : m ≤ cap := h2
      omega
  · rintro ad rfl hn
    have h1 := h.lt List.mem_cons_self ad.block rfl
    have := hl _ hn
    omega
/-- A call that hands over a slice that is only read. -/
def Sl {α : Type} (enc : α → Value) (own : Nat → Prop) (xs : List α) (n : Nat) (v : Value) (w' : World) : Prop := ∃ a' c', v = .slice a' n c' ∧ n ≤ c' ∧ Has own w' (RdF enc a' xs)
theorem Ret.sl {α : Type} {enc : α → Value} {own : Nat → Prop} {W : World} {f : FuncId} {args : Array Value} {e : TypeId} {size : Nat} {m : Nat} {xs : List α} (h : Calls Try.prog f args W (Ret W fun v w' => ∃ a' c', v = .slice a' m c' ∧ Owns w' W.heap.size [⟨e, size, .slice a' m c', m, xs.map enc⟩])) (hl : ∀ b, own b → b < W.heap.size) : Calls Try.prog f args W (Ret W (Sl enc own xs m)) :=
  h.mono fun _ _ ⟨v, h1, h2, a', c', h3, h4⟩ => ⟨v, h1, h2, a', c', h3, (h4.fact hl).1, (h4.fact hl).2⟩
def DecF (own : Nat → Prop) (r : Except Int (List (List Int))) (v : Value) (w' : World) : Prop := match r with
  | .error e => v = .tuple #[.slice none 0 0, .int .i64 e]
  | .ok ls => ∃ a' c', v = .tuple #[.slice a' ls.length c', .int .i64 0] ∧ ls.length ≤ c' ∧ Has own w' (RdF (Value.int .u8) a' ls.flatten)
theorem Ret.decf {own : Nat → Prop} {W : World} {f : FuncId} {args : Array Value} {r : Except Int (List (List Int))} (h : Calls Try.prog f args W (Ret W (DecR W r))) (hl : ∀ b, own b → b < W.heap.size) : Calls Try.prog f args W (Ret W (DecF own r)) := by
  refine h.mono fun _ _ ⟨v, h1, h2, h3⟩ => ⟨v, h1, h2, ?_⟩
  cases r with
  | error e => exact h3
  | ok ls =>
    obtain ⟨a', c', h4, h5⟩ := h3
    exact ⟨a', c', h4, (h5.fact hl).1, (h5.fact hl).2⟩
theorem decf_ok {own : Nat → Prop} {W : World} {f : FuncId} {args : Array Value} {r : Except Int (List (List Int))} {ls : List (List Int)} (h : Calls Try.prog f args W (Ret W (DecF own r))) (hr : r = .ok ls) : Calls Try.prog f args W (Ret W fun v w' => ∃ a' c', v = .tuple #[.slice a' ls.length c', .int .i64 0] ∧ ls.length ≤ c' ∧ Has own w' (RdF (Value.int .u8) a' ls.flatten)) := by subst hr; exact h
theorem decf_err {own : Nat → Prop} {W : World} {f : FuncId} {args : Array Value} {r : Except Int (List (List Int))} {e : Int} (h : Calls Try.prog f args W (Ret W (DecF own r))) (hr : r = .error e) : Calls Try.prog f args W (Ret W fun v _ => v = .tuple #[.slice none 0 0, .int .i64 e]) := by subst hr; exact h
section
variable {own : Nat → Prop} {W : World} (hl : ∀ b, own b → b < W.heap.size)
include hl
theorem Encode_f (l : List (List Int)) (hw : W8 l) (hlen : l.length ≤ 30000) (a0 : Option Addr) (n c0 : Nat) (hn : l.length = n) (hc0 : n ≤ c0) (hv : Has own W (RdF (Value.int .u8) a0 l.flatten)) :
    Calls Try.prog 35 ⟨[.slice a0 n c0]⟩ W (Ret W (Sl (Value.int .u8) own (enc l) (enc l).length)) := by subst hn; exact Ret.sl (Encode_c l hw hlen a0 c0 hc0 own W hl hv) hl
theorem EncodeR_f (l : List (List Int)) (hw : W8 l) (hlen : l.length ≤ 30000) (a0 : Option Addr) (n c0 : Nat) (hn : l.length = n) (hc0 : n ≤ c0) (hv : Has own W (RdF (Value.int .u8) a0 l.flatten)) :
    Calls Try.prog 37 ⟨[.slice a0 n c0]⟩ W (Ret W (Sl (Value.int .u8) own (enc l) (enc l).length)) := by subst hn; exact Ret.sl (EncodeR_c l hw hlen a0 c0 hc0 own W hl hv) hl
theorem Decode_f (xb : List Int) (hxb : By xb) (hlen : xb.length ≤ 1000000) (most : Int) (a0 : Option Addr) (n c0 : Nat) (hn : xb.length = n) (hc0 : n ≤ c0) (hv : Has own W (RdF (Value.int .u8) a0 xb)) :
    Calls Try.prog 38 ⟨[.slice a0 n c0, .int .i64 most]⟩ W (Ret W (DecF own (dec (mst most) xb))) := by subst hn; exact Ret.decf (Decode_c xb hxb hlen most a0 c0 hc0 own W hl hv) hl
theorem DecodeR_f (xb : List Int) (hxb : By xb) (hlen : xb.length ≤ 1000000) (most : Int) (a0 : Option Addr) (n c0 : Nat) (hn : xb.length = n) (hc0 : n ≤ c0) (hv : Has own W (RdF (Value.int .u8) a0 xb)) :
    Calls Try.prog 41 ⟨[.slice a0 n c0, .int .i64 most]⟩ W (Ret W (DecF own (dec (mst most) xb))) := by subst hn; exact Ret.decf (DecodeR_c xb hxb hlen most a0 c0 hc0 own W hl hv) hl
end
/-- The sector that begins with a byte. -/
def sec (x : Int) : List Int := [x, 0, 0, 0, 0, 0, 0, 0]
/-- Bytes, in which a negative number stands for a sector. -/
def encO (ns : List Int) : List Int := ns.flatMap fun n => if 0 ≤ n then [n] else sec (-n)
end Go.Proofs.Ytocgpllmfdnfjaa

/- dictionary: Unpack. -/
namespace Go.Proofs.Ytocgpllmfdnfjaa
open Go.RowKit Go.Shelf
def thenS (r : Except Int (List Int)) (most : Int) : Except Int (List (List Int)) := match r with | .error e => .error e | .ok r => secsD r most
theorem thenS_ok (r : List Int) (most : Int) : thenS (.ok r) most = secsD r most := rfl
theorem thenS_err (e : Int) (most : Int) : thenS (.error e) most = .error e := rfl
/-- What Unpack answers. -/
def unp1 (dict : List Int) (x : Int) (d : List Int) (most : Int) : Except Int (List (List Int)) :=
  if x = 0 then secsD d most else if x = 1 then dec (mst most) d
  else if x = 2 then thenS (decD dict d (8 * most)) most else .error 3
def unpD (dict b : List Int) (most : Int) : Except Int (List (List Int)) :=
  if most < 0 ∨ 4096 < most then .error 2 else match b with
    | [] => .error 10
    | x :: d => unp1 dict x d most
theorem dcF_err {dl : Nat} {most : Int} : ∀ (f : Nat) (xs al : List Int) (e : Int), dcF dl most f xs al = .error e → e ≠ 0
  | 0, _, _, _, h => by cases h
  | f + 1, [], _, _, h => by cases h
  | f + 1, x :: b, al, e, h => by
    rw [dcF] at h
    split at h
    · injection h with h; omega
    · split at h
      · split at h
        · injection h with h; omega
        · split at h
          · injection h with h; omega
          · exact dcF_err f _ _ e h
      · split at h
        · rename_i h1; injection h with h; omega
        · split at h
          · injection h with h; omega
          · split at h
            · injection h with h; omega
            · exact dcF_err f _ _ e h
theorem dcF_len {dl : Nat} {most : Int} : ∀ (f : Nat) (xs al r : List Int), dcF dl most f xs al = .ok r → (al.length : Int) - dl ≤ most → By xs → (r.length : Int) - dl ≤ most
  | 0, _, _, _, h, h2, _ => by injection h with h; subst h; exact h2
  | f + 1, [], _, _, h, h2, _ => by injection h with h; subst h; exact h2
  | f + 1, x :: b, al, r, h, h2, hb => by
    have hx := hb x List.mem_cons_self
    have hbb : By b := fun z hz => hb z (List.mem_cons_of_mem _ hz)
    rw [dcF] at h
    split at h
    · cases h
    · split at h
      · split at h
        · cases h
        · split at h
          · cases h
          · refine dcF_len f _ _ r h ?_ (fun z hz => hbb z (List.mem_of_mem_drop hz))
            rw [List.length_append, List.length_take]
            omega
      · split at h
        · cases h
        · split at h
          · cases h
          · split at h
            · cases h
            · refine dcF_len f _ _ r h ?_ (fun z hz => hbb z (List.mem_of_mem_drop hz))
              rw [copyN_len]
              omega
theorem decD_len {dict y r : List Int} {most : Int} (hy : By y) (h : decD dict y most = .ok r) : 0 ≤ most ∧ (r.length : Int) ≤ most := by
  unfold decD at h
  split at h
  · cases h
  · unfold finD at h
    split at h
    · cases h
    · rename_i al h1
      injection h with h
      have := dcF_len _ _ _ _ h1 (by omega) hy
      rw [← h, List.length_drop]
      omega
theorem decD_err {dict y : List Int} {most e : Int} (h : decD dict y most = .error e) : e ≠ 0 := by
  unfold decD at h
  split at h
  · injection h with h; omega
  · unfold finD at h
    split at h
    · rename_i h1; injection h with h; subst h; exact dcF_err _ _ _ _ h1
    · cases h
theorem bdec_ok {own : Nat → Prop} {W : World} {f : FuncId} {args : Array Value} {r : Except Int (List Int)} {xs : List Int} (h : Calls Try.prog f args W (Ret W (BDec own r))) (hr : r = .ok xs) : Calls Try.prog f args W (Ret W fun v w' => ∃ a' c', v = .tuple #[.slice a' xs.length c', .int .i64 0] ∧ xs.length ≤ c' ∧ Has own w' (RdF (Value.int .u8) a' xs)) := by subst hr; exact h
theorem bdec_err {own : Nat → Prop} {W : World} {f : FuncId} {args : Array Value} {r : Except Int (List Int)} {e : Int} (h : Calls Try.prog f args W (Ret W (BDec own r))) (hr : r = .error e) : Calls Try.prog f args W (Ret W fun v _ => v = .tuple #[.slice none 0 0, .int .i64 e]) := by subst hr; exact h
theorem sectors_f {own : Nat → Prop} {W : World} (hl : ∀ b, own b → b < W.heap.size) (b : List Int) (hlen : b.length ≤ 1000000) (most : Int) (hmost : most ≤ 9223372036854775807 ∧ -9223372036854775808 ≤ most) (a0 : Option Addr) (c0 : Nat) (hc0 : b.length ≤ c0) (hv : Has own W (RdF (Value.int .u8) a0 b)) :
    Calls Try.prog 39 ⟨[.slice a0 b.length c0, .int .i64 most]⟩ W (Ret W (DecF own (secsD b most))) := Ret.decf (sectors_c b hlen most hmost a0 c0 hc0 own W hl hv) hl
section
variable (dict b : List Int) (hb : By b) (hlen : dict.length ≤ 10000 ∧ b.length ≤ 10000) (most : Int) (hmost : most ≤ 9223372036854775807 ∧ -9223372036854775808 ≤ most) (a1 a2 : Option Addr) (c1 c2 : Nat) (hc2 : b.length ≤ c2) (own : Nat → Prop) (W : World) (hl : ∀ b, own b → b < W.heap.size) (hv1 : Has own W (RdF (Value.int .u8) a1 dict)) (hv2 : Has own W (RdF (Value.int .u8) a2 b))
include hb hlen hmost hc2 hl hv1 hv2
set_option maxRecDepth 20000 in
theorem Unpack_c : Calls Try.prog 20 ⟨[.slice a1 dict.length c1, .slice a2 b.length c2, .int .i64 most]⟩ W (Ret W (DecF own (unpD dict b most))) := by
  obtain ⟨hd, hbl⟩ := hlen
  have hM := ((Mm.start hl).known hv1).known hv2
  unfold unpD
  by_cases hr : most < 0 ∨ 4096 < most
  · rw [if_pos hr]
    refine f_start Try.func20 rfl Try.ntmps20 rfl rfl ?_; intro a hF
    (repeat' (first | (with_reducible refine w_seq ?_) | (with_reducible refine c_region ?_) | (with_reducible refine s_nil ?_) | (with_reducible refine q_then_n ?_) | ((with_reducible apply s_pure hF); exact rfl; exact rfl; exact rfl; (first | exact trivial | omega | exact ⟨Int.natCast_nonneg _, Int.ofNat_lt.2 (by assumption)⟩ | decide); clear hF a; intro a hF) | (with_reducible refine w_ret ?_) | (with_reducible refine q_then_r ?_) | ((with_reducible apply c_true2 hF); exact rfl; (first | with_reducible rfl | (refine congrArg Value.bool ?_; focus (simp; done)))) | ((with_reducible apply s_skip hF); exact rfl; exact rfl; clear hF a; intro a hF) | ((with_reducible apply g_dec hF); exact rfl; exact rfl; all_goals (clear hF; intro hc hF); all_goals (try (exfalso; omega))) | ((with_reducible apply c_dec hF); exact rfl; all_goals intro hc; all_goals (try (exfalso; omega)))))
    all_goals
      (apply f_ret Try.results20 hF hM; (repeat (first | exact RL.nil | (apply RL.tmp; exact rfl) | (apply RL.cell; exact rfl; (repeat (first | exact List.mem_cons_self | refine List.mem_cons_of_mem _ ?_)); exact rfl))); refine Ret.mk hM.since ?_; dsimp only [resV])
      rfl
  rw [if_neg hr]
  match hbs : b with
  | [] =>
    refine f_start Try.func20 rfl Try.ntmps20 rfl rfl ?_; intro a hF
    (repeat' (first | (with_reducible refine w_seq ?_) | (with_reducible refine c_region ?_) | (with_reducible refine s_nil ?_) | (with_reducible refine q_then_n ?_) | ((with_reducible apply s_pure hF); exact rfl; exact rfl; exact rfl; (first | exact trivial | omega | exact ⟨Int.natCast_nonneg _, Int.ofNat_lt.2 (by assumption)⟩ | decide); clear hF a; intro a hF) | (with_reducible refine w_skip ?_) | (with_reducible refine w_ret ?_) | (with_reducible refine q_then_r ?_) | ((with_reducible apply c_true2 hF); exact rfl; (first | with_reducible rfl | (refine congrArg Value.bool ?_; focus (simp; done)))) | ((with_reducible apply g_dec hF); exact rfl; exact rfl; all_goals (clear hF; intro hc hF); all_goals (try (exfalso; omega))) | ((with_reducible apply c_dec hF); exact rfl; all_goals intro hc; all_goals (try (exfalso; omega)))))
    (apply f_ret Try.results20 hF hM; (repeat (first | exact RL.nil | (apply RL.tmp; exact rfl) | (apply RL.cell; exact rfl; (repeat (first | exact List.mem_cons_self | refine List.mem_cons_of_mem _ ?_)); exact rfl))); refine Ret.mk hM.since ?_; dsimp only [resV])
    rfl
  | x :: d =>
    have hlx : (x :: d).length = d.length + 1 := List.length_cons
    have hx := hb x List.mem_cons_self
    have hdb : By d := fun z hz => hb z (List.mem_cons_of_mem _ hz)
    have hx0 : (x :: d)[((0 : Int)).toNat]? = some x := rfl
    obtain ⟨ad, rfl⟩ : ∃ ad, a2 = some ad := rd_some hM (by (repeat (first | exact List.mem_cons_self | refine List.mem_cons_of_mem _ ?_))) (k := 0) (x := x) rfl
    have hdf := RdF.drop (hM.facts (RdF (Value.int .u8) (some ad) (x :: d)) (by (repeat (first | exact List.mem_cons_self | refine List.mem_cons_of_mem _ ?_)))) 1 c2 hc2
    rw [show (x :: d).drop 1 = d from rfl] at hdf
    have hcd : d.length ≤ c2 - 1 := by omega
    obtain ⟨ab, hAb⟩ : ∃ ab, sadr (some ad) 1 c2 1 = ab := ⟨_, rfl⟩
    rw [hAb] at hdf
    replace hM := hM.addFact hdf
    show Calls _ _ _ _ (Ret W (DecF own (unp1 dict x d most)))
    unfold unp1
    refine f_start Try.func20 rfl Try.ntmps20 rfl rfl ?_; intro a hF
    (repeat' (first | (with_reducible refine w_seq ?_) | (with_reducible refine c_region ?_) | (with_reducible refine s_nil ?_) | (with_reducible refine q_then_n ?_) | ((with_reducible apply s_pure hF); exact rfl; exact rfl; exact rfl; (first | exact trivial | omega | exact ⟨Int.natCast_nonneg _, Int.ofNat_lt.2 (by assumption)⟩ | decide); clear hF a; intro a hF) | ((with_reducible apply s_loadF hF hM); exact rfl; exact rfl; (repeat (first | exact List.mem_cons_self | refine List.mem_cons_of_mem _ ?_)); exact rfl; exact rfl; (first | with_reducible assumption | (simp only [Int.toNat_natCast]; with_reducible assumption)); clear hF a; intro a hF) | (with_reducible refine w_skip ?_) | (with_reducible refine w_block ?_) | (with_reducible refine w_ret ?_) | (with_reducible refine q_then_r ?_) | (with_reducible refine q_blk_n ?_) | (with_reducible refine q_blk_r ?_) | ((with_reducible apply g_dec hF); exact rfl; exact rfl; all_goals (clear hF; intro hc hF); all_goals (try (exfalso; omega))) | ((with_reducible apply c_dec hF); exact rfl; all_goals intro hc; all_goals (try (exfalso; omega)))))
    all_goals
      rw [show ((((x :: d).length : Nat) : Int)).toNat - (1 : Int).toNat = d.length by rw [hlx]; omega, show (1 : Int).toNat = 1 from rfl, hAb] at hF
    · rw [if_pos hc]
      have hS := sectors_f (own := own) hM.low d (by omega) most hmost ab (c2 - 1) hcd (hM.factOut (by (repeat (first | exact List.mem_cons_self | refine List.mem_cons_of_mem _ ?_))))
      cases hs : secsD d most with
      | error e =>
        (repeat (first | (with_reducible refine s_nil ?_) | ((with_reducible apply s_call (f := 39) hF hM); exact rfl; exact rfl; exact rfl; exact rfl; exact rfl; exact (decf_err hS hs); clear hF hM a; rintro v w a rfl - hM hF) | (with_reducible refine q_then_n ?_) | ((with_reducible apply s_pure hF); exact rfl; exact rfl; exact rfl; (first | exact trivial | omega | exact ⟨Int.natCast_nonneg _, Int.ofNat_lt.2 (by assumption)⟩ | decide); clear hF a; intro a hF) | (with_reducible refine w_ret ?_)))
        (apply f_ret Try.results20 hF hM; (repeat (first | exact RL.nil | (apply RL.tmp; exact rfl) | (apply RL.cell; exact rfl; (repeat (first | exact List.mem_cons_self | refine List.mem_cons_of_mem _ ?_)); exact rfl))); refine Ret.mk hM.since ?_; dsimp only [resV])
        rfl
      | ok ls =>
        (repeat (first | (with_reducible refine s_nil ?_) | ((with_reducible apply s_call (f := 39) hF hM); exact rfl; exact rfl; exact rfl; exact rfl; exact rfl; exact (decf_ok hS hs); clear hF hM a; rintro v w a ⟨a', c', rfl, h1, h2⟩ - hM hF) | (with_reducible refine q_then_n ?_) | ((with_reducible apply s_pure hF); exact rfl; exact rfl; exact rfl; (first | exact trivial | omega | exact ⟨Int.natCast_nonneg _, Int.ofNat_lt.2 (by assumption)⟩ | decide); clear hF a; intro a hF) | (with_reducible refine w_ret ?_)))
        (apply f_ret Try.results20 hF hM; (repeat (first | exact RL.nil | (apply RL.tmp; exact rfl) | (apply RL.cell; exact rfl; (repeat (first | exact List.mem_cons_self | refine List.mem_cons_of_mem _ ?_)); exact rfl))); refine Ret.mk hM.since ?_; dsimp only [resV])
        exact ⟨a', c', rfl, h1, h2⟩
    · rename_i hc1
      rw [if_neg hc1, if_pos hc]
      have hR := Decode_f (own := own) hM.low d hdb (by omega) most ab _ (c2 - 1) rfl hcd (hM.factOut (by (repeat (first | exact List.mem_cons_self | refine List.mem_cons_of_mem _ ?_))))
      cases hs : dec (mst most) d with
      | error e =>
        (repeat (first | (with_reducible refine s_nil ?_) | ((with_reducible apply s_call (f := 38) hF hM); exact rfl; exact rfl; exact rfl; exact rfl; exact rfl; exact (decf_err hR hs); clear hF hM a; rintro v w a rfl - hM hF) | (with_reducible refine q_then_n ?_) | ((with_reducible apply s_pure hF); exact rfl; exact rfl; exact rfl; (first | exact trivial | omega | exact ⟨Int.natCast_nonneg _, Int.ofNat_lt.2 (by assumption)⟩ | decide); clear hF a; intro a hF) | (with_reducible refine w_ret ?_) | (with_reducible refine q_then_r ?_) | (with_reducible refine q_blk_r ?_)))
        (apply f_ret Try.results20 hF hM; (repeat (first | exact RL.nil | (apply RL.tmp; exact rfl) | (apply RL.cell; exact rfl; (repeat (first | exact List.mem_cons_self | refine List.mem_cons_of_mem _ ?_)); exact rfl))); refine Ret.mk hM.since ?_; dsimp only [resV])
        rfl
      | ok ls =>
        (repeat (first | (with_reducible refine s_nil ?_) | ((with_reducible apply s_call (f := 38) hF hM); exact rfl; exact rfl; exact rfl; exact rfl; exact rfl; exact (decf_ok hR hs); clear hF hM a; rintro v w a ⟨a', c', rfl, h1, h2⟩ - hM hF) | (with_reducible refine q_then_n ?_) | ((with_reducible apply s_pure hF); exact rfl; exact rfl; exact rfl; (first | exact trivial | omega | exact ⟨Int.natCast_nonneg _, Int.ofNat_lt.2 (by assumption)⟩ | decide); clear hF a; intro a hF) | (with_reducible refine w_ret ?_) | (with_reducible refine q_then_r ?_) | (with_reducible refine q_blk_r ?_)))
        (apply f_ret Try.results20 hF hM; (repeat (first | exact RL.nil | (apply RL.tmp; exact rfl) | (apply RL.cell; exact rfl; (repeat (first | exact List.mem_cons_self | refine List.mem_cons_of_mem _ ?_)); exact rfl))); refine Ret.mk hM.since ?_; dsimp only [resV])
        exact ⟨a', c', rfl, h1, h2⟩
    · rename_i hc2 hc1
      rw [if_neg hc2, if_neg hc1, if_pos hc]
      have hR := DecodeD_c dict d hdb ⟨by omega, by omega⟩ (8 * most) ⟨by omega, by omega⟩ a1 ab c1 (c2 - 1) hcd own _ hM.low (hM.factOut (by (repeat (first | exact List.mem_cons_self | refine List.mem_cons_of_mem _ ?_)))) (hM.factOut (by (repeat (first | exact List.mem_cons_self | refine List.mem_cons_of_mem _ ?_))))
      cases hs : decD dict d (8 * most) with
      | error e =>
        have he := decD_err hs
        rw [thenS_err]
        (repeat' (first | (with_reducible refine w_seq ?_) | (with_reducible refine c_region ?_) | (with_reducible refine s_nil ?_) | ((with_reducible apply s_call (f := 16) hF hM); exact rfl; exact rfl; exact rfl; exact rfl; exact rfl; exact (bdec_err hR hs); clear hF hM a; rintro v w a rfl - hM hF) | (with_reducible refine q_then_n ?_) | ((with_reducible apply s_pure hF); exact rfl; exact rfl; exact rfl; (first | exact trivial | omega | exact ⟨Int.natCast_nonneg _, Int.ofNat_lt.2 (by assumption)⟩ | decide); clear hF a; intro a hF) | (with_reducible refine w_ret ?_) | (with_reducible refine q_then_r ?_) | (with_reducible refine q_blk_r ?_) | ((with_reducible apply c_dec hF); exact rfl; all_goals intro hc; all_goals (try (exfalso; omega)))))
        (apply f_ret Try.results20 hF hM; (repeat (first | exact RL.nil | (apply RL.tmp; exact rfl) | (apply RL.cell; exact rfl; (repeat (first | exact List.mem_cons_self | refine List.mem_cons_of_mem _ ?_)); exact rfl))); refine Ret.mk hM.since ?_; dsimp only [resV])
        rfl
      | ok r =>
        (repeat' (first | (with_reducible refine w_seq ?_) | (with_reducible refine c_region ?_) | (with_reducible refine s_nil ?_) | ((with_reducible apply s_call (f := 16) hF hM); exact rfl; exact rfl; exact rfl; exact rfl; exact rfl; exact (bdec_ok hR hs); clear hF hM a; rintro v w a ⟨a', c', rfl, h1, h2⟩ - hM hF) | (with_reducible refine q_then_n ?_) | ((with_reducible apply s_pure hF); exact rfl; exact rfl; exact rfl; (first | exact trivial | omega | exact ⟨Int.natCast_nonneg _, Int.ofNat_lt.2 (by assumption)⟩ | decide); clear hF a; intro a hF) | (with_reducible refine w_skip ?_) | (with_reducible refine q_blk_n ?_) | ((with_reducible apply c_false2 hF); exact rfl; (first | with_reducible rfl | (refine congrArg Value.bool ?_; focus (simp; done))))))
        rw [thenS_ok]
        have hrl := (decD_len hdb hs).2
        have hS := sectors_f (own := own) (fun b h => hM.lt b (.inl h)) r (by omega) most hmost a' c' h1 h2
        cases hs : secsD r most with
        | error e =>
          (repeat (first | (with_reducible refine s_nil ?_) | ((with_reducible apply s_call (f := 39) hF hM); exact rfl; exact rfl; exact rfl; exact rfl; exact rfl; exact (decf_err hS hs); clear hF hM a; rintro v w a rfl - hM hF) | (with_reducible refine q_then_n ?_) | ((with_reducible apply s_pure hF); exact rfl; exact rfl; exact rfl; (first | exact trivial | omega | exact ⟨Int.natCast_nonneg _, Int.ofNat_lt.2 (by assumption)⟩ | decide); clear hF a; intro a hF) | (with_reducible refine w_ret ?_)))
          (apply f_ret Try.results20 hF hM; (repeat (first | exact RL.nil | (apply RL.tmp; exact rfl) | (apply RL.cell; exact rfl; (repeat (first | exact List.mem_cons_self | refine List.mem_cons_of_mem _ ?_)); exact rfl))); refine Ret.mk hM.since ?_; dsimp only [resV])
          rfl
        | ok ls =>
          (repeat (first | (with_reducible refine s_nil ?_) | ((with_reducible apply s_call (f := 39) hF hM); exact rfl; exact rfl; exact rfl; exact rfl; exact rfl; exact (decf_ok hS hs); clear hF hM a; rintro v w a ⟨a', c', rfl, h1, h2⟩ - hM hF) | (with_reducible refine q_then_n ?_) | ((with_reducible apply s_pure hF); exact rfl; exact rfl; exact rfl; (first | exact trivial | omega | exact ⟨Int.natCast_nonneg _, Int.ofNat_lt.2 (by assumption)⟩ | decide); clear hF a; intro a hF) | (with_reducible refine w_ret ?_)))
          (apply f_ret Try.results20 hF hM; (repeat (first | exact RL.nil | (apply RL.tmp; exact rfl) | (apply RL.cell; exact rfl; (repeat (first | exact List.mem_cons_self | refine List.mem_cons_of_mem _ ?_)); exact rfl))); refine Ret.mk hM.since ?_; dsimp only [resV])
          exact ⟨a', c', rfl, h1, h2⟩
    · rename_i hc2 hc1
      rw [if_neg hc2, if_neg hc1, if_neg hc]
      (repeat' (first | fail))
      (apply f_ret Try.results20 hF hM; (repeat (first | exact RL.nil | (apply RL.tmp; exact rfl) | (apply RL.cell; exact rfl; (repeat (first | exact List.mem_cons_self | refine List.mem_cons_of_mem _ ?_)); exact rfl))); refine Ret.mk hM.since ?_; dsimp only [resV])
      rfl
end
end Go.Proofs.Ytocgpllmfdnfjaa

/- The reference of dictionary: length, best, literals. -/
namespace Go.Proofs.Ytocgpllmfdnfjaa
open Go.RowKit Go.Shelf
section
variable (all : List Int) (hlen : all.length ≤ 1000000) (a0 : Option Addr) (c0 : Nat) (own : Nat → Prop) (W : World) (hl : ∀ b, own b → b < W.heap.size) (hv : Has own W (RdF (Value.int .u8) a0 all))
include hlen hl hv
set_option maxRecDepth 20000 in
theorem lengthR_c (t d : Nat) (ht : t ≤ all.length) (hd1 : 1 ≤ d) (hd : d ≤ t) : Calls Try.prog 45 ⟨[.slice a0 all.length c0, .int .i64 t, .int .i64 d]⟩ W (Ret W fun v _ => v = .int .i64 (mlen all (t - d) t)) := by
  have hM := (Mm.start hl).known hv
  refine f_start Try.func45 rfl Try.ntmps45 rfl rfl ?_; intro a hF
  (repeat' (first | (with_reducible refine w_seq ?_) | (with_reducible refine c_region ?_) | (with_reducible refine s_nil ?_) | (with_reducible refine q_then_n ?_) | ((with_reducible apply s_pure hF); exact rfl; exact rfl; exact rfl; (first | exact trivial | omega | exact ⟨Int.natCast_nonneg _, Int.ofNat_lt.2 (by assumption)⟩ | decide); clear hF a; intro a hF) | (with_reducible refine w_block ?_)))
  refine c_loop (m := 131) (fun m a w' => ∃ n : Nat, m + n = 131 ∧ mlen all (t - d) t = mlenF all (t - d) t m n ∧
    Fr 38 [] [(7, .int .i64 n), (0, .slice a0 all.length c0), (1, .int .i64 t), (2, .int .i64 d)] a ∧ Mm own W [] [] [RdF (Value.int .u8) a0 all] w') ⟨0, rfl, rfl, hF.sub (by repeat (first | exact Sub.nil | refine Sub.cons rfl (by first | with_reducible rfl | (refine congrArg (Value.int _) ?_; omega) | exact rfl) ?_)), hM⟩ ?_
  clear hF hM a
  rintro m a w' ⟨n, hm, hml, hF, hM⟩
  by_cases h1 : n < 131
  · obtain ⟨m, rfl⟩ : ∃ k, m = k + 1 := ⟨m - 1, by omega⟩
    by_cases h2 : t + n < all.length
    · obtain ⟨x1, hx1⟩ := get_of_lt (l := all) (i := t - d + n) (by omega)
      obtain ⟨x2, hx2⟩ := get_of_lt h2
      rw [mlenF, hx1, hx2] at hml
      obtain ⟨ad, rfl⟩ : ∃ ad, a0 = some ad := rd_some hM (by (repeat (first | exact List.mem_cons_self | refine List.mem_cons_of_mem _ ?_))) hx1
      have hx1' : all[((t : Int) + (n : Int) - (d : Int)).toNat]? = some x1 := by rw [show ((t : Int) + (n : Int) - (d : Int)).toNat = t - d + n by omega]; exact hx1
      have hx2' : all[((t : Int) + (n : Int)).toNat]? = some x2 := by rw [show ((t : Int) + (n : Int)).toNat = t + n by omega]; exact hx2
      with_reducible refine w_seq ?_
      with_reducible refine w_seq ?_
      refine c_draw (fun i => Nat.ble 27 i) hM ?_; clear hM; intro w hM
      (first | (refine t_pure (i := 0) hF rfl rfl rfl rfl (by kernel_rfl) hM.sm (fun _ _ _ h => h) ?_ ?_; (first | exact trivial | omega | decide); clear hF a; intro a hF))
      (first | (refine t_pure (i := 1) hF rfl rfl rfl rfl (by kernel_rfl) hM.sm (fun _ _ _ h => h) ?_ ?_; (first | exact trivial | omega | decide); clear hF a; intro a hF))
      rw [show decide ((n : Int) < 131) = true from decide_eq_true (by omega)] at hF
      (first | (refine t_pure (i := 2) hF rfl rfl rfl rfl (by kernel_rfl) (hM.sm.sub (fun x hx => by repeat (first | exact hx | refine List.mem_cons_of_mem _ ?_)) (fun _ h => by repeat (first | exact h | refine List.mem_cons_of_mem _ ?_))) (fun _ _ _ h => h) ?_ ?_; (first | exact trivial | omega | decide); clear hF a; intro a hF))
      (first | (refine t_pure (i := 3) hF rfl rfl rfl rfl (by kernel_rfl) (hM.sm.sub (fun x hx => by repeat (first | exact hx | refine List.mem_cons_of_mem _ ?_)) (fun _ h => by repeat (first | exact h | refine List.mem_cons_of_mem _ ?_))) (fun _ _ _ h => h) ?_ ?_; (first | exact trivial | omega | decide); clear hF a; intro a hF))
      (first | (refine t_pure (i := 4) hF rfl rfl rfl rfl (by kernel_rfl) (hM.sm.sub (fun x hx => by repeat (first | exact hx | refine List.mem_cons_of_mem _ ?_)) (fun _ h => by repeat (first | exact h | refine List.mem_cons_of_mem _ ?_))) (fun _ _ _ h => h) ?_ ?_; (first | exact trivial | omega | decide); clear hF a; intro a hF))
      (first | (refine t_pure (i := 5) hF rfl rfl rfl rfl (by kernel_rfl) (hM.sm.sub (fun x hx => by repeat (first | exact hx | refine List.mem_cons_of_mem _ ?_)) (fun _ h => by repeat (first | exact h | refine List.mem_cons_of_mem _ ?_))) (fun _ _ _ h => h) ?_ ?_; (first | exact trivial | omega | decide); clear hF a; intro a hF))
      (first | (refine t_pure (i := 6) hF rfl rfl rfl rfl (by kernel_rfl) (hM.sm.sub (fun x hx => by repeat (first | exact hx | refine List.mem_cons_of_mem _ ?_)) (fun _ h => by repeat (first | exact h | refine List.mem_cons_of_mem _ ?_))) (fun _ _ _ h => h) ?_ ?_; (first | exact trivial | omega | decide); clear hF a; intro a hF))
      (first | (refine t_pure (i := 7) hF rfl rfl rfl rfl (by kernel_rfl) (hM.sm.sub (fun x hx => by repeat (first | exact hx | refine List.mem_cons_of_mem _ ?_)) (fun _ h => by repeat (first | exact h | refine List.mem_cons_of_mem _ ?_))) (fun _ _ _ h => h) ?_ ?_; (first | exact trivial | omega | decide); clear hF a; intro a hF))
      (first | (refine t_pure (i := 8) hF rfl rfl rfl rfl (by kernel_rfl) (hM.sm.sub (fun x hx => by repeat (first | exact hx | refine List.mem_cons_of_mem _ ?_)) (fun _ h => by repeat (first | exact h | refine List.mem_cons_of_mem _ ?_))) (fun _ _ _ h => h) ?_ ?_; (first | exact trivial | omega | decide); clear hF a; intro a hF))
      rw [show decide ((t : Int) + (n : Int) < (all.length : Int)) = true from decide_eq_true (by omega)] at hF
      (first | (refine t_pure (i := 9) hF rfl rfl rfl rfl (by kernel_rfl) (hM.sm.sub (fun x hx => by repeat (first | exact hx | refine List.mem_cons_of_mem _ ?_)) (fun _ h => by repeat (first | exact h | refine List.mem_cons_of_mem _ ?_))) (fun _ _ _ h => h) ?_ ?_; (first | exact trivial | omega | decide); clear hF a; intro a hF))
      (first | (refine t_pure (i := 10) hF rfl rfl rfl rfl (by kernel_rfl) (hM.sm.sub (fun x hx => by repeat (first | exact hx | refine List.mem_cons_of_mem _ ?_)) (fun _ h => by repeat (first | exact h | refine List.mem_cons_of_mem _ ?_))) (fun _ _ _ h => h) ?_ ?_; (first | exact trivial | omega | decide); clear hF a; intro a hF))
      (first | (refine t_pure (i := 11) hF rfl rfl rfl rfl (by kernel_rfl) (hM.sm.sub (fun x hx => by repeat (first | exact hx | refine List.mem_cons_of_mem _ ?_)) (fun _ h => by repeat (first | exact h | refine List.mem_cons_of_mem _ ?_))) (fun _ _ _ h => h) ?_ ?_; (first | exact trivial | omega | decide); clear hF a; intro a hF))
      (first | (refine t_pure (i := 12) hF rfl rfl rfl rfl (by kernel_rfl) (hM.sm.sub (fun x hx => by repeat (first | exact hx | refine List.mem_cons_of_mem _ ?_)) (fun _ h => by repeat (first | exact h | refine List.mem_cons_of_mem _ ?_))) (fun _ _ _ h => h) ?_ ?_; (first | exact trivial | omega | decide); clear hF a; intro a hF))
      (first | (refine t_pure (i := 13) hF rfl rfl rfl rfl (by kernel_rfl) (hM.sm.sub (fun x hx => by repeat (first | exact hx | refine List.mem_cons_of_mem _ ?_)) (fun _ h => by repeat (first | exact h | refine List.mem_cons_of_mem _ ?_))) (fun _ _ _ h => h) ?_ ?_; (first | exact trivial | omega | decide); clear hF a; intro a hF))
      (first | (refine t_pure (i := 14) hF rfl rfl rfl rfl (by kernel_rfl) (hM.sm.sub (fun x hx => by repeat (first | exact hx | refine List.mem_cons_of_mem _ ?_)) (fun _ h => by repeat (first | exact h | refine List.mem_cons_of_mem _ ?_))) (fun _ _ _ h => h) ?_ ?_; (first | exact trivial | omega | decide); clear hF a; intro a hF))
      (first | (refine t_pure (i := 15) hF rfl rfl rfl rfl (by kernel_rfl) (hM.sm.sub (fun x hx => by repeat (first | exact hx | refine List.mem_cons_of_mem _ ?_)) (fun _ h => by repeat (first | exact h | refine List.mem_cons_of_mem _ ?_))) (fun _ _ _ h => h) ?_ ?_; (first | exact trivial | omega | decide); clear hF a; intro a hF))
      (first | (apply t_loadF (i := 16) hF rfl rfl rfl; (repeat (first | exact List.mem_cons_self | refine List.mem_cons_of_mem _ ?_)); (first | with_reducible assumption | (simp only [Int.toNat_natCast]; with_reducible assumption)); exact rfl; exact rfl; kernel_rfl; exact (hM.sm.sub (fun x hx => by repeat (first | exact hx | refine List.mem_cons_of_mem _ ?_)) (fun _ h => by repeat (first | exact h | refine List.mem_cons_of_mem _ ?_))); exact (fun _ _ _ h => h); clear hF a; intro a hF))
      (first | (refine t_pure (i := 17) hF rfl rfl rfl rfl (by kernel_rfl) (hM.sm.sub (fun x hx => by repeat (first | exact hx | refine List.mem_cons_of_mem _ ?_)) (fun _ h => by repeat (first | exact h | refine List.mem_cons_of_mem _ ?_))) (fun _ _ _ h => h) ?_ ?_; (first | exact trivial | omega | decide); clear hF a; intro a hF))
      (first | (refine t_pure (i := 18) hF rfl rfl rfl rfl (by kernel_rfl) (hM.sm.sub (fun x hx => by repeat (first | exact hx | refine List.mem_cons_of_mem _ ?_)) (fun _ h => by repeat (first | exact h | refine List.mem_cons_of_mem _ ?_))) (fun _ _ _ h => h) ?_ ?_; (first | exact trivial | omega | decide); clear hF a; intro a hF))
      (first | (refine t_pure (i := 19) hF rfl rfl rfl rfl (by kernel_rfl) (hM.sm.sub (fun x hx => by repeat (first | exact hx | refine List.mem_cons_of_mem _ ?_)) (fun _ h => by repeat (first | exact h | refine List.mem_cons_of_mem _ ?_))) (fun _ _ _ h => h) ?_ ?_; (first | exact trivial | omega | decide); clear hF a; intro a hF))
      (first | (refine t_pure (i := 20) hF rfl rfl rfl rfl (by kernel_rfl) (hM.sm.sub (fun x hx => by repeat (first | exact hx | refine List.mem_cons_of_mem _ ?_)) (fun _ h => by repeat (first | exact h | refine List.mem_cons_of_mem _ ?_))) (fun _ _ _ h => h) ?_ ?_; (first | exact trivial | omega | decide); clear hF a; intro a hF))
      (first | (refine t_pure (i := 21) hF rfl rfl rfl rfl (by kernel_rfl) (hM.sm.sub (fun x hx => by repeat (first | exact hx | refine List.mem_cons_of_mem _ ?_)) (fun _ h => by repeat (first | exact h | refine List.mem_cons_of_mem _ ?_))) (fun _ _ _ h => h) ?_ ?_; (first | exact trivial | omega | decide); clear hF a; intro a hF))
      (first | (refine t_pure (i := 22) hF rfl rfl rfl rfl (by kernel_rfl) (hM.sm.sub (fun x hx => by repeat (first | exact hx | refine List.mem_cons_of_mem _ ?_)) (fun _ h => by repeat (first | exact h | refine List.mem_cons_of_mem _ ?_))) (fun _ _ _ h => h) ?_ ?_; (first | exact trivial | omega | decide); clear hF a; intro a hF))
      (first | (refine t_pure (i := 23) hF rfl rfl rfl rfl (by kernel_rfl) (hM.sm.sub (fun x hx => by repeat (first | exact hx | refine List.mem_cons_of_mem _ ?_)) (fun _ h => by repeat (first | exact h | refine List.mem_cons_of_mem _ ?_))) (fun _ _ _ h => h) ?_ ?_; (first | exact trivial | omega | decide); clear hF a; intro a hF))
      (first | (apply t_loadF (i := 24) hF rfl rfl rfl; (repeat (first | exact List.mem_cons_self | refine List.mem_cons_of_mem _ ?_)); (first | with_reducible assumption | (simp only [Int.toNat_natCast]; with_reducible assumption)); exact rfl; exact rfl; kernel_rfl; exact (hM.sm.sub (fun x hx => by repeat (first | exact hx | refine List.mem_cons_of_mem _ ?_)) (fun _ h => by repeat (first | exact h | refine List.mem_cons_of_mem _ ?_))); exact (fun _ _ _ h => h); clear hF a; intro a hF))
      (first | (refine t_pure (i := 25) hF rfl rfl rfl rfl (by kernel_rfl) (hM.sm.sub (fun x hx => by repeat (first | exact hx | refine List.mem_cons_of_mem _ ?_)) (fun _ h => by repeat (first | exact h | refine List.mem_cons_of_mem _ ?_))) (fun _ _ _ h => h) ?_ ?_; (first | exact trivial | omega | decide); clear hF a; intro a hF))
      (first | (refine t_pure (i := 26) hF rfl rfl rfl rfl (by kernel_rfl) (hM.sm.sub (fun x hx => by repeat (first | exact hx | refine List.mem_cons_of_mem _ ?_)) (fun _ h => by repeat (first | exact h | refine List.mem_cons_of_mem _ ?_))) (fun _ _ _ h => h) ?_ ?_; (first | exact trivial | omega | decide); clear hF a; intro a hF))
      refine t_done (by kernel_rfl) ?_
      (repeat' (first | (with_reducible refine w_seq ?_) | (with_reducible refine c_region ?_) | (with_reducible refine s_nil ?_) | (with_reducible refine q_then_n ?_) | ((with_reducible apply s_pure hF); exact rfl; exact rfl; exact rfl; (first | exact trivial | omega | exact ⟨Int.natCast_nonneg _, Int.ofNat_lt.2 (by assumption)⟩ | decide); clear hF a; intro a hF) | (with_reducible refine w_skip ?_) | (with_reducible refine w_block ?_) | (with_reducible refine w_exit ?_) | (with_reducible refine w_ret ?_) | (with_reducible refine q_then_x ?_) | (with_reducible refine q_blk_n ?_) | (with_reducible refine q_blk_x ?_) | ((with_reducible apply c_dec hF); exact rfl; all_goals intro hc; all_goals (try (exfalso; omega)))))
      · subst hc
        rw [if_pos ⟨h2, rfl⟩] at hml
        exact ⟨m, by omega, n + 1, by omega, hml, hF.sub (by repeat (first | exact Sub.nil | refine Sub.cons rfl (by first | with_reducible rfl | (refine congrArg (Value.int _) ?_; omega) | exact rfl) ?_)), hM⟩
      · rw [if_neg (by rintro ⟨_, e⟩; injection e with e; exact hc e.symm)] at hml
        (apply f_ret Try.results45 hF hM; (repeat (first | exact RL.nil | (apply RL.tmp; exact rfl) | (apply RL.cell; exact rfl; (repeat (first | exact List.mem_cons_self | refine List.mem_cons_of_mem _ ?_)); exact rfl))); refine Ret.mk hM.since ?_; dsimp only [resV])
        rw [hml]
    · rw [mlenF, if_neg (by omega)] at hml
      with_reducible refine w_seq ?_
      with_reducible refine w_seq ?_
      refine c_draw (fun i => Nat.ble 27 i) hM ?_; clear hM; intro w hM
      (first | (refine t_pure (i := 0) hF rfl rfl rfl rfl (by kernel_rfl) hM.sm (fun _ _ _ h => h) ?_ ?_; (first | exact trivial | omega | decide); clear hF a; intro a hF))
      (first | (refine t_pure (i := 1) hF rfl rfl rfl rfl (by kernel_rfl) hM.sm (fun _ _ _ h => h) ?_ ?_; (first | exact trivial | omega | decide); clear hF a; intro a hF))
      rw [show decide ((n : Int) < 131) = true from decide_eq_true (by omega)] at hF
      (first | (refine t_pure (i := 2) hF rfl rfl rfl rfl (by kernel_rfl) (hM.sm.sub (fun x hx => by repeat (first | exact hx | refine List.mem_cons_of_mem _ ?_)) (fun _ h => by repeat (first | exact h | refine List.mem_cons_of_mem _ ?_))) (fun _ _ _ h => h) ?_ ?_; (first | exact trivial | omega | decide); clear hF a; intro a hF))
      (first | (refine t_pure (i := 3) hF rfl rfl rfl rfl (by kernel_rfl) (hM.sm.sub (fun x hx => by repeat (first | exact hx | refine List.mem_cons_of_mem _ ?_)) (fun _ h => by repeat (first | exact h | refine List.mem_cons_of_mem _ ?_))) (fun _ _ _ h => h) ?_ ?_; (first | exact trivial | omega | decide); clear hF a; intro a hF))
      (first | (refine t_pure (i := 4) hF rfl rfl rfl rfl (by kernel_rfl) (hM.sm.sub (fun x hx => by repeat (first | exact hx | refine List.mem_cons_of_mem _ ?_)) (fun _ h => by repeat (first | exact h | refine List.mem_cons_of_mem _ ?_))) (fun _ _ _ h => h) ?_ ?_; (first | exact trivial | omega | decide); clear hF a; intro a hF))
      (first | (refine t_pure (i := 5) hF rfl rfl rfl rfl (by kernel_rfl) (hM.sm.sub (fun x hx => by repeat (first | exact hx | refine List.mem_cons_of_mem _ ?_)) (fun _ h => by repeat (first | exact h | refine List.mem_cons_of_mem _ ?_))) (fun _ _ _ h => h) ?_ ?_; (first | exact trivial | omega | decide); clear hF a; intro a hF))
      (first | (refine t_pure (i := 6) hF rfl rfl rfl rfl (by kernel_rfl) (hM.sm.sub (fun x hx => by repeat (first | exact hx | refine List.mem_cons_of_mem _ ?_)) (fun _ h => by repeat (first | exact h | refine List.mem_cons_of_mem _ ?_))) (fun _ _ _ h => h) ?_ ?_; (first | exact trivial | omega | decide); clear hF a; intro a hF))
      (first | (refine t_pure (i := 7) hF rfl rfl rfl rfl (by kernel_rfl) (hM.sm.sub (fun x hx => by repeat (first | exact hx | refine List.mem_cons_of_mem _ ?_)) (fun _ h => by repeat (first | exact h | refine List.mem_cons_of_mem _ ?_))) (fun _ _ _ h => h) ?_ ?_; (first | exact trivial | omega | decide); clear hF a; intro a hF))
      (first | (refine t_pure (i := 8) hF rfl rfl rfl rfl (by kernel_rfl) (hM.sm.sub (fun x hx => by repeat (first | exact hx | refine List.mem_cons_of_mem _ ?_)) (fun _ h => by repeat (first | exact h | refine List.mem_cons_of_mem _ ?_))) (fun _ _ _ h => h) ?_ ?_; (first | exact trivial | omega | decide); clear hF a; intro a hF))
      rw [show decide ((t : Int) + (n : Int) < (all.length : Int)) = false from decide_eq_false (by omega)] at hF
      (first | (refine t_pure (i := 9) hF rfl rfl rfl rfl (by kernel_rfl) (hM.sm.sub (fun x hx => by repeat (first | exact hx | refine List.mem_cons_of_mem _ ?_)) (fun _ h => by repeat (first | exact h | refine List.mem_cons_of_mem _ ?_))) (fun _ _ _ h => h) ?_ ?_; (first | exact trivial | omega | decide); clear hF a; intro a hF))
      (first | (refine t_pure (i := 10) hF rfl rfl rfl rfl (by kernel_rfl) (hM.sm.sub (fun x hx => by repeat (first | exact hx | refine List.mem_cons_of_mem _ ?_)) (fun _ h => by repeat (first | exact h | refine List.mem_cons_of_mem _ ?_))) (fun _ _ _ h => h) ?_ ?_; (first | exact trivial | omega | decide); clear hF a; intro a hF))
      (first | (refine t_skip (i := 11) hF rfl rfl rfl (by kernel_rfl) (hM.sm.sub (fun x hx => by repeat (first | exact hx | refine List.mem_cons_of_mem _ ?_)) (fun _ h => by repeat (first | exact h | refine List.mem_cons_of_mem _ ?_))) (fun _ _ _ h => h) ?_; clear hF a; intro a hF))
      (first | (refine t_skip (i := 12) hF rfl rfl rfl (by kernel_rfl) (hM.sm.sub (fun x hx => by repeat (first | exact hx | refine List.mem_cons_of_mem _ ?_)) (fun _ h => by repeat (first | exact h | refine List.mem_cons_of_mem _ ?_))) (fun _ _ _ h => h) ?_; clear hF a; intro a hF))
      (first | (refine t_skip (i := 13) hF rfl rfl rfl (by kernel_rfl) (hM.sm.sub (fun x hx => by repeat (first | exact hx | refine List.mem_cons_of_mem _ ?_)) (fun _ h => by repeat (first | exact h | refine List.mem_cons_of_mem _ ?_))) (fun _ _ _ h => h) ?_; clear hF a; intro a hF))
      (first | (refine t_skip (i := 14) hF rfl rfl rfl (by kernel_rfl) (hM.sm.sub (fun x hx => by repeat (first | exact hx | refine List.mem_cons_of_mem _ ?_)) (fun _ h => by repeat (first | exact h | refine List.mem_cons_of_mem _ ?_))) (fun _ _ _ h => h) ?_; clear hF a; intro a hF))
      (first | (refine t_skip (i := 15) hF rfl rfl rfl (by kernel_rfl) (hM.sm.sub (fun x hx => by repeat (first | exact hx | refine List.mem_cons_of_mem _ ?_)) (fun _ h => by repeat (first | exact h | refine List.mem_cons_of_mem _ ?_))) (fun _ _ _ h => h) ?_; clear hF a; intro a hF))
      (first | (refine t_skip (i := 16) hF rfl rfl rfl (by kernel_rfl) (hM.sm.sub (fun x hx => by repeat (first | exact hx | refine List.mem_cons_of_mem _ ?_)) (fun _ h => by repeat (first | exact h | refine List.mem_cons_of_mem _ ?_))) (fun _ _ _ h => h) ?_; clear hF a; intro a hF))
      (first | (refine t_skip (i := 17) hF rfl rfl rfl (by kernel_rfl) (hM.sm.sub (fun x hx => by repeat (first | exact hx | refine List.mem_cons_of_mem _ ?_)) (fun _ h => by repeat (first | exact h | refine List.mem_cons_of_mem _ ?_))) (fun _ _ _ h => h) ?_; clear hF a; intro a hF))
      (first | (refine t_skip (i := 18) hF rfl rfl rfl (by kernel_rfl) (hM.sm.sub (fun x hx => by repeat (first | exact hx | refine List.mem_cons_of_mem _ ?_)) (fun _ h => by repeat (first | exact h | refine List.mem_cons_of_mem _ ?_))) (fun _ _ _ h => h) ?_; clear hF a; intro a hF))
      (first | (refine t_skip (i := 19) hF rfl rfl rfl (by kernel_rfl) (hM.sm.sub (fun x hx => by repeat (first | exact hx | refine List.mem_cons_of_mem _ ?_)) (fun _ h => by repeat (first | exact h | refine List.mem_cons_of_mem _ ?_))) (fun _ _ _ h => h) ?_; clear hF a; intro a hF))
      (first | (refine t_skip (i := 20) hF rfl rfl rfl (by kernel_rfl) (hM.sm.sub (fun x hx => by repeat (first | exact hx | refine List.mem_cons_of_mem _ ?_)) (fun _ h => by repeat (first | exact h | refine List.mem_cons_of_mem _ ?_))) (fun _ _ _ h => h) ?_; clear hF a; intro a hF))
      (first | (refine t_skip (i := 21) hF rfl rfl rfl (by kernel_rfl) (hM.sm.sub (fun x hx => by repeat (first | exact hx | refine List.mem_cons_of_mem _ ?_)) (fun _ h => by repeat (first | exact h | refine List.mem_cons_of_mem _ ?_))) (fun _ _ _ h => h) ?_; clear hF a; intro a hF))
      (first | (refine t_skip (i := 22) hF rfl rfl rfl (by kernel_rfl) (hM.sm.sub (fun x hx => by repeat (first | exact hx | refine List.mem_cons_of_mem _ ?_)) (fun _ h => by repeat (first | exact h | refine List.mem_cons_of_mem _ ?_))) (fun _ _ _ h => h) ?_; clear hF a; intro a hF))
      (first | (refine t_skip (i := 23) hF rfl rfl rfl (by kernel_rfl) (hM.sm.sub (fun x hx => by repeat (first | exact hx | refine List.mem_cons_of_mem _ ?_)) (fun _ h => by repeat (first | exact h | refine List.mem_cons_of_mem _ ?_))) (fun _ _ _ h => h) ?_; clear hF a; intro a hF))
      (first | (refine t_skip (i := 24) hF rfl rfl rfl (by kernel_rfl) (hM.sm.sub (fun x hx => by repeat (first | exact hx | refine List.mem_cons_of_mem _ ?_)) (fun _ h => by repeat (first | exact h | refine List.mem_cons_of_mem _ ?_))) (fun _ _ _ h => h) ?_; clear hF a; intro a hF))
      (first | (refine t_skip (i := 25) hF rfl rfl rfl (by kernel_rfl) (hM.sm.sub (fun x hx => by repeat (first | exact hx | refine List.mem_cons_of_mem _ ?_)) (fun _ h => by repeat (first | exact h | refine List.mem_cons_of_mem _ ?_))) (fun _ _ _ h => h) ?_; clear hF a; intro a hF))
      (first | (refine t_pure (i := 26) hF rfl rfl rfl rfl (by kernel_rfl) (hM.sm.sub (fun x hx => by repeat (first | exact hx | refine List.mem_cons_of_mem _ ?_)) (fun _ h => by repeat (first | exact h | refine List.mem_cons_of_mem _ ?_))) (fun _ _ _ h => h) ?_ ?_; (first | exact trivial | omega | decide); clear hF a; intro a hF))
      refine t_done (by kernel_rfl) ?_
      (repeat' (first | (with_reducible refine w_seq ?_) | (with_reducible refine c_region ?_) | (with_reducible refine s_nil ?_) | (with_reducible refine q_then_n ?_) | ((with_reducible apply s_pure hF); exact rfl; exact rfl; exact rfl; (first | exact trivial | omega | exact ⟨Int.natCast_nonneg _, Int.ofNat_lt.2 (by assumption)⟩ | decide); clear hF a; intro a hF) | (with_reducible refine w_exit ?_) | (with_reducible refine w_ret ?_) | (with_reducible refine q_then_x ?_) | (with_reducible refine q_blk_x ?_) | ((with_reducible apply c_false2 hF); exact rfl; (first | with_reducible rfl | (refine congrArg Value.bool ?_; focus (simp; done))))))
      (apply f_ret Try.results45 hF hM; (repeat (first | exact RL.nil | (apply RL.tmp; exact rfl) | (apply RL.cell; exact rfl; (repeat (first | exact List.mem_cons_self | refine List.mem_cons_of_mem _ ?_)); exact rfl))); refine Ret.mk hM.since ?_; dsimp only [resV])
      rw [hml]
  · obtain rfl : m = 0 := by omega
    with_reducible refine w_seq ?_
    with_reducible refine w_seq ?_
    refine c_draw (fun i => Nat.ble 27 i) hM ?_; clear hM; intro w hM
    (first | (refine t_pure (i := 0) hF rfl rfl rfl rfl (by kernel_rfl) hM.sm (fun _ _ _ h => h) ?_ ?_; (first | exact trivial | omega | decide); clear hF a; intro a hF))
    (first | (refine t_pure (i := 1) hF rfl rfl rfl rfl (by kernel_rfl) hM.sm (fun _ _ _ h => h) ?_ ?_; (first | exact trivial | omega | decide); clear hF a; intro a hF))
    rw [show decide ((n : Int) < 131) = false from decide_eq_false (by omega)] at hF
    (first | (refine t_pure (i := 2) hF rfl rfl rfl rfl (by kernel_rfl) (hM.sm.sub (fun x hx => by repeat (first | exact hx | refine List.mem_cons_of_mem _ ?_)) (fun _ h => by repeat (first | exact h | refine List.mem_cons_of_mem _ ?_))) (fun _ _ _ h => h) ?_ ?_; (first | exact trivial | omega | decide); clear hF a; intro a hF))
    (first | (refine t_skip (i := 3) hF rfl rfl rfl (by kernel_rfl) (hM.sm.sub (fun x hx => by repeat (first | exact hx | refine List.mem_cons_of_mem _ ?_)) (fun _ h => by repeat (first | exact h | refine List.mem_cons_of_mem _ ?_))) (fun _ _ _ h => h) ?_; clear hF a; intro a hF))
    (first | (refine t_skip (i := 4) hF rfl rfl rfl (by kernel_rfl) (hM.sm.sub (fun x hx => by repeat (first | exact hx | refine List.mem_cons_of_mem _ ?_)) (fun _ h => by repeat (first | exact h | refine List.mem_cons_of_mem _ ?_))) (fun _ _ _ h => h) ?_; clear hF a; intro a hF))
    (first | (refine t_skip (i := 5) hF rfl rfl rfl (by kernel_rfl) (hM.sm.sub (fun x hx => by repeat (first | exact hx | refine List.mem_cons_of_mem _ ?_)) (fun _ h => by repeat (first | exact h | refine List.mem_cons_of_mem _ ?_))) (fun _ _ _ h => h) ?_; clear hF a; intro a hF))
    (first | (refine t_skip (i := 6) hF rfl rfl rfl (by kernel_rfl) (hM.sm.sub (fun x hx => by repeat (first | exact hx | refine List.mem_cons_of_mem _ ?_)) (fun _ h => by repeat (first | exact h | refine List.mem_cons_of_mem _ ?_))) (fun _ _ _ h => h) ?_; clear hF a; intro a hF))
    (first | (refine t_skip (i := 7) hF rfl rfl rfl (by kernel_rfl) (hM.sm.sub (fun x hx => by repeat (first | exact hx | refine List.mem_cons_of_mem _ ?_)) (fun _ h => by repeat (first | exact h | refine List.mem_cons_of_mem _ ?_))) (fun _ _ _ h => h) ?_; clear hF a; intro a hF))
    (first | (refine t_skip (i := 8) hF rfl rfl rfl (by kernel_rfl) (hM.sm.sub (fun x hx => by repeat (first | exact hx | refine List.mem_cons_of_mem _ ?_)) (fun _ h => by repeat (first | exact h | refine List.mem_cons_of_mem _ ?_))) (fun _ _ _ h => h) ?_; clear hF a; intro a hF))
    (first | (refine t_pure (i := 9) hF rfl rfl rfl rfl (by kernel_rfl) (hM.sm.sub (fun x hx => by repeat (first | exact hx | refine List.mem_cons_of_mem _ ?_)) (fun _ h => by repeat (first | exact h | refine List.mem_cons_of_mem _ ?_))) (fun _ _ _ h => h) ?_ ?_; (first | exact trivial | omega | decide); clear hF a; intro a hF))
    (first | (refine t_pure (i := 10) hF rfl rfl rfl rfl (by kernel_rfl) (hM.sm.sub (fun x hx => by repeat (first | exact hx | refine List.mem_cons_of_mem _ ?_)) (fun _ h => by repeat (first | exact h | refine List.mem_cons_of_mem _ ?_))) (fun _ _ _ h => h) ?_ ?_; (first | exact trivial | omega | decide); clear hF a; intro a hF))
    (first | (refine t_skip (i := 11) hF rfl rfl rfl (by kernel_rfl) (hM.sm.sub (fun x hx => by repeat (first | exact hx | refine List.mem_cons_of_mem _ ?_)) (fun _ h => by repeat (first | exact h | refine List.mem_cons_of_mem _ ?_))) (fun _ _ _ h => h) ?_; clear hF a; intro a hF))
    (first | (refine t_skip (i := 12) hF rfl rfl rfl (by kernel_rfl) (hM.sm.sub (fun x hx => by repeat (first | exact hx | refine List.mem_cons_of_mem _ ?_)) (fun _ h => by repeat (first | exact h | refine List.mem_cons_of_mem _ ?_))) (fun _ _ _ h => h) ?_; clear hF a; intro a hF))
    (first | (refine t_skip (i := 13) hF rfl rfl rfl (by kernel_rfl) (hM.sm.sub (fun x hx => by repeat (first | exact hx | refine List.mem_cons_of_mem _ ?_)) (fun _ h => by repeat (first | exact h | refine List.mem_cons_of_mem _ ?_))) (fun _ _ _ h => h) ?_; clear hF a; intro a hF))
    (first | (refine t_skip (i := 14) hF rfl rfl rfl (by kernel_rfl) (hM.sm.sub (fun x hx => by repeat (first | exact hx | refine List.mem_cons_of_mem _ ?_)) (fun _ h => by repeat (first | exact h | refine List.mem_cons_of_mem _ ?_))) (fun _ _ _ h => h) ?_; clear hF a; intro a hF))
    (first | (refine t_skip (i := 15) hF rfl rfl rfl (by kernel_rfl) (hM.sm.sub (fun x hx => by repeat (first | exact hx | refine List.mem_cons_of_mem _ ?_)) (fun _ h => by repeat (first | exact h | refine List.mem_cons_of_mem _ ?_))) (fun _ _ _ h => h) ?_; clear hF a; intro a hF))
    (first | (refine t_skip (i := 16) hF rfl rfl rfl (by kernel_rfl) (hM.sm.sub (fun x hx => by repeat (first | exact hx | refine List.mem_cons_of_mem _ ?_)) (fun _ h => by repeat (first | exact h | refine List.mem_cons_of_mem _ ?_))) (fun _ _ _ h => h) ?_; clear hF a; intro a hF))
    (first | (refine t_skip (i := 17) hF rfl rfl rfl (by kernel_rfl) (hM.sm.sub (fun x hx => by repeat (first | exact hx | refine List.mem_cons_of_mem _ ?_)) (fun _ h => by repeat (first | exact h | refine List.mem_cons_of_mem _ ?_))) (fun _ _ _ h => h) ?_; clear hF a; intro a hF))
    (first | (refine t_skip (i := 18) hF rfl rfl rfl (by kernel_rfl) (hM.sm.sub (fun x hx => by repeat (first | exact hx | refine List.mem_cons_of_mem _ ?_)) (fun _ h => by repeat (first | exact h | refine List.mem_cons_of_mem _ ?_))) (fun _ _ _ h => h) ?_; clear hF a; intro a hF))
    (first | (refine t_skip (i := 19) hF rfl rfl rfl (by kernel_rfl) (hM.sm.sub (fun x hx => by repeat (first | exact hx | refine List.mem_cons_of_mem _ ?_)) (fun _ h => by repeat (first | exact h | refine List.mem_cons_of_mem _ ?_))) (fun _ _ _ h => h) ?_; clear hF a; intro a hF))
    (first | (refine t_skip (i := 20) hF rfl rfl rfl (by kernel_rfl) (hM.sm.sub (fun x hx => by repeat (first | exact hx | refine List.mem_cons_of_mem _ ?_)) (fun _ h => by repeat (first | exact h | refine List.mem_cons_of_mem _ ?_))) (fun _ _ _ h => h) ?_; clear hF a; intro a hF))
    (first | (refine t_skip (i := 21) hF rfl rfl rfl (by kernel_rfl) (hM.sm.sub (fun x hx => by repeat (first | exact hx | refine List.mem_cons_of_mem _ ?_)) (fun _ h => by repeat (first | exact h | refine List.mem_cons_of_mem _ ?_))) (fun _ _ _ h => h) ?_; clear hF a; intro a hF))
    (first | (refine t_skip (i := 22) hF rfl rfl rfl (by kernel_rfl) (hM.sm.sub (fun x hx => by repeat (first | exact hx | refine List.mem_cons_of_mem _ ?_)) (fun _ h => by repeat (first | exact h | refine List.mem_cons_of_mem _ ?_))) (fun _ _ _ h => h) ?_; clear hF a; intro a hF))
    (first | (refine t_skip (i := 23) hF rfl rfl rfl (by kernel_rfl) (hM.sm.sub (fun x hx => by repeat (first | exact hx | refine List.mem_cons_of_mem _ ?_)) (fun _ h => by repeat (first | exact h | refine List.mem_cons_of_mem _ ?_))) (fun _ _ _ h => h) ?_; clear hF a; intro a hF))
    (first | (refine t_skip (i := 24) hF rfl rfl rfl (by kernel_rfl) (hM.sm.sub (fun x hx => by repeat (first | exact hx | refine List.mem_cons_of_mem _ ?_)) (fun _ h => by repeat (first | exact h | refine List.mem_cons_of_mem _ ?_))) (fun _ _ _ h => h) ?_; clear hF a; intro a hF))
    (first | (refine t_skip (i := 25) hF rfl rfl rfl (by kernel_rfl) (hM.sm.sub (fun x hx => by repeat (first | exact hx | refine List.mem_cons_of_mem _ ?_)) (fun _ h => by repeat (first | exact h | refine List.mem_cons_of_mem _ ?_))) (fun _ _ _ h => h) ?_; clear hF a; intro a hF))
    (first | (refine t_pure (i := 26) hF rfl rfl rfl rfl (by kernel_rfl) (hM.sm.sub (fun x hx => by repeat (first | exact hx | refine List.mem_cons_of_mem _ ?_)) (fun _ h => by repeat (first | exact h | refine List.mem_cons_of_mem _ ?_))) (fun _ _ _ h => h) ?_ ?_; (first | exact trivial | omega | decide); clear hF a; intro a hF))
    refine t_done (by kernel_rfl) ?_
    (repeat' (first | (with_reducible refine w_seq ?_) | (with_reducible refine c_region ?_) | (with_reducible refine s_nil ?_) | (with_reducible refine q_then_n ?_) | ((with_reducible apply s_pure hF); exact rfl; exact rfl; exact rfl; (first | exact trivial | omega | exact ⟨Int.natCast_nonneg _, Int.ofNat_lt.2 (by assumption)⟩ | decide); clear hF a; intro a hF) | (with_reducible refine w_exit ?_) | (with_reducible refine w_ret ?_) | (with_reducible refine q_then_x ?_) | (with_reducible refine q_blk_x ?_) | ((with_reducible apply c_false2 hF); exact rfl; (first | with_reducible rfl | (refine congrArg Value.bool ?_; focus (simp; done))))))
    (apply f_ret Try.results45 hF hM; (repeat (first | exact RL.nil | (apply RL.tmp; exact rfl) | (apply RL.cell; exact rfl; (repeat (first | exact List.mem_cons_self | refine List.mem_cons_of_mem _ ?_)); exact rfl))); refine Ret.mk hM.since ?_; dsimp only [resV])
    rw [hml]
    rfl
set_option maxRecDepth 20000 in
theorem bestR_c (t : Nat) (ht : t ≤ all.length) : Calls Try.prog 29 ⟨[.slice a0 all.length c0, .int .i64 t]⟩ W (Ret W fun v _ => v = .tuple #[.int .i64 (best all t).1, .int .i64 (best all t).2]) := by
  have hM := (Mm.start hl).known hv
  refine f_start Try.func29 rfl Try.ntmps29 rfl rfl ?_; intro a hF
  (repeat' (first | (with_reducible refine w_seq ?_) | (with_reducible refine c_region ?_) | (with_reducible refine s_nil ?_) | (with_reducible refine q_then_n ?_) | ((with_reducible apply s_pure hF); exact rfl; exact rfl; exact rfl; (first | exact trivial | omega | exact ⟨Int.natCast_nonneg _, Int.ofNat_lt.2 (by assumption)⟩ | decide); clear hF a; intro a hF) | (with_reducible refine w_block ?_)))
  refine c_loop (m := 4097) (fun m a w' => ∃ D : Nat, m + D = 4097 ∧ D ≤ min 4096 t ∧
    Fr 34 [] [(6, .int .i64 (bestTo all t D).1), (7, .int .i64 (bestTo all t D).2), (8, .int .i64 (D + 1 : Nat)), (0, .slice a0 all.length c0), (1, .int .i64 t)] a ∧ Mm own W [] [] [RdF (Value.int .u8) a0 all] w') ⟨0, rfl, by omega, hF.sub (by repeat (first | exact Sub.nil | refine Sub.cons rfl (by first | with_reducible rfl | (refine congrArg (Value.int _) ?_; omega) | exact rfl) ?_)), hM⟩ ?_
  clear hF hM a
  rintro m a w' ⟨D, hm, hD, hF, hM⟩
  have hn := bestTo_le all t D
  by_cases hlt : D < min 4096 t
  · have hL := mlen_le all (t - (D + 1)) t
    have hstep : bestTo all t (D + 1) = bstep all t (bestTo all t D) (D + 1) := rfl
    unfold bstep at hstep
    by_cases hup : 4 ≤ mlen all (t - (D + 1)) t ∧ (bestTo all t D).2 < mlen all (t - (D + 1)) t
    · rw [if_pos hup] at hstep
      obtain ⟨hu1, hu2⟩ := hup
      (repeat' (first | (with_reducible refine w_seq ?_) | (with_reducible refine c_region ?_) | (with_reducible refine s_nil ?_) | ((with_reducible apply s_call (f := 45) hF hM); exact rfl; exact rfl; exact rfl; exact rfl; exact rfl; exact (lengthR_c all hlen _ c0 _ _ hM.lt (hM.facts _ (by (repeat (first | exact List.mem_cons_self | refine List.mem_cons_of_mem _ ?_)))) t (D + 1) ht (by omega) (by omega)); clear hF hM a; rintro v w a rfl - hM hF) | (with_reducible refine q_then_n ?_) | ((with_reducible apply s_pure hF); exact rfl; exact rfl; exact rfl; (first | exact trivial | omega | exact ⟨Int.natCast_nonneg _, Int.ofNat_lt.2 (by assumption)⟩ | decide); clear hF a; intro a hF) | (with_reducible refine w_skip ?_) | (with_reducible refine w_block ?_) | (with_reducible refine q_blk_n ?_) | ((with_reducible apply g_dec hF); exact rfl; exact rfl; all_goals (clear hF; intro hc hF); all_goals (try (exfalso; omega))) | ((with_reducible apply c_dec hF); exact rfl; all_goals intro hc; all_goals (try (exfalso; omega)))))
      rw [show (((D + 1 : Nat) : Int) + 1) = ((D + 1 + 1 : Nat) : Int) by omega] at hF
      refine ⟨m - 1, by omega, D + 1, by omega, by omega, ?_, hM⟩
      rw [hstep]
      exact hF.sub (by repeat (first | exact Sub.nil | refine Sub.cons rfl (by first | with_reducible rfl | (refine congrArg (Value.int _) ?_; omega) | exact rfl) ?_))
    · rw [if_neg hup] at hstep
      (repeat' (first | (with_reducible refine w_seq ?_) | (with_reducible refine c_region ?_) | (with_reducible refine s_nil ?_) | ((with_reducible apply s_call (f := 45) hF hM); exact rfl; exact rfl; exact rfl; exact rfl; exact rfl; exact (lengthR_c all hlen _ c0 _ _ hM.lt (hM.facts _ (by (repeat (first | exact List.mem_cons_self | refine List.mem_cons_of_mem _ ?_)))) t (D + 1) ht (by omega) (by omega)); clear hF hM a; rintro v w a rfl - hM hF) | (with_reducible refine q_then_n ?_) | ((with_reducible apply s_pure hF); exact rfl; exact rfl; exact rfl; (first | exact trivial | omega | exact ⟨Int.natCast_nonneg _, Int.ofNat_lt.2 (by assumption)⟩ | decide); clear hF a; intro a hF) | (with_reducible refine w_skip ?_) | (with_reducible refine w_block ?_) | (with_reducible refine q_blk_n ?_) | ((with_reducible apply c_false2 hF); exact rfl; (first | with_reducible rfl | (refine congrArg Value.bool ?_; focus (simp; done)))) | ((with_reducible apply s_skip hF); exact rfl; exact rfl; clear hF a; intro a hF) | ((with_reducible apply g_dec hF); exact rfl; exact rfl; all_goals (clear hF; intro hc hF); all_goals (try (exfalso; omega))) | ((with_reducible apply c_dec hF); exact rfl; all_goals intro hc; all_goals (try (exfalso; omega)))))
      all_goals
        rw [show (((D + 1 : Nat) : Int) + 1) = ((D + 1 + 1 : Nat) : Int) by omega] at hF
        refine ⟨m - 1, by omega, D + 1, by omega, by omega, ?_, hM⟩
        rw [hstep]
        exact hF.sub (by repeat (first | exact Sub.nil | refine Sub.cons rfl (by first | with_reducible rfl | (refine congrArg (Value.int _) ?_; omega) | exact rfl) ?_))
  · have hbe : best all t = bestTo all t D := by unfold best; rw [show min 4096 t = D by omega]
    (repeat' (first | (with_reducible refine w_seq ?_) | (with_reducible refine c_region ?_) | (with_reducible refine s_nil ?_) | (with_reducible refine q_then_n ?_) | ((with_reducible apply s_pure hF); exact rfl; exact rfl; exact rfl; (first | exact trivial | omega | exact ⟨Int.natCast_nonneg _, Int.ofNat_lt.2 (by assumption)⟩ | decide); clear hF a; intro a hF) | (with_reducible refine w_exit ?_) | (with_reducible refine w_ret ?_) | (with_reducible refine q_then_x ?_) | (with_reducible refine q_blk_x ?_) | ((with_reducible apply c_false2 hF); exact rfl; (first | with_reducible rfl | (refine congrArg Value.bool ?_; focus (simp; done)))) | ((with_reducible apply s_skip hF); exact rfl; exact rfl; clear hF a; intro a hF) | ((with_reducible apply g_dec hF); exact rfl; exact rfl; all_goals (clear hF; intro hc hF); all_goals (try (exfalso; omega))) | ((with_reducible apply c_dec hF); exact rfl; all_goals intro hc; all_goals (try (exfalso; omega)))))
    all_goals
      (apply f_ret Try.results29 hF hM; (repeat (first | exact RL.nil | (apply RL.tmp; exact rfl) | (apply RL.cell; exact rfl; (repeat (first | exact List.mem_cons_self | refine List.mem_cons_of_mem _ ?_)); exact rfl))); refine Ret.mk hM.since ?_; dsimp only [resV])
      rw [hbe]
end
section
variable {own : Nat → Prop} {w0 W : World} {bs : List BoxE} {L : List Ent} {Fs : List (World → Prop)} (tv : Value) (toks run : List Int) (m1 : Nat) (hm1 : m1 = toks.length) (hwl : run.length ≤ 1000000) (htl : toks.length ≤ 1000000000) (ar : Option Addr) (cr : Nat) (hcr : run.length ≤ cr)
  (hM : Mm own w0 bs (⟨5, 1, tv, m1, toks.map (Value.int .u8)⟩ :: L) (RdF (Value.int .u8) ar run :: Fs) W)
include hm1 hwl htl hcr hM
set_option maxRecDepth 20000 in
theorem literalsR_c : Calls Try.prog 30 ⟨[tv, .slice ar run.length cr]⟩ W (Rtn fun v w' => ∃ a' c', v = .slice a' (toks ++ litz run).length c' ∧
    Mm own w0 bs (⟨5, 1, .slice a' (toks ++ litz run).length c', (toks ++ litz run).length, (toks ++ litz run).map (Value.int .u8)⟩ :: L) (RdF (Value.int .u8) ar run :: Fs) w') := by
  subst hm1
  refine f_start Try.func30 rfl Try.ntmps30 rfl rfl ?_; intro a hF
  (repeat (first | (with_reducible refine w_seq ?_) | (with_reducible refine c_region ?_) | (with_reducible refine s_nil ?_) | (with_reducible refine q_then_n ?_) | ((with_reducible apply s_pure hF); exact rfl; exact rfl; exact rfl; (first | exact trivial | omega | exact ⟨Int.natCast_nonneg _, Int.ofNat_lt.2 (by assumption)⟩ | decide); clear hF a; intro a hF) | (with_reducible refine w_block ?_)))
  refine c_loop (m := run.length) (fun m a w' => ∃ (tk cur : List Int) (tv2 : Value) (ac : Option Addr) (cc : Nat), toks ++ litz run = tk ++ litsB m cur ∧ cur.length ≤ m ∧ cur.length ≤ cc ∧ m ≤ run.length ∧ tk.length + 2 * cur.length ≤ toks.length + 2 * run.length ∧
    Fr 26 [] [(0, tv2), (1, .slice ac cur.length cc)] a ∧
    Mm own w0 bs (⟨5, 1, tv2, tk.length, tk.map (Value.int .u8)⟩ :: L) (RdF (Value.int .u8) ac cur :: RdF (Value.int .u8) ar run :: Fs) w')
    ⟨toks, run, tv, ar, cr, rfl, Nat.le_refl _, hcr, Nat.le_refl _, Nat.le_refl _, hF.sub (by repeat (first | exact Sub.nil | refine Sub.cons rfl (by first | with_reducible rfl | (refine congrArg (Value.int _) ?_; omega) | exact rfl) ?_)), hM.addFact (hM.facts _ List.mem_cons_self)⟩ ?_
  clear hF hM a
  rintro m a w' ⟨tk, cur, tv2, ac, cc, he, hcm, hcc, hmw, htk, hF, hM⟩
  by_cases h0 : 0 < cur.length
  · obtain ⟨m, rfl⟩ : ∃ k, m = k + 1 := ⟨m - 1, by omega⟩
    have hne : cur ≠ [] := List.length_pos_iff.1 h0
    rw [litsB, if_neg hne] at he
    obtain ⟨q, hq⟩ : ∃ q, q = min cur.length 127 := ⟨_, rfl⟩
    rw [← hq] at he
    have hft := RdF.take (hM.facts (RdF (Value.int .u8) ac cur) List.mem_cons_self) q
    have hfd := RdF.dropO (hM.facts (RdF (Value.int .u8) ac cur) List.mem_cons_self) q cc hcc
    have hql : (cur.take q).length = q := by rw [List.length_take]; omega
    replace hM := (hM.addFact hft).addFact hfd
    (repeat' (first | (with_reducible refine w_seq ?_) | (with_reducible refine c_region ?_) | (with_reducible refine s_nil ?_) | (with_reducible refine q_then_n ?_) | ((with_reducible apply s_pure hF); exact rfl; exact rfl; exact rfl; (first | exact trivial | omega | exact ⟨Int.natCast_nonneg _, Int.ofNat_lt.2 (by assumption)⟩ | decide); clear hF a; intro a hF) | ((with_reducible apply s_lit hF hM); exact rfl; exact rfl; exact rfl; exact rfl; clear hF hM a; intro bl w a hM hF) | ((with_reducible apply s_app hF hM); exact rfl; exact rfl; exact rfl; exact rfl; (repeat (first | exact Kth.z | apply Kth.s)); exact rfl; exact rfl; exact rfl; exact rfl; omega; clear hF hM a; intro g cap w a hM hF; dsimp only [List.set] at hM) | (with_reducible refine w_skip ?_) | (with_reducible refine w_block ?_) | ((with_reducible apply c_dec hF); exact rfl; all_goals intro hc; all_goals (try (exfalso; omega)))))
    rw [show min (cur.length : Int) 127 = (q : Int) by omega, show (q : Int) % 256 = (q : Int) by omega] at hF hM
    replace hF := Fr.same (t := 20) (u := .slice ac (cur.take q).length cc) hF rfl (by rw [show (0 : Int).toNat = 0 from rfl, sadr_z, Int.toNat_natCast, Nat.sub_zero, Nat.sub_zero, hql])
    (repeat' (first | (with_reducible refine c_region ?_) | (with_reducible refine s_nil ?_) | ((with_reducible apply s_appF hF hM); exact rfl; exact rfl; (repeat (first | exact List.mem_cons_self | refine List.mem_cons_of_mem _ ?_)); exact rfl; exact rfl; (repeat (first | exact Kth.z | apply Kth.s)); (intro _; exact rfl); exact rfl; omega; clear hF hM a; intro g cap w a hM hF; dsimp only [List.set] at hM) | (with_reducible refine q_then_n ?_) | ((with_reducible apply s_pure hF); exact rfl; exact rfl; exact rfl; (first | exact trivial | omega | exact ⟨Int.natCast_nonneg _, Int.ofNat_lt.2 (by assumption)⟩ | decide); clear hF a; intro a hF) | (with_reducible refine q_blk_n ?_)))
    rw [Int.toNat_natCast, Int.toNat_natCast] at hF
    have e2 : (cur.drop q).length = cur.length - q := List.length_drop
    have e3 : (tk ++ [(q : Int)] ++ cur.take q).length = tk.length + 1 + (cur.take q).length := by simp only [List.length_append, List.length_singleton]
    refine ⟨m, by omega, tk ++ [(q : Int)] ++ cur.take q, cur.drop q, .slice g (tk.length + 1 + (cur.take q).length) cap, sadr ac q cc 1, cc - q, by rw [he]; simp, by omega, by omega, by omega, by omega, ?_, ?_⟩
    rotate_left
    · rw [e3, List.map_append, List.map_append]
      exact hM.sub (.refl _) (.refl _) (by intro f hf; simp only [List.mem_cons, List.not_mem_nil, or_false] at hf; (repeat (rcases hf with rfl | hf; · (repeat (first | exact List.mem_cons_self | refine List.mem_cons_of_mem _ ?_)))); first | (subst hf; (repeat (first | exact List.mem_cons_self | refine List.mem_cons_of_mem _ ?_)); done) | (repeat (first | exact hf | refine List.mem_cons_of_mem _ ?_)))
    · rw [e2]
      exact hF.sub (by repeat (first | exact Sub.nil | refine Sub.cons rfl (by first | with_reducible rfl | (refine congrArg (Value.int _) ?_; omega) | exact rfl) ?_))
  · obtain rfl : cur = [] := List.length_eq_zero_iff.1 (by omega)
    rw [litsB_nil, List.append_nil] at he
    obtain ⟨av, cv, rfl⟩ := row_shape hM List.mem_cons_self
    (repeat' (first | (with_reducible refine w_seq ?_) | (with_reducible refine c_region ?_) | (with_reducible refine s_nil ?_) | (with_reducible refine q_then_n ?_) | ((with_reducible apply s_pure hF); exact rfl; exact rfl; exact rfl; (first | exact trivial | omega | exact ⟨Int.natCast_nonneg _, Int.ofNat_lt.2 (by assumption)⟩ | decide); clear hF a; intro a hF) | (with_reducible refine w_exit ?_) | (with_reducible refine w_ret ?_) | (with_reducible refine q_then_x ?_) | (with_reducible refine q_blk_x ?_) | ((with_reducible apply c_false2 hF); exact rfl; (first | with_reducible rfl | (refine congrArg Value.bool ?_; focus (simp; done))))))
    (apply f_ret Try.results30 hF hM; (repeat (first | exact RL.nil | (apply RL.tmp; exact rfl) | (apply RL.cell; exact rfl; (repeat (first | exact List.mem_cons_self | refine List.mem_cons_of_mem _ ?_)); exact rfl))); refine Both.mk ?_; try dsimp only [resV])
    rw [he]
    exact ⟨av, cv, rfl, hM.sub (.refl _) (.refl _) (fun f hf => List.mem_cons_of_mem _ hf)⟩
end
end Go.Proofs.Ytocgpllmfdnfjaa

/- The reference of dictionary: Encode. -/
namespace Go.Proofs.Ytocgpllmfdnfjaa
open Go.RowKit Go.Shelf
section
variable (dict y : List Int) (hlen : dict.length ≤ 10000 ∧ y.length ≤ 10000) (a1 a2 : Option Addr) (c1 c2 : Nat) (own : Nat → Prop) (W : World) (hl : ∀ b, own b → b < W.heap.size) (hv1 : Has own W (RdF (Value.int .u8) a1 dict)) (hv2 : Has own W (RdF (Value.int .u8) a2 y))
include hlen hl hv1 hv2
set_option maxRecDepth 20000 in
theorem EncodeDR_c : Calls Try.prog 15 ⟨[.slice a1 dict.length c1, .slice a2 y.length c2]⟩ W (Ret W fun v w' => ∃ a' c', v = .slice a' (encD dict y).length c' ∧ Owns w' W.heap.size [⟨5, 1, .slice a' (encD dict y).length c', (encD dict y).length, (encD dict y).map (Value.int .u8)⟩]) := by
  obtain ⟨hd, hy⟩ := hlen
  have hM := ((Mm.start hl).known hv1).known hv2
  refine f_start Try.func15 rfl Try.ntmps15 rfl rfl ?_; intro a hF
  (repeat (first | (with_reducible refine w_seq ?_) | (with_reducible refine c_region ?_) | (with_reducible refine s_nil ?_) | ((with_reducible apply s_appF hF hM); exact rfl; exact rfl; (repeat (first | exact List.mem_cons_self | refine List.mem_cons_of_mem _ ?_)); exact rfl; exact rfl; (repeat (first | exact Kth.z | apply Kth.s)); (intro _; exact rfl); exact rfl; omega; clear hF hM a; intro g cap w a hM hF; dsimp only [List.set] at hM) | ((with_reducible apply s_lit0 hF hM); exact rfl; exact rfl; exact rfl; exact rfl; clear hF hM a; intro bl w a hM hF) | (with_reducible refine q_then_n ?_) | ((with_reducible apply s_pure hF); exact rfl; exact rfl; exact rfl; (first | exact trivial | omega | exact ⟨Int.natCast_nonneg _, Int.ofNat_lt.2 (by assumption)⟩ | decide); clear hF a; intro a hF) | (with_reducible refine w_block ?_)))
  obtain ⟨all, hall⟩ : ∃ all, all = dict ++ y := ⟨_, rfl⟩
  have hal : all.length = dict.length + y.length := by rw [hall, List.length_append]
  rw [Nat.zero_add, List.nil_append, ← List.map_append, ← hall, ← hal] at hM
  rw [Nat.zero_add, ← hal] at hF
  have hcap := row_capB hM List.mem_cons_self
  replace hM := hM.freezeRow
  have hlen : all.length ≤ 1000000 := by omega
  refine c_loop (m := y.length) (fun f a w' => ∃ (t : Nat) (toks run : List Int) (tv wv : Value), f + t = all.length ∧ dict.length ≤ t ∧ encD dict y = encF all f t toks run ∧ toks.length + 2 * run.length ≤ 4 * t ∧ run.length ≤ t ∧
    Fr 57 [] [(8, .int .i64 t), (5, .slice g all.length cap), (6, tv), (7, wv)] a ∧
    Mm own W [] [⟨5, 1, tv, toks.length, toks.map (Value.int .u8)⟩, ⟨5, 1, wv, run.length, run.map (Value.int .u8)⟩] [RdF (Value.int .u8) g all] w')
    ⟨dict.length, [], [], .slice none 0 0, .slice none 0 0, by omega, by omega, by rw [hall]; rfl, by simp, by simp, hF.sub (by repeat (first | exact Sub.nil | refine Sub.cons rfl (by first | with_reducible rfl | (refine congrArg (Value.int _) ?_; omega) | exact rfl) ?_)), ((hM.nilRow 5 1).nilRow 5 1).sub (.refl _) (.refl _) (by intro f hf; simp only [List.mem_cons, List.not_mem_nil, or_false] at hf; (repeat (rcases hf with rfl | hf; · (repeat (first | exact List.mem_cons_self | refine List.mem_cons_of_mem _ ?_)))); first | (subst hf; (repeat (first | exact List.mem_cons_self | refine List.mem_cons_of_mem _ ?_)); done) | (repeat (first | exact hf | refine List.mem_cons_of_mem _ ?_)))⟩ ?_
  clear hF hM a
  rintro f a w' ⟨t, toks, run, tv, wv, hft, hdt, henc, hbd, hrt, hF, hM⟩
  obtain ⟨at1, ct1, rfl⟩ := row_shape hM List.mem_cons_self
  obtain ⟨aw1, cw1, rfl⟩ := row_shape hM (List.mem_cons_of_mem _ List.mem_cons_self)
  have hcw := row_capB hM (List.mem_cons_of_mem _ List.mem_cons_self)
  by_cases ht : t < all.length
  · obtain ⟨f, rfl⟩ : ∃ k, f = k + 1 := ⟨f - 1, by omega⟩
    rw [encF, if_pos ht] at henc
    by_cases h0 : (best all t).2 = 0
    · rw [if_pos h0] at henc
      obtain ⟨x, hx⟩ := get_of_lt ht
      have hgx : all.getD t 0 = x := by rw [List.getD_eq_getElem?_getD, hx]; rfl
      obtain ⟨ad, rfl⟩ : ∃ ad, g = some ad := rd_some hM (by (repeat (first | exact List.mem_cons_self | refine List.mem_cons_of_mem _ ?_))) hx
      rw [hgx] at henc
      (repeat' (first | (with_reducible refine w_seq ?_) | (with_reducible refine c_region ?_) | (with_reducible refine s_nil ?_) | ((with_reducible apply s_call (f := 29) hF hM); exact rfl; exact rfl; exact rfl; exact rfl; exact rfl; exact (bestR_c all hlen _ cap _ _ hM.lt (hM.facts _ (by (repeat (first | exact List.mem_cons_self | refine List.mem_cons_of_mem _ ?_)))) t (by omega)); clear hF hM a; rintro v w a rfl - hM hF) | (with_reducible refine q_then_n ?_) | ((with_reducible apply s_pure hF); exact rfl; exact rfl; exact rfl; (first | exact trivial | omega | exact ⟨Int.natCast_nonneg _, Int.ofNat_lt.2 (by assumption)⟩ | decide); clear hF a; intro a hF) | ((with_reducible apply s_loadF hF hM); exact rfl; exact rfl; (repeat (first | exact List.mem_cons_self | refine List.mem_cons_of_mem _ ?_)); exact rfl; exact rfl; (first | with_reducible assumption | (simp only [Int.toNat_natCast]; with_reducible assumption)); clear hF a; intro a hF) | ((with_reducible apply s_lit hF hM); exact rfl; exact rfl; exact rfl; exact rfl; clear hF hM a; intro bl w a hM hF) | ((with_reducible apply s_app hF hM); exact rfl; exact rfl; exact rfl; exact rfl; (repeat (first | exact Kth.z | apply Kth.s)); exact rfl; exact rfl; exact rfl; exact rfl; omega; clear hF hM a; intro g cap w a hM hF; dsimp only [List.set] at hM) | (with_reducible refine w_skip ?_) | (with_reducible refine w_block ?_) | (with_reducible refine w_exit ?_) | (with_reducible refine q_then_x ?_) | (with_reducible refine q_blk_x ?_) | ((with_reducible apply c_dec hF); exact rfl; all_goals intro hc; all_goals (try (exfalso; omega)))))
      rw [show ((t : Int) + 1) = ((t + 1 : Nat) : Int) by omega] at hF
      refine ⟨f, by omega, t + 1, toks, run ++ [x], .slice at1 toks.length ct1, .slice (some ⟨g, 0, none⟩) (run.length + 1) cap, by omega, by omega, henc, ?_, ?_, hF.sub (by repeat (first | exact Sub.nil | refine Sub.cons rfl (by first | with_reducible rfl | (refine congrArg (Value.int _) ?_; omega) | exact rfl) ?_)), ?_⟩
      · rw [List.length_append, List.length_singleton]; omega
      · rw [List.length_append, List.length_singleton]; omega
      · rw [List.length_append, List.length_singleton, List.map_append]
        exact hM
    · rw [if_neg h0] at henc
      obtain ⟨hn4, hn131, hd1, hd2, hd3, htn, _⟩ := best_ok h0
      (repeat' (first | (with_reducible refine w_seq ?_) | (with_reducible refine c_region ?_) | (with_reducible refine s_nil ?_) | ((with_reducible apply s_call (f := 29) hF hM); exact rfl; exact rfl; exact rfl; exact rfl; exact rfl; exact (bestR_c all hlen _ cap _ _ hM.lt (hM.facts _ (by (repeat (first | exact List.mem_cons_self | refine List.mem_cons_of_mem _ ?_)))) t (by omega)); clear hF hM a; rintro v w a rfl - hM hF) | (with_reducible refine q_then_n ?_) | ((with_reducible apply s_pure hF); exact rfl; exact rfl; exact rfl; (first | exact trivial | omega | exact ⟨Int.natCast_nonneg _, Int.ofNat_lt.2 (by assumption)⟩ | decide); clear hF a; intro a hF) | (with_reducible refine w_skip ?_) | (with_reducible refine w_block ?_) | ((with_reducible apply c_dec hF); exact rfl; all_goals intro hc; all_goals (try (exfalso; omega)))))
      generalize (best all t).2 = n at *
      generalize (best all t).1 = d at *
      have hll := litz_len run
      have hpl := puts_len 2 d (by omega)
      replace hM := (hM.permL (List.Perm.swap _ _ _)).freezeRow
      (repeat (first | (with_reducible refine w_seq ?_) | (with_reducible refine c_region ?_) | (with_reducible refine s_nil ?_) | ((with_reducible apply s_callM (f := 30) hF); exact rfl; exact rfl; exact rfl; exact rfl; exact rfl; exact (literalsR_c _ toks run _ rfl (by omega) (by omega) aw1 cw1 hcw hM); clear hF hM a; rintro v w a ⟨at2, ct2, rfl, hM⟩ hF) | (with_reducible refine q_then_n ?_) | ((with_reducible apply s_pure hF); exact rfl; exact rfl; exact rfl; (first | exact trivial | omega | exact ⟨Int.natCast_nonneg _, Int.ofNat_lt.2 (by assumption)⟩ | decide); clear hF a; intro a hF) | ((with_reducible apply s_lit hF hM); exact rfl; exact rfl; exact rfl; exact rfl; clear hF hM a; intro bl w a hM hF)))
      have hTl : (toks ++ litz run).length ≤ 2000000000 := by rw [List.length_append]; omega
      have hTl2 : (toks ++ litz run).length ≤ 4 * t := by rw [List.length_append]; omega
      generalize toks ++ litz run = T at *
      (repeat (first | ((with_reducible apply s_pure hF); exact rfl; exact rfl; exact rfl; (first | exact trivial | omega | exact ⟨Int.natCast_nonneg _, Int.ofNat_lt.2 (by assumption)⟩ | decide); clear hF a; intro a hF) | ((with_reducible apply s_app hF hM); exact rfl; exact rfl; exact rfl; exact rfl; (repeat (first | exact Kth.z | apply Kth.s)); exact rfl; exact rfl; exact rfl; exact rfl; omega; clear hF hM a; intro g cap w a hM hF; dsimp only [List.set] at hM)))
      have hrow : T.map (Value.int .u8) ++ Value.int .u8 ((128 + (n : Int) - 4) % 256) :: [].append (zerosL [Value.int .u8 0] 0) = (T ++ [(124 + n : Int)]).map (Value.int .u8) := by
        rw [List.map_append, show (128 + (n : Int) - 4) % 256 = 124 + n by omega]
        rfl
      rw [hrow] at hM
      clear hrow
      have hP := PutIntR_c d _ rfl (by omega) (some ⟨g, 0, none⟩) cap (T ++ [(124 + n : Int)]) (T.length + 1) List.length_append own _ (fun b h => hM.lt b (.inl h)) (hM.rowFact List.mem_cons_self) (by omega)
      (repeat (first | (with_reducible refine c_region ?_) | (with_reducible refine s_nil ?_) | ((with_reducible apply s_callO (f := 31) hF); exact rfl; exact rfl; exact rfl; exact rfl; exact rfl; exact (hP); clear hF a; rintro v wn a ⟨a5, c5, rfl, hO⟩ hS hF; replace hM := hM.addRows hS hO; clear hS hO; dsimp only [List.cons_append, List.nil_append] at hM) | (with_reducible refine q_then_n ?_) | ((with_reducible apply s_pure hF); exact rfl; exact rfl; exact rfl; (first | exact trivial | omega | exact ⟨Int.natCast_nonneg _, Int.ofNat_lt.2 (by assumption)⟩ | decide); clear hF a; intro a hF) | (with_reducible refine q_blk_n ?_)))
      rw [show ((t : Int) + (n : Int)) = ((t + n : Nat) : Int) by omega] at hF
      have e1 : (T ++ [(124 + n : Int)] ++ puts d).length = T.length + 1 + (puts d).length := by simp only [List.length_append, List.length_cons, List.length_nil]
      refine ⟨f + 1 - n, by omega, t + n, T ++ [(124 + n : Int)] ++ puts d, [], .slice a5 (T.length + 1 + (puts d).length) c5, .slice none 0 0, by omega, by omega, ?_, ?_, by simp, hF.sub (by repeat (first | exact Sub.nil | refine Sub.cons rfl (by first | with_reducible rfl | (refine congrArg (Value.int _) ?_; omega) | exact rfl) ?_)), ?_⟩
      · rw [henc]; exact encF_fuel _ _ _ _ _ _ (by omega) (by omega)
      · rw [e1, List.length_nil]; omega
      · rw [e1]
        exact ((hM.sub (L' := [_]) (.refl _) (.cons_cons _ (.cons _ (.refl _))) (by intro f hf; simp only [List.mem_cons, List.not_mem_nil, or_false] at hf; (repeat (rcases hf with rfl | hf; · (repeat (first | exact List.mem_cons_self | refine List.mem_cons_of_mem _ ?_)))); first | (subst hf; (repeat (first | exact List.mem_cons_self | refine List.mem_cons_of_mem _ ?_)); done) | (repeat (first | exact hf | refine List.mem_cons_of_mem _ ?_)))).nilRow 5 1).permL (List.Perm.swap _ _ _)
  · obtain rfl : f = 0 := by omega
    rw [encF] at henc
    have hM2 := (hM.permL (List.Perm.swap _ _ _)).freezeRow
    clear hM
    have hM := hM2
    clear hM2
    (repeat' (first | (with_reducible refine w_seq ?_) | (with_reducible refine c_region ?_) | (with_reducible refine s_nil ?_) | ((with_reducible apply s_callM (f := 30) hF); exact rfl; exact rfl; exact rfl; exact rfl; exact rfl; exact (literalsR_c _ toks run _ rfl (by omega) (by omega) aw1 cw1 hcw hM); clear hF hM a; rintro v w a ⟨at2, ct2, rfl, hM⟩ hF) | (with_reducible refine q_then_n ?_) | ((with_reducible apply s_pure hF); exact rfl; exact rfl; exact rfl; (first | exact trivial | omega | exact ⟨Int.natCast_nonneg _, Int.ofNat_lt.2 (by assumption)⟩ | decide); clear hF a; intro a hF) | (with_reducible refine w_exit ?_) | (with_reducible refine w_ret ?_) | (with_reducible refine q_then_x ?_) | (with_reducible refine q_blk_x ?_) | ((with_reducible apply c_dec hF); exact rfl; all_goals intro hc; all_goals (try (exfalso; omega)))))
    (apply f_ret Try.results15 hF hM; (repeat (first | exact RL.nil | (apply RL.tmp; exact rfl) | (apply RL.cell; exact rfl; (repeat (first | exact List.mem_cons_self | refine List.mem_cons_of_mem _ ?_)); exact rfl))); refine Ret.mk hM.since ?_; dsimp only [resV])
    rw [henc]
    exact ⟨_, _, rfl, hM.mem.own⟩
end
end Go.Proofs.Ytocgpllmfdnfjaa

/- The reference of dictionary: Decode. -/
namespace Go.Proofs.Ytocgpllmfdnfjaa
open Go.RowKit Go.Shelf
section
variable (dict y : List Int) (hy : By y) (hlen : dict.length ≤ 10000 ∧ y.length ≤ 10000) (most : Int) (hmost : most ≤ 9223372036854775807 ∧ -9223372036854775808 ≤ most) (a1 a2 : Option Addr) (c1 c2 : Nat) (hc2 : y.length ≤ c2) (own : Nat → Prop) (W : World) (hl : ∀ b, own b → b < W.heap.size) (hv1 : Has own W (RdF (Value.int .u8) a1 dict)) (hv2 : Has own W (RdF (Value.int .u8) a2 y))
include hy hlen hmost hc2 hl hv1 hv2
set_option maxRecDepth 20000 in
theorem DecodeDR_c : Calls Try.prog 17 ⟨[.slice a1 dict.length c1, .slice a2 y.length c2, .int .i64 most]⟩ W (Ret W (BDec own (decD dict y most))) := by
  obtain ⟨hd, hyl⟩ := hlen
  have hM := ((Mm.start hl).known hv1).known hv2
  by_cases h0 : most < 0
  · have hD : decD dict y most = .error 2 := by unfold decD; rw [if_pos h0]
    rw [hD]
    refine f_start Try.func17 rfl Try.ntmps17 rfl rfl ?_; intro a hF
    (repeat' (first | (with_reducible refine w_seq ?_) | (with_reducible refine c_region ?_) | (with_reducible refine s_nil ?_) | (with_reducible refine q_then_n ?_) | ((with_reducible apply s_pure hF); exact rfl; exact rfl; exact rfl; (first | exact trivial | omega | exact ⟨Int.natCast_nonneg _, Int.ofNat_lt.2 (by assumption)⟩ | decide); clear hF a; intro a hF) | (with_reducible refine w_ret ?_) | (with_reducible refine q_then_r ?_) | ((with_reducible apply c_dec hF); exact rfl; all_goals intro hc; all_goals (try (exfalso; omega)))))
    (apply f_ret Try.results17 hF hM; (repeat (first | exact RL.nil | (apply RL.tmp; exact rfl) | (apply RL.cell; exact rfl; (repeat (first | exact List.mem_cons_self | refine List.mem_cons_of_mem _ ?_)); exact rfl))); refine Ret.mk hM.since ?_; dsimp only [resV])
    rfl
  have hD : decD dict y most = finD dict.length (dcF dict.length most y.length y dict) := by unfold decD; rw [if_neg h0]
  refine f_start Try.func17 rfl Try.ntmps17 rfl rfl ?_; intro a hF
  (repeat' (first | (with_reducible refine w_seq ?_) | (with_reducible refine c_region ?_) | (with_reducible refine s_nil ?_) | ((with_reducible apply s_appF hF hM); exact rfl; exact rfl; (repeat (first | exact List.mem_cons_self | refine List.mem_cons_of_mem _ ?_)); exact rfl; exact rfl; (repeat (first | exact Kth.z | apply Kth.s)); (intro _; exact rfl); exact rfl; omega; clear hF hM a; intro g cap w a hM hF; dsimp only [List.set] at hM) | ((with_reducible apply s_lit0 hF hM); exact rfl; exact rfl; exact rfl; exact rfl; clear hF hM a; intro bl w a hM hF) | (with_reducible refine q_then_n ?_) | ((with_reducible apply s_pure hF); exact rfl; exact rfl; exact rfl; (first | exact trivial | omega | exact ⟨Int.natCast_nonneg _, Int.ofNat_lt.2 (by assumption)⟩ | decide); clear hF a; intro a hF) | (with_reducible refine w_skip ?_) | (with_reducible refine w_block ?_) | ((with_reducible apply c_dec hF); exact rfl; all_goals intro hc; all_goals (try (exfalso; omega)))))
  rw [Nat.zero_add, List.nil_append] at hM
  rw [Nat.zero_add] at hF
  refine c_loop (m := y.length) (fun f a w' => ∃ (xs al : List Int) (ax av : Option Addr) (cx cv : Nat), decD dict y most = finD dict.length (dcF dict.length most f xs al) ∧ xs.length ≤ f ∧ By xs ∧ xs.length ≤ cx ∧ dict.length ≤ al.length ∧ al.length + 10000 * f ≤ dict.length + 10000 * y.length ∧ f ≤ y.length ∧
    Fr 109 [] [(8, .slice av al.length cv), (1, .slice ax xs.length cx), (0, .slice a1 dict.length c1), (2, .int .i64 most)] a ∧
    Mm own W [] [⟨5, 1, .slice av al.length cv, al.length, al.map (Value.int .u8)⟩] [RdF (Value.int .u8) ax xs] w')
    ⟨y, dict, a2, g, c2, cap, hD, Nat.le_refl _, hy, hc2, Nat.le_refl _, Nat.le_refl _, Nat.le_refl _, hF.sub (by repeat (first | exact Sub.nil | refine Sub.cons rfl (by first | with_reducible rfl | (refine congrArg (Value.int _) ?_; omega) | exact rfl) ?_)), hM.sub (.refl _) (.refl _) (by intro f hf; simp only [List.mem_cons, List.not_mem_nil, or_false] at hf; (repeat (rcases hf with rfl | hf; · (repeat (first | exact List.mem_cons_self | refine List.mem_cons_of_mem _ ?_)))); first | (subst hf; (repeat (first | exact List.mem_cons_self | refine List.mem_cons_of_mem _ ?_)); done) | (repeat (first | exact hf | refine List.mem_cons_of_mem _ ?_)))⟩ ?_
  clear hF hM a hD
  rintro f a w' ⟨xs, al, ax, av, cx, cv, hD, hxf, hxb, hcx, hdal, hal, hfy, hF, hM⟩
  have hcap := row_capB hM List.mem_cons_self
  match hxs : xs with
  | [] =>
    rw [dcF_nil] at hD
    replace hM := hM.freezeRow
    replace hM := hM.addFact (RdF.dropO (hM.facts _ List.mem_cons_self) dict.length cv hcap)
    (repeat' (first | (with_reducible refine w_seq ?_) | (with_reducible refine c_region ?_) | (with_reducible refine s_nil ?_) | ((with_reducible apply s_lit0 hF hM); exact rfl; exact rfl; exact rfl; exact rfl; clear hF hM a; intro bl w a hM hF) | (with_reducible refine q_then_n ?_) | ((with_reducible apply s_pure hF); exact rfl; exact rfl; exact rfl; (first | exact trivial | omega | exact ⟨Int.natCast_nonneg _, Int.ofNat_lt.2 (by assumption)⟩ | decide); clear hF a; intro a hF) | (with_reducible refine w_exit ?_) | (with_reducible refine q_then_x ?_) | (with_reducible refine q_blk_x ?_) | ((with_reducible apply c_false2 hF); exact rfl; (first | with_reducible rfl | (refine congrArg Value.bool ?_; focus (simp; done))))))
    replace hF := Fr.same (t := 107) (u := .slice (sadr av dict.length cv 1) (al.drop dict.length).length (cv - dict.length)) hF rfl (by rw [Int.toNat_natCast, Int.toNat_natCast, List.length_drop])
    have hdl : (al.drop dict.length).length ≤ 1000000000 := by rw [List.length_drop]; omega
    (repeat' (first | (with_reducible refine s_nil ?_) | ((with_reducible apply s_appF hF hM); exact rfl; exact rfl; (repeat (first | exact List.mem_cons_self | refine List.mem_cons_of_mem _ ?_)); exact rfl; exact rfl; (repeat (first | exact Kth.z | apply Kth.s)); (intro _; exact rfl); exact rfl; omega; clear hF hM a; intro g cap w a hM hF; dsimp only [List.set] at hM) | (with_reducible refine q_then_n ?_) | ((with_reducible apply s_pure hF); exact rfl; exact rfl; exact rfl; (first | exact trivial | omega | exact ⟨Int.natCast_nonneg _, Int.ofNat_lt.2 (by assumption)⟩ | decide); clear hF a; intro a hF) | (with_reducible refine w_ret ?_)))
    have hcap2 := row_capB hM List.mem_cons_self
    (apply f_ret Try.results17 hF hM; (repeat (first | exact RL.nil | (apply RL.tmp; exact rfl) | (apply RL.cell; exact rfl; (repeat (first | exact List.mem_cons_self | refine List.mem_cons_of_mem _ ?_)); exact rfl))); refine Ret.mk hM.since ?_; dsimp only [resV])
    rw [hD]
    rw [Nat.zero_add] at hcap2 ⊢
    rw [Nat.zero_add, List.nil_append] at hM
    exact ⟨_, _, rfl, hcap2, hM.rowFact List.mem_cons_self⟩
  | x :: b =>
    obtain ⟨f, rfl⟩ : ∃ k, f = k + 1 := ⟨f - 1, by simp at hxf; omega⟩
    rw [dcF] at hD
    have hlx : (x :: b).length = b.length + 1 := List.length_cons
    have hx := hxb x List.mem_cons_self
    have hbb : By b := fun z hz => hxb z (List.mem_cons_of_mem _ hz)
    have hbl : b.length ≤ f := by simpa using hxf
    have hx0 : (x :: b)[((0 : Int)).toNat]? = some x := rfl
    obtain ⟨ad, rfl⟩ : ∃ ad, ax = some ad := rd_some hM (by (repeat (first | exact List.mem_cons_self | refine List.mem_cons_of_mem _ ?_))) (k := 0) (x := x) rfl
    have hbf := RdF.drop (hM.facts (RdF (Value.int .u8) (some ad) (x :: b)) (by (repeat (first | exact List.mem_cons_self | refine List.mem_cons_of_mem _ ?_)))) 1 cx hcx
    rw [show (x :: b).drop 1 = b from rfl] at hbf
    have hcx' : b.length ≤ cx - 1 := by simp at hcx; omega
    obtain ⟨ab, hAb⟩ : ∃ ab, sadr (some ad) 1 cx 1 = ab := ⟨_, rfl⟩
    rw [hAb] at hbf
    replace hM := hM.addFact hbf
    by_cases hz : x = 0
    · rw [if_pos hz] at hD
      (repeat' (first | (with_reducible refine w_seq ?_) | (with_reducible refine c_region ?_) | (with_reducible refine s_nil ?_) | (with_reducible refine q_then_n ?_) | ((with_reducible apply s_pure hF); exact rfl; exact rfl; exact rfl; (first | exact trivial | omega | exact ⟨Int.natCast_nonneg _, Int.ofNat_lt.2 (by assumption)⟩ | decide); clear hF a; intro a hF) | ((with_reducible apply s_loadF hF hM); exact rfl; exact rfl; (repeat (first | exact List.mem_cons_self | refine List.mem_cons_of_mem _ ?_)); exact rfl; exact rfl; (first | with_reducible assumption | (simp only [Int.toNat_natCast]; with_reducible assumption)); clear hF a; intro a hF) | (with_reducible refine w_skip ?_) | (with_reducible refine w_block ?_) | (with_reducible refine w_ret ?_) | (with_reducible refine q_then_r ?_) | (with_reducible refine q_blk_r ?_) | ((with_reducible apply c_true2 hF); exact rfl; (first | with_reducible rfl | (refine congrArg Value.bool ?_; focus (simp; done)))) | ((with_reducible apply c_dec hF); exact rfl; all_goals intro hc; all_goals (try (exfalso; omega)))))
      (apply f_ret Try.results17 hF hM; (repeat (first | exact RL.nil | (apply RL.tmp; exact rfl) | (apply RL.cell; exact rfl; (repeat (first | exact List.mem_cons_self | refine List.mem_cons_of_mem _ ?_)); exact rfl))); refine Ret.mk hM.since ?_; dsimp only [resV])
      rw [hD]
      rfl
    rw [if_neg hz] at hD
    by_cases h127 : x ≤ 127
    · rw [if_pos h127] at hD
      by_cases htorn : (b.length : Int) < x
      · rw [if_pos htorn] at hD
        (repeat' (first | (with_reducible refine w_seq ?_) | (with_reducible refine c_region ?_) | (with_reducible refine s_nil ?_) | (with_reducible refine q_then_n ?_) | ((with_reducible apply s_pure hF); exact rfl; exact rfl; exact rfl; (first | exact trivial | omega | exact ⟨Int.natCast_nonneg _, Int.ofNat_lt.2 (by assumption)⟩ | decide); clear hF a; intro a hF) | ((with_reducible apply s_loadF hF hM); exact rfl; exact rfl; (repeat (first | exact List.mem_cons_self | refine List.mem_cons_of_mem _ ?_)); exact rfl; exact rfl; (first | with_reducible assumption | (simp only [Int.toNat_natCast]; with_reducible assumption)); clear hF a; intro a hF) | (with_reducible refine w_skip ?_) | (with_reducible refine w_block ?_) | (with_reducible refine w_ret ?_) | (with_reducible refine q_then_r ?_) | (with_reducible refine q_blk_r ?_) | ((with_reducible apply c_true2 hF); exact rfl; (first | with_reducible rfl | (refine congrArg Value.bool ?_; focus (simp; done)))) | ((with_reducible apply c_dec hF); exact rfl; all_goals intro hc; all_goals (try (exfalso; omega)))))
        (apply f_ret Try.results17 hF hM; (repeat (first | exact RL.nil | (apply RL.tmp; exact rfl) | (apply RL.cell; exact rfl; (repeat (first | exact List.mem_cons_self | refine List.mem_cons_of_mem _ ?_)); exact rfl))); refine Ret.mk hM.since ?_; dsimp only [resV])
        rw [hD]
        rfl
      rw [if_neg htorn] at hD
      by_cases hlong : most < (al.length : Int) + x - dict.length
      · rw [if_pos hlong] at hD
        (repeat' (first | (with_reducible refine w_seq ?_) | (with_reducible refine c_region ?_) | (with_reducible refine s_nil ?_) | (with_reducible refine q_then_n ?_) | ((with_reducible apply s_pure hF); exact rfl; exact rfl; exact rfl; (first | exact trivial | omega | exact ⟨Int.natCast_nonneg _, Int.ofNat_lt.2 (by assumption)⟩ | decide); clear hF a; intro a hF) | ((with_reducible apply s_loadF hF hM); exact rfl; exact rfl; (repeat (first | exact List.mem_cons_self | refine List.mem_cons_of_mem _ ?_)); exact rfl; exact rfl; (first | with_reducible assumption | (simp only [Int.toNat_natCast]; with_reducible assumption)); clear hF a; intro a hF) | (with_reducible refine w_skip ?_) | (with_reducible refine w_block ?_) | (with_reducible refine w_ret ?_) | (with_reducible refine q_then_r ?_) | (with_reducible refine q_blk_r ?_) | ((with_reducible apply c_true2 hF); exact rfl; (first | with_reducible rfl | (refine congrArg Value.bool ?_; focus (simp; done)))) | ((with_reducible apply c_dec hF); exact rfl; all_goals intro hc; all_goals (try (exfalso; omega)))))
        (apply f_ret Try.results17 hF hM; (repeat (first | exact RL.nil | (apply RL.tmp; exact rfl) | (apply RL.cell; exact rfl; (repeat (first | exact List.mem_cons_self | refine List.mem_cons_of_mem _ ?_)); exact rfl))); refine Ret.mk hM.since ?_; dsimp only [resV])
        rw [hD]
        rfl
      rw [if_neg hlong] at hD
      obtain ⟨n, rfl⟩ : ∃ n : Nat, x = n := ⟨x.toNat, by omega⟩
      rw [Int.toNat_natCast] at hD
      have hft := RdF.take (hM.facts (RdF (Value.int .u8) ab b) List.mem_cons_self) n
      have hfd := RdF.dropO (hM.facts (RdF (Value.int .u8) ab b) List.mem_cons_self) n (cx - 1) hcx'
      have hql : (b.take n).length = n := by rw [List.length_take]; omega
      replace hM := (hM.addFact hft).addFact hfd
      (repeat' (first | (with_reducible refine w_seq ?_) | (with_reducible refine c_region ?_) | (with_reducible refine s_nil ?_) | (with_reducible refine q_then_n ?_) | ((with_reducible apply s_pure hF); exact rfl; exact rfl; exact rfl; (first | exact trivial | omega | exact ⟨Int.natCast_nonneg _, Int.ofNat_lt.2 (by assumption)⟩ | decide); clear hF a; intro a hF) | ((with_reducible apply s_loadF hF hM); exact rfl; exact rfl; (repeat (first | exact List.mem_cons_self | refine List.mem_cons_of_mem _ ?_)); exact rfl; exact rfl; (first | with_reducible assumption | (simp only [Int.toNat_natCast]; with_reducible assumption)); clear hF a; intro a hF) | (with_reducible refine w_skip ?_) | (with_reducible refine w_block ?_) | ((with_reducible apply c_true2 hF); exact rfl; (first | with_reducible rfl | (refine congrArg Value.bool ?_; focus (simp; done)))) | ((with_reducible apply c_dec hF); exact rfl; all_goals intro hc; all_goals (try (exfalso; omega)))))
      rw [show (((((n : Int) :: b).length : Nat) : Int)).toNat - (1 : Int).toNat = b.length by rw [hlx]; omega, show (1 : Int).toNat = 1 from rfl, hAb] at hF
      replace hF := Fr.same (t := 49) (u := .slice ab (b.take n).length (cx - 1)) hF rfl (by rw [show (0 : Int).toNat = 0 from rfl, sadr_z, Int.toNat_natCast, Nat.sub_zero, Nat.sub_zero, hql])
      (repeat' (first | (with_reducible refine w_seq ?_) | (with_reducible refine c_region ?_) | (with_reducible refine s_nil ?_) | ((with_reducible apply s_appF hF hM); exact rfl; exact rfl; (repeat (first | exact List.mem_cons_self | refine List.mem_cons_of_mem _ ?_)); exact rfl; exact rfl; (repeat (first | exact Kth.z | apply Kth.s)); (intro _; exact rfl); exact rfl; omega; clear hF hM a; intro g cap w a hM hF; dsimp only [List.set] at hM) | (with_reducible refine q_then_n ?_) | ((with_reducible apply s_pure hF); exact rfl; exact rfl; exact rfl; (first | exact trivial | omega | exact ⟨Int.natCast_nonneg _, Int.ofNat_lt.2 (by assumption)⟩ | decide); clear hF a; intro a hF) | (with_reducible refine w_exit ?_) | (with_reducible refine q_then_x ?_) | (with_reducible refine q_blk_x ?_)))
      rw [Int.toNat_natCast, Int.toNat_natCast] at hF
      have e1 : (al ++ b.take n).length = al.length + (b.take n).length := List.length_append
      have e2 : (b.drop n).length = b.length - n := List.length_drop
      refine ⟨f, by omega, b.drop n, al ++ b.take n, sadr ab n (cx - 1) 1, g, cx - 1 - n, cap, hD, by omega, fun z hz => hbb z (List.mem_of_mem_drop hz), by omega, by omega, by omega, by omega, ?_, ?_⟩
      · rw [e1, e2]
        exact hF.sub (by repeat (first | exact Sub.nil | refine Sub.cons rfl (by first | with_reducible rfl | (refine congrArg (Value.int _) ?_; omega) | exact rfl) ?_))
      · rw [e1, List.map_append]
        exact hM.sub (.refl _) (.refl _) (by intro f hf; simp only [List.mem_cons, List.not_mem_nil, or_false] at hf; (repeat (rcases hf with rfl | hf; · (repeat (first | exact List.mem_cons_self | refine List.mem_cons_of_mem _ ?_)))); first | (subst hf; (repeat (first | exact List.mem_cons_self | refine List.mem_cons_of_mem _ ?_)); done) | (repeat (first | exact hf | refine List.mem_cons_of_mem _ ?_)))
    · rw [if_neg h127] at hD
      obtain ⟨n, hn⟩ : ∃ n : Nat, x - 124 = n := ⟨(x - 124).toNat, by omega⟩
      rw [hn, Int.toNat_natCast] at hD
      (repeat' (first | (with_reducible refine w_seq ?_) | (with_reducible refine c_region ?_) | (with_reducible refine s_nil ?_) | (with_reducible refine q_then_n ?_) | ((with_reducible apply s_pure hF); exact rfl; exact rfl; exact rfl; (first | exact trivial | omega | exact ⟨Int.natCast_nonneg _, Int.ofNat_lt.2 (by assumption)⟩ | decide); clear hF a; intro a hF) | ((with_reducible apply s_loadF hF hM); exact rfl; exact rfl; (repeat (first | exact List.mem_cons_self | refine List.mem_cons_of_mem _ ?_)); exact rfl; exact rfl; (first | with_reducible assumption | (simp only [Int.toNat_natCast]; with_reducible assumption)); clear hF a; intro a hF) | (with_reducible refine w_skip ?_) | (with_reducible refine w_block ?_) | ((with_reducible apply c_true2 hF); exact rfl; (first | with_reducible rfl | (refine congrArg Value.bool ?_; focus (simp; done)))) | ((with_reducible apply c_dec hF); exact rfl; all_goals intro hc; all_goals (try (exfalso; omega)))))
      rw [show ((((x :: b).length : Nat) : Int)).toNat - (1 : Int).toNat = b.length by rw [hlx]; omega, show (1 : Int).toNat = 1 from rfl, hAb] at hF
      have hv3 := hM.factOut (f := RdF (Value.int .u8) ab b) (by (repeat (first | exact List.mem_cons_self | refine List.mem_cons_of_mem _ ?_)))
      by_cases he : (rdNum b).2.1 = 0
      · rw [if_neg (by rw [he]; simp)] at hD
        obtain ⟨d, hd2⟩ : ∃ d : Nat, (rdNum b).1 = d := ⟨(rdNum b).1.toNat, by have := (rdN_nn 8 0 0 b (by omega) hbb).1; unfold rdNum; omega⟩
        have hdb : d ≤ 9007199254740991 := by have := (rdN_nn 8 0 0 b (by omega) hbb).2; unfold rdNum at hd2; omega
        have hIO := IntR_ok b hbb (by omega) ab (cx - 1) hcx' own _ (fun b h => hM.lt b (.inl h)) hv3 he
        rw [hd2] at hD hIO
        have hdrop : (b.drop (rdNum b).2.2).length ≤ b.length := by rw [List.length_drop]; omega
        have hdb2 : By (b.drop (rdNum b).2.2) := fun z hz => hbb z (List.mem_of_mem_drop hz)
        generalize b.drop (rdNum b).2.2 = rb at *
        (repeat (first | (with_reducible refine w_seq ?_) | (with_reducible refine c_region ?_) | (with_reducible refine s_nil ?_) | ((with_reducible apply s_callO (f := 33) hF); exact rfl; exact rfl; exact rfl; exact rfl; exact rfl; exact (hIO); clear hF a; rintro v wn a ⟨ar, cr, rfl, hO⟩ hS hF; replace hM := hM.addRows hS hO; clear hS hO; dsimp only [List.cons_append, List.nil_append] at hM) | (with_reducible refine q_then_n ?_) | ((with_reducible apply s_pure hF); exact rfl; exact rfl; exact rfl; (first | exact trivial | omega | exact ⟨Int.natCast_nonneg _, Int.ofNat_lt.2 (by assumption)⟩ | decide); clear hF a; intro a hF) | (with_reducible refine w_skip ?_) | ((with_reducible apply c_false2 hF); exact rfl; (first | with_reducible rfl | (refine congrArg Value.bool ?_; focus (simp; done))))))
        by_cases hbad : (d : Int) < 1 ∨ 4096 < (d : Int) ∨ (al.length : Int) < d
        · rw [if_pos hbad] at hD
          (repeat' (first | (with_reducible refine w_seq ?_) | (with_reducible refine c_region ?_) | (with_reducible refine s_nil ?_) | (with_reducible refine q_then_n ?_) | ((with_reducible apply s_pure hF); exact rfl; exact rfl; exact rfl; (first | exact trivial | omega | exact ⟨Int.natCast_nonneg _, Int.ofNat_lt.2 (by assumption)⟩ | decide); clear hF a; intro a hF) | (with_reducible refine w_ret ?_) | (with_reducible refine q_then_r ?_) | (with_reducible refine q_blk_r ?_) | ((with_reducible apply c_true2 hF); exact rfl; (first | with_reducible rfl | (refine congrArg Value.bool ?_; focus (simp; done)))) | ((with_reducible apply s_skip hF); exact rfl; exact rfl; clear hF a; intro a hF) | ((with_reducible apply g_dec hF); exact rfl; exact rfl; all_goals (clear hF; intro hc hF); all_goals (try (exfalso; omega))) | ((with_reducible apply c_dec hF); exact rfl; all_goals intro hc; all_goals (try (exfalso; omega)))))
          all_goals
            (apply f_ret Try.results17 hF hM; (repeat (first | exact RL.nil | (apply RL.tmp; exact rfl) | (apply RL.cell; exact rfl; (repeat (first | exact List.mem_cons_self | refine List.mem_cons_of_mem _ ?_)); exact rfl))); refine Ret.mk hM.since ?_; dsimp only [resV])
            rw [hD]
            rfl
        rw [if_neg hbad] at hD
        by_cases hlong : most < (al.length : Int) + n - dict.length
        · rw [if_pos hlong] at hD
          (repeat' (first | (with_reducible refine w_seq ?_) | (with_reducible refine c_region ?_) | (with_reducible refine s_nil ?_) | (with_reducible refine q_then_n ?_) | ((with_reducible apply s_pure hF); exact rfl; exact rfl; exact rfl; (first | exact trivial | omega | exact ⟨Int.natCast_nonneg _, Int.ofNat_lt.2 (by assumption)⟩ | decide); clear hF a; intro a hF) | (with_reducible refine w_skip ?_) | (with_reducible refine w_ret ?_) | (with_reducible refine q_then_r ?_) | (with_reducible refine q_blk_r ?_) | ((with_reducible apply g_dec hF); exact rfl; exact rfl; all_goals (clear hF; intro hc hF); all_goals (try (exfalso; omega))) | ((with_reducible apply c_dec hF); exact rfl; all_goals intro hc; all_goals (try (exfalso; omega)))))
          all_goals
            (apply f_ret Try.results17 hF hM; (repeat (first | exact RL.nil | (apply RL.tmp; exact rfl) | (apply RL.cell; exact rfl; (repeat (first | exact List.mem_cons_self | refine List.mem_cons_of_mem _ ?_)); exact rfl))); refine Ret.mk hM.since ?_; dsimp only [resV])
            rw [hD]
            rfl
        rw [if_neg hlong] at hD
        (repeat' (first | (with_reducible refine w_seq ?_) | (with_reducible refine c_region ?_) | (with_reducible refine s_nil ?_) | (with_reducible refine q_then_n ?_) | ((with_reducible apply s_pure hF); exact rfl; exact rfl; exact rfl; (first | exact trivial | omega | exact ⟨Int.natCast_nonneg _, Int.ofNat_lt.2 (by assumption)⟩ | decide); clear hF a; intro a hF) | (with_reducible refine w_skip ?_) | (with_reducible refine w_block ?_) | ((with_reducible apply g_dec hF); exact rfl; exact rfl; all_goals (clear hF; intro hc hF); all_goals (try (exfalso; omega))) | ((with_reducible apply c_dec hF); exact rfl; all_goals intro hc; all_goals (try (exfalso; omega)))))
        have hcapr := row_capB hM List.mem_cons_self
        replace hM := hM.freezeRow
        rw [show x - 128 + 4 = (n : Int) by omega] at hF
        rw [Int.toNat_natCast] at hD
        refine c_loop (m := n) (fun m a w' => ∃ (j : Nat) (al2 : List Int) (av2 : Option Addr) (cv2 : Nat), m + j = n ∧ al2 = copyN d j al ∧
          Fr 109 [] [(14, .int .i64 j), (13, .int .i64 n), (10, .int .i64 d), (8, .slice av2 al2.length cv2), (11, .slice ar rb.length cr), (0, .slice a1 dict.length c1), (2, .int .i64 most)] a ∧
          Mm own W [] [⟨5, 1, .slice av2 al2.length cv2, al2.length, al2.map (Value.int .u8)⟩] [RdF (Value.int .u8) ar rb] w')
          ⟨0, al, av, cv, by omega, rfl, hF.sub (by repeat (first | exact Sub.nil | refine Sub.cons rfl (by first | with_reducible rfl | (refine congrArg (Value.int _) ?_; omega) | exact rfl) ?_)), hM.sub (.refl _) (.refl _) (by intro f hf; simp only [List.mem_cons, List.not_mem_nil, or_false] at hf; (repeat (rcases hf with rfl | hf; · (repeat (first | exact List.mem_cons_self | refine List.mem_cons_of_mem _ ?_)))); first | (subst hf; (repeat (first | exact List.mem_cons_self | refine List.mem_cons_of_mem _ ?_)); done) | (repeat (first | exact hf | refine List.mem_cons_of_mem _ ?_)))⟩ ?_
        clear hF hM a hcap
        rintro m a w' ⟨j, al2, av2, cv2, hm, hal2, hF, hM⟩
        have hl2 : al2.length = al.length + j := by rw [hal2, copyN_len]
        by_cases hj : j < n
        · obtain ⟨z, hz2⟩ := get_of_lt (l := al2) (i := al2.length - d) (by omega)
          obtain ⟨g2, rfl⟩ := row_some hM List.mem_cons_self (by omega)
          have hz' : al2[((al2.length : Int) - (d : Int)).toNat]? = some z := by rw [show ((al2.length : Int) - (d : Int)).toNat = al2.length - d by omega]; exact hz2
          have hcs : copyN d (j + 1) al = al2 ++ [z] := by rw [copyN_succ, ← hal2, List.getD_eq_getElem?_getD, hz2]; rfl
          (repeat' (first | (with_reducible refine w_seq ?_) | (with_reducible refine c_region ?_) | (with_reducible refine s_nil ?_) | (with_reducible refine q_then_n ?_) | ((with_reducible apply s_pure hF); exact rfl; exact rfl; exact rfl; (first | exact trivial | omega | exact ⟨Int.natCast_nonneg _, Int.ofNat_lt.2 (by assumption)⟩ | decide); clear hF a; intro a hF) | ((with_reducible apply s_loadR hF hM); exact rfl; exact rfl; (repeat (first | exact List.mem_cons_self | refine List.mem_cons_of_mem _ ?_)); exact rfl; exact rfl; (first | with_reducible assumption | (simp only [Int.toNat_natCast]; with_reducible assumption)); clear hF a; intro a hF) | ((with_reducible apply s_lit hF hM); exact rfl; exact rfl; exact rfl; exact rfl; clear hF hM a; intro bl w a hM hF) | ((with_reducible apply s_app hF hM); exact rfl; exact rfl; exact rfl; exact rfl; (repeat (first | exact Kth.z | apply Kth.s)); exact rfl; exact rfl; exact rfl; exact rfl; omega; clear hF hM a; intro g cap w a hM hF; dsimp only [List.set] at hM) | (with_reducible refine w_skip ?_) | (with_reducible refine w_block ?_) | (with_reducible refine q_blk_n ?_) | ((with_reducible apply c_dec hF); exact rfl; all_goals intro hc; all_goals (try (exfalso; omega)))))
          refine ⟨m - 1, by omega, j + 1, al2 ++ [z], some ⟨g, 0, none⟩, cap, by omega, hcs.symm, ?_, ?_⟩
          · rw [List.length_append, List.length_singleton]
            exact hF.sub (by repeat (first | exact Sub.nil | refine Sub.cons rfl (by first | with_reducible rfl | (refine congrArg (Value.int _) ?_; omega) | exact rfl) ?_))
          · rw [List.length_append, List.length_singleton, List.map_append]
            exact hM
        · have hje : n = j := by omega
          subst hje
          rw [← hal2] at hD
          have hcap := row_capB hM List.mem_cons_self
          (repeat' (first | (with_reducible refine w_seq ?_) | (with_reducible refine c_region ?_) | (with_reducible refine s_nil ?_) | (with_reducible refine q_then_n ?_) | ((with_reducible apply s_pure hF); exact rfl; exact rfl; exact rfl; (first | exact trivial | omega | exact ⟨Int.natCast_nonneg _, Int.ofNat_lt.2 (by assumption)⟩ | decide); clear hF a; intro a hF) | (with_reducible refine w_exit ?_) | (with_reducible refine q_then_x ?_) | (with_reducible refine q_blk_n ?_) | (with_reducible refine q_blk_x ?_) | ((with_reducible apply c_false2 hF); exact rfl; (first | with_reducible rfl | (refine congrArg Value.bool ?_; focus (simp; done))))))
          refine ⟨f, by omega, rb, al2, ar, av2, cr, cv2, hD, by omega, hdb2, hcapr, by omega, by omega, by omega, hF.sub (by repeat (first | exact Sub.nil | refine Sub.cons rfl (by first | with_reducible rfl | (refine congrArg (Value.int _) ?_; omega) | exact rfl) ?_)), hM⟩
      · rw [if_pos he] at hD
        have hIE := IntR_err b hbb (by omega) ab (cx - 1) hcx' own _ (fun b h => hM.lt b (.inl h)) hv3 he
        (repeat' (first | (with_reducible refine w_seq ?_) | (with_reducible refine c_region ?_) | (with_reducible refine s_nil ?_) | ((with_reducible apply s_call (f := 33) hF hM); exact rfl; exact rfl; exact rfl; exact rfl; exact rfl; exact (hIE); clear hF hM a; rintro v w a rfl - hM hF) | (with_reducible refine q_then_n ?_) | ((with_reducible apply s_pure hF); exact rfl; exact rfl; exact rfl; (first | exact trivial | omega | exact ⟨Int.natCast_nonneg _, Int.ofNat_lt.2 (by assumption)⟩ | decide); clear hF a; intro a hF) | (with_reducible refine w_ret ?_) | (with_reducible refine q_then_r ?_) | (with_reducible refine q_blk_r ?_) | ((with_reducible apply c_dec hF); exact rfl; all_goals intro hc; all_goals (try (exfalso; omega)))))
        (apply f_ret Try.results17 hF hM; (repeat (first | exact RL.nil | (apply RL.tmp; exact rfl) | (apply RL.cell; exact rfl; (repeat (first | exact List.mem_cons_self | refine List.mem_cons_of_mem _ ?_)); exact rfl))); refine Ret.mk hM.since ?_; dsimp only [resV])
        rw [hD]
        rfl
end
end Go.Proofs.Ytocgpllmfdnfjaa

/- The reference of dictionary: Raw, Pack, sectors, Unpack. -/
namespace Go.Proofs.Ytocgpllmfdnfjaa
open Go.RowKit Go.Shelf
section
variable {n : Nat} {ds : List Deferred} {l : List (Nat × Value)} {a : Act} {w w0 : World} {own : Nat → Prop} {bs : List BoxE} {L : List Ent} {Fs : List (World → Prop)} {os rest : List Oper} {Q : Exit → Act → World → Prop} {ty : TypeId} {pos : String} {af : Array Edge} {g : Option (Nat × Bool)}
/-- A store into an element of a box. -/
theorem s_storeB {T T' : TypeId} {X Y : Operand} {b off : Nat} {j : Int} {sz : Nat} {cs cs' vs : List Value} {v : Value} {bs' : List BoxE} (hF : Fr n ds l a) (hM : Mm own w0 bs L Fs w) (hg : wantO os l g = some true) (hX : ev l X = some (.pointer (some (adr ⟨b, off, none⟩ j sz)))) (hY : ev l Y = some v) (hv : cellsO v = some vs)
    (hu : Upd bs ⟨b, ⟨cs⟩, T'⟩ ⟨b, ⟨cs'⟩, T'⟩ bs') (hs : setAt cs (off + j.toNat * sz) vs = some cs') (hT : tyS T = some vs.length) (h1 : oneL vs = true) (k : ∀ w', Mm own w0 bs' L Fs w' → wl ⟨os⟩ Q rest a w') : wl ⟨os⟩ Q (⟨none, .store T X Y, ty, pos, af, g⟩ :: rest) a w := by
  have e : adr ⟨b, off, none⟩ j sz = ⟨b, off + j.toNat * sz, none⟩ := by unfold adr; rw [add_lit]
  rw [e] at hX
  exact s_store hF hM hg hX hY hv hu hs hT h1 k
end
theorem setAt_one : ∀ (l : List Value) (k : Nat) (v : Value), k < l.length → setAt l k [v] = some (l.set k v)
  | [], _, _, h => by simp at h
  | x :: l, 0, v, _ => by simp [setAt]
  | x :: l, k + 1, v, h => by
    rw [setAt, setAt_one l k v (by simpa using h), List.set_cons_succ]
    simp
section
variable {n : Nat} {ds : List Deferred} {l : List (Nat × Value)} {a : Act} {w w0 : World} {own : Nat → Prop} {bs : List BoxE} {L : List Ent} {Fs : List (World → Prop)} {os rest : List Oper} {Q : Exit → Act → World → Prop} {ty : TypeId} {pos : String} {af : Array Edge} {g : Option (Nat × Bool)}
/-- A store into an array of numbers that a box holds. -/
theorem s_storeX {α : Type} {enc : α → Value} {T T' : TypeId} {X Y : Operand} {b k : Nat} {zs : List α} {x : α} {bs' : List BoxE} (hF : Fr n ds l a) (hM : Mm own w0 bs L Fs w) (hg : wantO os l g = some true) (hX : ev l X = some (.pointer (some (adr ⟨b, 0, none⟩ (k : Int) 1)))) (hY : ev l Y = some (enc x)) (hc : cellsO (enc x) = some [enc x]) (h1 : oneL [enc x] = true) (hT : tyS T = some 1)
    (hu : Upd bs ⟨b, ⟨zs.map enc⟩, T'⟩ ⟨b, ⟨(zs.set k x).map enc⟩, T'⟩ bs') (hk : k < zs.length) (kk : ∀ w', Mm own w0 bs' L Fs w' → wl ⟨os⟩ Q rest a w') : wl ⟨os⟩ Q (⟨none, .store T X Y, ty, pos, af, g⟩ :: rest) a w := by
  refine s_storeB hF hM hg hX hY hc hu ?_ (by rw [hT]; rfl) h1 kk
  rw [Int.toNat_natCast, Nat.zero_add, Nat.mul_one, setAt_one _ _ _ (by rw [List.length_map]; exact hk), List.map_set]
end
theorem adr_lit (b o : Nat) (j : Nat) (sz : Nat) : adr ⟨b, o, none⟩ (j : Int) sz = ⟨b, o + j * sz, none⟩ := by unfold adr; rw [Int.toNat_natCast, add_lit]
section
variable (l : List (List Int)) (hw : W8 l) (hlen : l.length ≤ 30000) (a0 : Option Addr) (c0 : Nat) (hc0 : l.length ≤ c0) (own : Nat → Prop) (W : World) (hl : ∀ b, own b → b < W.heap.size) (hv : Has own W (RdF (Value.int .u8) a0 l.flatten))
include hw hlen hc0 hl hv
set_option maxRecDepth 20000 in
theorem rawR_c : Calls Try.prog 36 ⟨[.slice a0 l.length c0]⟩ W (Ret W fun v w' => ∃ a' c', v = .slice a' l.flatten.length c' ∧ Owns w' W.heap.size [⟨5, 1, .slice a' l.flatten.length c', l.flatten.length, l.flatten.map (Value.int .u8)⟩]) := by
  have hM := ((Mm.start hl).known hv).nilRow 5 1
  have hw' : ∀ y ∈ l, y.length = 8 := hw
  refine f_start Try.func36 rfl Try.ntmps36 rfl rfl ?_; intro a hF
  (repeat' (first | (with_reducible refine w_seq ?_) | (with_reducible refine c_region ?_) | (with_reducible refine s_nil ?_) | (with_reducible refine q_then_n ?_) | ((with_reducible apply s_pure hF); exact rfl; exact rfl; exact rfl; (first | exact trivial | omega | exact ⟨Int.natCast_nonneg _, Int.ofNat_lt.2 (by assumption)⟩ | decide); clear hF a; intro a hF) | (with_reducible refine w_block ?_)))
  refine c_loop (m := l.length) (fun m a w' => ∃ (j : Nat) (v : Value) (n : Nat), m + j = l.length ∧ n = 8 * j ∧
    Fr 18 [] [(4, .int .i64 j), (0, .slice a0 l.length c0), (3, v)] a ∧
    Mm own W [] [⟨5, 1, v, n, ((l.take j).flatten).map (Value.int .u8)⟩] [RdF (Value.int .u8) a0 l.flatten] w') ⟨0, .slice none 0 0, 0, by omega, by omega, hF.sub (by repeat (first | exact Sub.nil | refine Sub.cons rfl (by first | with_reducible rfl | (refine congrArg (Value.int _) ?_; omega) | exact rfl) ?_)), hM⟩ ?_
  clear hF hM a
  rintro m a w' ⟨j, v, n, hm, hn, hF, hM⟩
  by_cases hj : j < l.length
  · obtain ⟨s, hs⟩ := get_of_lt hj
    have hs8 := hw s (List.mem_of_getElem? hs)
    obtain ⟨b0, o0, rfl, _, _⟩ : ∃ b0 o0, a0 = some ⟨b0, o0, none⟩ ∧ True ∧ True := by
      have h0 : 0 < s.length := by omega
      obtain ⟨b0, o0, e, _, _⟩ := (hM.fact (f := RdF (Value.int .u8) a0 l.flatten) (by (repeat (first | exact List.mem_cons_self | refine List.mem_cons_of_mem _ ?_)))) _ _ (flat_get hw hs (List.getElem?_eq_getElem h0))
      exact ⟨b0, o0, e, trivial, trivial⟩
    have hsub := sub_rd hw (hM.facts (RdF (Value.int .u8) (some ⟨b0, o0, none⟩) l.flatten) (by (repeat (first | exact List.mem_cons_self | refine List.mem_cons_of_mem _ ?_)))) j 1 (l.length + 1) (by omega) hj
    have hd1 : ((l.drop j).take 1).flatten = s := by
      rw [List.drop_eq_getElem_cons hj, List.take_succ_cons, List.take_zero, List.flatten_cons, List.flatten_nil, List.append_nil]
      rw [List.getElem?_eq_getElem hj] at hs
      injection hs
    rw [hd1, show sadr (some ⟨b0, o0, none⟩) j (l.length + 1) 8 = some ⟨b0, o0 + j * 8, none⟩ by unfold sadr; rw [if_neg (by omega), Option.map_some, add_lit]] at hsub
    obtain ⟨x0, x1, x2, x3, x4, x5, x6, x7, rfl⟩ := len8 hs8
    have htk : (l.take (j + 1)).flatten = (l.take j).flatten ++ [x0, x1, x2, x3, x4, x5, x6, x7] := by rw [List.take_add_one, hs]; simp
    replace hM := hM.addFact hsub
    (repeat' (first | (with_reducible refine w_seq ?_) | (with_reducible refine c_region ?_) | (with_reducible refine s_nil ?_) | (with_reducible refine q_then_n ?_) | ((with_reducible apply s_pure hF); exact rfl; exact rfl; exact rfl; (first | exact trivial | omega | exact ⟨Int.natCast_nonneg _, Int.ofNat_lt.2 (by assumption)⟩ | decide); clear hF a; intro a hF) | (with_reducible refine w_skip ?_) | (with_reducible refine w_block ?_) | ((with_reducible apply c_dec hF); exact rfl; all_goals intro hc; all_goals (try (exfalso; omega)))))
    rw [adr_lit] at hF
    (repeat' (first | ((with_reducible apply s_arrSl hF); exact rfl; exact rfl; exact rfl; exact rfl; clear hF a; intro a hF)))
    replace hF := Fr.same (t := 15) (u := .slice (some ⟨b0, o0 + j * 8, none⟩) [x0, x1, x2, x3, x4, x5, x6, x7].length 8) hF rfl rfl
    (repeat' (first | (with_reducible refine c_region ?_) | (with_reducible refine s_nil ?_) | ((with_reducible apply s_appF hF hM); exact rfl; exact rfl; (repeat (first | exact List.mem_cons_self | refine List.mem_cons_of_mem _ ?_)); exact rfl; exact rfl; (repeat (first | exact Kth.z | apply Kth.s)); (intro _; exact rfl); exact rfl; omega; clear hF hM a; intro g cap w a hM hF; dsimp only [List.set] at hM) | (with_reducible refine q_then_n ?_) | ((with_reducible apply s_pure hF); exact rfl; exact rfl; exact rfl; (first | exact trivial | omega | exact ⟨Int.natCast_nonneg _, Int.ofNat_lt.2 (by assumption)⟩ | decide); clear hF a; intro a hF) | (with_reducible refine q_blk_n ?_)))
    refine ⟨m - 1, by omega, j + 1, .slice g (n + 8) cap, n + 8, by omega, by omega, hF.sub (by repeat (first | exact Sub.nil | refine Sub.cons rfl (by first | with_reducible rfl | (refine congrArg (Value.int _) ?_; omega) | exact rfl) ?_)), ?_⟩
    rw [htk, List.map_append]
    exact hM.sub (.refl _) (.refl _) (by intro f hf; simp only [List.mem_cons, List.not_mem_nil, or_false] at hf; (repeat (rcases hf with rfl | hf; · (repeat (first | exact List.mem_cons_self | refine List.mem_cons_of_mem _ ?_)))); first | (subst hf; (repeat (first | exact List.mem_cons_self | refine List.mem_cons_of_mem _ ?_)); done) | (repeat (first | exact hf | refine List.mem_cons_of_mem _ ?_)))
  · have hje : l.length = j := by omega
    obtain ⟨av, cv, rfl, _, _⟩ := hM.row (enc := Value.int .u8) List.mem_cons_self
    (repeat' (first | (with_reducible refine w_seq ?_) | (with_reducible refine c_region ?_) | (with_reducible refine s_nil ?_) | (with_reducible refine q_then_n ?_) | ((with_reducible apply s_pure hF); exact rfl; exact rfl; exact rfl; (first | exact trivial | omega | exact ⟨Int.natCast_nonneg _, Int.ofNat_lt.2 (by assumption)⟩ | decide); clear hF a; intro a hF) | (with_reducible refine w_exit ?_) | (with_reducible refine w_ret ?_) | (with_reducible refine q_then_x ?_) | (with_reducible refine q_blk_x ?_) | ((with_reducible apply c_dec hF); exact rfl; all_goals intro hc; all_goals (try (exfalso; omega)))))
    (apply f_ret Try.results36 hF hM; (repeat (first | exact RL.nil | (apply RL.tmp; exact rfl) | (apply RL.cell; exact rfl; (repeat (first | exact List.mem_cons_self | refine List.mem_cons_of_mem _ ?_)); exact rfl))); refine Ret.mk hM.since ?_; dsimp only [resV])
    have hfl : l.flatten.length = n := by rw [flat_len hw]; omega
    rw [List.take_of_length_le (by omega)] at hM
    rw [hfl]
    exact ⟨av, cv, rfl, hM.mem.own⟩
end
section
variable (xb : List Int) (hlen : xb.length ≤ 1000000) (most : Int) (hmost : most ≤ 9223372036854775807 ∧ -9223372036854775808 ≤ most) (a0 : Option Addr) (c0 : Nat) (hc0 : xb.length ≤ c0) (own : Nat → Prop) (W : World) (hl : ∀ xb, own xb → xb < W.heap.size) (hv : Has own W (RdF (Value.int .u8) a0 xb))
include hlen hmost hc0 hl hv
set_option maxRecDepth 20000 in
set_option maxHeartbeats 1000000 in
theorem sectorsR_c : Calls Try.prog 40 ⟨[.slice a0 xb.length c0, .int .i64 most]⟩ W (Ret W (DecR W (secsD xb most))) := by
  have hM := ((Mm.start hl).known hv).nilRow 44 8
  unfold secsD
  by_cases hm8 : xb.length % 8 = 0
  · rw [if_neg (by omega)]
    by_cases hlong : most < ((xb.length / 8 : Nat) : Int)
    · rw [if_pos hlong]
      refine f_start Try.func40 rfl Try.ntmps40 rfl rfl ?_; intro a hF
      (repeat' (first | (with_reducible refine w_seq ?_) | (with_reducible refine c_region ?_) | (with_reducible refine s_nil ?_) | (with_reducible refine q_then_n ?_) | ((with_reducible apply s_pure hF); exact rfl; exact rfl; exact rfl; (first | exact trivial | omega | exact ⟨Int.natCast_nonneg _, Int.ofNat_lt.2 (by assumption)⟩ | decide); clear hF a; intro a hF) | (with_reducible refine w_skip ?_) | (with_reducible refine w_ret ?_) | (with_reducible refine q_then_r ?_) | ((with_reducible apply c_dec hF); exact rfl; all_goals intro hc; all_goals (try (exfalso; omega)))))
      (apply f_ret Try.results40 hF hM; (repeat (first | exact RL.nil | (apply RL.tmp; exact rfl) | (apply RL.cell; exact rfl; (repeat (first | exact List.mem_cons_self | refine List.mem_cons_of_mem _ ?_)); exact rfl))); refine Ret.mk hM.since ?_; dsimp only [resV])
      rfl
    · rw [if_neg hlong]
      refine f_start Try.func40 rfl Try.ntmps40 rfl rfl ?_; intro a hF
      (repeat' (first | (with_reducible refine w_seq ?_) | (with_reducible refine c_region ?_) | (with_reducible refine s_nil ?_) | (with_reducible refine q_then_n ?_) | ((with_reducible apply s_pure hF); exact rfl; exact rfl; exact rfl; (first | exact trivial | omega | exact ⟨Int.natCast_nonneg _, Int.ofNat_lt.2 (by assumption)⟩ | decide); clear hF a; intro a hF) | (with_reducible refine w_skip ?_) | (with_reducible refine w_block ?_) | ((with_reducible apply c_dec hF); exact rfl; all_goals intro hc; all_goals (try (exfalso; omega)))))
      obtain ⟨q, hq⟩ : ∃ q, xb.length / 8 = q := ⟨_, rfl⟩
      rw [hq]
      refine c_loop (m := q) (fun m a w' => ∃ (j n p : Nat) (v : Value), m + j = q ∧ n = j ∧ p = 8 * j ∧
        Fr 42 [] [(6, v), (7, .int .i64 p), (0, .slice a0 xb.length c0)] a ∧
        Mm own W [] [⟨44, 8, v, n, ((chunks j xb).flatten).map (Value.int .u8)⟩] [RdF (Value.int .u8) a0 xb] w') ⟨0, 0, 0, .slice none 0 0, by omega, rfl, rfl, hF.sub (by repeat (first | exact Sub.nil | refine Sub.cons rfl (by first | with_reducible rfl | (refine congrArg (Value.int _) ?_; omega) | exact rfl) ?_)), hM⟩ ?_
      clear hF hM a
      rintro m a w' ⟨j, n, p, v, hm, hn, hp, hF, hM⟩
      have hxl : (xb.drop (8 * j)).length = xb.length - 8 * j := by rw [List.length_drop]
      by_cases hj : j < q
      · have hch := chunks_succ j xb
        obtain ⟨x0, x1, x2, x3, x4, x5, x6, x7, r, hr⟩ := cons8 (by omega : 8 ≤ (xb.drop (8 * j)).length)
        rw [hr] at hch
        have hget : ∀ (k : Nat) (x : Int), (xb.drop (8 * j))[k]? = some x → xb[p + k]? = some x := fun k x h => by rw [List.getElem?_drop] at h; rw [hp]; exact h
        rw [hr] at hget
        obtain ⟨ad, rfl⟩ : ∃ ad, a0 = some ad := rd_some hM (by (repeat (first | exact List.mem_cons_self | refine List.mem_cons_of_mem _ ?_))) (hget 0 x0 rfl)
        (repeat' (first | (with_reducible refine w_seq ?_) | (with_reducible refine c_region ?_) | (with_reducible refine s_nil ?_) | (with_reducible refine q_then_n ?_) | ((with_reducible apply s_pure hF); exact rfl; exact rfl; exact rfl; (first | exact trivial | omega | exact ⟨Int.natCast_nonneg _, Int.ofNat_lt.2 (by assumption)⟩ | decide); clear hF a; intro a hF) | ((with_reducible apply s_alloc hF hM); exact rfl; exact rfl; exact rfl; clear hF hM a; intro b w a hM hF) | (with_reducible refine w_skip ?_) | (with_reducible refine w_block ?_) | ((with_reducible apply c_dec hF); exact rfl; all_goals intro hc; all_goals (try (exfalso; omega)))))
        generalize hzz : ([Value.int .u8 0, .int .u8 0, .int .u8 0, .int .u8 0, .int .u8 0, .int .u8 0, .int .u8 0, .int .u8 0] : List Value) = zc at hM
        generalize b = bb at *
        refine c_loop (m := 8) (fun m2 a w' => ∃ (k : Nat) (zs : List Int), m2 + k = 8 ∧ zs.length = 8 ∧ (∀ i, i < k → zs[i]? = xb[p + i]?) ∧
          Fr 42 [] [(9, .int .i64 k), (8, .pointer (some ⟨bb, 0, none⟩)), (6, v), (7, .int .i64 p), (0, .slice (some ad) xb.length c0)] a ∧
          Mm own W [⟨bb, ⟨zs.map (Value.int .u8)⟩, 44⟩] [⟨44, 8, v, n, ((chunks j xb).flatten).map (Value.int .u8)⟩] [RdF (Value.int .u8) (some ad) xb] w')
          ⟨0, [0, 0, 0, 0, 0, 0, 0, 0], rfl, rfl, fun i hi => by omega, hF.sub (by repeat (first | exact Sub.nil | refine Sub.cons rfl (by first | with_reducible rfl | (refine congrArg (Value.int _) ?_; omega) | exact rfl) ?_)), by rw [← hzz] at hM; exact hM⟩ ?_
        clear hF hM a
        rintro m2 a w' ⟨k, zs, hm2, hzl, hzs, hF, hM⟩
        by_cases hk : k < 8
        · obtain ⟨x, hx⟩ := get_of_lt (l := xb) (i := p + k) (by omega)
          have hx' : xb[((p : Int) + (k : Int)).toNat]? = some x := by rw [show ((p : Int) + (k : Int)).toNat = p + k by omega]; exact hx
          (repeat' (first | (with_reducible refine w_seq ?_) | (with_reducible refine c_region ?_) | (with_reducible refine s_nil ?_) | (with_reducible refine q_then_n ?_) | ((with_reducible apply s_pure hF); exact rfl; exact rfl; exact rfl; (first | exact trivial | omega | exact ⟨Int.natCast_nonneg _, Int.ofNat_lt.2 (by assumption)⟩ | decide); clear hF a; intro a hF) | ((with_reducible apply s_loadF hF hM); exact rfl; exact rfl; (repeat (first | exact List.mem_cons_self | refine List.mem_cons_of_mem _ ?_)); exact rfl; exact rfl; (first | with_reducible assumption | (simp only [Int.toNat_natCast]; with_reducible assumption)); clear hF a; intro a hF) | (with_reducible refine w_skip ?_) | (with_reducible refine w_block ?_) | ((with_reducible apply c_dec hF); exact rfl; all_goals intro hc; all_goals (try (exfalso; omega)))))
          apply s_storeX hF hM (x := x) (k := k)
          · exact rfl
          · exact rfl
          · exact rfl
          · exact rfl
          · exact rfl
          · exact rfl
          · exact Upd.z
          · omega
          clear hM
          intro w hM
          (repeat' (first | (with_reducible refine c_region ?_) | (with_reducible refine s_nil ?_) | (with_reducible refine q_then_n ?_) | ((with_reducible apply s_pure hF); exact rfl; exact rfl; exact rfl; (first | exact trivial | omega | exact ⟨Int.natCast_nonneg _, Int.ofNat_lt.2 (by assumption)⟩ | decide); clear hF a; intro a hF) | (with_reducible refine q_blk_n ?_)))
          refine ⟨m2 - 1, by omega, k + 1, zs.set k x, by omega, by rw [List.length_set]; exact hzl, fun i hi => ?_, hF.sub (by repeat (first | exact Sub.nil | refine Sub.cons rfl (by first | with_reducible rfl | (refine congrArg (Value.int _) ?_; omega) | exact rfl) ?_)), hM⟩
          rw [List.getElem?_set]
          by_cases e : k = i
          · subst e
            rw [if_pos rfl, if_pos (by omega), hx]
          · rw [if_neg e]
            exact hzs i (by omega)
        · obtain rfl : k = 8 := by omega
          have hze : zs = [x0, x1, x2, x3, x4, x5, x6, x7] := by
            apply List.ext_getElem?
            intro i
            by_cases hi : i < 8
            · rw [hzs i hi]
              rcases (show i = 0 ∨ i = 1 ∨ i = 2 ∨ i = 3 ∨ i = 4 ∨ i = 5 ∨ i = 6 ∨ i = 7 by omega) with rfl | rfl | rfl | rfl | rfl | rfl | rfl | rfl
              · exact hget 0 x0 rfl
              · exact hget 1 x1 rfl
              · exact hget 2 x2 rfl
              · exact hget 3 x3 rfl
              · exact hget 4 x4 rfl
              · exact hget 5 x5 rfl
              · exact hget 6 x6 rfl
              · exact hget 7 x7 rfl
            · rw [List.getElem?_eq_none (by omega), List.getElem?_eq_none (by simp; omega)]
          subst hze
          replace hM : Mm own W [⟨bb, ⟨[.int .u8 x0, .int .u8 x1, .int .u8 x2, .int .u8 x3, .int .u8 x4, .int .u8 x5, .int .u8 x6, .int .u8 x7]⟩, 44⟩] _ _ _ := hM
          (repeat' (first | (with_reducible refine w_seq ?_) | (with_reducible refine c_region ?_) | (with_reducible refine s_nil ?_) | (with_reducible refine q_then_n ?_) | ((with_reducible apply s_pure hF); exact rfl; exact rfl; exact rfl; (first | exact trivial | omega | exact ⟨Int.natCast_nonneg _, Int.ofNat_lt.2 (by assumption)⟩ | decide); clear hF a; intro a hF) | ((with_reducible apply s_load hF hM); exact rfl; exact rfl; (repeat (first | exact List.mem_cons_self | refine List.mem_cons_of_mem _ ?_)); exact rfl; exact rfl; clear hF a; intro a hF) | ((with_reducible apply s_lit hF hM); exact rfl; exact rfl; exact rfl; exact rfl; clear hF hM a; intro bl w a hM hF) | ((with_reducible apply s_app hF hM); exact rfl; exact rfl; exact rfl; exact rfl; (repeat (first | exact Kth.z | apply Kth.s)); exact rfl; exact rfl; exact rfl; exact rfl; omega; clear hF hM a; intro g cap w a hM hF; dsimp only [List.set] at hM) | (with_reducible refine w_exit ?_) | (with_reducible refine q_then_x ?_) | (with_reducible refine q_blk_n ?_) | (with_reducible refine q_blk_x ?_) | ((with_reducible apply c_false2 hF); exact rfl; (first | with_reducible rfl | (refine congrArg Value.bool ?_; focus (simp; done))))))
          rw [show (p : Int) + 8 = ((p + 8 : Nat) : Int) by omega] at hF
          refine ⟨m - 1, by omega, j + 1, n + 1, p + 8, .slice (some ⟨g, 0, none⟩) (n + 1) cap, by omega, by omega, by omega, hF.sub (by repeat (first | exact Sub.nil | refine Sub.cons rfl (by first | with_reducible rfl | (refine congrArg (Value.int _) ?_; omega) | exact rfl) ?_)), ?_⟩
          rw [hch, List.flatten_append, List.map_append]
          exact hM.sub (List.nil_sublist _) (.refl _) (fun _ h => h)
      · have hje : q = j := by omega
        subst hje
        obtain ⟨ao, co, rfl⟩ := row_shape hM List.mem_cons_self
        (repeat' (first | (with_reducible refine w_seq ?_) | (with_reducible refine c_region ?_) | (with_reducible refine s_nil ?_) | (with_reducible refine q_then_n ?_) | ((with_reducible apply s_pure hF); exact rfl; exact rfl; exact rfl; (first | exact trivial | omega | exact ⟨Int.natCast_nonneg _, Int.ofNat_lt.2 (by assumption)⟩ | decide); clear hF a; intro a hF) | (with_reducible refine w_exit ?_) | (with_reducible refine w_ret ?_) | (with_reducible refine q_then_x ?_) | (with_reducible refine q_blk_x ?_) | ((with_reducible apply c_dec hF); exact rfl; all_goals intro hc; all_goals (try (exfalso; omega)))))
        (apply f_ret Try.results40 hF hM; (repeat (first | exact RL.nil | (apply RL.tmp; exact rfl) | (apply RL.cell; exact rfl; (repeat (first | exact List.mem_cons_self | refine List.mem_cons_of_mem _ ?_)); exact rfl))); refine Ret.mk hM.since ?_; dsimp only [resV])
        refine ⟨ao, co, ?_, ?_⟩
        · rw [chunks_len, hn]
        · rw [chunks_len]
          subst hn
          exact hM.mem.own
  · rw [if_pos (by omega)]
    refine f_start Try.func40 rfl Try.ntmps40 rfl rfl ?_; intro a hF
    (repeat' (first | (with_reducible refine w_seq ?_) | (with_reducible refine c_region ?_) | (with_reducible refine s_nil ?_) | (with_reducible refine q_then_n ?_) | ((with_reducible apply s_pure hF); exact rfl; exact rfl; exact rfl; (first | exact trivial | omega | exact ⟨Int.natCast_nonneg _, Int.ofNat_lt.2 (by assumption)⟩ | decide); clear hF a; intro a hF) | (with_reducible refine w_ret ?_) | (with_reducible refine q_then_r ?_) | ((with_reducible apply c_dec hF); exact rfl; all_goals intro hc; all_goals (try (exfalso; omega)))))
    (apply f_ret Try.results40 hF hM; (repeat (first | exact RL.nil | (apply RL.tmp; exact rfl) | (apply RL.cell; exact rfl; (repeat (first | exact List.mem_cons_self | refine List.mem_cons_of_mem _ ?_)); exact rfl))); refine Ret.mk hM.since ?_; dsimp only [resV])
    rfl
end
end Go.Proofs.Ytocgpllmfdnfjaa

/- The reference of dictionary: Pack, Unpack. -/
namespace Go.Proofs.Ytocgpllmfdnfjaa
open Go.RowKit Go.Shelf
theorem rawR_e {A : List Int} (l : List (List Int)) (hA : l.flatten = A) (hw : W8 l) (hlen : l.length ≤ 30000) (a0 : Option Addr) (c0 : Nat) (hc0 : l.length ≤ c0) (own : Nat → Prop) (W : World) (hl : ∀ b, own b → b < W.heap.size) (hv : Has own W (RdF (Value.int .u8) a0 A)) :
    Calls Try.prog 36 ⟨[.slice a0 l.length c0]⟩ W (Ret W fun v w' => ∃ a' c', v = .slice a' A.length c' ∧ Owns w' W.heap.size [⟨5, 1, .slice a' A.length c', A.length, A.map (Value.int .u8)⟩]) := by
  subst hA
  exact rawR_c l hw hlen a0 c0 hc0 own W hl hv
section
variable (dict : List Int) (l : List (List Int)) (hw : W8 l) (hlen : dict.length ≤ 10000 ∧ l.length ≤ 1000) (a1 a2 : Option Addr) (c1 c2 : Nat) (hc2 : l.length ≤ c2) (own : Nat → Prop) (W : World) (hl : ∀ b, own b → b < W.heap.size) (hv1 : Has own W (RdF (Value.int .u8) a1 dict)) (hv2 : Has own W (RdF (Value.int .u8) a2 l.flatten))
include hw hlen hc2 hl hv1 hv2
set_option maxRecDepth 20000 in
set_option maxHeartbeats 1000000 in
theorem PackR_c : Calls Try.prog 19 ⟨[.slice a1 dict.length c1, .slice a2 l.length c2]⟩ W (Ret W fun v w' => ∃ a' c', v = .slice a' (packD dict l).length c' ∧ Owns w' W.heap.size [⟨5, 1, .slice a' (packD dict l).length c', (packD dict l).length, (packD dict l).map (Value.int .u8)⟩]) := by
  obtain ⟨hd, hll⟩ := hlen
  have hM := ((Mm.start hl).known hv1).known hv2
  have hfl := flat_len hw
  unfold packD
  refine f_start Try.func19 rfl Try.ntmps19 rfl rfl ?_; intro a hF
  (repeat (first | (with_reducible refine w_seq ?_) | (with_reducible refine c_region ?_) | (with_reducible refine s_nil ?_) | ((with_reducible apply s_callO (f := 36) hF); exact rfl; exact rfl; exact rfl; exact rfl; exact rfl; exact (rawR_c l hw (by omega) a2 c2 hc2 _ _ hM.lt (hM.facts _ (by (repeat (first | exact List.mem_cons_self | refine List.mem_cons_of_mem _ ?_))))); clear hF a; rintro v wn a ⟨aA, cA, rfl, hO⟩ hS hF; replace hM := hM.addRows hS hO; clear hS hO; dsimp only [List.cons_append, List.nil_append] at hM; replace hM := hM.freezeRow) | (with_reducible refine q_then_n ?_) | ((with_reducible apply s_pure hF); exact rfl; exact rfl; exact rfl; (first | exact trivial | omega | exact ⟨Int.natCast_nonneg _, Int.ofNat_lt.2 (by assumption)⟩ | decide); clear hF a; intro a hF) | ((with_reducible apply s_lit hF hM); exact rfl; exact rfl; exact rfl; exact rfl; clear hF hM a; intro bl w a hM hF)))
  have hA : l.flatten.length ≤ 8000 := by omega
  have hD := encD_len dict l.flatten
  have hB : (enc l).length ≤ 10000000000 - 1000000 := encL_len hw (by omega) _ (by have := grpF_len (l := l) l.length 0; unfold grp; omega)
  replace hM := hM.boxRow 1 1 rfl (by unfold maxLen; omega)
  (repeat (first | (with_reducible refine w_seq ?_) | (with_reducible refine c_region ?_) | (with_reducible refine s_nil ?_) | ((with_reducible apply s_callO (f := 37) hF); exact rfl; exact rfl; exact rfl; exact rfl; exact rfl; exact (EncodeR_c l hw (by omega) a2 c2 hc2 _ _ hM.lt (hM.facts (RdF (Value.int .u8) a2 l.flatten) (by (repeat (first | exact List.mem_cons_self | refine List.mem_cons_of_mem _ ?_))))); clear hF a; rintro v wn a ⟨aB, cB, rfl, hO⟩ hS hF; replace hM := hM.addRows hS hO; clear hS hO; dsimp only [List.cons_append, List.nil_append] at hM; replace hM := hM.freezeRow) | ((with_reducible apply s_appF hF hM); exact rfl; exact rfl; (repeat (first | exact List.mem_cons_self | refine List.mem_cons_of_mem _ ?_)); exact rfl; exact rfl; (repeat (first | exact Kth.z | apply Kth.s)); (intro _; exact rfl); exact rfl; omega; clear hF hM a; intro g cap w a hM hF; dsimp only [List.set] at hM) | (with_reducible refine q_then_n ?_) | ((with_reducible apply s_pure hF); exact rfl; exact rfl; exact rfl; (first | exact trivial | omega | exact ⟨Int.natCast_nonneg _, Int.ofNat_lt.2 (by assumption)⟩ | decide); clear hF a; intro a hF)))
  generalize hAe : l.flatten = A at *
  generalize enc l = B at *
  by_cases h1 : B.length < A.length
  · have e1 : pack2 A B = 1 :: B := by unfold pack2; rw [if_pos h1]
    (repeat' (first | (with_reducible refine c_region ?_) | ((with_reducible apply s_pure hF); exact rfl; exact rfl; exact rfl; (first | exact trivial | omega | exact ⟨Int.natCast_nonneg _, Int.ofNat_lt.2 (by assumption)⟩ | decide); clear hF a; intro a hF) | ((with_reducible apply s_lit hF hM); exact rfl; exact rfl; exact rfl; exact rfl; clear hF hM a; intro bl w a hM hF) | ((with_reducible apply c_dec hF); exact rfl; all_goals intro hc; all_goals (try (exfalso; omega)))))
    replace hM := hM.boxRow 1 1 rfl (by unfold maxLen; omega)
    (repeat (first | (with_reducible refine w_seq ?_) | (with_reducible refine c_region ?_) | (with_reducible refine s_nil ?_) | ((with_reducible apply s_appF hF hM); exact rfl; exact rfl; (repeat (first | exact List.mem_cons_self | refine List.mem_cons_of_mem _ ?_)); exact rfl; exact rfl; (repeat (first | exact Kth.z | apply Kth.s)); (intro _; exact rfl); exact rfl; omega; clear hF hM a; intro g cap w a hM hF; dsimp only [List.set] at hM) | (with_reducible refine q_then_n ?_) | ((with_reducible apply s_pure hF); exact rfl; exact rfl; exact rfl; (first | exact trivial | omega | exact ⟨Int.natCast_nonneg _, Int.ofNat_lt.2 (by assumption)⟩ | decide); clear hF a; intro a hF)))
    (repeat (first | ((with_reducible apply s_callO (f := 36) hF); exact rfl; exact rfl; exact rfl; exact rfl; exact rfl; exact (rawR_e l hAe hw (by omega) a2 c2 hc2 _ _ hM.lt (hM.facts (RdF (Value.int .u8) a2 A) (by (repeat (first | exact List.mem_cons_self | refine List.mem_cons_of_mem _ ?_))))); clear hF a; rintro v wn a ⟨aC, cC, rfl, hO⟩ hS hF; replace hM := hM.addRows hS hO; clear hS hO; dsimp only [List.cons_append, List.nil_append] at hM; replace hM := hM.freezeRow)))
    (repeat (first | (with_reducible refine w_seq ?_) | (with_reducible refine c_region ?_) | (with_reducible refine s_nil ?_) | ((with_reducible apply s_callO (f := 15) hF); exact rfl; exact rfl; exact rfl; exact rfl; exact rfl; exact (EncodeDR_c dict A ⟨by omega, by omega⟩ a1 aC c1 cC _ _ hM.lt (hM.facts (RdF (Value.int .u8) a1 dict) (by (repeat (first | exact List.mem_cons_self | refine List.mem_cons_of_mem _ ?_)))) (hM.facts (RdF (Value.int .u8) aC A) (by (repeat (first | exact List.mem_cons_self | refine List.mem_cons_of_mem _ ?_))))); clear hF a; rintro v wn a ⟨aD, cD, rfl, hO⟩ hS hF; replace hM := hM.addRows hS hO; clear hS hO; dsimp only [List.cons_append, List.nil_append] at hM; replace hM := hM.freezeRow) | (with_reducible refine q_then_n ?_) | ((with_reducible apply s_pure hF); exact rfl; exact rfl; exact rfl; (first | exact trivial | omega | exact ⟨Int.natCast_nonneg _, Int.ofNat_lt.2 (by assumption)⟩ | decide); clear hF a; intro a hF)))
    by_cases h2 : (encD dict A).length < (B).length
    · have e2 : pack3 A B (encD dict A) = 2 :: encD dict A := by unfold pack3; rw [e1, if_pos (by rw [List.length_cons]; omega)]
      (repeat' (first | (with_reducible refine c_region ?_) | ((with_reducible apply s_pure hF); exact rfl; exact rfl; exact rfl; (first | exact trivial | omega | exact ⟨Int.natCast_nonneg _, Int.ofNat_lt.2 (by assumption)⟩ | decide); clear hF a; intro a hF) | ((with_reducible apply s_lit hF hM); exact rfl; exact rfl; exact rfl; exact rfl; clear hF hM a; intro bl w a hM hF) | ((with_reducible apply c_dec hF); exact rfl; all_goals intro hc; all_goals (try (exfalso; omega)))))
      replace hM := hM.boxRow 1 1 rfl (by unfold maxLen; omega)
      (repeat' (first | (with_reducible refine w_seq ?_) | (with_reducible refine c_region ?_) | (with_reducible refine s_nil ?_) | ((with_reducible apply s_appF hF hM); exact rfl; exact rfl; (repeat (first | exact List.mem_cons_self | refine List.mem_cons_of_mem _ ?_)); exact rfl; exact rfl; (repeat (first | exact Kth.z | apply Kth.s)); (intro _; exact rfl); exact rfl; omega; clear hF hM a; intro g cap w a hM hF; dsimp only [List.set] at hM) | (with_reducible refine q_then_n ?_) | ((with_reducible apply s_pure hF); exact rfl; exact rfl; exact rfl; (first | exact trivial | omega | exact ⟨Int.natCast_nonneg _, Int.ofNat_lt.2 (by assumption)⟩ | decide); clear hF a; intro a hF) | (with_reducible refine w_ret ?_)))
      (apply f_ret Try.results19 hF hM; (repeat (first | exact RL.nil | (apply RL.tmp; exact rfl) | (apply RL.cell; exact rfl; (repeat (first | exact List.mem_cons_self | refine List.mem_cons_of_mem _ ?_)); exact rfl))); refine Ret.mk hM.since ?_; dsimp only [resV])
      rw [e2, show (2 :: encD dict A).length = 1 + (encD dict A).length by rw [List.length_cons]; omega]
      exact ⟨_, _, rfl, (hM.sub (List.nil_sublist _) (.cons_cons _ (List.nil_sublist _)) (fun _ h => h)).mem.own⟩
    · have e2 : pack3 A B (encD dict A) = 1 :: B := by unfold pack3; rw [e1, if_neg (by rw [List.length_cons]; omega)]
      (repeat' (first | (with_reducible refine w_seq ?_) | (with_reducible refine c_region ?_) | (with_reducible refine s_nil ?_) | (with_reducible refine q_then_n ?_) | ((with_reducible apply s_pure hF); exact rfl; exact rfl; exact rfl; (first | exact trivial | omega | exact ⟨Int.natCast_nonneg _, Int.ofNat_lt.2 (by assumption)⟩ | decide); clear hF a; intro a hF) | (with_reducible refine w_skip ?_) | (with_reducible refine w_ret ?_) | ((with_reducible apply c_dec hF); exact rfl; all_goals intro hc; all_goals (try (exfalso; omega)))))
      (apply f_ret Try.results19 hF hM; (repeat (first | exact RL.nil | (apply RL.tmp; exact rfl) | (apply RL.cell; exact rfl; (repeat (first | exact List.mem_cons_self | refine List.mem_cons_of_mem _ ?_)); exact rfl))); refine Ret.mk hM.since ?_; dsimp only [resV])
      rw [e2, show (1 :: B).length = 1 + (B).length by rw [List.length_cons]; omega]
      exact ⟨_, _, rfl, (hM.sub (List.nil_sublist _) (.cons_cons _ (List.nil_sublist _)) (fun _ h => h)).mem.own⟩
  · have e1 : pack2 A B = 0 :: A := by unfold pack2; rw [if_neg h1]
    rw [show decide ((B.length : Int) + 1 < ((1 + A.length : Nat) : Int)) = false from decide_eq_false (by omega)] at hF
    (repeat (first | (with_reducible refine w_seq ?_) | (with_reducible refine c_region ?_) | ((with_reducible apply s_callO (f := 36) hF); exact rfl; exact rfl; exact rfl; exact rfl; exact rfl; exact (rawR_e l hAe hw (by omega) a2 c2 hc2 _ _ hM.lt (hM.facts (RdF (Value.int .u8) a2 A) (by (repeat (first | exact List.mem_cons_self | refine List.mem_cons_of_mem _ ?_))))); clear hF a; rintro v wn a ⟨aC, cC, rfl, hO⟩ hS hF; replace hM := hM.addRows hS hO; clear hS hO; dsimp only [List.cons_append, List.nil_append] at hM; replace hM := hM.freezeRow) | (with_reducible refine q_then_n ?_) | ((with_reducible apply s_pure hF); exact rfl; exact rfl; exact rfl; (first | exact trivial | omega | exact ⟨Int.natCast_nonneg _, Int.ofNat_lt.2 (by assumption)⟩ | decide); clear hF a; intro a hF) | (with_reducible refine w_skip ?_) | ((with_reducible apply c_false2 hF); exact rfl; (first | with_reducible rfl | (refine congrArg Value.bool ?_; focus (simp; done))))))
    (repeat (first | (with_reducible refine w_seq ?_) | (with_reducible refine c_region ?_) | (with_reducible refine s_nil ?_) | ((with_reducible apply s_callO (f := 15) hF); exact rfl; exact rfl; exact rfl; exact rfl; exact rfl; exact (EncodeDR_c dict A ⟨by omega, by omega⟩ a1 aC c1 cC _ _ hM.lt (hM.facts (RdF (Value.int .u8) a1 dict) (by (repeat (first | exact List.mem_cons_self | refine List.mem_cons_of_mem _ ?_)))) (hM.facts (RdF (Value.int .u8) aC A) (by (repeat (first | exact List.mem_cons_self | refine List.mem_cons_of_mem _ ?_))))); clear hF a; rintro v wn a ⟨aD, cD, rfl, hO⟩ hS hF; replace hM := hM.addRows hS hO; clear hS hO; dsimp only [List.cons_append, List.nil_append] at hM; replace hM := hM.freezeRow) | (with_reducible refine q_then_n ?_) | ((with_reducible apply s_pure hF); exact rfl; exact rfl; exact rfl; (first | exact trivial | omega | exact ⟨Int.natCast_nonneg _, Int.ofNat_lt.2 (by assumption)⟩ | decide); clear hF a; intro a hF)))
    by_cases h2 : (encD dict A).length < (A).length
    · have e2 : pack3 A B (encD dict A) = 2 :: encD dict A := by unfold pack3; rw [e1, if_pos (by rw [List.length_cons]; omega)]
      (repeat' (first | (with_reducible refine c_region ?_) | ((with_reducible apply s_pure hF); exact rfl; exact rfl; exact rfl; (first | exact trivial | omega | exact ⟨Int.natCast_nonneg _, Int.ofNat_lt.2 (by assumption)⟩ | decide); clear hF a; intro a hF) | ((with_reducible apply s_lit hF hM); exact rfl; exact rfl; exact rfl; exact rfl; clear hF hM a; intro bl w a hM hF) | ((with_reducible apply c_dec hF); exact rfl; all_goals intro hc; all_goals (try (exfalso; omega)))))
      replace hM := hM.boxRow 1 1 rfl (by unfold maxLen; omega)
      (repeat' (first | (with_reducible refine w_seq ?_) | (with_reducible refine c_region ?_) | (with_reducible refine s_nil ?_) | ((with_reducible apply s_appF hF hM); exact rfl; exact rfl; (repeat (first | exact List.mem_cons_self | refine List.mem_cons_of_mem _ ?_)); exact rfl; exact rfl; (repeat (first | exact Kth.z | apply Kth.s)); (intro _; exact rfl); exact rfl; omega; clear hF hM a; intro g cap w a hM hF; dsimp only [List.set] at hM) | (with_reducible refine q_then_n ?_) | ((with_reducible apply s_pure hF); exact rfl; exact rfl; exact rfl; (first | exact trivial | omega | exact ⟨Int.natCast_nonneg _, Int.ofNat_lt.2 (by assumption)⟩ | decide); clear hF a; intro a hF) | (with_reducible refine w_ret ?_)))
      (apply f_ret Try.results19 hF hM; (repeat (first | exact RL.nil | (apply RL.tmp; exact rfl) | (apply RL.cell; exact rfl; (repeat (first | exact List.mem_cons_self | refine List.mem_cons_of_mem _ ?_)); exact rfl))); refine Ret.mk hM.since ?_; dsimp only [resV])
      rw [e2, show (2 :: encD dict A).length = 1 + (encD dict A).length by rw [List.length_cons]; omega]
      exact ⟨_, _, rfl, (hM.sub (List.nil_sublist _) (.cons_cons _ (List.nil_sublist _)) (fun _ h => h)).mem.own⟩
    · have e2 : pack3 A B (encD dict A) = 0 :: A := by unfold pack3; rw [e1, if_neg (by rw [List.length_cons]; omega)]
      (repeat' (first | (with_reducible refine w_seq ?_) | (with_reducible refine c_region ?_) | (with_reducible refine s_nil ?_) | (with_reducible refine q_then_n ?_) | ((with_reducible apply s_pure hF); exact rfl; exact rfl; exact rfl; (first | exact trivial | omega | exact ⟨Int.natCast_nonneg _, Int.ofNat_lt.2 (by assumption)⟩ | decide); clear hF a; intro a hF) | (with_reducible refine w_skip ?_) | (with_reducible refine w_ret ?_) | ((with_reducible apply c_dec hF); exact rfl; all_goals intro hc; all_goals (try (exfalso; omega)))))
      (apply f_ret Try.results19 hF hM; (repeat (first | exact RL.nil | (apply RL.tmp; exact rfl) | (apply RL.cell; exact rfl; (repeat (first | exact List.mem_cons_self | refine List.mem_cons_of_mem _ ?_)); exact rfl))); refine Ret.mk hM.since ?_; dsimp only [resV])
      rw [e2, show (0 :: A).length = 1 + (A).length by rw [List.length_cons]; omega]
      exact ⟨_, _, rfl, (hM.sub (List.nil_sublist _) (.cons_cons _ (List.nil_sublist _)) (fun _ h => h)).mem.own⟩
end
theorem sectorsR_f {own : Nat → Prop} {W : World} (hl : ∀ b, own b → b < W.heap.size) (b : List Int) (hlen : b.length ≤ 1000000) (most : Int) (hmost : most ≤ 9223372036854775807 ∧ -9223372036854775808 ≤ most) (a0 : Option Addr) (c0 : Nat) (hc0 : b.length ≤ c0) (hv : Has own W (RdF (Value.int .u8) a0 b)) :
    Calls Try.prog 40 ⟨[.slice a0 b.length c0, .int .i64 most]⟩ W (Ret W (DecF own (secsD b most))) := Ret.decf (sectorsR_c b hlen most hmost a0 c0 hc0 own W hl hv) hl
section
variable (dict b : List Int) (hb : By b) (hlen : dict.length ≤ 10000 ∧ b.length ≤ 10000) (most : Int) (hmost : most ≤ 9223372036854775807 ∧ -9223372036854775808 ≤ most) (a1 a2 : Option Addr) (c1 c2 : Nat) (hc2 : b.length ≤ c2) (own : Nat → Prop) (W : World) (hl : ∀ b, own b → b < W.heap.size) (hv1 : Has own W (RdF (Value.int .u8) a1 dict)) (hv2 : Has own W (RdF (Value.int .u8) a2 b))
include hb hlen hmost hc2 hl hv1 hv2
set_option maxRecDepth 20000 in
set_option maxHeartbeats 1000000 in
theorem UnpackR_c : Calls Try.prog 21 ⟨[.slice a1 dict.length c1, .slice a2 b.length c2, .int .i64 most]⟩ W (Ret W (DecF own (unpD dict b most))) := by
  obtain ⟨hd, hbl⟩ := hlen
  have hM := ((Mm.start hl).known hv1).known hv2
  unfold unpD
  by_cases hr : most < 0 ∨ 4096 < most
  · rw [if_pos hr]
    refine f_start Try.func21 rfl Try.ntmps21 rfl rfl ?_; intro a hF
    (repeat' (first | (with_reducible refine w_seq ?_) | (with_reducible refine c_region ?_) | (with_reducible refine s_nil ?_) | (with_reducible refine q_then_n ?_) | ((with_reducible apply s_pure hF); exact rfl; exact rfl; exact rfl; (first | exact trivial | omega | exact ⟨Int.natCast_nonneg _, Int.ofNat_lt.2 (by assumption)⟩ | decide); clear hF a; intro a hF) | (with_reducible refine w_ret ?_) | (with_reducible refine q_then_r ?_) | ((with_reducible apply c_true2 hF); exact rfl; (first | with_reducible rfl | (refine congrArg Value.bool ?_; focus (simp; done)))) | ((with_reducible apply s_skip hF); exact rfl; exact rfl; clear hF a; intro a hF) | ((with_reducible apply g_dec hF); exact rfl; exact rfl; all_goals (clear hF; intro hc hF); all_goals (try (exfalso; omega))) | ((with_reducible apply c_dec hF); exact rfl; all_goals intro hc; all_goals (try (exfalso; omega)))))
    all_goals
      (apply f_ret Try.results21 hF hM; (repeat (first | exact RL.nil | (apply RL.tmp; exact rfl) | (apply RL.cell; exact rfl; (repeat (first | exact List.mem_cons_self | refine List.mem_cons_of_mem _ ?_)); exact rfl))); refine Ret.mk hM.since ?_; dsimp only [resV])
      rfl
  rw [if_neg hr]
  match hbs : b with
  | [] =>
    refine f_start Try.func21 rfl Try.ntmps21 rfl rfl ?_; intro a hF
    (repeat' (first | (with_reducible refine w_seq ?_) | (with_reducible refine c_region ?_) | (with_reducible refine s_nil ?_) | (with_reducible refine q_then_n ?_) | ((with_reducible apply s_pure hF); exact rfl; exact rfl; exact rfl; (first | exact trivial | omega | exact ⟨Int.natCast_nonneg _, Int.ofNat_lt.2 (by assumption)⟩ | decide); clear hF a; intro a hF) | (with_reducible refine w_skip ?_) | (with_reducible refine w_ret ?_) | (with_reducible refine q_then_r ?_) | ((with_reducible apply c_true2 hF); exact rfl; (first | with_reducible rfl | (refine congrArg Value.bool ?_; focus (simp; done)))) | ((with_reducible apply g_dec hF); exact rfl; exact rfl; all_goals (clear hF; intro hc hF); all_goals (try (exfalso; omega))) | ((with_reducible apply c_dec hF); exact rfl; all_goals intro hc; all_goals (try (exfalso; omega)))))
    (apply f_ret Try.results21 hF hM; (repeat (first | exact RL.nil | (apply RL.tmp; exact rfl) | (apply RL.cell; exact rfl; (repeat (first | exact List.mem_cons_self | refine List.mem_cons_of_mem _ ?_)); exact rfl))); refine Ret.mk hM.since ?_; dsimp only [resV])
    rfl
  | x :: d =>
    have hlx : (x :: d).length = d.length + 1 := List.length_cons
    have hx := hb x List.mem_cons_self
    have hdb : By d := fun z hz => hb z (List.mem_cons_of_mem _ hz)
    have hx0 : (x :: d)[((0 : Int)).toNat]? = some x := rfl
    obtain ⟨ad, rfl⟩ : ∃ ad, a2 = some ad := rd_some hM (by (repeat (first | exact List.mem_cons_self | refine List.mem_cons_of_mem _ ?_))) (k := 0) (x := x) rfl
    have hdf := RdF.drop (hM.facts (RdF (Value.int .u8) (some ad) (x :: d)) (by (repeat (first | exact List.mem_cons_self | refine List.mem_cons_of_mem _ ?_)))) 1 c2 hc2
    rw [show (x :: d).drop 1 = d from rfl] at hdf
    have hcd : d.length ≤ c2 - 1 := by omega
    obtain ⟨ab, hAb⟩ : ∃ ab, sadr (some ad) 1 c2 1 = ab := ⟨_, rfl⟩
    rw [hAb] at hdf
    replace hM := hM.addFact hdf
    show Calls _ _ _ _ (Ret W (DecF own (unp1 dict x d most)))
    unfold unp1
    refine f_start Try.func21 rfl Try.ntmps21 rfl rfl ?_; intro a hF
    (repeat' (first | (with_reducible refine w_seq ?_) | (with_reducible refine c_region ?_) | (with_reducible refine s_nil ?_) | (with_reducible refine q_then_n ?_) | ((with_reducible apply s_pure hF); exact rfl; exact rfl; exact rfl; (first | exact trivial | omega | exact ⟨Int.natCast_nonneg _, Int.ofNat_lt.2 (by assumption)⟩ | decide); clear hF a; intro a hF) | ((with_reducible apply s_loadF hF hM); exact rfl; exact rfl; (repeat (first | exact List.mem_cons_self | refine List.mem_cons_of_mem _ ?_)); exact rfl; exact rfl; (first | with_reducible assumption | (simp only [Int.toNat_natCast]; with_reducible assumption)); clear hF a; intro a hF) | (with_reducible refine w_skip ?_) | (with_reducible refine w_block ?_) | (with_reducible refine w_ret ?_) | (with_reducible refine q_blk_n ?_) | ((with_reducible apply g_dec hF); exact rfl; exact rfl; all_goals (clear hF; intro hc hF); all_goals (try (exfalso; omega))) | ((with_reducible apply c_dec hF); exact rfl; all_goals intro hc; all_goals (try (exfalso; omega)))))
    all_goals
      try rw [show ((((x :: d).length : Nat) : Int)).toNat - (1 : Int).toNat = d.length by rw [hlx]; omega, show (1 : Int).toNat = 1 from rfl, hAb] at hF
    · rw [if_pos hc]
      have hS := sectorsR_f (own := own) hM.low d (by omega) most hmost ab (c2 - 1) hcd (hM.factOut (by (repeat (first | exact List.mem_cons_self | refine List.mem_cons_of_mem _ ?_))))
      cases hs : secsD d most with
      | error e =>
        (repeat (first | (with_reducible refine s_nil ?_) | ((with_reducible apply s_call (f := 40) hF hM); exact rfl; exact rfl; exact rfl; exact rfl; exact rfl; exact (decf_err hS hs); clear hF hM a; rintro v w a rfl - hM hF) | (with_reducible refine q_then_n ?_) | ((with_reducible apply s_pure hF); exact rfl; exact rfl; exact rfl; (first | exact trivial | omega | exact ⟨Int.natCast_nonneg _, Int.ofNat_lt.2 (by assumption)⟩ | decide); clear hF a; intro a hF) | (with_reducible refine w_ret ?_) | (with_reducible refine q_then_r ?_) | (with_reducible refine q_blk_r ?_)))
        (apply f_ret Try.results21 hF hM; (repeat (first | exact RL.nil | (apply RL.tmp; exact rfl) | (apply RL.cell; exact rfl; (repeat (first | exact List.mem_cons_self | refine List.mem_cons_of_mem _ ?_)); exact rfl))); refine Ret.mk hM.since ?_; dsimp only [resV])
        rfl
      | ok ls =>
        (repeat (first | (with_reducible refine s_nil ?_) | ((with_reducible apply s_call (f := 40) hF hM); exact rfl; exact rfl; exact rfl; exact rfl; exact rfl; exact (decf_ok hS hs); clear hF hM a; rintro v w a ⟨a', c', rfl, h1, h2⟩ - hM hF) | (with_reducible refine q_then_n ?_) | ((with_reducible apply s_pure hF); exact rfl; exact rfl; exact rfl; (first | exact trivial | omega | exact ⟨Int.natCast_nonneg _, Int.ofNat_lt.2 (by assumption)⟩ | decide); clear hF a; intro a hF) | (with_reducible refine w_ret ?_) | (with_reducible refine q_then_r ?_) | (with_reducible refine q_blk_r ?_)))
        (apply f_ret Try.results21 hF hM; (repeat (first | exact RL.nil | (apply RL.tmp; exact rfl) | (apply RL.cell; exact rfl; (repeat (first | exact List.mem_cons_self | refine List.mem_cons_of_mem _ ?_)); exact rfl))); refine Ret.mk hM.since ?_; dsimp only [resV])
        exact ⟨a', c', rfl, h1, h2⟩
    · rename_i hc1
      rw [if_neg hc1, if_pos hc]
      have hR := DecodeR_f (own := own) hM.low d hdb (by omega) most ab _ (c2 - 1) rfl hcd (hM.factOut (by (repeat (first | exact List.mem_cons_self | refine List.mem_cons_of_mem _ ?_))))
      cases hs : dec (mst most) d with
      | error e =>
        (repeat (first | (with_reducible refine s_nil ?_) | ((with_reducible apply s_call (f := 41) hF hM); exact rfl; exact rfl; exact rfl; exact rfl; exact rfl; exact (decf_err hR hs); clear hF hM a; rintro v w a rfl - hM hF) | (with_reducible refine q_then_n ?_) | ((with_reducible apply s_pure hF); exact rfl; exact rfl; exact rfl; (first | exact trivial | omega | exact ⟨Int.natCast_nonneg _, Int.ofNat_lt.2 (by assumption)⟩ | decide); clear hF a; intro a hF) | (with_reducible refine w_ret ?_) | (with_reducible refine q_then_r ?_) | (with_reducible refine q_blk_r ?_)))
        (apply f_ret Try.results21 hF hM; (repeat (first | exact RL.nil | (apply RL.tmp; exact rfl) | (apply RL.cell; exact rfl; (repeat (first | exact List.mem_cons_self | refine List.mem_cons_of_mem _ ?_)); exact rfl))); refine Ret.mk hM.since ?_; dsimp only [resV])
        rfl
      | ok ls =>
        (repeat (first | (with_reducible refine s_nil ?_) | ((with_reducible apply s_call (f := 41) hF hM); exact rfl; exact rfl; exact rfl; exact rfl; exact rfl; exact (decf_ok hR hs); clear hF hM a; rintro v w a ⟨a', c', rfl, h1, h2⟩ - hM hF) | (with_reducible refine q_then_n ?_) | ((with_reducible apply s_pure hF); exact rfl; exact rfl; exact rfl; (first | exact trivial | omega | exact ⟨Int.natCast_nonneg _, Int.ofNat_lt.2 (by assumption)⟩ | decide); clear hF a; intro a hF) | (with_reducible refine w_ret ?_) | (with_reducible refine q_then_r ?_) | (with_reducible refine q_blk_r ?_)))
        (apply f_ret Try.results21 hF hM; (repeat (first | exact RL.nil | (apply RL.tmp; exact rfl) | (apply RL.cell; exact rfl; (repeat (first | exact List.mem_cons_self | refine List.mem_cons_of_mem _ ?_)); exact rfl))); refine Ret.mk hM.since ?_; dsimp only [resV])
        exact ⟨a', c', rfl, h1, h2⟩
    · rename_i hc2 hc1
      rw [if_neg hc2, if_neg hc1, if_pos hc]
      have hR := DecodeDR_c dict d hdb ⟨by omega, by omega⟩ (8 * most) ⟨by omega, by omega⟩ a1 ab c1 (c2 - 1) hcd own _ hM.low (hM.factOut (by (repeat (first | exact List.mem_cons_self | refine List.mem_cons_of_mem _ ?_)))) (hM.factOut (by (repeat (first | exact List.mem_cons_self | refine List.mem_cons_of_mem _ ?_))))
      cases hs : decD dict d (8 * most) with
      | error e =>
        have he := decD_err hs
        rw [thenS_err]
        (repeat' (first | (with_reducible refine w_seq ?_) | (with_reducible refine c_region ?_) | (with_reducible refine s_nil ?_) | ((with_reducible apply s_call (f := 17) hF hM); exact rfl; exact rfl; exact rfl; exact rfl; exact rfl; exact (bdec_err hR hs); clear hF hM a; rintro v w a rfl - hM hF) | (with_reducible refine q_then_n ?_) | ((with_reducible apply s_pure hF); exact rfl; exact rfl; exact rfl; (first | exact trivial | omega | exact ⟨Int.natCast_nonneg _, Int.ofNat_lt.2 (by assumption)⟩ | decide); clear hF a; intro a hF) | (with_reducible refine w_ret ?_) | (with_reducible refine q_then_r ?_) | (with_reducible refine q_blk_r ?_) | ((with_reducible apply c_dec hF); exact rfl; all_goals intro hc; all_goals (try (exfalso; omega)))))
        (apply f_ret Try.results21 hF hM; (repeat (first | exact RL.nil | (apply RL.tmp; exact rfl) | (apply RL.cell; exact rfl; (repeat (first | exact List.mem_cons_self | refine List.mem_cons_of_mem _ ?_)); exact rfl))); refine Ret.mk hM.since ?_; dsimp only [resV])
        rfl
      | ok r =>
        (repeat' (first | (with_reducible refine w_seq ?_) | (with_reducible refine c_region ?_) | (with_reducible refine s_nil ?_) | ((with_reducible apply s_call (f := 17) hF hM); exact rfl; exact rfl; exact rfl; exact rfl; exact rfl; exact (bdec_ok hR hs); clear hF hM a; rintro v w a ⟨a', c', rfl, h1, h2⟩ - hM hF) | (with_reducible refine q_then_n ?_) | ((with_reducible apply s_pure hF); exact rfl; exact rfl; exact rfl; (first | exact trivial | omega | exact ⟨Int.natCast_nonneg _, Int.ofNat_lt.2 (by assumption)⟩ | decide); clear hF a; intro a hF) | (with_reducible refine w_skip ?_) | ((with_reducible apply c_false2 hF); exact rfl; (first | with_reducible rfl | (refine congrArg Value.bool ?_; focus (simp; done))))))
        rw [thenS_ok]
        have hrl := (decD_len hdb hs).2
        have hS := sectorsR_f (own := own) (fun b h => hM.lt b (.inl h)) r (by omega) most hmost a' c' h1 h2
        cases hs : secsD r most with
        | error e =>
          (repeat (first | (with_reducible refine s_nil ?_) | ((with_reducible apply s_call (f := 40) hF hM); exact rfl; exact rfl; exact rfl; exact rfl; exact rfl; exact (decf_err hS hs); clear hF hM a; rintro v w a rfl - hM hF) | (with_reducible refine q_then_n ?_) | ((with_reducible apply s_pure hF); exact rfl; exact rfl; exact rfl; (first | exact trivial | omega | exact ⟨Int.natCast_nonneg _, Int.ofNat_lt.2 (by assumption)⟩ | decide); clear hF a; intro a hF) | (with_reducible refine w_ret ?_) | (with_reducible refine q_then_r ?_) | (with_reducible refine q_blk_r ?_)))
          (apply f_ret Try.results21 hF hM; (repeat (first | exact RL.nil | (apply RL.tmp; exact rfl) | (apply RL.cell; exact rfl; (repeat (first | exact List.mem_cons_self | refine List.mem_cons_of_mem _ ?_)); exact rfl))); refine Ret.mk hM.since ?_; dsimp only [resV])
          rfl
        | ok ls =>
          (repeat (first | (with_reducible refine s_nil ?_) | ((with_reducible apply s_call (f := 40) hF hM); exact rfl; exact rfl; exact rfl; exact rfl; exact rfl; exact (decf_ok hS hs); clear hF hM a; rintro v w a ⟨a', c', rfl, h1, h2⟩ - hM hF) | (with_reducible refine q_then_n ?_) | ((with_reducible apply s_pure hF); exact rfl; exact rfl; exact rfl; (first | exact trivial | omega | exact ⟨Int.natCast_nonneg _, Int.ofNat_lt.2 (by assumption)⟩ | decide); clear hF a; intro a hF) | (with_reducible refine w_ret ?_) | (with_reducible refine q_then_r ?_) | (with_reducible refine q_blk_r ?_)))
          (apply f_ret Try.results21 hF hM; (repeat (first | exact RL.nil | (apply RL.tmp; exact rfl) | (apply RL.cell; exact rfl; (repeat (first | exact List.mem_cons_self | refine List.mem_cons_of_mem _ ?_)); exact rfl))); refine Ret.mk hM.since ?_; dsimp only [resV])
          exact ⟨a', c', rfl, h1, h2⟩
    · rename_i hc2 hc1
      rw [if_neg hc2, if_neg hc1, if_neg hc]
      (repeat' (first | fail))
      (apply f_ret Try.results21 hF hM; (repeat (first | exact RL.nil | (apply RL.tmp; exact rfl) | (apply RL.cell; exact rfl; (repeat (first | exact List.mem_cons_self | refine List.mem_cons_of_mem _ ?_)); exact rfl))); refine Ret.mk hM.since ?_; dsimp only [resV])
      rfl
end
end Go.Proofs.Ytocgpllmfdnfjaa

/- Layer 5's examples. -/
namespace Go.Proofs.Ytocgpllmfdnfjaa
open Go.RowKit Go.Shelf
def putsF : Nat → Nat → List Int
  | 0, n => [(n : Int)]
  | f + 1, n => if n < 128 then [(n : Int)] else ((n % 128 + 128 : Nat) : Int) :: putsF f (n / 128)
theorem puts_F : ∀ (f n : Nat), n < 128 ^ (f + 1) → puts n = putsF f n
  | 0, n, h => by rw [puts_lt (by omega), putsF]
  | f + 1, n, h => by
    rw [putsF]
    split
    · rename_i h1; exact puts_lt h1
    · rename_i h1
      rw [puts_ge h1, puts_F f (n / 128) (by rw [Nat.pow_succ] at h; omega)]
def encV (l : List (List Int)) : List Int := (grp l).flatMap fun (i : Fin l.length) => putsF 2 (4 * (nx l i).2 + (nx l i).1) ++ encS l i
theorem flatMap_congr' {α β : Type} {f g : α → List β} : ∀ (l : List α), (∀ x ∈ l, f x = g x) → l.flatMap f = l.flatMap g
  | [], _ => rfl
  | x :: l, h => by rw [List.flatMap_cons, List.flatMap_cons, h x (by simp), flatMap_congr' l fun y hy => h y (by simp [hy])]
theorem enc_V (l : List (List Int)) (h : l.length ≤ 30000) : enc l = encV l := by
  unfold enc encV
  refine flatMap_congr' _ fun i _ => ?_
  unfold encG
  have h1 := nx_le i.2
  have h2 := nx_kind (l := l) (i := i)
  rw [puts_F 2 _ (by omega)]
theorem decF_good {most : Nat} : ∀ {f : Nat} {xs : List Int} {ls ls' : List (List Int)}, decF most f xs ls = .ok ls' → (ls.length ≤ most → ls'.length ≤ most) ∧ (W8 ls → W8 ls') ∧ (By xs → B8 ls → B8 ls')
  | 0, xs, ls, ls', h => by
    rw [decF] at h
    injection h with h
    subst h
    exact ⟨id, id, fun _ => id⟩
  | f + 1, xs, ls, ls', h => by
    rw [decF] at h
    split at h
    · injection h with h
      subst h
      exact ⟨id, id, fun _ => id⟩
    · split at h
      · cases h
      · rename_i zs ls2 hg
        obtain ⟨k, h1, h2, rfl, h4, h5, h6, h7⟩ := grpD_ok hg
        obtain ⟨i1, i2, i3⟩ := decF_good h
        exact ⟨fun _ => i1 h4, fun h => i2 (h6 h), fun hx hb => i3 (hx.drop _) (h7 hx hb)⟩
def decV (most : Nat) (b : List Int) : Except Int (List (List Int)) := match decF most b.length b [] with
  | .error e => .error e
  | .ok ls => if encV ls = b then .ok ls else .error 3
theorem dec_V (most : Nat) (b : List Int) (h : most ≤ 4096) : dec most b = decV most b := by
  unfold dec decV
  cases hd : decF most b.length b [] with
  | error e => rfl
  | ok ls =>
    have := (decF_good hd).1 (by simp)
    simp only
    rw [enc_V ls (by omega)]
theorem dec_good {most : Nat} {b : List Int} {ls : List (List Int)} (h : dec most b = .ok ls) : ls.length ≤ most ∧ W8 ls ∧ (By b → B8 ls) ∧ enc ls = b := by
  unfold dec at h
  cases hd : decF most b.length b [] with
  | error e => rw [hd] at h; cases h
  | ok l2 =>
    rw [hd] at h
    simp only at h
    split at h
    · rename_i he
      injection h with h
      subst h
      obtain ⟨h1, h2, h3⟩ := decF_good hd
      exact ⟨h1 (by simp), h2 (by intro y hy; cases hy), fun hb => h3 hb (by intro y hy; cases hy), he⟩
    · cases h
section
variable {own : Nat → Prop} {W : World} (hl : ∀ b, own b → b < W.heap.size)
include hl
theorem Encode_e {y : List Int} (l : List (List Int)) (he : enc l = y) (hw : W8 l) (hlen : l.length ≤ 30000) (a0 : Option Addr) (n c0 : Nat) (hn : l.length = n) (hc0 : n ≤ c0) (hv : Has own W (RdF (Value.int .u8) a0 l.flatten)) :
    Calls Try.prog 35 ⟨[.slice a0 n c0]⟩ W (Ret W (Sl (Value.int .u8) own y y.length)) := he ▸ Encode_f hl l hw hlen a0 n c0 hn hc0 hv
theorem equalB_t {xs ys : List Int} (hx : By xs) (he : xs = ys) (a1 a2 : Option Addr) (m1 m2 c1 c2 : Nat) (h1 : xs.length = m1) (h2 : ys.length = m2) (hv1 : Has own W (RdF (Value.int .u8) a1 xs)) (hv2 : Has own W (RdF (Value.int .u8) a2 ys)) :
    Calls Try.prog 13 ⟨[.slice a1 m1 c1, .slice a2 m2 c2]⟩ W (Ret W fun v _ => v = .bool true) := by
  have := equalB_c xs ys hx (he ▸ hx) a1 a2 m1 m2 c1 c2 h1 h2 own W hl hv1 hv2
  rw [decide_eq_true he] at this
  exact this
end
abbrev E1 : List Int := [13, 1, 0, 0, 0, 0, 0, 0, 0, 8, 2, 0, 0, 0, 0, 0, 0, 0, 3, 0, 0, 0, 0, 0, 0, 0, 10]
abbrev E2 : List Int := [4, 2, 0, 0, 0, 0, 0, 0, 0, 9, 3, 0, 0, 0, 0, 0, 0, 0]
abbrev S1 : List Int := [1, 1, 1, 2, 3, 0, 0]
theorem ex1 : enc (S1.map sec) = E1 := (enc_V _ (by decide)).trans (by decide +kernel)
theorem ex2 : enc (([2, 3, 3] : List Int).map sec) = E2 := (enc_V _ (by decide)).trans (by decide +kernel)
theorem ex3 : enc (([0] : List Int).map sec) = [6] := (enc_V _ (by decide)).trans (by decide +kernel)
theorem ex4 : dec (mst 9) (encO [8, -2, -2]) = .error 3 := (dec_V _ _ (by decide)).trans (by kernel_rfl)
theorem ex5 : dec (mst 9) (encO [6, 6]) = .error 3 := (dec_V _ _ (by decide)).trans (by kernel_rfl)
theorem ex6 : dec (mst 1) (encO [10]) = .error 5 := (dec_V _ _ (by decide)).trans (by kernel_rfl)
theorem ex7 : dec (mst 9) (encO [5, -1]) = .error 3 := (dec_V _ _ (by decide)).trans (by kernel_rfl)
theorem ex8 : dec (mst 7) E1 = .ok (S1.map sec) := (dec_V _ _ (by decide)).trans (by kernel_rfl)
theorem By_dec {xs : List Int} (h : (xs.all fun x => decide (0 ≤ x) && decide (x < 256)) = true) : By xs := by
  intro x hx
  have := List.all_eq_true.1 h x hx
  simpa using this
theorem sec_W8 (l : List Int) : W8 (l.map sec) := by
  intro y hy
  obtain ⟨x, _, rfl⟩ := List.mem_map.1 hy
  rfl
section
variable {own : Nat → Prop} {W : World} {a0 : Option Addr} {n c0 : Nat}
theorem Encode_g {xs y : List Int} (hv : Has own W (RdF (Value.int .u8) a0 (xs.map sec).flatten)) (he : enc (xs.map sec) = y) (hn : xs.length = n) (hlen : n ≤ 1000) (hc : n ≤ c0) (hl : ∀ b, own b → b < W.heap.size) :
    Calls Try.prog 35 ⟨[.slice a0 n c0]⟩ W (Ret W (Sl (Value.int .u8) own y y.length)) := Encode_e hl (xs.map sec) he (sec_W8 _) (by rw [List.length_map]; omega) a0 n c0 (by rw [List.length_map]; exact hn) hc hv
theorem Decode_g {xs : List Int} {e : Int} {most : Int} (hv : Has own W (RdF (Value.int .u8) a0 xs)) (he : dec (mst most) xs = .error e) (hn : xs.length = n) (hb : (xs.all fun x => decide (0 ≤ x) && decide (x < 256)) = true) (hlen : n ≤ 1000) (hc : n ≤ c0) (hl : ∀ b, own b → b < W.heap.size) :
    Calls Try.prog 38 ⟨[.slice a0 n c0, .int .i64 most]⟩ W (Ret W fun v _ => v = .tuple #[.slice none 0 0, .int .i64 e]) := decf_err (Decode_f hl xs (By_dec hb) (by omega) most a0 n c0 hn hc hv) he
theorem Decode_h {xs ys : List Int} {most : Int} (hv : Has own W (RdF (Value.int .u8) a0 xs)) (he : dec (mst most) xs = .ok (ys.map sec)) (hn : xs.length = n) (hb : (xs.all fun x => decide (0 ≤ x) && decide (x < 256)) = true) (hlen : n ≤ 1000) (hc : n ≤ c0) (hl : ∀ b, own b → b < W.heap.size) :
    Calls Try.prog 38 ⟨[.slice a0 n c0, .int .i64 most]⟩ W (Ret W fun v w' => ∃ a' c', v = .tuple #[.slice a' ys.length c', .int .i64 0] ∧ ys.length ≤ c' ∧ Has own w' (RdF (Value.int .u8) a' (ys.map sec).flatten)) := by
  have := decf_ok (Decode_f hl xs (By_dec hb) (by omega) most a0 n c0 hn hc hv) he
  simpa only [List.length_map] using this
theorem Equal_g {a1 : Option Addr} {m c1 : Nat} {xs ys : List Int} (hv1 : Has own W (RdF (Value.int .u8) a0 xs)) (hv2 : Has own W (RdF (Value.int .u8) a1 ys)) (he : xs = ys) (h1 : xs.length = n) (h2 : ys.length = m) (hb : (xs.all fun x => decide (0 ≤ x) && decide (x < 256)) = true) (hl : ∀ b, own b → b < W.heap.size) :
    Calls Try.prog 13 ⟨[.slice a0 n c0, .slice a1 m c1]⟩ W (Ret W fun v _ => v = .bool true) := equalB_t hl (By_dec hb) he a0 a1 n m c0 c1 h1 h2 hv1 hv2
end
end Go.Proofs.Ytocgpllmfdnfjaa

/- Plain laws of the encoding of sectors: it is decoded to itself. -/
namespace Go.Proofs.Ytocgpllmfdnfjaa
theorem takeWhile_get {α : Type} {p : α → Bool} : ∀ {L : List α} {j : Nat}, j < (L.takeWhile p).length → ∃ x, L[j]? = some x ∧ p x = true
  | [], j, h => by simp at h
  | x :: L, j, h => by
    by_cases hp : p x = true
    · rw [List.takeWhile_cons_of_pos hp] at h
      cases j with
      | zero => exact ⟨x, rfl, hp⟩
      | succ j => exact takeWhile_get (L := L) (by simpa using h)
    · rw [List.takeWhile_cons_of_neg hp] at h
      simp at h
theorem takeWhile_stop {α : Type} {p : α → Bool} : ∀ {L : List α} {x : α}, L[(L.takeWhile p).length]? = some x → p x = false
  | [], x, h => by simp at h
  | y :: L, x, h => by
    by_cases hp : p y = true
    · rw [List.takeWhile_cons_of_pos hp] at h
      exact takeWhile_stop (L := L) (by simpa using h)
    · rw [List.takeWhile_cons_of_neg hp] at h
      simp at h
      subst h
      simpa using hp
theorem rl_all {l : List (List Int)} {i j : Nat} (hi : i < l.length) (h : j < rl l i) : l[i + j]? = l[i]? := by
  cases j with
  | zero => rfl
  | succ j =>
    unfold rl at h
    obtain ⟨x, h1, h2⟩ := takeWhile_get (L := l.drop (i + 1)) (p := fun s => decide (l[i]? = some s)) (j := j) (by omega)
    rw [List.getElem?_drop] at h1
    rw [show i + (j + 1) = i + 1 + j by omega, h1]
    exact (of_decide_eq_true h2).symm
theorem rl_stop {l : List (List Int)} {i : Nat} (h : i + rl l i < l.length) : l[i + rl l i]? ≠ l[i]? := by
  obtain ⟨x, hx⟩ := get_of_lt h
  intro e
  unfold rl at hx e h
  have hs := takeWhile_stop (L := l.drop (i + 1)) (p := fun s => decide (l[i]? = some s)) (x := x) (by rw [List.getElem?_drop, Nat.add_assoc]; exact hx)
  have := of_decide_eq_false hs
  rw [hx] at e
  exact this e.symm
/-- Numbers that are put are read. -/
theorem rdN_puts (n : Nat) : ∀ (i f : Nat) (acc : Int) (xs ys : List Int), xs.drop i = puts n ++ ys → (puts n).length ≤ f → 0 ≤ acc → acc + n * 128 ^ i ≤ 9007199254740991 → (n = 0 → i = 0) → rdN xs f i acc = (acc + n * 128 ^ i, 0, i + (puts n).length) := by
  induction n using Nat.strongRecOn with
  | _ n ih =>
    intro i f acc xs ys hd hf ha hb h0
    have get0 : ∀ (b : Int) (r : List Int), puts n = b :: r → xs[i]? = some b := by
      intro b r e
      have : (xs.drop i)[0]? = some b := by rw [hd, e]; rfl
      rw [List.getElem?_drop] at this
      exact this
    by_cases h : n < 128
    · have e := puts_lt h
      rw [e] at hf ⊢
      simp only [List.length_cons, List.length_nil] at hf ⊢
      obtain ⟨f, rfl⟩ : ∃ k, f = k + 1 := ⟨f - 1, by omega⟩
      rw [rdN_some (get0 _ _ e), if_neg (by omega), if_neg]
      · rw [show ((n : Int)) % 128 = n by omega]
      · rw [show ((n : Int)) % 128 = n by omega]
        rintro (⟨h1, h2⟩ | h1)
        · have := h0 (by omega); omega
        · omega
    · have e := puts_ge h
      rw [e] at hf ⊢
      simp only [List.length_cons] at hf ⊢
      obtain ⟨f, rfl⟩ : ∃ k, f = k + 1 := ⟨f - 1, by omega⟩
      rw [rdN_some (get0 _ _ e), if_pos (by omega)]
      have hm : ((n % 128 + 128 : Nat) : Int) % 128 = ((n % 128 : Nat) : Int) := by omega
      rw [hm]
      have hp : (0 : Int) ≤ 128 ^ i := Int.pow_nonneg (by decide)
      have hq : ((n % 128 : Nat) : Int) * 128 ^ i + ((n / 128 : Nat) : Int) * 128 ^ (i + 1) = (n : Int) * 128 ^ i := by
        rw [Int.pow_succ, Int.mul_comm (128 ^ i) 128, ← Int.mul_assoc, ← Int.add_mul]
        congr 1
        omega
      have := ih (n / 128) (by omega) (i + 1) f (acc + ((n % 128 : Nat) : Int) * 128 ^ i) xs ys (by
        have h2 : xs.drop (i + 1) = (xs.drop i).drop 1 := by rw [List.drop_drop]
        rw [h2, hd, e]
        rfl) (by omega) (Int.add_nonneg ha (Int.mul_nonneg (by omega) hp)) (by rw [Int.add_assoc, hq]; exact hb) (fun h => by omega)
      rw [this, Int.add_assoc, hq]
      congr 2
      omega
theorem rdNum_puts {n : Nat} (hn : n ≤ 9007199254740991) (ys : List Int) : rdNum (puts n ++ ys) = ((n : Int), 0, (puts n).length) := by
  have := rdN_puts n 0 8 0 (puts n ++ ys) ys (by simp) (puts_len 7 n (by omega)) (by omega) (by omega) (fun _ => rfl)
  unfold rdNum
  rw [this]
  simp
theorem puts_pos (n : Nat) : 1 ≤ (puts n).length := by
  by_cases h : n < 128
  · rw [puts_lt h]; simp
  · rw [puts_ge h]; simp
theorem chunks_flat : ∀ (D : List (List Int)) (rest : List Int), W8 D → chunks D.length (D.flatten ++ rest) = D
  | [], _, _ => rfl
  | s :: D, rest, h => by
    have hs : s.length = 8 := h s (by simp)
    rw [List.length_cons, chunks, List.flatten_cons, List.append_assoc, List.take_left' hs, List.drop_left' hs, chunks_flat D rest fun y hy => h y (by simp [hy])]
theorem rep_of {α : Type} {s : α} : ∀ {L : List α} {n : Nat}, L.length = n → (∀ j, j < n → L[j]? = some s) → L = List.replicate n s
  | [], n, h, _ => by simp at h; subst h; rfl
  | x :: L, n, h, hj => by
    cases n with
    | zero => simp at h
    | succ n =>
      have h0 := hj 0 (by omega)
      simp at h0
      subst h0
      rw [List.replicate_succ, rep_of (L := L) (n := n) (by simpa using h) fun j hlt => by have := hj (j + 1) (by omega); simpa using this]
theorem take_more {α : Type} (l : List α) (i n : Nat) : l.take i ++ (l.drop i).take n = l.take (i + n) := by
  rw [List.take_add]
theorem run_rep {l : List (List Int)} {i : Nat} {s : List Int} (hi : i < l.length) (hs : l[i]? = some s) : (l.drop i).take (rl l i) = List.replicate (rl l i) s := by
  have h1 := rl_le hi
  refine rep_of (by rw [List.length_take, List.length_drop]; omega) fun j hj => ?_
  rw [List.getElem?_take, if_pos hj, List.getElem?_drop, rl_all hi hj, hs]
/-- A group of an encoding is read. -/
theorem grpD_enc {l : List (List Int)} (hw : W8 l) (hlen : l.length ≤ 30000) {i : Nat} (hi : i < l.length) (most : Nat) (rest : List Int) :
    grpD most (encG l i ++ rest) (l.take i) = if (most : Int) - i < (nx l i).2 then .error 5 else .ok (rest, l.take (i + (nx l i).2)) := by
  have hp := nx_pos (l := l) (i := i)
  have hl := nx_le hi
  have hk := nx_kind (l := l) (i := i)
  obtain ⟨s, hs⟩ := get_of_lt hi
  have hs8 := hw s (List.mem_of_getElem? hs)
  have hti : (l.take i).length = i := by rw [List.length_take]; omega
  unfold encG
  rw [List.append_assoc]
  unfold grpD
  rw [rdNum_puts (by omega)]
  simp only [ne_eq, not_true_eq_false, if_false, Int.toNat_natCast, List.drop_left]
  have h4 : (4 * (nx l i).2 + (nx l i).1) % 4 = (nx l i).1 := by omega
  have h5 : (4 * (nx l i).2 + (nx l i).1) / 4 = (nx l i).2 := by omega
  rw [h4, h5, hti, if_neg (by omega)]
  by_cases hm : (most : Int) - i < (nx l i).2
  · rw [if_pos hm, if_pos hm]
  rw [if_neg hm, if_neg hm]
  have hD8 : W8 ((l.drop i).take (lits l i)) := (hw.drop _).take _
  have hDl : ((l.drop i).take (lits l i)).length = lits l i := by
    have := lits_le (l := l) (i := i)
    rw [List.length_take, List.length_drop]; omega
  have hfl := flat_len hD8
  rw [hDl] at hfl
  unfold encS
  by_cases h0 : (nx l i).1 = 0
  · have hli : lits l i = (nx l i).2 := by unfold lits; rw [if_pos h0]
    rw [if_pos h0, List.length_append, hfl, if_neg (by omega)]
    rw [hli] at hDl hfl hD8 ⊢
    have hc := chunks_flat ((l.drop i).take (nx l i).2) rest hD8
    rw [hDl] at hc
    rw [hc, take_more, List.drop_left' (by omega)]
  · by_cases h1 : (nx l i).1 = 1
    · have hli : lits l i = 1 := by unfold lits; rw [if_neg h0, if_pos h1]
      have hn2 : (nx l i).2 = rl l i := by
        unfold nx at h0 h1 ⊢
        split
        · rfl
        · split
          · rfl
          · rename_i h2 h3; rw [if_neg h2, if_neg h3] at h1; cases h1
      rw [if_neg h0, if_pos h1, List.length_append, hfl, hli, if_neg (by omega)]
      have hd1 : ((l.drop i).take 1).flatten = s := by
        rw [List.take_one, List.head?_drop, hs]
        simp
      rw [hd1, List.take_left' hs8, List.drop_left' hs8, hn2, ← run_rep hi hs, take_more]
    · have h2 : (nx l i).1 = 2 := by omega
      have hli : lits l i = 0 := by unfold lits; rw [if_neg h0, if_neg h1]
      have hz : l[i]? = some zr ∧ (nx l i).2 = rl l i := by
        unfold nx at h2 ⊢
        split
        · rename_i h3; exact ⟨h3, rfl⟩
        · rename_i h3
          rw [if_neg h3] at h2
          split at h2
          · cases h2
          · cases h2
      rw [if_neg h0, if_neg h1, hli, hz.2, List.take_zero, List.flatten_nil, List.nil_append]
      rw [hz.1] at hs
      rw [← run_rep hi hz.1, take_more]
theorem encG_pos {l : List (List Int)} {i : Nat} : 1 ≤ (encG l i).length := by
  unfold encG
  have := puts_pos (4 * (nx l i).2 + (nx l i).1)
  rw [List.length_append]
  omega
theorem decF_enc {l : List (List Int)} (hw : W8 l) (hlen : l.length ≤ 30000) (most : Nat) (hm : l.length ≤ most) : ∀ (f i g : Nat), l.length ≤ i + f → i ≤ l.length → ((grpF l f i).flatMap fun (j : Fin l.length) => encG l j).length ≤ g → decF most g ((grpF l f i).flatMap fun (j : Fin l.length) => encG l j) (l.take i) = .ok l
  | 0, i, g, h, hi, _ => by
    rw [grpF, List.flatMap_nil, decF_nil rfl, List.take_of_length_le (by omega)]
  | f + 1, i, g, h, hi, hg => by
    rw [grpF] at hg ⊢
    by_cases hlt : i < l.length
    · rw [dif_pos hlt, List.flatMap_cons] at hg ⊢
      simp only at hg ⊢
      have hp := encG_pos (l := l) (i := i)
      have hn := nx_le hlt
      have hnp := nx_pos (l := l) (i := i)
      rw [List.length_append] at hg
      obtain ⟨g, rfl⟩ : ∃ k, g = k + 1 := ⟨g - 1, by omega⟩
      have := grpD_enc hw hlen hlt most ((grpF l f (i + (nx l i).2)).flatMap fun (j : Fin l.length) => encG l j)
      rw [if_neg (by omega)] at this
      rw [decF_ok (by rw [List.length_append]; omega) this]
      exact decF_enc hw hlen most hm f (i + (nx l i).2) g (by omega) (by omega) (by omega)
    · rw [dif_neg hlt, List.flatMap_nil, decF_nil rfl, List.take_of_length_le (by omega)]
theorem decF_short {l : List (List Int)} (hw : W8 l) (hlen : l.length ≤ 30000) (most : Nat) (hm : most + 1 = l.length) : ∀ (f i g : Nat), l.length ≤ i + f → i < l.length → ((grpF l f i).flatMap fun (j : Fin l.length) => encG l j).length ≤ g → decF most g ((grpF l f i).flatMap fun (j : Fin l.length) => encG l j) (l.take i) = .error 5
  | 0, i, g, h, hi, _ => by omega
  | f + 1, i, g, h, hlt, hg => by
    rw [grpF] at hg ⊢
    rw [dif_pos hlt, List.flatMap_cons] at hg ⊢
    simp only at hg ⊢
    have hp := encG_pos (l := l) (i := i)
    have hn := nx_le hlt
    have hnp := nx_pos (l := l) (i := i)
    rw [List.length_append] at hg
    obtain ⟨g, rfl⟩ : ∃ k, g = k + 1 := ⟨g - 1, by omega⟩
    have := grpD_enc hw hlen hlt most ((grpF l f (i + (nx l i).2)).flatMap fun (j : Fin l.length) => encG l j)
    by_cases hlast : i + (nx l i).2 < l.length
    · rw [if_neg (by omega)] at this
      rw [decF_ok (by rw [List.length_append]; omega) this]
      exact decF_short hw hlen most hm f (i + (nx l i).2) g (by omega) hlast (by omega)
    · rw [if_pos (by omega)] at this
      exact decF_err (by rw [List.length_append]; omega) this
theorem dec_enc {l : List (List Int)} (hw : W8 l) (hlen : l.length ≤ 30000) (most : Nat) (hm : l.length ≤ most) : dec most (enc l) = .ok l := by
  have := decF_enc hw hlen most hm l.length 0 (enc l).length (by omega) (by omega) (Nat.le_refl _)
  rw [List.take_zero] at this
  rw [dec_ok this, if_pos rfl]
theorem dec_short {l : List (List Int)} (hw : W8 l) (hlen : l.length ≤ 30000) (most : Nat) (hm : most + 1 = l.length) : dec most (enc l) = .error 5 := by
  have := decF_short hw hlen most hm l.length 0 (enc l).length (by omega) (by omega) (Nat.le_refl _)
  rw [List.take_zero] at this
  exact dec_err this
end Go.Proofs.Ytocgpllmfdnfjaa
