/- The reference of runlength: Encode. -/
import Derived.Test.YthcnnedgfndklaaY3
set_option linter.unusedSimpArgs false
set_option linter.unusedVariables false
set_option linter.unusedSectionVars false
namespace Go.Proofs.Ythcnnedgfndklaa
open Go.RowKit Go.Shelf
theorem encL_app {l : List (List Int)} (pre : List (Fin l.length)) (x : Fin l.length) : encL l (pre ++ [x]) = (encL l pre ++ puts (4 * (nx l x).2 + (nx l x).1)) ++ ((l.drop x).take (lits l x)).flatten := by
  unfold encL encG encS
  rw [List.flatMap_append]
  simp
set_option maxRecDepth 20000 in
theorem EncodeR_c (l : List (List Int)) (hw : W8 l) (hlen : l.length ≤ 30000) (a0 : Option Addr) (c0 : Nat) (hc0 : l.length ≤ c0) (own : Nat → Prop) (W : World) (hl : ∀ b, own b → b < W.heap.size) (hv : Has own W (RdF (Value.int .u8) a0 l.flatten)) :
    Calls Try.prog 13 ⟨[.slice a0 l.length c0]⟩ W (Ret W fun v w' => ∃ a' c', v = .slice a' (enc l).length c' ∧ Owns w' W.heap.size [⟨5, 1, .slice a' (enc l).length c', (enc l).length, (enc l).map (Value.int .u8)⟩]) := by
  have hM := (Mm.start hl).known hv
  have hw' : ∀ y ∈ l, y.length = 8 := hw
  have hw3 : ∀ y ∈ gl l (grp l), y.length = 3 := gl_3 l _
  refine f_start Try.func13 rfl Try.ntmps13 rfl rfl ?_; intro a hF
  (repeat (first | (with_reducible refine w_seq ?_) | (with_reducible refine c_region ?_) | (with_reducible refine s_nil ?_) | ((with_reducible apply s_callO (f := 25) hF); exact rfl; exact rfl; exact rfl; exact rfl; exact rfl; exact (GroupsR_c l hw hlen a0 c0 _ _ hM.lt (hM.facts _ (by (repeat (first | exact List.mem_cons_self | refine List.mem_cons_of_mem _ ?_))))); clear hF a; rintro v wn a ⟨a1, c1, rfl, hO⟩ hS hF; replace hM := hM.addRows hS hO; clear hS hO; dsimp only [List.cons_append, List.nil_append] at hM) | (with_reducible refine q_then_n ?_) | ((with_reducible apply s_pure hF); exact rfl; exact rfl; exact rfl; (first | exact trivial | omega | decide); clear hF a; intro a hF) | (with_reducible refine w_block ?_)))
  replace hM := hM.freezeN.nilRow 5 1
  refine c_loop (m := (grp l).length) (fun m a w' => ∃ (i : Nat) (v : Value) (N : Nat), m + i = (grp l).length ∧ N = (encL l ((grp l).take i)).length ∧
    Fr 54 [] [(5, .int .i64 i), (4, .slice a1 (grp l).length c1), (3, v), (0, .slice a0 l.length c0)] a ∧ Mm own W [] [⟨5, 1, v, N, (encL l ((grp l).take i)).map (Value.int .u8)⟩] [RdF (Value.int .i64) a1 (gl l (grp l)).flatten, RdF (Value.int .u8) a0 l.flatten] w') ⟨0, _, 0, by omega, by simp [encL], hF.sub (by repeat (first | exact Sub.nil | refine Sub.cons rfl (by first | with_reducible rfl | (refine congrArg (Value.int _) ?_; omega) | exact rfl) ?_)), by simp only [List.take_zero, encL, List.flatMap_nil, List.map_nil]; exact hM⟩ ?_
  clear hF hM a
  rintro m a w' ⟨i, v, N, hm, hN, hF, hM⟩
  obtain ⟨av, cv, rfl, -, -⟩ := hM.row List.mem_cons_self
  have hgl : (grp l).length ≤ l.length := by have := grpF_len (l := l) l.length 0; unfold grp; omega
  by_cases hi : i < (grp l).length
  case neg =>
    have he : encL l ((grp l).take i) = enc l := by rw [List.take_of_length_le (by omega)]; rfl
    rw [he] at hM hN
    subst hN
    (repeat' (first | (with_reducible refine w_seq ?_) | (with_reducible refine c_region ?_) | (with_reducible refine s_nil ?_) | (with_reducible refine q_then_n ?_) | ((with_reducible apply s_pure hF); exact rfl; exact rfl; exact rfl; (first | exact trivial | omega | decide); clear hF a; intro a hF) | (with_reducible refine w_exit ?_) | (with_reducible refine w_ret ?_) | (with_reducible refine q_then_x ?_) | (with_reducible refine q_blk_x ?_) | ((with_reducible apply c_dec hF); exact rfl; all_goals intro hc; all_goals (try (exfalso; omega)))))
    (apply f_ret Try.results13 hF hM; (repeat (first | exact RL.nil | (apply RL.tmp; exact rfl) | (apply RL.cell; exact rfl; (repeat (first | exact List.mem_cons_self | refine List.mem_cons_of_mem _ ?_)); exact rfl))); refine Ret.mk hM.since ?_; dsimp only [resV])
    exact ⟨_, _, rfl, hM.mem.own⟩
  obtain ⟨x, hx⟩ := get_of_lt hi
  have hgx : (gl l (grp l))[((i : Int)).toNat]? = some [((nx l x).1 : Int), ((x : Nat) : Int), ((nx l x).2 : Int)] := by rw [Int.toNat_natCast]; unfold gl; rw [List.getElem?_map, hx]; rfl
  obtain ⟨ad1, rfl⟩ : ∃ ad, a1 = some ad := rd_some hM (enc := Value.int .i64) (a := a1) (xs := (gl l (grp l)).flatten) (by (repeat (first | exact List.mem_cons_self | refine List.mem_cons_of_mem _ ?_))) (flat_get (q := 0) hw3 hgx rfl)
  have hxl := x.2
  have hkn := nx_kind (l := l) (i := x)
  have hcn := nx_le hxl
  obtain ⟨s0, hs0⟩ := get_of_lt hxl
  have hs08 := hw s0 (List.mem_of_getElem? hs0)
  obtain ⟨ad, rfl⟩ : ∃ ad, a0 = some ad := rd_some hM (enc := Value.int .u8) (a := a0) (xs := l.flatten) (by (repeat (first | exact List.mem_cons_self | refine List.mem_cons_of_mem _ ?_))) (flat_get (q := 0) hw hs0 (List.getElem?_eq_getElem (by omega)))
  have hpl := encL_len hw hlen ((grp l).take i) (by rw [List.length_take]; omega)
  have hE : encL l ((grp l).take (i + 1)) = (encL l ((grp l).take i) ++ puts (4 * (nx l x).2 + (nx l x).1)) ++ ((l.drop x).take (lits l x)).flatten := by
    rw [List.take_add_one, hx]
    exact encL_app _ x
  have hkind : ((nx l x).1 = 0 ∧ lits l x = (nx l x).2) ∨ ((nx l x).1 = 1 ∧ lits l x = 1) ∨ ((nx l x).1 = 2 ∧ lits l x = 0) := by
    unfold lits
    rcases (show (nx l x).1 = 0 ∨ (nx l x).1 = 1 ∨ (nx l x).1 = 2 by omega) with h | h | h <;> simp [h]
  have hll := lits_le (l := l) (i := x)
  have hW8 : W8 ((l.drop x).take (lits l x)) := (hw.drop _).take _
  have hDl : ((l.drop x).take (lits l x)).length = lits l x := by rw [List.length_take, List.length_drop]; omega
  have hDg : ∀ j, j < lits l x → ((l.drop x).take (lits l x))[j]? = l[x.val + j]? := fun j hj => by rw [List.getElem?_take, if_pos hj, List.getElem?_drop]
  generalize (l.drop x).take (lits l x) = D at *
  generalize lits l x = q at *
  generalize hkk : (nx l x).1 = kd at *
  generalize hcc : (nx l x).2 = cn at *
  generalize (x : Nat) = xi at *
  generalize encL l ((grp l).take i) = E at *
  have hP := puts_len 2 (4 * cn + kd) (by omega)
  (repeat' (first | (with_reducible refine w_seq ?_) | (with_reducible refine c_region ?_) | (with_reducible refine s_nil ?_) | ((with_reducible apply s_callO (f := 26) hF); exact rfl; exact rfl; exact rfl; exact rfl; exact rfl; exact (PutIntR_c (4 * cn + kd) _ (by omega) (by omega) av cv E _ hN.symm own _ (fun b h => hM.lt b (.inl h)) (hM.rowFact List.mem_cons_self) (by omega)); clear hF a; rintro v wn a ⟨a2, c2, rfl, hO⟩ hS hF; replace hM := hM.addRows hS hO; clear hS hO; dsimp only [List.cons_append, List.nil_append] at hM) | ((with_reducible apply s_loadS hF hM); exact rfl; exact rfl; (repeat (first | exact List.mem_cons_self | refine List.mem_cons_of_mem _ ?_)); exact rfl; exact rfl; (first | with_reducible assumption | (simp only [Int.toNat_natCast]; with_reducible assumption)); (with_reducible assumption); clear hF a; intro a hF) | (with_reducible refine q_then_n ?_) | ((with_reducible apply s_pure hF); exact rfl; exact rfl; exact rfl; (first | exact trivial | omega | decide); clear hF a; intro a hF) | ((with_reducible apply s_load hF hM); exact rfl; exact rfl; (repeat (first | exact List.mem_cons_self | refine List.mem_cons_of_mem _ ?_)); exact rfl; exact rfl; clear hF a; intro a hF) | ((with_reducible apply s_store hF hM); exact rfl; exact rfl; exact rfl; exact rfl; (repeat (first | exact Upd.z | apply Upd.s)); exact rfl; exact rfl; exact rfl; clear hM; intro w hM) | ((with_reducible apply s_alloc hF hM); exact rfl; exact rfl; exact rfl; clear hF hM a; intro b w a hM hF) | (with_reducible refine w_skip ?_) | (with_reducible refine w_block ?_) | (with_reducible refine q_blk_n ?_) | ((with_reducible apply c_dec hF); exact rfl; all_goals intro hc; all_goals (try (exfalso; omega)))))
  all_goals
    obtain ⟨b6, rfl⟩ : ∃ x, x = b := ⟨_, rfl⟩
    generalize puts (4 * cn + kd) = P at *
    refine c_loop (m := q) (fun m a w' => ∃ (j : Nat) (v : Value) (n : Nat), m + j = q ∧ n = N + P.length + 8 * j ∧
      Fr 54 [] [(8, .int .i64 j), (7, .int .i64 q), (6, .pointer (some ⟨b6, 0, none⟩)), (3, v), (5, .int .i64 i), (4, .slice (some ad1) (grp l).length c1), (0, .slice (some ad) l.length c0)] a ∧
      Mm own W [⟨b6, ⟨[.int .i64 kd, .int .i64 xi, .int .i64 cn]⟩, 58⟩] [⟨5, 1, v, n, ((E ++ P) ++ (D.take j).flatten).map (Value.int .u8)⟩] [RdF (Value.int .i64) (some ad1) (gl l (grp l)).flatten, RdF (Value.int .u8) (some ad) l.flatten] w')
      ⟨0, _, N + P.length, by omega, by omega, hF.sub (by repeat (first | exact Sub.nil | refine Sub.cons rfl (by first | with_reducible rfl | (refine congrArg (Value.int _) ?_; omega) | exact rfl) ?_)), by rw [List.take_zero, List.flatten_nil, List.append_nil]; exact hM.sub (.refl _) (.cons_cons _ (.cons _ .slnil)) (by intro f hf; simp only [List.mem_cons, List.not_mem_nil, or_false] at hf; (repeat (rcases hf with rfl | hf; · (repeat (first | exact List.mem_cons_self | refine List.mem_cons_of_mem _ ?_)))); try (subst hf; (repeat (first | exact List.mem_cons_self | refine List.mem_cons_of_mem _ ?_))))⟩ ?_
    clear hF hM a hkind
    rintro mm a w' ⟨j, v, n, hmm, hn, hF, hM⟩
    by_cases hj : j < q
    · obtain ⟨s, hs⟩ := get_of_lt (l := D) (i := j) (by omega)
      have hs2 : l[((xi : Int) + (j : Int)).toNat]? = some s := by rw [show ((xi : Int) + (j : Int)).toNat = xi + j by omega, ← hDg j hj]; exact hs
      obtain ⟨x0, x1, x2, x3, x4, x5, x6, x7, rfl⟩ := len8 (hW8 s (List.mem_of_getElem? hs))
      have htk : (D.take (j + 1)).flatten = (D.take j).flatten ++ [x0, x1, x2, x3, x4, x5, x6, x7] := by rw [List.take_add_one, hs]; simp
      (repeat' (first | (with_reducible refine w_seq ?_) | (with_reducible refine c_region ?_) | (with_reducible refine s_nil ?_) | ((with_reducible apply s_loadS hF hM); exact rfl; exact rfl; (repeat (first | exact List.mem_cons_self | refine List.mem_cons_of_mem _ ?_)); exact rfl; exact rfl; (first | with_reducible assumption | (simp only [Int.toNat_natCast]; with_reducible assumption)); (with_reducible assumption); clear hF a; intro a hF) | ((with_reducible apply s_arrSl hF); exact rfl; exact rfl; exact rfl; exact rfl; clear hF a; intro a hF) | (with_reducible refine q_then_n ?_) | ((with_reducible apply s_pure hF); exact rfl; exact rfl; exact rfl; (first | exact trivial | omega | decide); clear hF a; intro a hF) | ((with_reducible apply s_load hF hM); exact rfl; exact rfl; (repeat (first | exact List.mem_cons_self | refine List.mem_cons_of_mem _ ?_)); exact rfl; exact rfl; clear hF a; intro a hF) | ((with_reducible apply s_store hF hM); exact rfl; exact rfl; exact rfl; exact rfl; (repeat (first | exact Upd.z | apply Upd.s)); exact rfl; exact rfl; exact rfl; clear hM; intro w hM) | ((with_reducible apply s_alloc hF hM); exact rfl; exact rfl; exact rfl; clear hF hM a; intro b w a hM hF) | ((with_reducible apply s_app hF hM); exact rfl; exact rfl; exact rfl; exact rfl; (repeat (first | exact Kth.z | apply Kth.s)); exact rfl; exact rfl; exact rfl; exact rfl; omega; clear hF hM a; intro g cap w a hM hF; dsimp only [List.set] at hM) | (with_reducible refine w_skip ?_) | (with_reducible refine w_block ?_) | (with_reducible refine q_blk_n ?_) | ((with_reducible apply c_dec hF); exact rfl; all_goals intro hc; all_goals (try (exfalso; omega)))))
      refine ⟨mm - 1, by omega, j + 1, .slice (some ⟨g, 0, none⟩) (n + 8) cap, n + 8, by omega, by omega, hF.sub (by repeat (first | exact Sub.nil | refine Sub.cons rfl (by first | with_reducible rfl | (refine congrArg (Value.int _) ?_; omega) | exact rfl) ?_)), ?_⟩
      rw [htk, ← List.append_assoc, List.map_append]
      exact hM
    · obtain rfl : j = q := by omega
      rw [List.take_of_length_le (by omega)] at hM
      (repeat' (first | (with_reducible refine w_seq ?_) | (with_reducible refine c_region ?_) | (with_reducible refine s_nil ?_) | (with_reducible refine q_then_n ?_) | ((with_reducible apply s_pure hF); exact rfl; exact rfl; exact rfl; (first | exact trivial | omega | decide); clear hF a; intro a hF) | (with_reducible refine w_exit ?_) | (with_reducible refine q_then_x ?_) | (with_reducible refine q_blk_n ?_) | (with_reducible refine q_blk_x ?_) | ((with_reducible apply c_dec hF); exact rfl; all_goals intro hc; all_goals (try (exfalso; omega)))))
      refine ⟨m - 1, by omega, i + 1, v, n, by omega, ?_, hF.sub (by repeat (first | exact Sub.nil | refine Sub.cons rfl (by first | with_reducible rfl | (refine congrArg (Value.int _) ?_; omega) | exact rfl) ?_)), ?_⟩
      · rw [hE, List.length_append, List.length_append, flat_len hW8]; omega
      · rw [hE]
        exact hM.sub (.cons _ (.refl _)) (.refl _) (fun _ h => h)
end Go.Proofs.Ythcnnedgfndklaa
