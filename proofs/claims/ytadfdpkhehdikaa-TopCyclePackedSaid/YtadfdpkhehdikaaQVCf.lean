/- Texts of this seat, one behind the other: BW BX BY BZ Ba Bb Bc Bd Be. -/
import Derived.Test.YtadfdpkhehdikaaQVCe
set_option linter.unusedSimpArgs false
set_option linter.unusedVariables false
set_option linter.unusedSectionVars false
set_option maxRecDepth 3000
/- batch.Cycle. -/
namespace Go.Proofs.Ytadfdpkhehdikaa
open Go.RowKit Go.Shelf D29 B31
section
variable (vb vn vt : Nat) (pos : List Int) (ws : List Wr) (hfw : FewW ws) (hby : BysW ws) (hc : chkC ⟨vb, vn, vt, pos, ws⟩ = 0) (E : List Int) (hE0 : encB ⟨vb, vn, vt, pos, ws⟩ = E) (hs : List BP) (N : Nat) (hok : AsOk vn (sumB E) N (hs.map (·.1))) (hE : (hs.map (·.1)).flatten = E) (hE1 : 1 ≤ E.length) (hse : ∀ x ∈ seenB (hs.map (·.1)), x = true)
include hfw hby hc hE0 hok hE hE1 hse
set_option maxRecDepth 20000 in
set_option maxHeartbeats 4000000 in
theorem bCycle_c (a1 : Option Addr) (c1 : Nat) (a2 : Option Addr) (c2 : Nat) (own : Nat → Prop) (W : World) (hl : ∀ b, own b → b < W.heap.size) (k1 : Has own W (RdF encBP a1 hs)) (k2 : Has own W (BytF hs)) (k3 : Has own W (RdF Value.bool a2 (seenB (hs.map (·.1))))) :
    Calls Try.prog 28 ⟨[asmV vn N (sumB E) a1 N c1 a2 N c2]⟩ W (Ret W fun v w' => ∃ (ts : List WP) (a1 : Option Addr) (c1 : Nat) (a2 : Option Addr) (c2 : Nat), v = .tuple #[cyV vb vn vt a1 pos.length c1 a2 ws.length c2, .int .i64 0] ∧ wms ts = ws ∧ Has own w' (RdF (Value.int .i64) a1 pos) ∧ Has own w' (RdF id a2 (cellsW ts)) ∧ Has own w' (DatF (wP ts)) ∧ pos.length ≤ c1 ∧ ws.length ≤ c2) := by
  have hM := (((Mm.start hl).known k3).known k2).known k1
  have hEl := encB_len hc hfw
  have hEb := encB_by (c := ⟨vb, vn, vt, pos, ws⟩) hby
  rw [hE0] at hEl hEb
  have e1 := fun {own W} hl k1 k2 => bCheck_c vn (sumB E) N hs hok a1 c1 a2 c2 own W hl k1 k2
  have hsb := sumB_bd E
  obtain ⟨o1, o2, o3, o4, o5⟩ := hok
  have hlen : hs.length = N := by rw [← o4, List.length_map]
  have hSl : (seenB (hs.map (·.1))).length = N := by unfold seenB; rw [List.length_map, o4]
  have e2 := fun {own W} hl hv => conBo_c (seenB (hs.map (·.1))) N hSl (by omega) hse a2 c2 own W hl hv
  have e3 := fun {own W} hl k1 k2 => Concat_c hs N hlen (by omega) (fun q hq => o5 q.1 (List.mem_map.2 ⟨q, hq, rfl⟩)) E hE ⟨hE1, by omega⟩ a1 c1 own W hl k1 k2
  have e5 := fun {own W} (a3 : Option Addr) (c3 : Nat) (j2 : E.length ≤ c3) hl (hv : Has own W (RdF (Value.int .u8) a3 E)) => DecodeC_c vb vn vt pos ws hfw hby hc a3 E.length c3 (by rw [hE0]) j2 own W hl (by rw [hE0]; exact hv)
  refine f_start Try.func28 rfl Try.ntmps28 rfl rfl ?_; intro a hF
  (repeat' (first | (with_reducible refine w_seq ?_) | (with_reducible refine c_region ?_) | (with_reducible refine s_nil ?_) | ((with_reducible apply s_call (f := 66) hF hM); exact rfl; exact rfl; exact rfl; exact rfl; exact rfl; exact (e1 hM.lt (hM.facts (RdF encBP a1 hs) (by (repeat (first | exact List.mem_cons_self | refine List.mem_cons_of_mem _ ?_)))) (hM.facts (RdF Value.bool a2 (seenB (hs.map (·.1)))) (by (repeat (first | exact List.mem_cons_self | refine List.mem_cons_of_mem _ ?_))))); clear hF hM a; rintro v w a rfl - hM hF) | ((with_reducible apply s_call (f := 69) hF hM); exact rfl; exact rfl; exact rfl; exact rfl; exact rfl; exact (e2 hM.lt (hM.facts (RdF Value.bool a2 (seenB (hs.map (·.1)))) (by (repeat (first | exact List.mem_cons_self | refine List.mem_cons_of_mem _ ?_))))); clear hF hM a; rintro v w a rfl - hM hF) | ((with_reducible apply s_call (f := 70) hF hM); exact rfl; exact rfl; exact rfl; exact rfl; exact rfl; exact (e3 hM.lt (hM.facts (RdF encBP a1 hs) (by (repeat (first | exact List.mem_cons_self | refine List.mem_cons_of_mem _ ?_)))) (hM.facts (BytF hs) (by (repeat (first | exact List.mem_cons_self | refine List.mem_cons_of_mem _ ?_))))); clear hF hM a; rintro v w a ⟨a3, c3, rfl, j1, j2⟩ - hM hF; replace hM := hM.addFact j1) | (with_reducible refine q_then_n ?_) | ((with_reducible apply s_pure hF); exact rfl; exact rfl; exact rfl; (first | exact trivial | omega | exact ⟨Int.natCast_nonneg _, Int.ofNat_lt.2 (by assumption)⟩ | decide); clear hF a; intro a hF) | ((with_reducible apply s_load hF hM); exact rfl; exact rfl; (repeat (first | exact List.mem_cons_self | refine List.mem_cons_of_mem _ ?_)); exact rfl; exact rfl; clear hF a; intro a hF) | ((with_reducible apply s_alloc hF hM); exact rfl; exact rfl; exact rfl; clear hF hM a; intro b w a hM hF) | ((with_reducible apply s_box hF hM); exact rfl; exact rfl; exact rfl; exact rfl; clear hF hM a; intro b w a hM hF) | (with_reducible refine w_skip ?_) | ((with_reducible apply c_false2 hF); exact rfl; (first | with_reducible rfl | (refine congrArg Value.bool ?_; focus (simp; done)))) | ((with_reducible apply c_dec hF); exact rfl; all_goals intro hc; all_goals (try (exfalso; omega)))))
  have e4 := fun {own W} hl hv => Sum_c E hEb (by omega) a3 E.length c3 rfl own W hl hv
  refine c_draw (fun i => Nat.ble 6 i) hM ?_; clear hM; intro w hM
  (first | (refine t_pure (i := 0) hF rfl rfl rfl rfl (by kernel_rfl) hM.sm (fun _ _ _ h => h) ?_ ?_; (first | exact trivial | omega | decide); clear hF a; intro a hF))
  (first | (refine t_pure (i := 3) hF rfl rfl rfl rfl (by kernel_rfl) hM.sm (fun _ _ _ h => h) ?_ ?_; (first | exact trivial | omega | decide); clear hF a; intro a hF))
  (first | (apply t_load (i := 4) hF rfl rfl rfl; (repeat (first | exact List.mem_cons_self | refine List.mem_cons_of_mem _ ?_)); exact rfl; exact rfl; kernel_rfl; exact hM.sm; exact (fun _ _ _ h => h); clear hF a; intro a hF))
  refine t_one (i := 1) hF rfl (by kernel_rfl) rfl ?_
  intro K hK
  (apply x_call hF hM; exact rfl; exact rfl; exact rfl; exact rfl; exact (e4 hM.lt (hM.facts (RdF (Value.int .u8) a3 E) (by (repeat (first | with_reducible exact List.mem_cons_self | refine List.mem_cons_of_mem _ ?_))))); clear hF hM a; rintro v w a rfl - hM hF)
  refine hK _ _ (fun _ => hM.sm) ?_; clear hK
  (first | (refine t_pure (i := 2) hF rfl rfl rfl rfl (by kernel_rfl) hM.sm (fun _ _ _ h => h) ?_ ?_; (first | exact trivial | omega | decide); clear hF a; intro a hF))
  (first | (refine t_pure (i := 5) hF rfl rfl rfl rfl (by kernel_rfl) hM.sm (fun _ _ _ h => h) ?_ ?_; (first | exact trivial | omega | decide); clear hF a; intro a hF))
  refine t_done (by kernel_rfl) ?_
  (repeat' (first | (with_reducible refine w_seq ?_) | (with_reducible refine c_region ?_) | (with_reducible refine s_nil ?_) | ((with_reducible apply s_call (f := 71) hF hM); exact rfl; exact rfl; exact rfl; exact rfl; exact rfl; exact (e5 a3 c3 j2 hM.lt (hM.facts (RdF (Value.int .u8) a3 E) (by (repeat (first | with_reducible exact List.mem_cons_self | refine List.mem_cons_of_mem _ ?_))))); clear hF hM a; rintro v w a ⟨ts, a5, c5, a6, c6, rfl, i1, i2, i3, i4, i5, i6⟩ - hM hF; replace hM := ((hM.addFact i2).addFact i3).addFact i4) | (with_reducible refine q_then_n ?_) | ((with_reducible apply s_pure hF); exact rfl; exact rfl; exact rfl; (first | exact trivial | omega | exact ⟨Int.natCast_nonneg _, Int.ofNat_lt.2 (by assumption)⟩ | decide); clear hF a; intro a hF) | ((with_reducible apply s_load hF hM); exact rfl; exact rfl; (repeat (first | exact List.mem_cons_self | refine List.mem_cons_of_mem _ ?_)); exact rfl; exact rfl; clear hF a; intro a hF) | ((with_reducible apply s_store hF hM); exact rfl; exact rfl; exact rfl; exact rfl; (repeat (first | exact Upd.z | apply Upd.s)); exact rfl; exact rfl; exact rfl; clear hM; intro w hM) | ((with_reducible apply s_alloc hF hM); exact rfl; exact rfl; exact rfl; clear hF hM a; intro b w a hM hF) | (with_reducible refine w_skip ?_) | (with_reducible refine w_ret ?_) | ((with_reducible apply c_false2 hF); exact rfl; (first | with_reducible rfl | (refine congrArg Value.bool ?_; focus (simp; done))))))
  (apply f_ret Try.results28 hF hM; (repeat (first | exact RL.nil | (apply RL.tmp; exact rfl) | (apply RL.cell; exact rfl; (repeat (first | exact List.mem_cons_self | refine List.mem_cons_of_mem _ ?_)); exact rfl))); refine Ret.mk hM.since ?_; dsimp only [resV])
  exact ⟨ts, a5, c5, a6, c6, rfl, i1, (hM.facts (RdF (Value.int .i64) a5 pos) (by (repeat (first | with_reducible exact List.mem_cons_self | refine List.mem_cons_of_mem _ ?_)))).own_eq (fun _ h => .inl h), (hM.facts (RdF id a6 (cellsW ts)) (by (repeat (first | with_reducible exact List.mem_cons_self | refine List.mem_cons_of_mem _ ?_)))).own_eq (fun _ h => .inl h), (hM.facts (DatF (wP ts)) (by (repeat (first | with_reducible exact List.mem_cons_self | refine List.mem_cons_of_mem _ ?_)))).own_eq (fun _ h => .inl h), i5, i6⟩
end
end Go.Proofs.Ytadfdpkhehdikaa


/- The law's own small functions. -/
namespace Go.Proofs.Ytadfdpkhehdikaa
open Go.RowKit Go.Shelf D29 B31
namespace B31
/-- The place that an order names. -/
def rpl (l : List Int) (i : Nat) (n : Int) : Int := match l[i]? with
  | none => 0
  | some x => Int.tmod (Int.tmod x n + n) n
theorem rpl_bd {l : List Int} {i : Nat} {n : Int} (hn : 1 ≤ n) : 0 ≤ rpl l i n ∧ rpl l i n < n := by
  unfold rpl
  split
  · omega
  · rename_i x _
    have h1 := Int.lt_tmod_of_pos x (show 0 < n by omega)
    have h2 := Int.tmod_nonneg n (show 0 ≤ Int.tmod x n + n by omega)
    have h3 := Int.tmod_lt_of_pos (Int.tmod x n + n) (show 0 < n by omega)
    exact ⟨h2, h3⟩
end B31
theorem sameIntsT_c (l : List Int) (n : Nat) (hn : l.length = n) (hn6 : n ≤ 1000000) (a0 a1 : Option Addr) (c0 c1 : Nat) (own : Nat → Prop) (W : World) (hl : ∀ b, own b → b < W.heap.size) (hv : Has own W (RdF (Value.int .i64) a0 l)) (hu : Has own W (RdF (Value.int .i64) a1 l)) :
    Calls Try.prog 72 ⟨[.slice a0 n c0, .slice a1 n c1]⟩ W (Ret W fun v _ => v = .bool true) := by
  have hM := ((Mm.start hl).known hv).known hu
  refine f_start Try.func72 rfl Try.ntmps72 rfl rfl ?_; intro a hF
  (repeat' (first | (with_reducible refine w_seq ?_) | (with_reducible refine c_region ?_) | (with_reducible refine s_nil ?_) | (with_reducible refine q_then_n ?_) | ((with_reducible apply s_pure hF); exact rfl; exact rfl; exact rfl; (first | exact trivial | omega | exact ⟨Int.natCast_nonneg _, Int.ofNat_lt.2 (by assumption)⟩ | decide); clear hF a; intro a hF) | (with_reducible refine w_skip ?_) | (with_reducible refine w_block ?_) | ((with_reducible apply c_false2 hF); exact rfl; (first | with_reducible rfl | (refine congrArg Value.bool ?_; focus (simp; done))))))
  refine c_loop (m := n) (fun z a w' => ∃ (k : Nat), z + k = n ∧
    Fr 26 [] [(5, .int .i64 k), (0, .slice a0 n c0), (1, .slice a1 n c1)] a ∧ Mm own W [] [] [RdF (Value.int .i64) a1 l, RdF (Value.int .i64) a0 l] w') ⟨0, by omega, hF.sub (by repeat (first | exact Sub.nil | refine Sub.cons rfl (by first | with_reducible rfl | (refine congrArg (Value.int _) ?_; omega) | exact rfl) ?_)), hM⟩ ?_
  clear hF hM a
  rintro z a w' ⟨k, hz, hF, hM⟩
  by_cases hk : k < n
  · obtain ⟨x, hx⟩ := get_of_lt (l := l) (i := k) (by omega)
    obtain ⟨ad, rfl⟩ := rd_some hM (a := a0) (by (repeat (first | exact List.mem_cons_self | refine List.mem_cons_of_mem _ ?_))) hx
    obtain ⟨ae, rfl⟩ := rd_some hM (a := a1) (by (repeat (first | exact List.mem_cons_self | refine List.mem_cons_of_mem _ ?_))) hx
    (repeat' (first | (with_reducible refine w_seq ?_) | (with_reducible refine c_region ?_) | (with_reducible refine s_nil ?_) | (with_reducible refine q_then_n ?_) | ((with_reducible apply s_pure hF); exact rfl; exact rfl; exact rfl; (first | exact trivial | omega | exact ⟨Int.natCast_nonneg _, Int.ofNat_lt.2 (by assumption)⟩ | decide); clear hF a; intro a hF) | (with_reducible refine w_skip ?_) | (with_reducible refine w_block ?_) | ((with_reducible apply c_dec hF); exact rfl; all_goals intro hc; all_goals (try (exfalso; omega)))))
    refine c_draw (fun i => Nat.ble 9 i) hM ?_; clear hM; intro w hM
    (first | (refine t_pure (i := 0) hF rfl rfl rfl rfl (by kernel_rfl) hM.sm (fun _ _ _ h => h) ?_ ?_; (first | exact trivial | omega | decide); clear hF a; intro a hF))
    (first | (refine t_pure (i := 1) hF rfl rfl rfl rfl (by kernel_rfl) hM.sm (fun _ _ _ h => h) ?_ ?_; (first | exact trivial | omega | decide); clear hF a; intro a hF))
    (first | (refine t_pure (i := 2) hF rfl rfl rfl rfl (by kernel_rfl) hM.sm (fun _ _ _ h => h) ?_ ?_; (first | exact trivial | omega | decide); clear hF a; intro a hF))
    (first | (apply t_loadF (i := 3) hF rfl rfl rfl; (repeat (first | exact List.mem_cons_self | refine List.mem_cons_of_mem _ ?_)); (first | with_reducible assumption | (simp only [Int.toNat_natCast]; with_reducible assumption)); exact rfl; exact rfl; kernel_rfl; exact hM.sm; exact (fun _ _ _ h => h); clear hF a; intro a hF))
    (first | (refine t_pure (i := 4) hF rfl rfl rfl rfl (by kernel_rfl) hM.sm (fun _ _ _ h => h) ?_ ?_; (first | exact trivial | omega | decide); clear hF a; intro a hF))
    (first | (refine t_pure (i := 5) hF rfl rfl rfl rfl (by kernel_rfl) hM.sm (fun _ _ _ h => h) ?_ ?_; (first | exact trivial | omega | decide); clear hF a; intro a hF))
    (first | (refine t_pure (i := 6) hF rfl rfl rfl rfl (by kernel_rfl) hM.sm (fun _ _ _ h => h) ?_ ?_; (first | exact trivial | omega | decide); clear hF a; intro a hF))
    (first | (apply t_loadF (i := 7) hF rfl rfl rfl; (repeat (first | exact List.mem_cons_self | refine List.mem_cons_of_mem _ ?_)); (first | with_reducible assumption | (simp only [Int.toNat_natCast]; with_reducible assumption)); exact rfl; exact rfl; kernel_rfl; exact hM.sm; exact (fun _ _ _ h => h); clear hF a; intro a hF))
    (first | (refine t_pure (i := 8) hF rfl rfl rfl rfl (by kernel_rfl) hM.sm (fun _ _ _ h => h) ?_ ?_; (first | exact trivial | omega | decide); clear hF a; intro a hF))
    refine t_done (by kernel_rfl) ?_
    (repeat' (first | (with_reducible refine c_region ?_) | (with_reducible refine s_nil ?_) | (with_reducible refine q_then_n ?_) | ((with_reducible apply s_pure hF); exact rfl; exact rfl; exact rfl; (first | exact trivial | omega | exact ⟨Int.natCast_nonneg _, Int.ofNat_lt.2 (by assumption)⟩ | decide); clear hF a; intro a hF) | (with_reducible refine w_skip ?_) | (with_reducible refine q_blk_n ?_) | ((with_reducible apply c_false2 hF); exact rfl; (first | with_reducible rfl | (refine congrArg Value.bool ?_; focus (simp; done))))))
    exact ⟨z - 1, by omega, k + 1, by omega, hF.sub (by repeat (first | exact Sub.nil | refine Sub.cons rfl (by first | with_reducible rfl | (refine congrArg (Value.int _) ?_; omega) | exact rfl) ?_)), hM⟩
  · (repeat' (first | (with_reducible refine w_seq ?_) | (with_reducible refine c_region ?_) | (with_reducible refine s_nil ?_) | (with_reducible refine q_then_n ?_) | ((with_reducible apply s_pure hF); exact rfl; exact rfl; exact rfl; (first | exact trivial | omega | exact ⟨Int.natCast_nonneg _, Int.ofNat_lt.2 (by assumption)⟩ | decide); clear hF a; intro a hF) | (with_reducible refine w_exit ?_) | (with_reducible refine w_ret ?_) | (with_reducible refine q_then_x ?_) | (with_reducible refine q_blk_x ?_) | ((with_reducible apply c_dec hF); exact rfl; all_goals intro hc; all_goals (try (exfalso; omega)))))
    (apply f_ret Try.results72 hF hM; (repeat (first | exact RL.nil | (apply RL.tmp; exact rfl) | (apply RL.cell; exact rfl; (repeat (first | exact List.mem_cons_self | refine List.mem_cons_of_mem _ ?_)); exact rfl))); refine Ret.mk hM.since ?_; dsimp only [resV])
theorem few22_c (ts : List WP) (hx : ∀ t ∈ ts, t.1.x.length ≤ 9223372036854775807) (n : Nat) (hn : ts.length = n) (hn6 : n ≤ 9223372036854775807) (a0 : Option Addr) (c0 : Nat) (own : Nat → Prop) (W : World) (hl : ∀ b, own b → b < W.heap.size) (hv : Has own W (RdF id a0 (cellsW ts))) :
    Calls Try.prog 49 ⟨[.slice a0 n c0]⟩ W (Ret W fun v _ => ∃ x : Bool, v = .bool x ∧ (x = true → n ≤ 40 ∧ ∀ t ∈ ts, t.1.x.length ≤ 24)) := by
  have hM := (Mm.start hl).known hv
  refine f_start Try.func49 rfl Try.ntmps49 rfl rfl ?_; intro a hF
  (repeat' (first | (with_reducible refine w_seq ?_) | (with_reducible refine c_region ?_) | (with_reducible refine s_nil ?_) | (with_reducible refine q_then_n ?_) | ((with_reducible apply s_pure hF); exact rfl; exact rfl; exact rfl; (first | exact trivial | omega | exact ⟨Int.natCast_nonneg _, Int.ofNat_lt.2 (by assumption)⟩ | decide); clear hF a; intro a hF) | (with_reducible refine w_block ?_)))
  refine c_loop (m := n) (fun z a w' => ∃ (k : Nat), z + k = n ∧ (∀ t ∈ ts.take k, t.1.x.length ≤ 24) ∧
    Fr 24 [] [(3, .int .i64 k), (0, .slice a0 n c0)] a ∧ Mm own W [] [] [RdF id a0 (ts.map wrC).flatten] w') ⟨0, by omega, by simp, hF.sub (by repeat (first | exact Sub.nil | refine Sub.cons rfl (by first | with_reducible rfl | (refine congrArg (Value.int _) ?_; omega) | exact rfl) ?_)), hM⟩ ?_
  clear hF hM a
  rintro z a w' ⟨k, hz, hk24, hF, hM⟩
  by_cases hk : k < n
  · by_cases h60 : k < 60
    · obtain ⟨t, ht⟩ := get_of_lt (l := ts) (i := k) (by omega)
      have htx := hx t (List.mem_of_getElem? ht)
      have hpe : (ts.map wrC)[k]? = some (wrC t) := by rw [List.getElem?_map, ht]; rfl
      have hw3 := wrC_len ts
      have hnx : t.1.x.length ≤ 24 → ∀ y ∈ ts.take (k + 1), y.1.x.length ≤ 24 := fun h y hy => by
        rw [take_snoc ht] at hy
        rcases List.mem_append.1 hy with hy | hy
        · exact hk24 y hy
        · rw [List.mem_singleton.1 hy]; exact h
      obtain ⟨⟨v, s, x⟩, ax, cx⟩ := t
      obtain ⟨xl, hxq⟩ : ∃ q, x.length = q := ⟨_, rfl⟩
      dsimp only at htx hnx
      rw [hxq] at htx hnx
      replace hpe : (ts.map wrC)[k]? = some [.int .i64 v, .int .i64 s, .slice ax xl cx] := by rw [hpe, ← hxq]
      have ht2 := flat_get (q := 2) hw3 hpe rfl
      obtain ⟨ad, rfl⟩ : ∃ ad, a0 = some ad := rd_some hM (enc := id) (a := a0) (xs := (ts.map wrC).flatten) (by (repeat (first | exact List.mem_cons_self | refine List.mem_cons_of_mem _ ?_))) ht2
      by_cases h24 : xl ≤ 24
      · (repeat' (first | (with_reducible refine w_seq ?_) | (with_reducible refine c_region ?_) | (with_reducible refine s_nil ?_) | ((with_reducible apply s_fieldA hF); exact rfl; exact rfl; exact rfl; exact rfl; clear hF a; intro a hF) | ((with_reducible apply s_loadP hF hM); exact rfl; exact rfl; (repeat (first | exact List.mem_cons_self | refine List.mem_cons_of_mem _ ?_)); exact rfl; exact rfl; (first | with_reducible assumption | (simp only [Int.toNat_natCast]; with_reducible assumption)); clear hF a; intro a hF) | (with_reducible refine q_then_n ?_) | ((with_reducible apply s_pure hF); exact rfl; exact rfl; exact rfl; (first | exact trivial | omega | exact ⟨Int.natCast_nonneg _, Int.ofNat_lt.2 (by assumption)⟩ | decide); clear hF a; intro a hF) | (with_reducible refine w_skip ?_) | (with_reducible refine w_block ?_) | (with_reducible refine q_blk_n ?_) | ((fail_if_success ((with_reducible refine g_known true hF ?_ ?_); focus exact rfl)); (fail_if_success ((with_reducible refine g_known false hF ?_ ?_); focus exact rfl)); (with_reducible apply g_dec hF); exact rfl; exact rfl; all_goals (clear hF; intro hc hF); all_goals (try (exfalso; omega))) | ((with_reducible apply c_dec hF); exact rfl; all_goals intro hc; all_goals (try (exfalso; omega)))))
        exact ⟨z - 1, by omega, k + 1, by omega, hnx h24, hF.sub (by repeat (first | exact Sub.nil | refine Sub.cons rfl (by first | with_reducible rfl | (refine congrArg (Value.int _) ?_; omega) | exact rfl) ?_)), hM⟩
      · (repeat' (first | (with_reducible refine w_seq ?_) | (with_reducible refine c_region ?_) | (with_reducible refine s_nil ?_) | ((with_reducible apply s_fieldA hF); exact rfl; exact rfl; exact rfl; exact rfl; clear hF a; intro a hF) | ((with_reducible apply s_loadP hF hM); exact rfl; exact rfl; (repeat (first | exact List.mem_cons_self | refine List.mem_cons_of_mem _ ?_)); exact rfl; exact rfl; (first | with_reducible assumption | (simp only [Int.toNat_natCast]; with_reducible assumption)); clear hF a; intro a hF) | (with_reducible refine q_then_n ?_) | ((with_reducible apply s_pure hF); exact rfl; exact rfl; exact rfl; (first | exact trivial | omega | exact ⟨Int.natCast_nonneg _, Int.ofNat_lt.2 (by assumption)⟩ | decide); clear hF a; intro a hF) | (with_reducible refine w_skip ?_) | (with_reducible refine w_block ?_) | (with_reducible refine w_ret ?_) | (with_reducible refine q_then_r ?_) | (with_reducible refine q_blk_r ?_) | ((fail_if_success ((with_reducible refine g_known true hF ?_ ?_); focus exact rfl)); (fail_if_success ((with_reducible refine g_known false hF ?_ ?_); focus exact rfl)); (with_reducible apply g_dec hF); exact rfl; exact rfl; all_goals (clear hF; intro hc hF); all_goals (try (exfalso; omega))) | ((with_reducible apply c_dec hF); exact rfl; all_goals intro hc; all_goals (try (exfalso; omega)))))
        (apply f_ret Try.results49 hF hM; (repeat (first | exact RL.nil | (apply RL.tmp; exact rfl) | (apply RL.cell; exact rfl; (repeat (first | exact List.mem_cons_self | refine List.mem_cons_of_mem _ ?_)); exact rfl))); refine Ret.mk hM.since ?_; dsimp only [resV])
        exact ⟨false, rfl, fun h => by cases h⟩
    · (repeat' (first | (with_reducible refine w_seq ?_) | (with_reducible refine c_region ?_) | (with_reducible refine s_nil ?_) | (with_reducible refine q_then_n ?_) | ((with_reducible apply s_pure hF); exact rfl; exact rfl; exact rfl; (first | exact trivial | omega | exact ⟨Int.natCast_nonneg _, Int.ofNat_lt.2 (by assumption)⟩ | decide); clear hF a; intro a hF) | (with_reducible refine w_exit ?_) | (with_reducible refine w_ret ?_) | (with_reducible refine q_then_x ?_) | (with_reducible refine q_blk_x ?_) | ((fail_if_success ((with_reducible refine g_known true hF ?_ ?_); focus exact rfl)); (fail_if_success ((with_reducible refine g_known false hF ?_ ?_); focus exact rfl)); (with_reducible apply g_dec hF); exact rfl; exact rfl; all_goals (clear hF; intro hc hF); all_goals (try (exfalso; omega))) | ((with_reducible apply c_dec hF); exact rfl; all_goals intro hc; all_goals (try (exfalso; omega)))))
      (apply f_ret Try.results49 hF hM; (repeat (first | exact RL.nil | (apply RL.tmp; exact rfl) | (apply RL.cell; exact rfl; (repeat (first | exact List.mem_cons_self | refine List.mem_cons_of_mem _ ?_)); exact rfl))); refine Ret.mk hM.since ?_; dsimp only [resV])
      exact ⟨_, rfl, fun h => by rw [decide_eq_true_eq] at h; omega⟩
  · obtain rfl : n = k := by omega
    rw [List.take_of_length_le (Nat.le_of_eq hn)] at hk24
    (repeat' (first | (with_reducible refine w_seq ?_) | (with_reducible refine c_region ?_) | (with_reducible refine s_nil ?_) | (with_reducible refine q_then_n ?_) | ((with_reducible apply s_pure hF); exact rfl; exact rfl; exact rfl; (first | exact trivial | omega | exact ⟨Int.natCast_nonneg _, Int.ofNat_lt.2 (by assumption)⟩ | decide); clear hF a; intro a hF) | (with_reducible refine w_exit ?_) | (with_reducible refine w_ret ?_) | (with_reducible refine q_then_x ?_) | (with_reducible refine q_blk_x ?_) | ((with_reducible apply c_false2 hF); exact rfl; (first | with_reducible rfl | (refine congrArg Value.bool ?_; focus (simp; done)))) | ((with_reducible apply s_skip hF); exact rfl; exact rfl; clear hF a; intro a hF) | ((fail_if_success ((with_reducible refine g_known true hF ?_ ?_); focus exact rfl)); (fail_if_success ((with_reducible refine g_known false hF ?_ ?_); focus exact rfl)); (with_reducible apply g_dec hF); exact rfl; exact rfl; all_goals (clear hF; intro hc hF); all_goals (try (exfalso; omega)))))
    (apply f_ret Try.results49 hF hM; (repeat (first | exact RL.nil | (apply RL.tmp; exact rfl) | (apply RL.cell; exact rfl; (repeat (first | exact List.mem_cons_self | refine List.mem_cons_of_mem _ ?_)); exact rfl))); refine Ret.mk hM.since ?_; dsimp only [resV])
    exact ⟨_, rfl, fun h => ⟨by rw [decide_eq_true_eq] at h; omega, hk24⟩⟩
end Go.Proofs.Ytadfdpkhehdikaa


/- standbyref23: Few, Same. -/
namespace Go.Proofs.Ytadfdpkhehdikaa
open Go.RowKit Go.Shelf D29 B31
theorem few23_c (cb cn ct : Int) (ts : List WP) (hx : ∀ t ∈ ts, t.1.x.length ≤ 9223372036854775807) (ap aw : Option Addr) (np cp nw cw : Nat) (hnp : np ≤ 9223372036854775807) (hn : ts.length = nw) (hn6 : nw ≤ 9223372036854775807) (own : Nat → Prop) (W : World) (hl : ∀ b, own b → b < W.heap.size) (hv : Has own W (RdF id aw (cellsW ts))) :
    Calls Try.prog 18 ⟨[cyV cb cn ct ap np cp aw nw cw]⟩ W (Ret W fun v _ => ∃ x : Bool, v = .bool x ∧ (x = true → np ≤ 40 ∧ nw ≤ 40 ∧ ∀ t ∈ ts, t.1.x.length ≤ 24)) := by
  have hM := (Mm.start hl).known hv
  have e1 := fun {own W} hl hv => few22_c ts hx nw hn hn6 aw cw own W hl hv
  refine f_start Try.func18 rfl Try.ntmps18 rfl rfl ?_; intro a hF
  by_cases h40 : np ≤ 40
  · (repeat' (first | (with_reducible refine w_seq ?_) | (with_reducible refine c_region ?_) | (with_reducible refine s_nil ?_) | ((with_reducible apply s_call (f := 49) hF hM); exact rfl; exact rfl; exact rfl; exact rfl; exact rfl; exact (e1 hM.lt (hM.facts (RdF id aw (cellsW ts)) (by (repeat (first | exact List.mem_cons_self | refine List.mem_cons_of_mem _ ?_))))); clear hF hM a; rintro v w a ⟨x, rfl, hx2⟩ - hM hF) | (with_reducible refine q_then_n ?_) | ((with_reducible apply s_pure hF); exact rfl; exact rfl; exact rfl; (first | exact trivial | omega | exact ⟨Int.natCast_nonneg _, Int.ofNat_lt.2 (by assumption)⟩ | decide); clear hF a; intro a hF) | ((with_reducible apply s_load hF hM); exact rfl; exact rfl; (repeat (first | exact List.mem_cons_self | refine List.mem_cons_of_mem _ ?_)); exact rfl; exact rfl; clear hF a; intro a hF) | ((with_reducible apply s_box hF hM); exact rfl; exact rfl; exact rfl; exact rfl; clear hF hM a; intro b w a hM hF) | (with_reducible refine w_ret ?_) | ((fail_if_success ((with_reducible refine g_known true hF ?_ ?_); focus exact rfl)); (fail_if_success ((with_reducible refine g_known false hF ?_ ?_); focus exact rfl)); (with_reducible apply g_dec hF); exact rfl; exact rfl; all_goals (clear hF; intro hc hF); all_goals (try (exfalso; omega)))))
    (apply f_ret Try.results18 hF hM; (repeat (first | exact RL.nil | (apply RL.tmp; exact rfl) | (apply RL.cell; exact rfl; (repeat (first | exact List.mem_cons_self | refine List.mem_cons_of_mem _ ?_)); exact rfl))); refine Ret.mk hM.since ?_; dsimp only [resV])
    exact ⟨x, rfl, fun h => ⟨h40, (hx2 h).1, (hx2 h).2⟩⟩
  · (repeat' (first | (with_reducible refine w_seq ?_) | (with_reducible refine c_region ?_) | (with_reducible refine s_nil ?_) | (with_reducible refine q_then_n ?_) | ((with_reducible apply s_pure hF); exact rfl; exact rfl; exact rfl; (first | exact trivial | omega | exact ⟨Int.natCast_nonneg _, Int.ofNat_lt.2 (by assumption)⟩ | decide); clear hF a; intro a hF) | ((with_reducible apply s_load hF hM); exact rfl; exact rfl; (repeat (first | exact List.mem_cons_self | refine List.mem_cons_of_mem _ ?_)); exact rfl; exact rfl; clear hF a; intro a hF) | ((with_reducible apply s_box hF hM); exact rfl; exact rfl; exact rfl; exact rfl; clear hF hM a; intro b w a hM hF) | (with_reducible refine w_ret ?_) | ((with_reducible apply s_skip hF); exact rfl; exact rfl; clear hF a; intro a hF) | ((fail_if_success ((with_reducible refine g_known true hF ?_ ?_); focus exact rfl)); (fail_if_success ((with_reducible refine g_known false hF ?_ ?_); focus exact rfl)); (with_reducible apply g_dec hF); exact rfl; exact rfl; all_goals (clear hF; intro hc hF); all_goals (try (exfalso; omega)))))
    (apply f_ret Try.results18 hF hM; (repeat (first | exact RL.nil | (apply RL.tmp; exact rfl) | (apply RL.cell; exact rfl; (repeat (first | exact List.mem_cons_self | refine List.mem_cons_of_mem _ ?_)); exact rfl))); refine Ret.mk hM.since ?_; dsimp only [resV])
    exact ⟨false, rfl, fun h => by cases h⟩
end Go.Proofs.Ytadfdpkhehdikaa


/- standbyref03.SameWrites at equal writes; standbyref23.Same. -/
namespace Go.Proofs.Ytadfdpkhehdikaa
open Go.RowKit Go.Shelf D29 B31
section
variable (ts us : List WP) (he : wms ts = wms us) (h8 : ∀ t ∈ ts, W8 t.1.x ∧ t.1.x.length ≤ 24) (n : Nat) (hn : ts.length = n) (hn6 : n ≤ 1000) (a0 a1 : Option Addr) (c0 c1 : Nat) (own : Nat → Prop) (W : World) (hl : ∀ b, own b → b < W.heap.size) (k1 : Has own W (RdF id a0 (cellsW ts))) (k2 : Has own W (DatF (wP ts))) (k3 : Has own W (RdF id a1 (cellsW us))) (k4 : Has own W (DatF (wP us)))
include he h8 hn hn6 hl k1 k2 k3 k4
set_option maxRecDepth 20000 in
set_option maxHeartbeats 4000000 in
theorem sameWrites_c : Calls Try.prog 73 ⟨[.slice a0 n c0, .slice a1 n c1]⟩ W (Ret W fun v _ => v = .bool true) := by
  have hM := ((((Mm.start hl).known k4).known k3).known k2).known k1
  have hul : us.length = n := by rw [← wms_len us, ← he, wms_len, hn]
  refine f_start Try.func73 rfl Try.ntmps73 rfl rfl ?_; intro a hF
  (repeat' (first | (with_reducible refine w_seq ?_) | (with_reducible refine c_region ?_) | (with_reducible refine s_nil ?_) | (with_reducible refine q_then_n ?_) | ((with_reducible apply s_pure hF); exact rfl; exact rfl; exact rfl; (first | exact trivial | omega | exact ⟨Int.natCast_nonneg _, Int.ofNat_lt.2 (by assumption)⟩ | decide); clear hF a; intro a hF) | (with_reducible refine w_skip ?_) | (with_reducible refine w_block ?_) | ((with_reducible apply c_false2 hF); exact rfl; (first | with_reducible rfl | (refine congrArg Value.bool ?_; focus (simp; done))))))
  refine c_loop (m := n) (fun z a w' => ∃ (k : Nat), z + k = n ∧
    Fr 55 [] [(5, .int .i64 k), (0, .slice a0 n c0), (1, .slice a1 n c1)] a ∧ Mm own W [] [] [RdF id a0 (ts.map wrC).flatten, DatF (wP ts), RdF id a1 (us.map wrC).flatten, DatF (wP us)] w') ⟨0, by omega, hF.sub (by repeat (first | exact Sub.nil | refine Sub.cons rfl (by first | with_reducible rfl | (refine congrArg (Value.int _) ?_; omega) | exact rfl) ?_)), hM⟩ ?_
  clear hF hM a
  rintro z a w' ⟨k, hz, hF, hM⟩
  by_cases hk : k < n
  · obtain ⟨t, ht⟩ := get_of_lt (l := ts) (i := k) (by omega)
    obtain ⟨u, hu⟩ := get_of_lt (l := us) (i := k) (by omega)
    have htu : t.1 = u.1 := by
      have h1 : (wms ts)[k]? = some t.1 := by unfold wms; rw [List.getElem?_map, ht]; rfl
      have h2 : (wms us)[k]? = some u.1 := by unfold wms; rw [List.getElem?_map, hu]; rfl
      rw [he, h2] at h1
      injection h1 with h1
      exact h1.symm
    obtain ⟨t8, t24⟩ := h8 t (List.mem_of_getElem? ht)
    have hd1 := dat_one (hM.facts (DatF (wP ts)) (by (repeat (first | exact List.mem_cons_self | refine List.mem_cons_of_mem _ ?_)))) (wP_mem (List.mem_of_getElem? ht))
    have hd2 := dat_one (hM.facts (DatF (wP us)) (by (repeat (first | exact List.mem_cons_self | refine List.mem_cons_of_mem _ ?_)))) (wP_mem (List.mem_of_getElem? hu))
    replace hM := (hM.addFact hd1).addFact hd2
    have hpt : (ts.map wrC)[k]? = some (wrC t) := by rw [List.getElem?_map, ht]; rfl
    have hpu : (us.map wrC)[k]? = some (wrC u) := by rw [List.getElem?_map, hu]; rfl
    have hw1 := wrC_len ts
    have hw2 := wrC_len us
    obtain ⟨⟨v, s, x⟩, ax, cx⟩ := t
    obtain ⟨⟨v', s', x'⟩, ax', cx'⟩ := u
    dsimp only at htu t8 t24 hM
    injection htu with q1 q2 q3
    subst q1 q2 q3
    obtain ⟨xl, hxq⟩ : ∃ q, x.length = q := ⟨_, rfl⟩
    replace hpt : (ts.map wrC)[k]? = some [.int .i64 v, .int .i64 s, .slice ax xl cx] := by rw [hpt, ← hxq]
    replace hpu : (us.map wrC)[k]? = some [.int .i64 v, .int .i64 s, .slice ax' xl cx'] := by rw [hpu, ← hxq]
    have ht0 := flat_get (q := 0) hw1 hpt rfl
    have ht1 := flat_get (q := 1) hw1 hpt rfl
    have ht2 := flat_get (q := 2) hw1 hpt rfl
    have hu0 := flat_get (q := 0) hw2 hpu rfl
    have hu1 := flat_get (q := 1) hw2 hpu rfl
    have hu2 := flat_get (q := 2) hw2 hpu rfl
    obtain ⟨ad, rfl⟩ : ∃ ad, a0 = some ad := rd_some hM (enc := id) (a := a0) (xs := (ts.map wrC).flatten) (by (repeat (first | exact List.mem_cons_self | refine List.mem_cons_of_mem _ ?_))) ht2
    obtain ⟨ae, rfl⟩ : ∃ ad, a1 = some ad := rd_some hM (enc := id) (a := a1) (xs := (us.map wrC).flatten) (by (repeat (first | exact List.mem_cons_self | refine List.mem_cons_of_mem _ ?_))) hu2
    (repeat' (first | (with_reducible refine w_seq ?_) | (with_reducible refine c_region ?_) | (with_reducible refine s_nil ?_) | (with_reducible refine q_then_n ?_) | ((with_reducible apply s_pure hF); exact rfl; exact rfl; exact rfl; (first | exact trivial | omega | exact ⟨Int.natCast_nonneg _, Int.ofNat_lt.2 (by assumption)⟩ | decide); clear hF a; intro a hF) | (with_reducible refine w_skip ?_) | (with_reducible refine w_block ?_) | ((with_reducible apply c_dec hF); exact rfl; all_goals intro hc; all_goals (try (exfalso; omega)))))
    refine c_draw (fun i => Nat.ble 38 i) hM ?_; clear hM; intro w hM
    (first | (refine t_pure (i := 0) hF rfl rfl rfl rfl (by kernel_rfl) hM.sm (fun _ _ _ h => h) ?_ ?_; (first | exact trivial | omega | decide); clear hF a; intro a hF))
    (first | (refine t_pure (i := 1) hF rfl rfl rfl rfl (by kernel_rfl) hM.sm (fun _ _ _ h => h) ?_ ?_; (first | exact trivial | omega | decide); clear hF a; intro a hF))
    (first | (refine t_pure (i := 2) hF rfl rfl rfl rfl (by kernel_rfl) hM.sm (fun _ _ _ h => h) ?_ ?_; (first | exact trivial | omega | decide); clear hF a; intro a hF))
    (first | (apply t_fieldA (i := 3) hF rfl rfl rfl rfl rfl; kernel_rfl; exact hM.sm; exact (fun _ _ _ h => h); clear hF a; intro a hF))
    (first | (apply t_loadP (i := 4) hF rfl rfl rfl; (repeat (first | exact List.mem_cons_self | refine List.mem_cons_of_mem _ ?_)); (first | with_reducible assumption | (simp only [Int.toNat_natCast]; with_reducible assumption)); exact rfl; exact rfl; kernel_rfl; exact hM.sm; exact (fun _ _ _ h => h); clear hF a; intro a hF))
    (first | (refine t_pure (i := 5) hF rfl rfl rfl rfl (by kernel_rfl) hM.sm (fun _ _ _ h => h) ?_ ?_; (first | exact trivial | omega | decide); clear hF a; intro a hF))
    (first | (refine t_pure (i := 6) hF rfl rfl rfl rfl (by kernel_rfl) hM.sm (fun _ _ _ h => h) ?_ ?_; (first | exact trivial | omega | decide); clear hF a; intro a hF))
    (first | (refine t_pure (i := 7) hF rfl rfl rfl rfl (by kernel_rfl) hM.sm (fun _ _ _ h => h) ?_ ?_; (first | exact trivial | omega | decide); clear hF a; intro a hF))
    (first | (apply t_fieldA (i := 8) hF rfl rfl rfl rfl rfl; kernel_rfl; exact hM.sm; exact (fun _ _ _ h => h); clear hF a; intro a hF))
    (first | (apply t_loadP (i := 9) hF rfl rfl rfl; (repeat (first | exact List.mem_cons_self | refine List.mem_cons_of_mem _ ?_)); (first | with_reducible assumption | (simp only [Int.toNat_natCast]; with_reducible assumption)); exact rfl; exact rfl; kernel_rfl; exact hM.sm; exact (fun _ _ _ h => h); clear hF a; intro a hF))
    (first | (refine t_pure (i := 10) hF rfl rfl rfl rfl (by kernel_rfl) hM.sm (fun _ _ _ h => h) ?_ ?_; (first | exact trivial | omega | decide); clear hF a; intro a hF))
    rw [decide_eq_false (show ¬ ¬ v = v by simp)] at hF
    (first | (refine t_pure (i := 11) hF rfl rfl rfl rfl (by kernel_rfl) (hM.sm.sub (fun x hx => by repeat (first | exact hx | refine List.mem_cons_of_mem _ ?_)) (fun _ h => by repeat (first | exact h | refine List.mem_cons_of_mem _ ?_))) (fun _ _ _ h => h) ?_ ?_; (first | exact trivial | omega | decide); clear hF a; intro a hF))
    (first | (refine t_pure (i := 12) hF rfl rfl rfl rfl (by kernel_rfl) (hM.sm.sub (fun x hx => by repeat (first | exact hx | refine List.mem_cons_of_mem _ ?_)) (fun _ h => by repeat (first | exact h | refine List.mem_cons_of_mem _ ?_))) (fun _ _ _ h => h) ?_ ?_; (first | exact trivial | omega | decide); clear hF a; intro a hF))
    (first | (refine t_pure (i := 13) hF rfl rfl rfl rfl (by kernel_rfl) (hM.sm.sub (fun x hx => by repeat (first | exact hx | refine List.mem_cons_of_mem _ ?_)) (fun _ h => by repeat (first | exact h | refine List.mem_cons_of_mem _ ?_))) (fun _ _ _ h => h) ?_ ?_; (first | exact trivial | omega | decide); clear hF a; intro a hF))
    (first | (refine t_pure (i := 14) hF rfl rfl rfl rfl (by kernel_rfl) (hM.sm.sub (fun x hx => by repeat (first | exact hx | refine List.mem_cons_of_mem _ ?_)) (fun _ h => by repeat (first | exact h | refine List.mem_cons_of_mem _ ?_))) (fun _ _ _ h => h) ?_ ?_; (first | exact trivial | omega | decide); clear hF a; intro a hF))
    (first | (apply t_fieldA (i := 15) hF rfl rfl rfl rfl rfl; kernel_rfl; exact (hM.sm.sub (fun x hx => by repeat (first | exact hx | refine List.mem_cons_of_mem _ ?_)) (fun _ h => by repeat (first | exact h | refine List.mem_cons_of_mem _ ?_))); exact (fun _ _ _ h => h); clear hF a; intro a hF))
    (first | (apply t_loadP (i := 16) hF rfl rfl rfl; (repeat (first | exact List.mem_cons_self | refine List.mem_cons_of_mem _ ?_)); (first | with_reducible assumption | (simp only [Int.toNat_natCast]; with_reducible assumption)); exact rfl; exact rfl; kernel_rfl; exact (hM.sm.sub (fun x hx => by repeat (first | exact hx | refine List.mem_cons_of_mem _ ?_)) (fun _ h => by repeat (first | exact h | refine List.mem_cons_of_mem _ ?_))); exact (fun _ _ _ h => h); clear hF a; intro a hF))
    (first | (refine t_pure (i := 17) hF rfl rfl rfl rfl (by kernel_rfl) (hM.sm.sub (fun x hx => by repeat (first | exact hx | refine List.mem_cons_of_mem _ ?_)) (fun _ h => by repeat (first | exact h | refine List.mem_cons_of_mem _ ?_))) (fun _ _ _ h => h) ?_ ?_; (first | exact trivial | omega | decide); clear hF a; intro a hF))
    (first | (refine t_pure (i := 18) hF rfl rfl rfl rfl (by kernel_rfl) (hM.sm.sub (fun x hx => by repeat (first | exact hx | refine List.mem_cons_of_mem _ ?_)) (fun _ h => by repeat (first | exact h | refine List.mem_cons_of_mem _ ?_))) (fun _ _ _ h => h) ?_ ?_; (first | exact trivial | omega | decide); clear hF a; intro a hF))
    (first | (refine t_pure (i := 19) hF rfl rfl rfl rfl (by kernel_rfl) (hM.sm.sub (fun x hx => by repeat (first | exact hx | refine List.mem_cons_of_mem _ ?_)) (fun _ h => by repeat (first | exact h | refine List.mem_cons_of_mem _ ?_))) (fun _ _ _ h => h) ?_ ?_; (first | exact trivial | omega | decide); clear hF a; intro a hF))
    (first | (apply t_fieldA (i := 20) hF rfl rfl rfl rfl rfl; kernel_rfl; exact (hM.sm.sub (fun x hx => by repeat (first | exact hx | refine List.mem_cons_of_mem _ ?_)) (fun _ h => by repeat (first | exact h | refine List.mem_cons_of_mem _ ?_))); exact (fun _ _ _ h => h); clear hF a; intro a hF))
    (first | (apply t_loadP (i := 21) hF rfl rfl rfl; (repeat (first | exact List.mem_cons_self | refine List.mem_cons_of_mem _ ?_)); (first | with_reducible assumption | (simp only [Int.toNat_natCast]; with_reducible assumption)); exact rfl; exact rfl; kernel_rfl; exact (hM.sm.sub (fun x hx => by repeat (first | exact hx | refine List.mem_cons_of_mem _ ?_)) (fun _ h => by repeat (first | exact h | refine List.mem_cons_of_mem _ ?_))); exact (fun _ _ _ h => h); clear hF a; intro a hF))
    (first | (refine t_pure (i := 22) hF rfl rfl rfl rfl (by kernel_rfl) (hM.sm.sub (fun x hx => by repeat (first | exact hx | refine List.mem_cons_of_mem _ ?_)) (fun _ h => by repeat (first | exact h | refine List.mem_cons_of_mem _ ?_))) (fun _ _ _ h => h) ?_ ?_; (first | exact trivial | omega | decide); clear hF a; intro a hF))
    rw [decide_eq_false (show ¬ ¬ s = s by simp)] at hF
    (first | (refine t_pure (i := 23) hF rfl rfl rfl rfl (by kernel_rfl) (hM.sm.sub (fun x hx => by repeat (first | exact hx | refine List.mem_cons_of_mem _ ?_)) (fun _ h => by repeat (first | exact h | refine List.mem_cons_of_mem _ ?_))) (fun _ _ _ h => h) ?_ ?_; (first | exact trivial | omega | decide); clear hF a; intro a hF))
    (first | (refine t_pure (i := 24) hF rfl rfl rfl rfl (by kernel_rfl) (hM.sm.sub (fun x hx => by repeat (first | exact hx | refine List.mem_cons_of_mem _ ?_)) (fun _ h => by repeat (first | exact h | refine List.mem_cons_of_mem _ ?_))) (fun _ _ _ h => h) ?_ ?_; (first | exact trivial | omega | decide); clear hF a; intro a hF))
    (first | (refine t_pure (i := 25) hF rfl rfl rfl rfl (by kernel_rfl) (hM.sm.sub (fun x hx => by repeat (first | exact hx | refine List.mem_cons_of_mem _ ?_)) (fun _ h => by repeat (first | exact h | refine List.mem_cons_of_mem _ ?_))) (fun _ _ _ h => h) ?_ ?_; (first | exact trivial | omega | decide); clear hF a; intro a hF))
    (first | (refine t_pure (i := 26) hF rfl rfl rfl rfl (by kernel_rfl) (hM.sm.sub (fun x hx => by repeat (first | exact hx | refine List.mem_cons_of_mem _ ?_)) (fun _ h => by repeat (first | exact h | refine List.mem_cons_of_mem _ ?_))) (fun _ _ _ h => h) ?_ ?_; (first | exact trivial | omega | decide); clear hF a; intro a hF))
    (first | (refine t_pure (i := 27) hF rfl rfl rfl rfl (by kernel_rfl) (hM.sm.sub (fun x hx => by repeat (first | exact hx | refine List.mem_cons_of_mem _ ?_)) (fun _ h => by repeat (first | exact h | refine List.mem_cons_of_mem _ ?_))) (fun _ _ _ h => h) ?_ ?_; (first | exact trivial | omega | decide); clear hF a; intro a hF))
    (first | (apply t_fieldA (i := 28) hF rfl rfl rfl rfl rfl; kernel_rfl; exact (hM.sm.sub (fun x hx => by repeat (first | exact hx | refine List.mem_cons_of_mem _ ?_)) (fun _ h => by repeat (first | exact h | refine List.mem_cons_of_mem _ ?_))); exact (fun _ _ _ h => h); clear hF a; intro a hF))
    (first | (apply t_loadP (i := 29) hF rfl rfl rfl; (repeat (first | exact List.mem_cons_self | refine List.mem_cons_of_mem _ ?_)); (first | with_reducible assumption | (simp only [Int.toNat_natCast]; with_reducible assumption)); exact rfl; exact rfl; kernel_rfl; exact (hM.sm.sub (fun x hx => by repeat (first | exact hx | refine List.mem_cons_of_mem _ ?_)) (fun _ h => by repeat (first | exact h | refine List.mem_cons_of_mem _ ?_))); exact (fun _ _ _ h => h); clear hF a; intro a hF))
    (first | (refine t_pure (i := 30) hF rfl rfl rfl rfl (by kernel_rfl) (hM.sm.sub (fun x hx => by repeat (first | exact hx | refine List.mem_cons_of_mem _ ?_)) (fun _ h => by repeat (first | exact h | refine List.mem_cons_of_mem _ ?_))) (fun _ _ _ h => h) ?_ ?_; (first | exact trivial | omega | decide); clear hF a; intro a hF))
    (first | (refine t_pure (i := 31) hF rfl rfl rfl rfl (by kernel_rfl) (hM.sm.sub (fun x hx => by repeat (first | exact hx | refine List.mem_cons_of_mem _ ?_)) (fun _ h => by repeat (first | exact h | refine List.mem_cons_of_mem _ ?_))) (fun _ _ _ h => h) ?_ ?_; (first | exact trivial | omega | decide); clear hF a; intro a hF))
    (first | (refine t_pure (i := 32) hF rfl rfl rfl rfl (by kernel_rfl) (hM.sm.sub (fun x hx => by repeat (first | exact hx | refine List.mem_cons_of_mem _ ?_)) (fun _ h => by repeat (first | exact h | refine List.mem_cons_of_mem _ ?_))) (fun _ _ _ h => h) ?_ ?_; (first | exact trivial | omega | decide); clear hF a; intro a hF))
    (first | (apply t_fieldA (i := 33) hF rfl rfl rfl rfl rfl; kernel_rfl; exact (hM.sm.sub (fun x hx => by repeat (first | exact hx | refine List.mem_cons_of_mem _ ?_)) (fun _ h => by repeat (first | exact h | refine List.mem_cons_of_mem _ ?_))); exact (fun _ _ _ h => h); clear hF a; intro a hF))
    (first | (apply t_loadP (i := 34) hF rfl rfl rfl; (repeat (first | exact List.mem_cons_self | refine List.mem_cons_of_mem _ ?_)); (first | with_reducible assumption | (simp only [Int.toNat_natCast]; with_reducible assumption)); exact rfl; exact rfl; kernel_rfl; exact (hM.sm.sub (fun x hx => by repeat (first | exact hx | refine List.mem_cons_of_mem _ ?_)) (fun _ h => by repeat (first | exact h | refine List.mem_cons_of_mem _ ?_))); exact (fun _ _ _ h => h); clear hF a; intro a hF))
    refine t_one (i := 35) hF rfl (by kernel_rfl) rfl ?_
    intro K hK
    (apply x_call hF hM; exact rfl; exact rfl; exact rfl; exact rfl; exact (SameS_c x x t8 t8 ax ax' xl xl cx cx' hxq hxq (by omega) _ _ hM.lt (hM.facts (RdF (Value.int .u8) ax x.flatten) (by (repeat (first | with_reducible exact List.mem_cons_self | refine List.mem_cons_of_mem _ ?_)))) (hM.facts (RdF (Value.int .u8) ax' x.flatten) (by (repeat (first | with_reducible exact List.mem_cons_self | refine List.mem_cons_of_mem _ ?_))))); clear hF hM a; rintro v w a rfl - hM hF)
    rw [decide_eq_true rfl] at hF
    refine hK _ _ (fun _ => (hM.sm.sub (fun x hx => by repeat (first | exact hx | refine List.mem_cons_of_mem _ ?_)) (fun _ h => by repeat (first | exact h | refine List.mem_cons_of_mem _ ?_)))) ?_; clear hK
    (first | (refine t_pure (i := 36) hF rfl rfl rfl rfl (by kernel_rfl) (hM.sm.sub (fun x hx => by repeat (first | exact hx | refine List.mem_cons_of_mem _ ?_)) (fun _ h => by repeat (first | exact h | refine List.mem_cons_of_mem _ ?_))) (fun _ _ _ h => h) ?_ ?_; (first | exact trivial | omega | decide); clear hF a; intro a hF))
    (first | (refine t_pure (i := 37) hF rfl rfl rfl rfl (by kernel_rfl) (hM.sm.sub (fun x hx => by repeat (first | exact hx | refine List.mem_cons_of_mem _ ?_)) (fun _ h => by repeat (first | exact h | refine List.mem_cons_of_mem _ ?_))) (fun _ _ _ h => h) ?_ ?_; (first | exact trivial | omega | decide); clear hF a; intro a hF))
    refine t_done (by kernel_rfl) ?_
    (repeat' (first | (with_reducible refine c_region ?_) | (with_reducible refine s_nil ?_) | (with_reducible refine q_then_n ?_) | ((with_reducible apply s_pure hF); exact rfl; exact rfl; exact rfl; (first | exact trivial | omega | exact ⟨Int.natCast_nonneg _, Int.ofNat_lt.2 (by assumption)⟩ | decide); clear hF a; intro a hF) | (with_reducible refine w_skip ?_) | (with_reducible refine q_blk_n ?_) | ((with_reducible apply c_false2 hF); exact rfl; (first | with_reducible rfl | (refine congrArg Value.bool ?_; focus (simp; done))))))
    exact ⟨z - 1, by omega, k + 1, by omega, hF.sub (by repeat (first | exact Sub.nil | refine Sub.cons rfl (by first | with_reducible rfl | (refine congrArg (Value.int _) ?_; omega) | exact rfl) ?_)), hM.sub (.refl _) (.refl _) (by intro f hf; simp only [List.mem_cons, List.not_mem_nil, or_false] at hf; (repeat (rcases hf with rfl | hf; · (repeat (first | exact List.mem_cons_self | refine List.mem_cons_of_mem _ ?_)))); first | (subst hf; (repeat (first | exact List.mem_cons_self | refine List.mem_cons_of_mem _ ?_)); done) | (repeat (first | exact hf | refine List.mem_cons_of_mem _ ?_)))⟩
  · (repeat' (first | (with_reducible refine w_seq ?_) | (with_reducible refine c_region ?_) | (with_reducible refine s_nil ?_) | (with_reducible refine q_then_n ?_) | ((with_reducible apply s_pure hF); exact rfl; exact rfl; exact rfl; (first | exact trivial | omega | exact ⟨Int.natCast_nonneg _, Int.ofNat_lt.2 (by assumption)⟩ | decide); clear hF a; intro a hF) | (with_reducible refine w_exit ?_) | (with_reducible refine w_ret ?_) | (with_reducible refine q_then_x ?_) | (with_reducible refine q_blk_x ?_) | ((with_reducible apply c_dec hF); exact rfl; all_goals intro hc; all_goals (try (exfalso; omega)))))
    (apply f_ret Try.results73 hF hM; (repeat (first | exact RL.nil | (apply RL.tmp; exact rfl) | (apply RL.cell; exact rfl; (repeat (first | exact List.mem_cons_self | refine List.mem_cons_of_mem _ ?_)); exact rfl))); refine Ret.mk hM.since ?_; dsimp only [resV])
end
end Go.Proofs.Ytadfdpkhehdikaa


/- standbyref23.Same at equal cycles. -/
namespace Go.Proofs.Ytadfdpkhehdikaa
open Go.RowKit Go.Shelf D29 B31
section
variable (cb cn ct : Int) (pos : List Int) (np : Nat) (hnp : pos.length = np) (hnp6 : np ≤ 1000) (ts us : List WP) (he : wms ts = wms us) (h8 : ∀ t ∈ ts, W8 t.1.x ∧ t.1.x.length ≤ 24) (n : Nat) (hn : ts.length = n) (hn6 : n ≤ 1000) (p0 p1 a0 a1 : Option Addr) (d0 d1 c0 c1 : Nat) (own : Nat → Prop) (W : World) (hl : ∀ b, own b → b < W.heap.size) (k1 : Has own W (RdF id a0 (cellsW ts))) (k2 : Has own W (DatF (wP ts))) (k3 : Has own W (RdF id a1 (cellsW us))) (k4 : Has own W (DatF (wP us))) (k5 : Has own W (RdF (Value.int .i64) p0 pos)) (k6 : Has own W (RdF (Value.int .i64) p1 pos))
include hnp hnp6 he h8 hn hn6 hl k1 k2 k3 k4 k5 k6
theorem same23_c : Calls Try.prog 29 ⟨[cyV cb cn ct p0 np d0 a0 n c0, cyV cb cn ct p1 np d1 a1 n c1]⟩ W (Ret W fun v _ => v = .bool true) := by
  have hM := ((((((Mm.start hl).known k6).known k5).known k4).known k3).known k2).known k1
  have e1 := fun {own W} hl h1 h2 => sameIntsT_c pos np hnp (by omega) p0 p1 d0 d1 own W hl h1 h2
  have e2 := fun {own W} hl k1 k2 k3 k4 => sameWrites_c ts us he h8 n hn hn6 a0 a1 c0 c1 own W hl k1 k2 k3 k4
  refine f_start Try.func29 rfl Try.ntmps29 rfl rfl ?_; intro a hF
  (repeat (first | (with_reducible refine w_seq ?_) | (with_reducible refine c_region ?_) | (with_reducible refine s_nil ?_) | (with_reducible refine q_then_n ?_) | ((with_reducible apply s_pure hF); exact rfl; exact rfl; exact rfl; (first | exact trivial | omega | exact ⟨Int.natCast_nonneg _, Int.ofNat_lt.2 (by assumption)⟩ | decide); clear hF a; intro a hF) | ((with_reducible apply s_load hF hM); exact rfl; exact rfl; (repeat (first | exact List.mem_cons_self | refine List.mem_cons_of_mem _ ?_)); exact rfl; exact rfl; clear hF a; intro a hF) | ((with_reducible apply s_box hF hM); exact rfl; exact rfl; exact rfl; exact rfl; clear hF hM a; intro b w a hM hF)))
  rw [decide_eq_true (show cb = cb from rfl)] at hF
  (repeat (first | ((with_reducible apply s_pure hF); exact rfl; exact rfl; exact rfl; (first | exact trivial | omega | exact ⟨Int.natCast_nonneg _, Int.ofNat_lt.2 (by assumption)⟩ | decide); clear hF a; intro a hF) | ((with_reducible apply s_load hF hM); exact rfl; exact rfl; (repeat (first | exact List.mem_cons_self | refine List.mem_cons_of_mem _ ?_)); exact rfl; exact rfl; clear hF a; intro a hF)))
  rw [decide_eq_true (show cn = cn from rfl)] at hF
  (repeat (first | ((with_reducible apply s_pure hF); exact rfl; exact rfl; exact rfl; (first | exact trivial | omega | exact ⟨Int.natCast_nonneg _, Int.ofNat_lt.2 (by assumption)⟩ | decide); clear hF a; intro a hF) | ((with_reducible apply s_load hF hM); exact rfl; exact rfl; (repeat (first | exact List.mem_cons_self | refine List.mem_cons_of_mem _ ?_)); exact rfl; exact rfl; clear hF a; intro a hF)))
  rw [decide_eq_true (show ct = ct from rfl)] at hF
  (repeat (first | (with_reducible refine s_nil ?_) | ((with_reducible apply s_call (f := 72) hF hM); exact rfl; exact rfl; exact rfl; exact rfl; exact rfl; exact (e1 hM.lt (hM.facts (RdF (Value.int .i64) p0 pos) (by (repeat (first | with_reducible exact List.mem_cons_self | refine List.mem_cons_of_mem _ ?_)))) (hM.facts (RdF (Value.int .i64) p1 pos) (by (repeat (first | with_reducible exact List.mem_cons_self | refine List.mem_cons_of_mem _ ?_))))); clear hF hM a; rintro v w a rfl - hM hF) | ((with_reducible apply s_call (f := 73) hF hM); exact rfl; exact rfl; exact rfl; exact rfl; exact rfl; exact (e2 hM.lt (hM.facts (RdF id a0 (cellsW ts)) (by (repeat (first | with_reducible exact List.mem_cons_self | refine List.mem_cons_of_mem _ ?_)))) (hM.facts (DatF (wP ts)) (by (repeat (first | with_reducible exact List.mem_cons_self | refine List.mem_cons_of_mem _ ?_)))) (hM.facts (RdF id a1 (cellsW us)) (by (repeat (first | with_reducible exact List.mem_cons_self | refine List.mem_cons_of_mem _ ?_)))) (hM.facts (DatF (wP us)) (by (repeat (first | with_reducible exact List.mem_cons_self | refine List.mem_cons_of_mem _ ?_))))); clear hF hM a; rintro v w a rfl - hM hF) | (with_reducible refine q_then_n ?_) | ((with_reducible apply s_pure hF); exact rfl; exact rfl; exact rfl; (first | exact trivial | omega | exact ⟨Int.natCast_nonneg _, Int.ofNat_lt.2 (by assumption)⟩ | decide); clear hF a; intro a hF) | ((with_reducible apply s_load hF hM); exact rfl; exact rfl; (repeat (first | exact List.mem_cons_self | refine List.mem_cons_of_mem _ ?_)); exact rfl; exact rfl; clear hF a; intro a hF) | (with_reducible refine w_ret ?_)))
  (apply f_ret Try.results29 hF hM; (repeat (first | exact RL.nil | (apply RL.tmp; exact rfl) | (apply RL.cell; exact rfl; (repeat (first | exact List.mem_cons_self | refine List.mem_cons_of_mem _ ?_)); exact rfl))); refine Ret.mk hM.since ?_; dsimp only [resV])
end
end Go.Proofs.Ytadfdpkhehdikaa


/- The rest of a division whose dividend may be negative. -/
namespace Go.Proofs.Ytadfdpkhehdikaa
open Go.RowKit Go.Shelf D29 B31
section
variable {n : Nat} {ds : List Deferred} {l : List (Nat × Value)} {a : Act} {w : World}
variable {os rest : List Oper} {Q : Exit → Act → World → Prop}
variable {d : Nat} {ty : TypeId} {pos : String} {af : Array Edge} {g : Option (Nat × Bool)}
theorem e_remT {t t' : TypeId} {X Y : Operand} {x y : Int} (hF : Fr n ds l a) (hX : ev l X = some (.int .i64 x)) (hY : ev l Y = some (.int .i64 y)) (hy : 0 < y) (hx : -9223372036854775808 ≤ Int.tmod x y ∧ Int.tmod x y ≤ 9223372036854775807) (w : World) {dst : Option Tmp} :
    (execOp a.eval ⟨dst, .binOp .rem t X Y t', ty, pos, af, g⟩).run Try.prog w = .ok (.value (.int .i64 (Int.tmod x y))) w := by
  have h0 : y ≠ 0 := by omega
  have hw : IntKind.wrap .i64 (Int.tmod x y) = Int.tmod x y := by
    simp [IntKind.wrap, IntKind.signed, IntKind.bits]
    omega
  have hr : (Op.intDiv .rem .i64 x y).run Try.prog w = .ok (.int .i64 (Int.tmod x y)) w := by
    unfold Op.intDiv
    simp [h0, hw]
  simp [execOp, hF.eval hX, hF.eval hY, eqGuard, Sem.run_bind, Result.andThen, binOp, hr]
theorem s_remT {t t' : TypeId} {X Y : Operand} {x y : Int} (hF : Fr n ds l a) (hg : wantO os l g = some true) (hX : ev l X = some (.int .i64 x)) (hY : ev l Y = some (.int .i64 y)) (hy : 0 < y) (hx : -9223372036854775808 ≤ Int.tmod x y ∧ Int.tmod x y ≤ 9223372036854775807) (hd : Nat.blt d n = true)
    (kk : ∀ a, Fr n ds ((d, .int .i64 (Int.tmod x y)) :: l) a → wl ⟨os⟩ Q rest a w) : wl ⟨os⟩ Q (⟨some d, .binOp .rem t X Y t', ty, pos, af, g⟩ :: rest) a w :=
  s_op hF hg fun _ hK => upon_value (e_remT hF hX hY hy hx w) (hK _ _ (kk _ (hF.put hd _)))
end
theorem runPlace_c (l : List Int) (m : Nat) (hm : l.length = m) (i : Nat) (hi : i ≤ 1000) (n : Nat) (hn : 1 ≤ n ∧ n ≤ 1000) (a0 : Option Addr) (c0 : Nat) (own : Nat → Prop) (W : World) (hl : ∀ b, own b → b < W.heap.size) (hv : Has own W (RdF (Value.int .i64) a0 l)) :
    Calls Try.prog 25 ⟨[.slice a0 m c0, .int .i64 i, .int .i64 n]⟩ W (Ret W fun v _ => v = .int .i64 (rpl l i n)) := by
  have hM := (Mm.start hl).known hv
  unfold rpl
  by_cases hk : i < m
  · obtain ⟨x, hx⟩ := get_of_lt (l := l) (i := i) (by omega)
    obtain ⟨ad, rfl⟩ := rd_some hM (a := a0) (by (repeat (first | exact List.mem_cons_self | refine List.mem_cons_of_mem _ ?_))) hx
    rw [hx]
    have h1 := Int.lt_tmod_of_pos x (show (0 : Int) < n by omega)
    have h3 := Int.tmod_lt_of_pos x (show (0 : Int) < n by omega)
    have h4 := Int.tmod_nonneg (n : Int) (show 0 ≤ Int.tmod x n + n by omega)
    have h5 := Int.tmod_lt_of_pos (Int.tmod x n + n) (show (0 : Int) < n by omega)
    refine f_start Try.func25 rfl Try.ntmps25 rfl rfl ?_; intro a hF
    (repeat' (first | (with_reducible refine w_seq ?_) | (with_reducible refine c_region ?_) | (with_reducible refine s_nil ?_) | (with_reducible refine q_then_n ?_) | ((with_reducible apply s_pure hF); exact rfl; exact rfl; exact rfl; (first | exact trivial | omega | exact ⟨Int.natCast_nonneg _, Int.ofNat_lt.2 (by assumption)⟩ | decide); clear hF a; intro a hF) | ((with_reducible apply s_loadF hF hM); exact rfl; exact rfl; (repeat (first | exact List.mem_cons_self | refine List.mem_cons_of_mem _ ?_)); exact rfl; exact rfl; (first | with_reducible assumption | (simp only [Int.toNat_natCast]; with_reducible assumption)); clear hF a; intro a hF) | (with_reducible refine w_skip ?_) | ((with_reducible apply c_dec hF); exact rfl; all_goals intro hc; all_goals (try (exfalso; omega)))))
    apply s_remT (x := x) (y := (n : Int)) hF
    · exact rfl
    · exact rfl
    · exact rfl
    · omega
    · exact ⟨by omega, by omega⟩
    · exact rfl
    clear hF a
    intro a hF
    (repeat' (first | (with_reducible refine s_nil ?_) | (with_reducible refine q_then_n ?_) | ((with_reducible apply s_pure hF); exact rfl; exact rfl; exact rfl; (first | exact trivial | omega | exact ⟨Int.natCast_nonneg _, Int.ofNat_lt.2 (by assumption)⟩ | decide); clear hF a; intro a hF) | (with_reducible refine w_ret ?_)))
    (apply f_ret Try.results25 hF hM; (repeat (first | exact RL.nil | (apply RL.tmp; exact rfl) | (apply RL.cell; exact rfl; (repeat (first | exact List.mem_cons_self | refine List.mem_cons_of_mem _ ?_)); exact rfl))); refine Ret.mk hM.since ?_; dsimp only [resV])
    rw [Int.tmod_eq_emod_of_nonneg (show 0 ≤ Int.tmod x n + n by omega)]
  · rw [List.getElem?_eq_none (by omega)]
    refine f_start Try.func25 rfl Try.ntmps25 rfl rfl ?_; intro a hF
    (repeat' (first | (with_reducible refine w_seq ?_) | (with_reducible refine c_region ?_) | (with_reducible refine s_nil ?_) | (with_reducible refine q_then_n ?_) | ((with_reducible apply s_pure hF); exact rfl; exact rfl; exact rfl; (first | exact trivial | omega | exact ⟨Int.natCast_nonneg _, Int.ofNat_lt.2 (by assumption)⟩ | decide); clear hF a; intro a hF) | (with_reducible refine w_ret ?_) | (with_reducible refine q_then_r ?_) | ((with_reducible apply c_dec hF); exact rfl; all_goals intro hc; all_goals (try (exfalso; omega)))))
    (apply f_ret Try.results25 hF hM; (repeat (first | exact RL.nil | (apply RL.tmp; exact rfl) | (apply RL.cell; exact rfl; (repeat (first | exact List.mem_cons_self | refine List.mem_cons_of_mem _ ?_)); exact rfl))); refine Ret.mk hM.since ?_; dsimp only [resV])
end Go.Proofs.Ytadfdpkhehdikaa


/- Plain laws of the parts of a cycle, and of an assembly that has some of them. -/
namespace Go.Proofs.Ytadfdpkhehdikaa
open Go.RowKit Go.Shelf D29 B31
namespace B31
/-- How many parts. -/
def cntB (p : Nat) (E : List Int) : Nat := (E.length + p - 1) / p
theorem cnt_lt {p k : Nat} {E : List Int} (hp : 1 ≤ p) : k < cntB p E ↔ k * p < E.length := nparts_lt hp
theorem cnt_pos {p : Nat} {E : List Int} (hp : 1 ≤ p) (hE : 1 ≤ E.length) : 1 ≤ cntB p E := (cnt_lt (k := 0) hp).2 (by omega)
theorem partB_one {p k : Nat} {E : List Int} (hp : 1 ≤ p) (hk : k < cntB p E) : 1 ≤ (partB p E k).length := by
  have := (cnt_lt hp).1 hk
  rw [partB_len]
  omega
theorem partB_le {p k : Nat} {E : List Int} : (partB p E k).length ≤ p := by rw [partB_len]; omega
theorem partB_flat (p : Nat) (E : List Int) : ∀ n, ((List.range n).map (partB p E)).flatten = E.take (n * p)
  | 0 => by simp
  | n + 1 => by
    rw [List.range_succ, List.map_append, List.flatten_append, partB_flat p E n, Nat.succ_mul, List.take_add]
    simp [partB]
theorem partB_all {p : Nat} (hp : 1 ≤ p) (E : List Int) : ((List.range (cntB p E)).map (partB p E)).flatten = E := by
  rw [partB_flat, List.take_of_length_le]
  have := cnt_lt (E := E) (p := p) (k := cntB p E) hp
  have h : ¬ cntB p E * p < E.length := fun h => Nat.lt_irrefl _ (this.2 h)
  omega
/-- What an assembly has: the parts that are chosen. -/
def hvS (p : Nat) (E : List Int) (N : Nat) (S : Nat → Bool) : List (List Int) := (List.range N).map fun k => if S k = true then partB p E k else []
theorem hvS_len {p : Nat} {E : List Int} {N : Nat} {S : Nat → Bool} : (hvS p E N S).length = N := by simp [hvS]
theorem hvS_get {p : Nat} {E : List Int} {N : Nat} {S : Nat → Bool} {k : Nat} (h : k < N) : (hvS p E N S)[k]? = some (if S k = true then partB p E k else []) := by
  simp [hvS, h]
theorem hvS_in {p : Nat} {E : List Int} {N : Nat} {S : Nat → Bool} {k : Nat} {q : List Int} (hq : (hvS p E N S)[k]? = some q) : q = [] ∨ q = partB p E k := by
  have hk := (List.getElem?_eq_some_iff.1 hq).1
  rw [hvS_len] at hk
  rw [hvS_get hk] at hq
  injection hq with hq
  subst hq
  split
  · exact .inr rfl
  · exact .inl rfl
theorem hvS_mem {p : Nat} {E : List Int} {N : Nat} {S : Nat → Bool} {x : List Int} (h : x ∈ hvS p E N S) : x.length ≤ p := by
  obtain ⟨k, -, rfl⟩ := List.mem_map.1 h
  split
  · exact partB_le
  · simp
theorem seenB_hvS {p : Nat} {E : List Int} {S : Nat → Bool} (hp : 1 ≤ p) : seenB (hvS p E (cntB p E) S) = (List.range (cntB p E)).map S := by
  unfold seenB hvS
  rw [List.map_map]
  refine List.map_congr_left fun k hk => ?_
  have := partB_one hp (List.mem_range.1 hk)
  simp only [Function.comp]
  split
  · rename_i h
    rw [h, decide_eq_true (by omega)]
  · rename_i h
    simp at h
    rw [h]
    rfl
/-- A part more. -/
def addS (S : Nat → Bool) (i : Nat) : Nat → Bool := fun k => S k || decide (k = i)
theorem hvS_set {p : Nat} {E : List Int} {N : Nat} {S : Nat → Bool} {i : Nat} : (hvS p E N S).set i (partB p E i) = hvS p E N (addS S i) := by
  refine List.ext_getElem? fun k => ?_
  rw [List.getElem?_set, hvS_len]
  by_cases hk : k < N
  · rw [hvS_get hk, hvS_get hk]
    unfold addS
    by_cases e : i = k
    · subst e
      simp [hk]
    · have e2 : ¬ k = i := fun h => e h.symm
      simp [e, e2]
  · rw [List.getElem?_eq_none (by rw [hvS_len]; omega), List.getElem?_eq_none (by rw [hvS_len]; omega)]
    split
    · rw [if_neg (by omega)]
    · rfl
theorem rng_set {N : Nat} {S : Nat → Bool} {i : Nat} : ((List.range N).map S).set i true = (List.range N).map (addS S i) := by
  refine List.ext_getElem? fun k => ?_
  rw [List.getElem?_set, List.length_map, List.length_range]
  by_cases hk : k < N
  · rw [List.getElem?_map, List.getElem?_map, List.getElem?_range hk]
    unfold addS
    by_cases e : i = k
    · subst e
      simp [hk]
    · have e2 : ¬ k = i := fun h => e h.symm
      simp [e, e2]
  · rw [List.getElem?_eq_none (by simp; omega), List.getElem?_eq_none (by simp; omega)]
    split
    · rw [if_neg (by omega)]
    · rfl
/-- None. -/
def noS : Nat → Bool := fun _ => false
theorem hvS_no {p : Nat} {E : List Int} {N : Nat} : List.replicate N ([] : List Int) = hvS p E N noS := by
  refine List.ext_getElem? fun k => ?_
  by_cases hk : k < N
  · rw [hvS_get hk, List.getElem?_replicate, if_pos hk]
    rfl
  · rw [List.getElem?_eq_none (by simp; omega), List.getElem?_eq_none (by rw [hvS_len]; omega)]
theorem rng_no {N : Nat} : List.replicate N false = (List.range N).map noS := by
  refine List.ext_getElem? fun k => ?_
  by_cases hk : k < N
  · rw [List.getElem?_map, List.getElem?_range hk, List.getElem?_replicate, if_pos hk]
    rfl
  · rw [List.getElem?_eq_none (by simp; omega), List.getElem?_eq_none (by simp; omega)]
/-- An assembly with the parts that are chosen. -/
theorem asOk_hvS {p : Nat} {E : List Int} {cn : Int} {N : Nat} {S : Nat → Bool} (hn : 1 ≤ cn ∧ cn ≤ 1073741824) (hp : p ≤ 4096) (hN : 1 ≤ N ∧ N ≤ 65536) : AsOk cn (sumB E) N (hvS p E N S) := by
  have := sumB_bd E
  exact ⟨hn, hN, by omega, hvS_len, fun x hx => by have := hvS_mem hx; omega⟩
/-- Parts of a list more. -/
def addL (S : Nat → Bool) (l : List Int) : Nat → Bool := fun k => S k || decide ((k : Int) ∈ l)
theorem addL_nil {S : Nat → Bool} : addL S [] = S := by funext k; simp [addL]
theorem addL_step {S : Nat → Bool} {l : List Int} {k j : Nat} (h : l[k]? = some (j : Int)) : addS (addL S (l.take k)) j = addL S (l.take (k + 1)) := by
  funext i
  unfold addS addL
  rw [take_snoc h]
  by_cases e : i = j
  · subst e; simp
  · have e2 : ¬ (i : Int) = (j : Int) := by omega
    simp [e, e2, Bool.or_assoc]
theorem miss_mem {S : Nat → Bool} {N : Nat} {y : Int} (h : y ∈ missL ((List.range N).map S) 0) : ∃ j : Nat, y = j ∧ j < N ∧ S j = false := by
  obtain ⟨j, h1, h2⟩ := missL_mem _ _ _ h
  rw [Nat.zero_add] at h1
  have hj := (List.getElem?_eq_some_iff.1 h2).1
  rw [List.length_map, List.length_range] at hj
  rw [List.getElem?_map, List.getElem?_range hj] at h2
  exact ⟨j, h1, hj, by simpa using h2⟩
theorem miss_full {S : Nat → Bool} {N k : Nat} (hk : k < N) : addL S (missL ((List.range N).map S) 0) k = true := by
  unfold addL
  cases hS : S k with
  | true => rfl
  | false =>
    have := missL_has ((List.range N).map S) 0 k (by rw [List.getElem?_map, List.getElem?_range hk]; simp [hS])
    rw [Nat.zero_add] at this
    rw [decide_eq_true this]
    rfl
theorem hvS_full {p : Nat} {E : List Int} {N : Nat} {S : Nat → Bool} (h : ∀ k, k < N → S k = true) : hvS p E N S = (List.range N).map (partB p E) :=
  List.map_congr_left fun k hk => by rw [if_pos (h k (List.mem_range.1 hk))]
theorem seen_full {N : Nat} {S : Nat → Bool} (h : ∀ k, k < N → S k = true) : ∀ x ∈ (List.range N).map S, x = true := fun x hx => by
  obtain ⟨k, hk, rfl⟩ := List.mem_map.1 hx
  exact h k (List.mem_range.1 hk)
/-- What was before a part. -/
def prvB (f : Nat → List Int) : Nat → List Int
  | 0 => []
  | k + 1 => f k
theorem puts_one (n : Nat) : 1 ≤ (puts n).length := by
  by_cases h : n < 128
  · rw [puts_lt h]; simp
  · rw [puts_ge h]; simp
theorem hdB_one (x : Int) (l : List Int) : 1 ≤ (hdB (x :: l)).length := by
  have := puts_one x.toNat
  unfold hdB
  simp only [List.map_cons, List.flatten_cons, List.length_append]
  omega
theorem encB_one (c : Cy) : 1 ≤ (encB c).length := by
  have := hdB_one c.b [c.n, c.t]
  unfold encB
  simp only [List.length_append]
  omega
theorem pcB_len {num cnt sum : Int} {p k : Nat} {E : List Int} (h0 : 0 ≤ num ∧ num ≤ 1073741824) (h1 : 0 ≤ cnt ∧ cnt ≤ 65536) (h2 : 0 ≤ sum ∧ sum ≤ 4294967295) (hk : k ≤ 65536) : 1 ≤ (pcB num cnt sum p E k).length ∧ (pcB num cnt sum p E k).length ≤ 32 + p := by
  have := partB_le (p := p) (k := k) (E := E)
  have h8 : (hdB [num, (k : Int), cnt, sum]).length ≤ 8 * 4 := flat_len8 (l := [num, (k : Int), cnt, sum]) fun x hx => by
    simp only [List.mem_cons, List.not_mem_nil, or_false] at hx
    rcases hx with rfl | rfl | rfl | rfl <;> omega
  have h9 := hdB_one num [(k : Int), cnt, sum]
  unfold pcB
  rw [List.length_append]
  exact ⟨by omega, by omega⟩
theorem pcB_by {num cnt sum : Int} {p k : Nat} {E : List Int} (hE : By E) : By (pcB num cnt sum p E k) := by_app (hdB_by _) ((hE.drop _).take _)
theorem prvB_by {f : Nat → List Int} (h : ∀ k, By (f k)) : ∀ k, By (prvB f k)
  | 0 => fun x hx => by cases hx
  | k + 1 => h k
theorem prvB_len {f : Nat → List Int} {m n : Nat} (h : ∀ k, k < n → (f k).length ≤ m) : ∀ k, k ≤ n → (prvB f k).length ≤ m
  | 0, _ => Nat.zero_le _
  | k + 1, hk => h k hk
end B31
end Go.Proofs.Ytadfdpkhehdikaa


/- Begin, Add, Missing, Cycle over an assembly that has some parts of a cycle. -/
namespace Go.Proofs.Ytadfdpkhehdikaa
open Go.RowKit Go.Shelf D29 B31
namespace B31
/-- An assembly in memory, with the parts that are chosen. -/
def AsS (own : Nat → Prop) (w : World) (cn N : Nat) (p : Nat) (E : List Int) (S : Nat → Bool) (u : Value) : Prop := ∃ (hs : List BP) (a1 : Option Addr) (c1 : Nat) (a2 : Option Addr) (c2 : Nat), u = asmV cn N (sumB E) a1 N c1 a2 N c2 ∧ hs.map (·.1) = hvS p E N S ∧ Has own w (RdF encBP a1 hs) ∧ Has own w (BytF hs) ∧ Has own w (RdF Value.bool a2 ((List.range N).map S))
end B31
section
variable (cn p : Nat) (E : List Int) (N : Nat) (hcn : 1 ≤ cn ∧ cn ≤ 1073741824) (hp : 1 ≤ p ∧ p ≤ 4096) (hE : By E) (hN : N = cntB p E) (hN6 : N ≤ 65536)
include hcn hp hE hN hN6
theorem BeginS_c (i : Nat) (hi : i < N) (x : List Int) (hx : x = pcB cn N (sumB E) p E i) (a0 : Option Addr) (m c0 : Nat) (hm : x.length = m) (hc0 : m ≤ c0) (own : Nat → Prop) (W : World) (hl : ∀ b, own b → b < W.heap.size) (hv : Has own W (RdF (Value.int .u8) a0 x)) :
    Calls Try.prog 24 ⟨[.slice a0 m c0]⟩ W (Ret W fun v w' => ∃ u, v = .tuple #[u, .int .i64 0] ∧ AsS own w' cn N p E (addS noS i) u) := by
  have hsb := sumB_bd E
  obtain ⟨s, hs⟩ : ∃ s : Nat, sumB E = s := ⟨(sumB E).toNat, by omega⟩
  have hi2 := partB_one (p := p) (E := E) (k := i) hp.1 (by omega)
  have hi3 := partB_le (p := p) (E := E) (k := i)
  unfold pcB at hx
  rw [hs] at hx
  subst hx
  refine (Begin_c cn i N s hcn hi hN6 (by omega) (partB p E i) ((hE.drop _).take _) ⟨hi2, by omega⟩ a0 m c0 hm hc0 own W hl hv).mono fun _ w' ⟨v, e1, e2, h⟩ => ⟨v, e1, e2, ?_⟩
  obtain ⟨u, h1, hq, a1, c1, a2, c2, h2, h3, h4, h5, h6, -, -⟩ := h
  refine ⟨u, h1, hq, a1, c1, a2, c2, by rw [h2, hs], ?_, h4, h5, ?_⟩
  · rw [h3, hvS_no (p := p) (E := E), hvS_set]
  · rw [rng_no, rng_set] at h6
    exact h6
theorem AddS_c (i : Nat) (hi : i < N) (x : List Int) (hx : x = pcB cn N (sumB E) p E i) (a0 : Option Addr) (m c0 : Nat) (hm : x.length = m) (hc0 : m ≤ c0) (S : Nat → Bool) (hs : List BP) (hhs : hs.map (·.1) = hvS p E N S) (a1 : Option Addr) (c1 : Nat) (a2 : Option Addr) (c2 : Nat) (own : Nat → Prop) (W : World) (hl : ∀ b, own b → b < W.heap.size) (hv : Has own W (RdF (Value.int .u8) a0 x)) (k1 : Has own W (RdF encBP a1 hs)) (k2 : Has own W (BytF hs)) (k3 : Has own W (RdF Value.bool a2 ((List.range N).map S))) :
    Calls Try.prog 26 ⟨[asmV cn N (sumB E) a1 N c1 a2 N c2, .slice a0 m c0]⟩ W (Ret W fun v w' => ∃ u, v = .tuple #[u, .int .i64 0] ∧ AsS own w' cn N p E (addS S i) u) := by
  have hsb := sumB_bd E
  have hok := asOk_hvS (p := p) (E := E) (cn := cn) (N := N) (S := S) (by omega) hp.2 (by omega)
  have hse := seenB_hvS (p := p) (E := E) (S := S) hp.1
  rw [← hN, ← hhs] at hse
  rw [← hhs] at hok
  rw [← hse] at k3
  have hin : ∀ q, hs[i]? = some q → q.1 = [] ∨ q.1 = partB p E i := fun q hq => hvS_in (p := p) (E := E) (N := N) (S := S) (k := i) (by rw [← hhs, List.getElem?_map, hq]; rfl)
  obtain ⟨s, hs2⟩ : ∃ s : Nat, sumB E = s := ⟨(sumB E).toNat, by omega⟩
  have hi2 := partB_one (p := p) (E := E) (k := i) hp.1 (by omega)
  have hi3 := partB_le (p := p) (E := E) (k := i)
  unfold pcB at hx
  rw [hs2] at hx
  subst hx
  rw [hs2] at hok
  have h := Add_c cn i N s hcn hi hN6 (by omega) (partB p E i) ((hE.drop _).take _) ⟨hi2, by omega⟩ a0 m c0 hm hc0 hs hok hin a1 c1 a2 c2 own W hl hv k1 k2 k3
  unfold AsS
  rw [hs2]
  refine h.mono fun _ w' ⟨v, e1, e2, h⟩ => ⟨v, e1, e2, ?_⟩
  obtain ⟨u, h1, hq, a3, c3, a4, c4, h2, h3, h4, h5, h6, -, -⟩ := h
  refine ⟨u, h1, hq, a3, c3, a4, c4, h2, ?_, h4, h5, ?_⟩
  · rw [h3, hhs, hvS_set]
  · rw [hse, rng_set] at h6
    exact h6
theorem MissS_c (S : Nat → Bool) (hs : List BP) (hhs : hs.map (·.1) = hvS p E N S) (hN1 : 1 ≤ N) (a1 : Option Addr) (c1 : Nat) (a2 : Option Addr) (c2 : Nat) (own : Nat → Prop) (W : World) (hl : ∀ b, own b → b < W.heap.size) (k1 : Has own W (RdF encBP a1 hs)) (k3 : Has own W (RdF Value.bool a2 ((List.range N).map S))) :
    Calls Try.prog 27 ⟨[asmV cn N (sumB E) a1 N c1 a2 N c2]⟩ W (Ret W fun v w' => ∃ a' n' c', n' = (missL ((List.range N).map S) 0).length ∧ v = .slice a' n' c' ∧ Has own w' (RdF (Value.int .i64) a' (missL ((List.range N).map S) 0))) := by
  have hok := asOk_hvS (p := p) (E := E) (cn := cn) (N := N) (S := S) (by omega) hp.2 (by omega)
  have hse := seenB_hvS (p := p) (E := E) (S := S) hp.1
  rw [← hN, ← hhs] at hse
  rw [← hhs] at hok
  rw [← hse] at k3
  have h := Missing_c cn (sumB E) N hs hok a1 c1 a2 c2 own W hl k1 k3
  rw [hse] at h
  exact h
end
section
variable (vb vn vt : Nat) (pos : List Int) (ws : List Wr) (hfw : FewW ws) (hby : BysW ws) (hc : chkC ⟨vb, vn, vt, pos, ws⟩ = 0) (E : List Int) (hE0 : encB ⟨vb, vn, vt, pos, ws⟩ = E) (p N : Nat) (hp : 1 ≤ p ∧ p ≤ 4096) (hN : N = cntB p E) (hN6 : N ≤ 65536) (hvn : 1 ≤ vn ∧ vn ≤ 1073741824)
include hfw hby hc hE0 hp hN hN6 hvn
theorem CycleS_c (S : Nat → Bool) (hS : ∀ k, k < N → S k = true) (hs : List BP) (hhs : hs.map (·.1) = hvS p E N S) (a1 : Option Addr) (c1 : Nat) (a2 : Option Addr) (c2 : Nat) (own : Nat → Prop) (W : World) (hl : ∀ b, own b → b < W.heap.size) (k1 : Has own W (RdF encBP a1 hs)) (k2 : Has own W (BytF hs)) (k3 : Has own W (RdF Value.bool a2 ((List.range N).map S))) :
    Calls Try.prog 28 ⟨[asmV vn N (sumB E) a1 N c1 a2 N c2]⟩ W (Ret W fun v w' => ∃ (ts : List WP) (a1 : Option Addr) (c1 : Nat) (a2 : Option Addr) (c2 : Nat), v = .tuple #[cyV vb vn vt a1 pos.length c1 a2 ws.length c2, .int .i64 0] ∧ wms ts = ws ∧ Has own w' (RdF (Value.int .i64) a1 pos) ∧ Has own w' (RdF id a2 (cellsW ts)) ∧ Has own w' (DatF (wP ts)) ∧ pos.length ≤ c1 ∧ ws.length ≤ c2) := by
  have hE1 : 1 ≤ E.length := by rw [← hE0]; exact encB_one _
  have hN1 := cnt_pos hp.1 hE1
  have hok := asOk_hvS (p := p) (E := E) (cn := vn) (N := N) (S := S) (by omega) hp.2 (by omega)
  have hse := seenB_hvS (p := p) (E := E) (S := S) hp.1
  rw [← hN, ← hhs] at hse
  rw [← hhs] at hok
  rw [← hse] at k3
  have hfl : (hs.map (·.1)).flatten = E := by rw [hhs, hvS_full hS, hN, partB_all hp.1]
  exact bCycle_c vb vn vt pos ws hfw hby hc E hE0 hs N hok hfl hE1 (by rw [hse]; exact seen_full hS) a1 c1 a2 c2 own W hl k1 k2 k3
end
end Go.Proofs.Ytadfdpkhehdikaa


/- The law TopCyclePacked. -/
namespace Go.Proofs.Ytadfdpkhehdikaa
open Go.RowKit Go.Shelf D29 B31
set_option maxRecDepth 20000 in
set_option maxHeartbeats 8000000 in
theorem packed16_c (cb cn ct : Int) (pos : List Int) (ws : List WP) (ap aw : Option Addr) (cp cw : Nat) (hpl : pos.length ≤ 9223372036854775807) (hwl : ws.length ≤ 9223372036854775807) (hws : ∀ t ∈ ws, W8 t.1.x ∧ t.1.x.length ≤ 9223372036854775807 ∧ By8 t.1.x) (x : Int) (hx : 0 ≤ x ∧ x < 256) (ord : List Int) (ao : Option Addr) (co : Nat) (hol : ord.length ≤ 9223372036854775807) (W : World) (h1 : Has (fun _ => False) W (RdF id aw (cellsW ws))) (h2 : Has (fun _ => False) W (RdF (Value.int .i64) ap pos)) (h3 : Has (fun _ => False) W (DatF (wP ws))) (h4 : Has (fun _ => False) W (RdF (Value.int .i64) ao ord)) :
    Calls Try.prog 5 ⟨[cyV cb cn ct ap pos.length cp aw ws.length cw, .int .u8 x, .slice ao ord.length co]⟩ W (Ret W fun v _ => v = .bool true) := by
  have hM := ((((Mm.start (own := fun _ => False) (w := W) (fun _ h => h.elim)).known h4).known h3).known h2).known h1
  obtain ⟨np, hnp⟩ : ∃ n, pos.length = n := ⟨_, rfl⟩
  obtain ⟨nw, hnw⟩ : ∃ n, ws.length = n := ⟨_, rfl⟩
  obtain ⟨no, hno⟩ : ∃ n, ord.length = n := ⟨_, rfl⟩
  rw [hnp] at hpl ⊢
  rw [hnw] at hwl ⊢
  rw [hno] at hol ⊢
  have e1 := fun {own W} hl hv => few23_c cb cn ct ws (fun t ht => (hws t ht).2.1) ap aw np cp nw cw hpl hnw hwl own W hl hv
  refine f_start Try.func5 rfl Try.ntmps5 rfl rfl ?_; intro a hF
  (repeat (first | (with_reducible refine w_seq ?_) | (with_reducible refine c_region ?_) | (with_reducible refine s_nil ?_) | (with_reducible refine q_then_n ?_) | ((with_reducible apply s_pure hF); exact rfl; exact rfl; exact rfl; (first | exact trivial | omega | exact ⟨Int.natCast_nonneg _, Int.ofNat_lt.2 (by assumption)⟩ | decide); clear hF a; intro a hF) | ((with_reducible apply s_load hF hM); exact rfl; exact rfl; (repeat (first | exact List.mem_cons_self | refine List.mem_cons_of_mem _ ?_)); exact rfl; exact rfl; clear hF a; intro a hF) | ((with_reducible apply s_box hF hM); exact rfl; exact rfl; exact rfl; exact rfl; clear hF hM a; intro b w a hM hF)))
  generalize b = b1 at *
  (((with_reducible apply s_call (f := 18) hF hM); exact rfl; exact rfl; exact rfl; exact rfl; exact rfl; exact (e1 hM.lt (hM.facts (RdF id aw (cellsW ws)) (by (repeat (first | with_reducible exact List.mem_cons_self | refine List.mem_cons_of_mem _ ?_))))); clear hF hM a; rintro v w a ⟨f, rfl, hf⟩ - hM hF))
  cases f with
  | false =>
    (repeat' (first | (with_reducible refine w_seq ?_) | (with_reducible refine c_region ?_) | (with_reducible refine s_nil ?_) | (with_reducible refine q_then_n ?_) | ((with_reducible apply s_pure hF); exact rfl; exact rfl; exact rfl; (first | exact trivial | omega | exact ⟨Int.natCast_nonneg _, Int.ofNat_lt.2 (by assumption)⟩ | decide); clear hF a; intro a hF) | (with_reducible refine w_ret ?_) | (with_reducible refine q_then_r ?_) | ((with_reducible apply c_true2 hF); exact rfl; (first | with_reducible rfl | (refine congrArg Value.bool ?_; focus (simp; done)))) | ((with_reducible apply s_skip hF); exact rfl; exact rfl; clear hF a; intro a hF)))
    (apply f_ret Try.results5 hF hM; (repeat (first | exact RL.nil | (apply RL.tmp; exact rfl) | (apply RL.cell; exact rfl; (repeat (first | exact List.mem_cons_self | refine List.mem_cons_of_mem _ ?_)); exact rfl))); refine Ret.mk hM.since ?_; dsimp only [resV])
  | true =>
    obtain ⟨hp40, hw40, hx24⟩ := hf rfl
    by_cases ho : 200 < no
    · (repeat' (first | (with_reducible refine w_seq ?_) | (with_reducible refine c_region ?_) | (with_reducible refine s_nil ?_) | (with_reducible refine q_then_n ?_) | ((with_reducible apply s_pure hF); exact rfl; exact rfl; exact rfl; (first | exact trivial | omega | exact ⟨Int.natCast_nonneg _, Int.ofNat_lt.2 (by assumption)⟩ | decide); clear hF a; intro a hF) | (with_reducible refine w_ret ?_) | (with_reducible refine q_then_r ?_) | ((with_reducible apply c_dec hF); exact rfl; all_goals intro hc; all_goals (try (exfalso; omega)))))
      (apply f_ret Try.results5 hF hM; (repeat (first | exact RL.nil | (apply RL.tmp; exact rfl) | (apply RL.cell; exact rfl; (repeat (first | exact List.mem_cons_self | refine List.mem_cons_of_mem _ ?_)); exact rfl))); refine Ret.mk hM.since ?_; dsimp only [resV])
    (repeat' (first | (with_reducible refine w_seq ?_) | (with_reducible refine c_region ?_) | (with_reducible refine s_nil ?_) | (with_reducible refine q_then_n ?_) | ((with_reducible apply s_pure hF); exact rfl; exact rfl; exact rfl; (first | exact trivial | omega | exact ⟨Int.natCast_nonneg _, Int.ofNat_lt.2 (by assumption)⟩ | decide); clear hF a; intro a hF) | ((with_reducible apply s_load hF hM); exact rfl; exact rfl; (repeat (first | exact List.mem_cons_self | refine List.mem_cons_of_mem _ ?_)); exact rfl; exact rfl; clear hF a; intro a hF) | (with_reducible refine w_skip ?_) | ((with_reducible apply c_dec hF); exact rfl; all_goals intro hc; all_goals (try (exfalso; omega)))))
    obtain ⟨p, hp⟩ : ∃ p : Nat, x % 100 + 1 = p := ⟨(x % 100 + 1).toNat, by omega⟩
    have hp1 : 1 ≤ p ∧ p ≤ 100 := by omega
    have hfw : FewW (wms ws) := ⟨by rw [wms_len]; omega, fun w hw => by
      obtain ⟨t, ht, rfl⟩ := List.mem_map.1 hw
      exact ⟨(hws t ht).1, hx24 t ht⟩⟩
    have hby : BysW (wms ws) := fun w hw s hs => by
      obtain ⟨t, ht, rfl⟩ := List.mem_map.1 hw
      exact fun y hy => (hws t ht).2.2 s hs y hy
    rw [hp] at hF
    by_cases hchk : chkC ⟨cb, cn, ct, pos, wms ws⟩ = 0
    case neg =>
      have e2 := fun {own W} hl h1 h2 h3 => Split_err cb cn ct pos ws hfw hby ap aw np cp nw cw hnp (by omega) hnw p (by omega) own W hl h1 h2 h3 hchk
      have e3 := fun {own W} hl h1 h2 => Encode_err cb cn ct pos ws hfw ap aw np cp nw cw hnp (by omega) hnw own W hl h1 h2 hchk
      generalize chkC ⟨cb, cn, ct, pos, wms ws⟩ = e at *
      (repeat' (first | (with_reducible refine w_seq ?_) | (with_reducible refine c_region ?_) | (with_reducible refine s_nil ?_) | ((with_reducible apply s_call (f := 19) hF hM); exact rfl; exact rfl; exact rfl; exact rfl; exact rfl; exact (e2 hM.lt (hM.facts (RdF id aw (cellsW ws)) (by (repeat (first | with_reducible exact List.mem_cons_self | refine List.mem_cons_of_mem _ ?_)))) (hM.facts (RdF (Value.int .i64) ap pos) (by (repeat (first | with_reducible exact List.mem_cons_self | refine List.mem_cons_of_mem _ ?_)))) (hM.facts (DatF (wP ws)) (by (repeat (first | with_reducible exact List.mem_cons_self | refine List.mem_cons_of_mem _ ?_))))); clear hF hM a; rintro v w a rfl - hM hF) | (with_reducible refine q_then_n ?_) | ((with_reducible apply s_pure hF); exact rfl; exact rfl; exact rfl; (first | exact trivial | omega | exact ⟨Int.natCast_nonneg _, Int.ofNat_lt.2 (by assumption)⟩ | decide); clear hF a; intro a hF) | ((with_reducible apply s_load hF hM); exact rfl; exact rfl; (repeat (first | exact List.mem_cons_self | refine List.mem_cons_of_mem _ ?_)); exact rfl; exact rfl; clear hF a; intro a hF) | ((with_reducible apply c_dec hF); exact rfl; all_goals intro hc; all_goals (try (exfalso; omega)))))
      (repeat' (first | (with_reducible refine w_seq ?_) | (with_reducible refine c_region ?_) | (with_reducible refine s_nil ?_) | ((with_reducible apply s_call (f := 20) hF hM); exact rfl; exact rfl; exact rfl; exact rfl; exact rfl; exact (e3 hM.lt (hM.facts (RdF id aw (cellsW ws)) (by (repeat (first | with_reducible exact List.mem_cons_self | refine List.mem_cons_of_mem _ ?_)))) (hM.facts (RdF (Value.int .i64) ap pos) (by (repeat (first | with_reducible exact List.mem_cons_self | refine List.mem_cons_of_mem _ ?_))))); clear hF hM a; rintro v w a rfl - hM hF) | (with_reducible refine q_then_n ?_) | ((with_reducible apply s_pure hF); exact rfl; exact rfl; exact rfl; (first | exact trivial | omega | exact ⟨Int.natCast_nonneg _, Int.ofNat_lt.2 (by assumption)⟩ | decide); clear hF a; intro a hF) | (with_reducible refine w_ret ?_) | (with_reducible refine q_then_r ?_)))
      (apply f_ret Try.results5 hF hM; (repeat (first | exact RL.nil | (apply RL.tmp; exact rfl) | (apply RL.cell; exact rfl; (repeat (first | exact List.mem_cons_self | refine List.mem_cons_of_mem _ ?_)); exact rfl))); refine Ret.mk hM.since ?_; dsimp only [resV])
      simp
    obtain ⟨q1, q2, -, -⟩ := chkC_ok hchk
    dsimp only at q1 q2
    obtain ⟨vb, rfl⟩ : ∃ n : Nat, cb = n := ⟨cb.toNat, by omega⟩
    obtain ⟨vn, rfl⟩ : ∃ n : Nat, cn = n := ⟨cn.toNat, by omega⟩
    obtain ⟨vt, rfl⟩ : ∃ n : Nat, ct = n := ⟨ct.toNat, by omega⟩
    have e2 := fun {own W} hl h1 h2 h3 => Split_ok vb vn vt pos ws hfw hby ap aw np cp nw cw hnp (by omega) hnw p (by omega) own W hl h1 h2 h3 hchk
    have hEl := encB_len hchk hfw
    have hEb := encB_by (c := ⟨vb, vn, vt, pos, wms ws⟩) hby
    have hE1 := encB_one ⟨vb, vn, vt, pos, wms ws⟩
    obtain ⟨E, hE0⟩ : ∃ E, encB ⟨vb, vn, vt, pos, wms ws⟩ = E := ⟨_, rfl⟩
    rw [hE0] at e2 hEl hEb hE1
    (((with_reducible apply s_call (f := 19) hF hM); exact rfl; exact rfl; exact rfl; exact rfl; exact rfl; exact (e2 hM.lt (hM.facts (RdF id aw (cellsW ws)) (by (repeat (first | with_reducible exact List.mem_cons_self | refine List.mem_cons_of_mem _ ?_)))) (hM.facts (RdF (Value.int .i64) ap pos) (by (repeat (first | with_reducible exact List.mem_cons_self | refine List.mem_cons_of_mem _ ?_)))) (hM.facts (DatF (wP ws)) (by (repeat (first | with_reducible exact List.mem_cons_self | refine List.mem_cons_of_mem _ ?_))))); clear hF hM a; rintro v w a ⟨aP, N, cP, ps, rfl, hps, hpn, hcap, hcP, k1, k2⟩ - hM hF; replace hM := (hM.addFact k1).addFact k2))
    clear e1 e2 k1 k2
    have hN : N = cntB p E := by
      have := congrArg List.length hps
      rw [List.length_map, hpn] at this
      rw [this]
      unfold splB cntB
      rw [List.length_map, List.length_range]
    have hN1 : 1 ≤ N := by rw [hN]; exact cnt_pos hp1.1 hE1
    have hps1 : ∀ k q, ps[k]? = some q → q.1 = pcB vn N (sumB E) p E k := fun k q hq => by
      have hk := (List.getElem?_eq_some_iff.1 hq).1
      have h5 : (ps.map (·.1))[k]? = some q.1 := by rw [List.getElem?_map, hq]; rfl
      rw [hps] at h5
      unfold splB at h5
      have hN2 : (E.length + p - 1) / p = N := hN.symm
      rw [hN2, List.getElem?_map, List.getElem?_range (by omega)] at h5
      injection h5 with h5
      exact h5.symm
    by_cases h120 : 120 < N
    · (repeat' (first | (with_reducible refine w_seq ?_) | (with_reducible refine c_region ?_) | (with_reducible refine s_nil ?_) | (with_reducible refine q_then_n ?_) | ((with_reducible apply s_pure hF); exact rfl; exact rfl; exact rfl; (first | exact trivial | omega | exact ⟨Int.natCast_nonneg _, Int.ofNat_lt.2 (by assumption)⟩ | decide); clear hF a; intro a hF) | (with_reducible refine w_skip ?_) | (with_reducible refine w_ret ?_) | (with_reducible refine q_then_r ?_) | ((with_reducible apply c_false2 hF); exact rfl; (first | with_reducible rfl | (refine congrArg Value.bool ?_; focus (simp; done)))) | ((fail_if_success ((with_reducible refine g_known true hF ?_ ?_); focus exact rfl)); (fail_if_success ((with_reducible refine g_known false hF ?_ ?_); focus exact rfl)); (with_reducible apply g_dec hF); exact rfl; exact rfl; all_goals (clear hF; intro hc hF); all_goals (try (exfalso; omega))) | ((with_reducible apply c_dec hF); exact rfl; all_goals intro hc; all_goals (try (exfalso; omega)))))
      (apply f_ret Try.results5 hF hM; (repeat (first | exact RL.nil | (apply RL.tmp; exact rfl) | (apply RL.cell; exact rfl; (repeat (first | exact List.mem_cons_self | refine List.mem_cons_of_mem _ ?_)); exact rfl))); refine Ret.mk hM.since ?_; dsimp only [resV])
      simp
      omega
    have hsb := sumB_bd E
    obtain ⟨f, hf2⟩ : ∃ f, f = pcB vn N (sumB E) p E := ⟨_, rfl⟩
    have hfl : ∀ k, k ≤ N → (f k).length ≤ 200 := fun k hk => by
      have := (pcB_len (num := vn) (cnt := N) (sum := sumB E) (p := p) (k := k) (E := E) (by omega) (by omega) (by omega) (by omega)).2
      rw [hf2]
      omega
    have hfb : ∀ k, By (f k) := fun k => by rw [hf2]; exact pcB_by hEb
    have hpb := prvB_by hfb
    have hpl2 := prvB_len (f := f) (m := 200) (n := N) (fun k hk => hfl k (by omega))
    have hps2 : ∀ k q, ps[k]? = some q → q.1 = f k := fun k q hq => by rw [hps1 k q hq, hf2]
    (repeat' (first | (with_reducible refine w_seq ?_) | (with_reducible refine c_region ?_) | (with_reducible refine s_nil ?_) | (with_reducible refine q_then_n ?_) | ((with_reducible apply s_pure hF); exact rfl; exact rfl; exact rfl; (first | exact trivial | omega | exact ⟨Int.natCast_nonneg _, Int.ofNat_lt.2 (by assumption)⟩ | decide); clear hF a; intro a hF) | (with_reducible refine w_skip ?_) | (with_reducible refine w_block ?_) | ((with_reducible apply c_false2 hF); exact rfl; (first | with_reducible rfl | (refine congrArg Value.bool ?_; focus (simp; done)))) | ((fail_if_success ((with_reducible refine g_known true hF ?_ ?_); focus exact rfl)); (fail_if_success ((with_reducible refine g_known false hF ?_ ?_); focus exact rfl)); (with_reducible apply g_dec hF); exact rfl; exact rfl; all_goals (clear hF; intro hc hF); all_goals (try (exfalso; omega))) | ((with_reducible apply c_dec hF); exact rfl; all_goals intro hc; all_goals (try (exfalso; omega)))))
    refine c_loop (m := N) (fun m a w' => ∃ (k : Nat) (v : Value) (qs : List BP) (aB : Option Addr) (nB cB : Nat), m + k = N ∧ qs.map (·.1) = (List.range k).map (fun i => encD (prvB f i) (f i)) ∧ (∀ q ∈ qs, q.1.length ≤ q.2.2) ∧ (prvB f k).length = nB ∧
      Fr 180 [] [(67, .int .i64 k), (66, .int .i64 N), (65, .slice aP N cP), (11, v), (12, .slice aB nB cB), (7, .slice aP N cP), (2, .slice ao no co), (3, .pointer (some ⟨b1, 0, none⟩))] a ∧
      Mm (fun _ => False) W [⟨b1, ⟨[.int .i64 vb, .int .i64 vn, .int .i64 vt, .slice ap np cp, .slice aw nw cw]⟩, 53⟩] [⟨58, 1, v, k, qs.map encBP⟩] [RdF (Value.int .u8) aB (prvB f k), BytF qs, RdF encBP aP ps, BytF ps, RdF id aw (cellsW ws), RdF (Value.int .i64) ap pos, DatF (wP ws), RdF (Value.int .i64) ao ord] w')
      ⟨0, .slice none 0 0, [], none, 0, 0, by omega, rfl, by simp, rfl, hF.sub (by repeat (first | exact Sub.nil | refine Sub.cons rfl (by first | with_reducible rfl | (refine congrArg (Value.int _) ?_; omega) | exact rfl) ?_)), ?_⟩ ?_
    · refine ((((hM.addFact (f := BytF []) (Has.pure fun _ q hq => by cases hq)).addFact (f := RdF (Value.int .u8) none (prvB f 0)) RdF.nil).nilRow 58 1)).sub (.refl _) (.refl _) ?_
      intro g hg
      simp only [List.mem_cons, List.not_mem_nil, or_false] at hg ⊢
      rcases hg with h | h | h | h | h | h | h | h <;> simp [h]
    clear hF hM a
    rintro m a w' ⟨k, v, qs, aB, nB, cB, hm, hqs, hqc, hnB, hF, hM⟩
    have hql : qs.length = k := by have := congrArg List.length hqs; simpa using this
    by_cases hk : k < N
    · obtain ⟨q, hq⟩ := get_of_lt (l := ps) (i := k) (by omega)
      have hqm := List.mem_of_getElem? hq
      have hqf := hps2 k q hq
      have hqr := byt_one (hM.facts (BytF ps) (by (repeat (first | with_reducible exact List.mem_cons_self | refine List.mem_cons_of_mem _ ?_)))) hqm
      replace hM := hM.addFact hqr
      obtain ⟨ad, rfl⟩ : ∃ ad, aP = some ad := rd_some hM (enc := encBP) (a := aP) (xs := ps) (by (repeat (first | exact List.mem_cons_self | refine List.mem_cons_of_mem _ ?_))) hq
      obtain ⟨P, aq, cq⟩ := q
      dsimp only at hqf hqr hM
      subst hqf
      have hfk := hfl k (by omega)
      have hpk := hpl2 k (by omega)
      obtain ⟨nq, hnq⟩ : ∃ n, (f k).length = n := ⟨_, rfl⟩
      have e3 := fun {own W} hl h1 h2 => EncodeD_c (prvB f k) (f k) ⟨by omega, by omega⟩ aB aq cB cq own W hl h1 h2
      rw [hnB, hnq] at e3
      obtain ⟨X, hX⟩ : ∃ X, encD (prvB f k) (f k) = X := ⟨_, rfl⟩
      have hXl := encD_len (prvB f k) (f k)
      rw [hX] at e3 hXl
      (repeat' (first | (with_reducible refine w_seq ?_) | (with_reducible refine c_region ?_) | (with_reducible refine s_nil ?_) | (with_reducible refine q_then_n ?_) | ((with_reducible apply s_pure hF); exact rfl; exact rfl; exact rfl; (first | exact trivial | omega | exact ⟨Int.natCast_nonneg _, Int.ofNat_lt.2 (by assumption)⟩ | decide); clear hF a; intro a hF) | ((with_reducible apply s_loadF hF hM); exact rfl; exact rfl; (repeat (first | exact List.mem_cons_self | refine List.mem_cons_of_mem _ ?_)); exact rfl; exact rfl; (first | with_reducible assumption | (simp only [Int.toNat_natCast]; with_reducible assumption)); clear hF a; intro a hF) | (with_reducible refine w_skip ?_) | (with_reducible refine w_block ?_) | ((with_reducible apply c_dec hF); exact rfl; all_goals intro hc; all_goals (try (exfalso; omega)))))
      unfold encBP at hF
      try dsimp only at hF
      rw [hnq] at hF
      (repeat (first | (with_reducible refine c_region ?_) | (with_reducible refine s_nil ?_) | ((with_reducible apply s_callO (f := 21) hF); exact rfl; exact rfl; exact rfl; exact rfl; exact rfl; exact (e3 hM.lt (hM.facts (RdF (Value.int .u8) aB (prvB f k)) (by (repeat (first | with_reducible exact List.mem_cons_self | refine List.mem_cons_of_mem _ ?_)))) (hM.facts (RdF (Value.int .u8) aq (f k)) (by (repeat (first | with_reducible exact List.mem_cons_self | refine List.mem_cons_of_mem _ ?_))))); clear hF a; rintro v wn a ⟨aX, cX, rfl, hO⟩ hS hF; replace hM := hM.addRows hS hO; clear hS hO; dsimp only [List.cons_append, List.nil_append] at hM) | (with_reducible refine q_then_n ?_) | ((with_reducible apply s_pure hF); exact rfl; exact rfl; exact rfl; (first | exact trivial | omega | exact ⟨Int.natCast_nonneg _, Int.ofNat_lt.2 (by assumption)⟩ | decide); clear hF a; intro a hF) | ((with_reducible apply s_lit hF hM); exact rfl; exact rfl; exact rfl; exact rfl; clear hF hM a; intro bl w a hM hF) | ((with_reducible apply s_app hF hM); exact rfl; exact rfl; exact rfl; exact rfl; (repeat (first | exact Kth.z | apply Kth.s)); exact rfl; exact rfl; exact rfl; exact rfl; omega; clear hF hM a; intro g cap w a hM hF; dsimp only [List.set] at hM) | (with_reducible refine q_blk_n ?_)))
      have hcX := row_capC hM (i := 0) rfl
      replace hM := hM.freezeN
      (repeat (first | fail))
      have hM2 := (hM.addFact (byt_snoc (hM.facts (BytF qs) (by (repeat (first | with_reducible exact List.mem_cons_self | refine List.mem_cons_of_mem _ ?_)))) (p := (X, aX, cX)) (hM.facts (RdF (Value.int .u8) aX X) (by (repeat (first | with_reducible exact List.mem_cons_self | refine List.mem_cons_of_mem _ ?_)))))).rowsEq (L' := [⟨58, 1, .slice (some ⟨g, 0, none⟩) (k + 1) cap, k + 1, (qs ++ [(X, aX, cX)]).map encBP⟩]) (by rw [List.map_append]; rfl)
      have hM3 := hM2.sub (.refl _) (.refl _) (Fs' := [RdF (Value.int .u8) aq (f k), BytF (qs ++ [(X, aX, cX)]), RdF encBP (some ad) ps, BytF ps, RdF id aw (cellsW ws), RdF (Value.int .i64) ap pos, DatF (wP ws), RdF (Value.int .i64) ao ord]) (by intro f hf; simp only [List.mem_cons, List.not_mem_nil, or_false] at hf; (repeat (rcases hf with rfl | hf; · (repeat (first | exact List.mem_cons_self | refine List.mem_cons_of_mem _ ?_)))); first | (subst hf; (repeat (first | exact List.mem_cons_self | refine List.mem_cons_of_mem _ ?_)); done) | (repeat (first | exact hf | refine List.mem_cons_of_mem _ ?_)))
      refine ⟨m - 1, by omega, k + 1, _, qs ++ [(X, aX, cX)], aq, nq, cq, by omega, ?_, ?_, hnq, hF.sub (by repeat (first | exact Sub.nil | refine Sub.cons rfl (by first | with_reducible rfl | (refine congrArg (Value.int _) ?_; omega) | exact rfl) ?_)), hM3⟩
      · rw [List.map_append, hqs, List.range_succ, List.map_append, List.map_cons, List.map_cons, hX]
        rfl
      · intro y hy
        rcases List.mem_append.1 hy with hy | hy
        · exact hqc y hy
        · rw [List.mem_singleton.1 hy]
          exact hcX
    obtain rfl : N = k := by omega
    obtain ⟨aQ, cQ, rfl, hcQ, -⟩ := OffR.shape hM (k := 0) rfl (OffR.plain hM List.mem_cons_self)
    replace hM := hM.freezeN
    (repeat' (first | (with_reducible refine w_seq ?_) | (with_reducible refine c_region ?_) | (with_reducible refine s_nil ?_) | (with_reducible refine q_then_n ?_) | ((with_reducible apply s_pure hF); exact rfl; exact rfl; exact rfl; (first | exact trivial | omega | exact ⟨Int.natCast_nonneg _, Int.ofNat_lt.2 (by assumption)⟩ | decide); clear hF a; intro a hF) | (with_reducible refine w_block ?_) | (with_reducible refine w_exit ?_) | (with_reducible refine q_then_x ?_) | (with_reducible refine q_blk_x ?_) | ((with_reducible apply c_false2 hF); exact rfl; (first | with_reducible rfl | (refine congrArg Value.bool ?_; focus (simp; done))))))
    refine c_loop (m := N) (fun m a w' => ∃ (k : Nat) (aB : Option Addr) (nB cB : Nat), m + k = N ∧ (prvB f k).length = nB ∧
      Fr 180 [] [(81, .int .i64 k), (80, .int .i64 N), (79, .slice aQ N cQ), (12, .slice aB nB cB), (7, .slice aP N cP), (2, .slice ao no co), (3, .pointer (some ⟨b1, 0, none⟩))] a ∧
      Mm (fun _ => False) W [⟨b1, ⟨[.int .i64 vb, .int .i64 vn, .int .i64 vt, .slice ap np cp, .slice aw nw cw]⟩, 53⟩] [] [RdF (Value.int .u8) aB (prvB f k), RdF encBP aQ qs, BytF qs, RdF encBP aP ps, BytF ps, RdF id aw (cellsW ws), RdF (Value.int .i64) ap pos, DatF (wP ws), RdF (Value.int .i64) ao ord] w')
      ⟨0, none, 0, 0, by omega, rfl, hF.sub (by repeat (first | exact Sub.nil | refine Sub.cons rfl (by first | with_reducible rfl | (refine congrArg (Value.int _) ?_; omega) | exact rfl) ?_)), (hM.addFact (f := RdF (Value.int .u8) none (prvB f 0)) RdF.nil).sub (.refl _) (.refl _) (by intro f hf; simp only [List.mem_cons, List.not_mem_nil, or_false] at hf; (repeat (rcases hf with rfl | hf; · (repeat (first | exact List.mem_cons_self | refine List.mem_cons_of_mem _ ?_)))); first | (subst hf; (repeat (first | exact List.mem_cons_self | refine List.mem_cons_of_mem _ ?_)); done) | (repeat (first | exact hf | refine List.mem_cons_of_mem _ ?_)))⟩ ?_
    clear hF hM a hnB
    rintro m a w' ⟨k, aB, nB, cB, hm, hnB, hF, hM⟩
    by_cases hk : k < N
    · obtain ⟨q, hq⟩ := get_of_lt (l := ps) (i := k) (by omega)
      obtain ⟨t, ht⟩ := get_of_lt (l := qs) (i := k) (by omega)
      have hqm := List.mem_of_getElem? hq
      have htm := List.mem_of_getElem? ht
      have hqf := hps2 k q hq
      have htc := hqc t htm
      have hte : t.1 = encD (prvB f k) (f k) := by
        have h5 : (qs.map (·.1))[k]? = some t.1 := by rw [List.getElem?_map, ht]; rfl
        rw [hqs, List.getElem?_map, List.getElem?_range hk] at h5
        injection h5 with h5
        exact h5.symm
      have hqr := byt_one (hM.facts (BytF ps) (by (repeat (first | with_reducible exact List.mem_cons_self | refine List.mem_cons_of_mem _ ?_)))) hqm
      have htr := byt_one (hM.facts (BytF qs) (by (repeat (first | with_reducible exact List.mem_cons_self | refine List.mem_cons_of_mem _ ?_)))) htm
      replace hM := (hM.addFact hqr).addFact htr
      obtain ⟨ad, rfl⟩ : ∃ ad, aP = some ad := rd_some hM (enc := encBP) (a := aP) (xs := ps) (by (repeat (first | exact List.mem_cons_self | refine List.mem_cons_of_mem _ ?_))) hq
      obtain ⟨ae, rfl⟩ : ∃ ad, aQ = some ad := rd_some hM (enc := encBP) (a := aQ) (xs := qs) (by (repeat (first | exact List.mem_cons_self | refine List.mem_cons_of_mem _ ?_))) ht
      obtain ⟨P, aq, cq⟩ := q
      obtain ⟨X, ax, cx⟩ := t
      dsimp only at hqf hqr htc hte htr hM
      subst hqf
      have hfk := hfl k (by omega)
      have hpk := hpl2 k (by omega)
      obtain ⟨nq, hnq⟩ : ∃ n, (f k).length = n := ⟨_, rfl⟩
      have hdd := decD_encD (prvB f k) (f k) (most := (nq : Int)) (by omega)
      have hXl := encD_len (prvB f k) (f k)
      rw [← hte] at hdd hXl
      have hXb : By X := by rw [hte]; exact encD_By (hpb k) (hfb k)
      have e3 := fun {own W} hl h1 h2 => DecodeD_c (prvB f k) X hXb ⟨by omega, by omega⟩ (nq : Int) (by omega) aB ax cB cx htc own W hl h1 h2
      rw [hdd, hnB] at e3
      have e4 := fun {own W} aR cR hl h1 h2 => eqBytes_c (f k) (f k) (hfb k) (hfb k) aR aq nq nq cR cq hnq hnq own W hl h1 h2
      rw [decide_eq_true rfl] at e4
      (repeat' (first | (with_reducible refine w_seq ?_) | (with_reducible refine c_region ?_) | (with_reducible refine s_nil ?_) | (with_reducible refine q_then_n ?_) | ((with_reducible apply s_pure hF); exact rfl; exact rfl; exact rfl; (first | exact trivial | omega | exact ⟨Int.natCast_nonneg _, Int.ofNat_lt.2 (by assumption)⟩ | decide); clear hF a; intro a hF) | ((with_reducible apply s_loadF hF hM); exact rfl; exact rfl; (repeat (first | exact List.mem_cons_self | refine List.mem_cons_of_mem _ ?_)); exact rfl; exact rfl; (first | with_reducible assumption | (simp only [Int.toNat_natCast]; with_reducible assumption)); clear hF a; intro a hF) | (with_reducible refine w_skip ?_) | (with_reducible refine w_block ?_) | ((with_reducible apply c_dec hF); exact rfl; all_goals intro hc; all_goals (try (exfalso; omega)))))
      unfold encBP at hF
      try dsimp only at hF
      rw [hnq] at hF
      (repeat (first | (with_reducible refine w_seq ?_) | (with_reducible refine c_region ?_) | (with_reducible refine s_nil ?_) | ((with_reducible apply s_call (f := 22) hF hM); exact rfl; exact rfl; exact rfl; exact rfl; exact rfl; exact (e3 hM.lt (hM.facts (RdF (Value.int .u8) aB (prvB f k)) (by (repeat (first | with_reducible exact List.mem_cons_self | refine List.mem_cons_of_mem _ ?_)))) (hM.facts (RdF (Value.int .u8) ax X) (by (repeat (first | with_reducible exact List.mem_cons_self | refine List.mem_cons_of_mem _ ?_))))); clear hF hM a; rintro v w a ⟨aR, cR, rfl, hcR, k5⟩ - hM hF; replace hM := hM.addFact k5) | (with_reducible refine q_then_n ?_) | ((with_reducible apply s_pure hF); exact rfl; exact rfl; exact rfl; (first | exact trivial | omega | exact ⟨Int.natCast_nonneg _, Int.ofNat_lt.2 (by assumption)⟩ | decide); clear hF a; intro a hF) | ((with_reducible apply s_loadF hF hM); exact rfl; exact rfl; (repeat (first | exact List.mem_cons_self | refine List.mem_cons_of_mem _ ?_)); exact rfl; exact rfl; (first | with_reducible assumption | (simp only [Int.toNat_natCast]; with_reducible assumption)); clear hF a; intro a hF)))
      unfold encBP at hF
      try dsimp only at hF
      rw [hnq] at hF
      (repeat' (first | (with_reducible refine c_region ?_) | (with_reducible refine s_nil ?_) | ((with_reducible apply s_call (f := 23) hF hM); exact rfl; exact rfl; exact rfl; exact rfl; exact rfl; exact (e4 aR cR hM.lt (hM.facts (RdF (Value.int .u8) aR (f k)) (by (repeat (first | with_reducible exact List.mem_cons_self | refine List.mem_cons_of_mem _ ?_)))) (hM.facts (RdF (Value.int .u8) aq (f k)) (by (repeat (first | with_reducible exact List.mem_cons_self | refine List.mem_cons_of_mem _ ?_))))); clear hF hM a; rintro v w a rfl - hM hF) | (with_reducible refine q_then_n ?_) | ((with_reducible apply s_pure hF); exact rfl; exact rfl; exact rfl; (first | exact trivial | omega | exact ⟨Int.natCast_nonneg _, Int.ofNat_lt.2 (by assumption)⟩ | decide); clear hF a; intro a hF) | (with_reducible refine w_skip ?_) | (with_reducible refine q_blk_n ?_) | ((with_reducible apply c_false2 hF); exact rfl; (first | with_reducible rfl | (refine congrArg Value.bool ?_; focus (simp; done))))))
      have hM3 := hM.sub (.refl _) (.refl _) (Fs' := [RdF (Value.int .u8) aR (f k), RdF encBP (some ae) qs, BytF qs, RdF encBP (some ad) ps, BytF ps, RdF id aw (cellsW ws), RdF (Value.int .i64) ap pos, DatF (wP ws), RdF (Value.int .i64) ao ord]) (by intro f hf; simp only [List.mem_cons, List.not_mem_nil, or_false] at hf; (repeat (rcases hf with rfl | hf; · (repeat (first | exact List.mem_cons_self | refine List.mem_cons_of_mem _ ?_)))); first | (subst hf; (repeat (first | exact List.mem_cons_self | refine List.mem_cons_of_mem _ ?_)); done) | (repeat (first | exact hf | refine List.mem_cons_of_mem _ ?_)))
      exact ⟨m - 1, by omega, k + 1, aR, nq, cR, by omega, hnq, hF.sub (by repeat (first | exact Sub.nil | refine Sub.cons rfl (by first | with_reducible rfl | (refine congrArg (Value.int _) ?_; omega) | exact rfl) ?_)), hM3⟩
    obtain rfl : N = k := by omega
    clear hps hqs hqc hnB hql hpb hpl2
    replace hM := hM.sub (.refl _) (.refl _) (Fs' := [RdF encBP aP ps, BytF ps, RdF id aw (cellsW ws), RdF (Value.int .i64) ap pos, DatF (wP ws), RdF (Value.int .i64) ao ord]) (by intro f hf; simp only [List.mem_cons, List.not_mem_nil, or_false] at hf; (repeat (rcases hf with rfl | hf; · (repeat (first | exact List.mem_cons_self | refine List.mem_cons_of_mem _ ?_)))); first | (subst hf; (repeat (first | exact List.mem_cons_self | refine List.mem_cons_of_mem _ ?_)); done) | (repeat (first | exact hf | refine List.mem_cons_of_mem _ ?_)))
    have hcn : 1 ≤ vn ∧ vn ≤ 1073741824 := by omega
    have hpq : 1 ≤ p ∧ p ≤ 4096 := by omega
    have hgo := fun {own W} i hi hl hv => runPlace_c ord no hno i hi N ⟨hN1, by omega⟩ ao co own W hl hv
    have hrp : ∀ i : Nat, ∃ j : Nat, rpl ord i N = j ∧ j < N := fun i => by
      have := rpl_bd (l := ord) (i := i) (n := (N : Int)) (by omega)
      exact ⟨(rpl ord i N).toNat, by omega, by omega⟩
    obtain ⟨j, hj, hjN⟩ := hrp 0
    obtain ⟨q, hq⟩ := get_of_lt (l := ps) (i := j) (by omega)
    have hqm := List.mem_of_getElem? hq
    have hqf := hps1 j q hq
    have hqc := hcap q hqm
    have hqr := byt_one (hM.facts (BytF ps) (by (repeat (first | with_reducible exact List.mem_cons_self | refine List.mem_cons_of_mem _ ?_)))) hqm
    replace hM := hM.addFact hqr
    obtain ⟨ad, rfl⟩ : ∃ ad, aP = some ad := rd_some hM (enc := encBP) (a := aP) (xs := ps) (by (repeat (first | exact List.mem_cons_self | refine List.mem_cons_of_mem _ ?_))) hq
    obtain ⟨P, aq, cq⟩ := q
    dsimp only at hqf hqc hqr hM
    have e3 := fun {own W} hl hv => BeginS_c vn p E N hcn hpq hEb hN (by omega) j hjN P hqf aq P.length cq rfl hqc own W hl hv
    have e4 := fun {own W} hl hv => hgo (own := own) (W := W) 0 (by omega) hl hv
    rw [hj] at e4
    (repeat' (first | (with_reducible refine w_seq ?_) | (with_reducible refine c_region ?_) | (with_reducible refine s_nil ?_) | ((with_reducible apply s_call (f := 25) hF hM); exact rfl; exact rfl; exact rfl; exact rfl; exact rfl; exact (e4 hM.lt (hM.facts (RdF (Value.int .i64) ao ord) (by (repeat (first | with_reducible exact List.mem_cons_self | refine List.mem_cons_of_mem _ ?_))))); clear hF hM a; rintro v w a rfl - hM hF) | (with_reducible refine q_then_n ?_) | ((with_reducible apply s_pure hF); exact rfl; exact rfl; exact rfl; (first | exact trivial | omega | exact ⟨Int.natCast_nonneg _, Int.ofNat_lt.2 (by assumption)⟩ | decide); clear hF a; intro a hF) | ((with_reducible apply s_loadF hF hM); exact rfl; exact rfl; (repeat (first | exact List.mem_cons_self | refine List.mem_cons_of_mem _ ?_)); exact rfl; exact rfl; (first | with_reducible assumption | (simp only [Int.toNat_natCast]; with_reducible assumption)); clear hF a; intro a hF) | (with_reducible refine w_exit ?_) | (with_reducible refine q_then_x ?_) | (with_reducible refine q_blk_x ?_) | ((with_reducible apply c_false2 hF); exact rfl; (first | with_reducible rfl | (refine congrArg Value.bool ?_; focus (simp; done))))))
    unfold encBP at hF
    try dsimp only at hF
    (repeat' (first | (with_reducible refine w_seq ?_) | (with_reducible refine c_region ?_) | (with_reducible refine s_nil ?_) | ((with_reducible apply s_call (f := 24) hF hM); exact rfl; exact rfl; exact rfl; exact rfl; exact rfl; exact (e3 hM.lt (hM.facts (RdF (Value.int .u8) aq P) (by (repeat (first | with_reducible exact List.mem_cons_self | refine List.mem_cons_of_mem _ ?_))))); clear hF hM a; rintro v w a ⟨u, rfl, hs, a3, c3, a4, c4, rfl, h5, k5, k6, k7⟩ - hM hF; replace hM := ((hM.addFact k5).addFact k6).addFact k7) | (with_reducible refine q_then_n ?_) | ((with_reducible apply s_pure hF); exact rfl; exact rfl; exact rfl; (first | exact trivial | omega | exact ⟨Int.natCast_nonneg _, Int.ofNat_lt.2 (by assumption)⟩ | decide); clear hF a; intro a hF) | ((with_reducible apply s_store hF hM); exact rfl; exact rfl; exact rfl; exact rfl; (repeat (first | exact Upd.z | apply Upd.s)); exact rfl; exact rfl; exact rfl; clear hM; intro w hM) | ((with_reducible apply s_alloc hF hM); exact rfl; exact rfl; exact rfl; clear hF hM a; intro b w a hM hF) | (with_reducible refine w_block ?_)))
    generalize b = b20 at *
    refine c_loop (m := no) (fun m a w' => ∃ (k : Nat) (S : Nat → Bool) (hs : List BP) (a3 : Option Addr) (c3 : Nat) (a4 : Option Addr) (c4 : Nat), m + k = no ∧ hs.map (·.1) = hvS p E N S ∧
      Fr 180 [] [(124, .int .i64 k), (123, .int .i64 no), (20, .pointer (some ⟨b20, 0, none⟩)), (19, .int .i64 N), (7, .slice (some ad) N cP), (2, .slice ao no co), (3, .pointer (some ⟨b1, 0, none⟩))] a ∧
      Mm (fun _ => False) W [⟨b20, ⟨[.int .i64 vn, .int .i64 N, .int .i64 (sumB E), .slice a3 N c3, .slice a4 N c4]⟩, 65⟩, ⟨b1, ⟨[.int .i64 vb, .int .i64 vn, .int .i64 vt, .slice ap np cp, .slice aw nw cw]⟩, 53⟩] [] [RdF encBP a3 hs, BytF hs, RdF Value.bool a4 ((List.range N).map S), RdF encBP (some ad) ps, BytF ps, RdF id aw (cellsW ws), RdF (Value.int .i64) ap pos, DatF (wP ws), RdF (Value.int .i64) ao ord] w')
      ⟨0, _, hs, a3, c3, a4, c4, by omega, h5, hF.sub (by repeat (first | exact Sub.nil | refine Sub.cons rfl (by first | with_reducible rfl | (refine congrArg (Value.int _) ?_; omega) | exact rfl) ?_)), hM.sub (.refl _) (.refl _) (by intro f hf; simp only [List.mem_cons, List.not_mem_nil, or_false] at hf; (repeat (rcases hf with rfl | hf; · (repeat (first | exact List.mem_cons_self | refine List.mem_cons_of_mem _ ?_)))); first | (subst hf; (repeat (first | exact List.mem_cons_self | refine List.mem_cons_of_mem _ ?_)); done) | (repeat (first | exact hf | refine List.mem_cons_of_mem _ ?_)))⟩ ?_
    clear hF hM a e3 e4 hqr k5 k6 k7 hqc hqf hqm hq hj
    rintro m a w' ⟨k, S, hs, a3, c3, a4, c4, hm, h5, hF, hM⟩
    by_cases hk : k < no
    · obtain ⟨j, hj, hjN⟩ := hrp k
      obtain ⟨q, hq⟩ := get_of_lt (l := ps) (i := j) (by omega)
      have hqm := List.mem_of_getElem? hq
      have hqf := hps1 j q hq
      have hqc := hcap q hqm
      have hqr := byt_one (hM.facts (BytF ps) (by (repeat (first | with_reducible exact List.mem_cons_self | refine List.mem_cons_of_mem _ ?_)))) hqm
      replace hM := hM.addFact hqr
      obtain ⟨P, aq, cq⟩ := q
      dsimp only at hqf hqc hqr hM
      have e3 := fun {own W} hl hv k1 k2 k3 => AddS_c vn p E N hcn hpq hEb hN (by omega) j hjN P hqf aq P.length cq rfl hqc S hs h5 a3 c3 a4 c4 own W hl hv k1 k2 k3
      have e4 := fun {own W} hl hv => hgo (own := own) (W := W) k (by omega) hl hv
      rw [hj] at e4
      (repeat' (first | (with_reducible refine w_seq ?_) | (with_reducible refine c_region ?_) | (with_reducible refine s_nil ?_) | (with_reducible refine q_then_n ?_) | ((with_reducible apply s_pure hF); exact rfl; exact rfl; exact rfl; (first | exact trivial | omega | exact ⟨Int.natCast_nonneg _, Int.ofNat_lt.2 (by assumption)⟩ | decide); clear hF a; intro a hF) | (with_reducible refine w_skip ?_) | (with_reducible refine w_block ?_) | ((with_reducible apply c_dec hF); exact rfl; all_goals intro hc; all_goals (try (exfalso; omega)))))
      refine c_draw (fun i => Nat.ble 10 i) hM ?_; clear hM; intro w hM
      (first | (apply t_load (i := 0) hF rfl rfl rfl; (repeat (first | exact List.mem_cons_self | refine List.mem_cons_of_mem _ ?_)); exact rfl; exact rfl; kernel_rfl; exact hM.sm; exact (fun _ _ _ h => h); clear hF a; intro a hF))
      (first | (refine t_pure (i := 1) hF rfl rfl rfl rfl (by kernel_rfl) hM.sm (fun _ _ _ h => h) ?_ ?_; (first | exact trivial | omega | decide); clear hF a; intro a hF))
      (first | (refine t_pure (i := 2) hF rfl rfl rfl rfl (by kernel_rfl) hM.sm (fun _ _ _ h => h) ?_ ?_; (first | exact trivial | omega | decide); clear hF a; intro a hF))
      (first | (refine t_pure (i := 3) hF rfl rfl rfl rfl (by kernel_rfl) hM.sm (fun _ _ _ h => h) ?_ ?_; (first | exact trivial | omega | decide); clear hF a; intro a hF))
      (first | (refine t_pure (i := 4) hF rfl rfl rfl rfl (by kernel_rfl) hM.sm (fun _ _ _ h => h) ?_ ?_; (first | exact trivial | omega | decide); clear hF a; intro a hF))
      refine t_one (i := 5) hF rfl (by kernel_rfl) rfl ?_
      intro K hK
      (apply x_call hF hM; exact rfl; exact rfl; exact rfl; exact rfl; exact (e4 hM.lt (hM.facts (RdF (Value.int .i64) ao ord) (by (repeat (first | with_reducible exact List.mem_cons_self | refine List.mem_cons_of_mem _ ?_))))); clear hF hM a; rintro v w a rfl - hM hF)
      refine hK _ _ (fun _ => hM.sm) ?_; clear hK
      (first | (refine t_pure (i := 6) hF rfl rfl rfl rfl (by kernel_rfl) hM.sm (fun _ _ _ h => h) ?_ ?_; (first | exact trivial | omega | decide); clear hF a; intro a hF))
      (first | (apply t_loadF (i := 7) hF rfl rfl rfl; (repeat (first | exact List.mem_cons_self | refine List.mem_cons_of_mem _ ?_)); (first | with_reducible assumption | (simp only [Int.toNat_natCast]; with_reducible assumption)); exact rfl; exact rfl; kernel_rfl; exact hM.sm; exact (fun _ _ _ h => h); clear hF a; intro a hF))
      unfold encBP at hF; (try dsimp only at hF)
      refine t_one (i := 8) hF rfl (by kernel_rfl) rfl ?_
      intro K hK
      (apply x_call hF hM; exact rfl; exact rfl; exact rfl; exact rfl; exact (e3 hM.lt (hM.facts (RdF (Value.int .u8) aq P) (by (repeat (first | with_reducible exact List.mem_cons_self | refine List.mem_cons_of_mem _ ?_)))) (hM.facts (RdF encBP a3 hs) (by (repeat (first | with_reducible exact List.mem_cons_self | refine List.mem_cons_of_mem _ ?_)))) (hM.facts (BytF hs) (by (repeat (first | with_reducible exact List.mem_cons_self | refine List.mem_cons_of_mem _ ?_)))) (hM.facts (RdF Value.bool a4 ((List.range N).map S)) (by (repeat (first | with_reducible exact List.mem_cons_self | refine List.mem_cons_of_mem _ ?_))))); clear hF hM a; rintro v w a ⟨u, rfl, hs2, a5, c5, a6, c6, rfl, h6, k5, k6, k7⟩ - hM hF)
      replace hM := ((hM.addFact k5).addFact k6).addFact k7
      refine hK _ _ (fun _ => (hM.sm.sub (fun x hx => by repeat (first | exact hx | refine List.mem_cons_of_mem _ ?_)) (fun _ h => by repeat (first | exact h | refine List.mem_cons_of_mem _ ?_)))) ?_; clear hK
      (first | (refine t_pure (i := 9) hF rfl rfl rfl rfl (by kernel_rfl) (hM.sm.sub (fun x hx => by repeat (first | exact hx | refine List.mem_cons_of_mem _ ?_)) (fun _ h => by repeat (first | exact h | refine List.mem_cons_of_mem _ ?_))) (fun _ _ _ h => h) ?_ ?_; (first | exact trivial | omega | decide); clear hF a; intro a hF))
      refine t_two (i := 10) (j := 11) hF rfl rfl (by kernel_rfl) rfl rfl ?_ ?_
      ·
        intro K hK
        (first | (refine x_pure hF hM rfl rfl ?_ ?_; (first | exact trivial | omega | decide); clear hF a; intro a hF) | (apply x_load hF hM rfl; (repeat (first | exact List.mem_cons_self | refine List.mem_cons_of_mem _ ?_)); exact rfl; exact rfl; clear hF a; intro a hF))
        refine hK _ _ (fun h => by cases h) ?_; clear hK
        refine t_two (i := 11) (j := 12) hF rfl rfl (by kernel_rfl) rfl rfl ?_ ?_
        ·
          intro K hK
          (first | (refine x_pure hF hM rfl rfl ?_ ?_; (first | exact trivial | omega | decide); clear hF a; intro a hF) | (apply x_load hF hM rfl; (repeat (first | exact List.mem_cons_self | refine List.mem_cons_of_mem _ ?_)); exact rfl; exact rfl; clear hF a; intro a hF))
          refine hK _ _ (fun h => by cases h) ?_; clear hK
          refine t_one (i := 12) hF rfl (by kernel_rfl) rfl ?_
          intro K hK
          (apply x_store hF hM rfl rfl rfl; (repeat (first | exact Upd.z | apply Upd.s)); exact rfl; exact rfl; exact rfl; clear hF hM a; intro w a hM hF)
          refine hK _ _ (fun h => by cases h) ?_; clear hK
          refine t_one (i := 13) hF rfl (by kernel_rfl) rfl ?_
          intro K hK
          (first | (refine x_pure hF hM rfl rfl ?_ ?_; (first | exact trivial | omega | decide); clear hF a; intro a hF) | (apply x_load hF hM rfl; (repeat (first | exact List.mem_cons_self | refine List.mem_cons_of_mem _ ?_)); exact rfl; exact rfl; clear hF a; intro a hF))
          refine hK _ _ (fun h => by cases h) ?_; clear hK
          refine t_done (by kernel_rfl) ?_
          (repeat' (first | (with_reducible refine w_seq ?_) | (with_reducible refine c_region ?_) | (with_reducible refine s_nil ?_) | (with_reducible refine q_then_n ?_) | ((with_reducible apply s_pure hF); exact rfl; exact rfl; exact rfl; (first | exact trivial | omega | exact ⟨Int.natCast_nonneg _, Int.ofNat_lt.2 (by assumption)⟩ | decide); clear hF a; intro a hF) | (with_reducible refine w_skip ?_) | (with_reducible refine q_blk_n ?_) | ((with_reducible apply c_false2 hF); exact rfl; (first | with_reducible rfl | (refine congrArg Value.bool ?_; focus (simp; done))))))
          have hM3 := hM.sub (.refl _) (.refl _) (Fs' := [RdF encBP a5 hs2, BytF hs2, RdF Value.bool a6 ((List.range N).map (addS S j)), RdF encBP (some ad) ps, BytF ps, RdF id aw (cellsW ws), RdF (Value.int .i64) ap pos, DatF (wP ws), RdF (Value.int .i64) ao ord]) (by intro f hf; simp only [List.mem_cons, List.not_mem_nil, or_false] at hf; (repeat (rcases hf with rfl | hf; · (repeat (first | exact List.mem_cons_self | refine List.mem_cons_of_mem _ ?_)))); first | (subst hf; (repeat (first | exact List.mem_cons_self | refine List.mem_cons_of_mem _ ?_)); done) | (repeat (first | exact hf | refine List.mem_cons_of_mem _ ?_)))
          exact ⟨m - 1, by omega, k + 1, addS S j, hs2, a5, c5, a6, c6, by omega, h6, hF.sub (by repeat (first | exact Sub.nil | refine Sub.cons rfl (by first | with_reducible rfl | (refine congrArg (Value.int _) ?_; omega) | exact rfl) ?_)), hM3⟩
        ·
          intro K hK
          (apply x_store hF hM rfl rfl rfl; (repeat (first | exact Upd.z | apply Upd.s)); exact rfl; exact rfl; exact rfl; clear hF hM a; intro w a hM hF)
          refine hK _ _ (fun h => by cases h) ?_; clear hK
          refine t_one (i := 11) hF rfl (by kernel_rfl) rfl ?_
          intro K hK
          (first | (refine x_pure hF hM rfl rfl ?_ ?_; (first | exact trivial | omega | decide); clear hF a; intro a hF) | (apply x_load hF hM rfl; (repeat (first | exact List.mem_cons_self | refine List.mem_cons_of_mem _ ?_)); exact rfl; exact rfl; clear hF a; intro a hF))
          refine hK _ _ (fun h => by cases h) ?_; clear hK
          refine t_one (i := 13) hF rfl (by kernel_rfl) rfl ?_
          intro K hK
          (first | (refine x_pure hF hM rfl rfl ?_ ?_; (first | exact trivial | omega | decide); clear hF a; intro a hF) | (apply x_load hF hM rfl; (repeat (first | exact List.mem_cons_self | refine List.mem_cons_of_mem _ ?_)); exact rfl; exact rfl; clear hF a; intro a hF))
          refine hK _ _ (fun h => by cases h) ?_; clear hK
          refine t_done (by kernel_rfl) ?_
          (repeat' (first | (with_reducible refine w_seq ?_) | (with_reducible refine c_region ?_) | (with_reducible refine s_nil ?_) | (with_reducible refine q_then_n ?_) | ((with_reducible apply s_pure hF); exact rfl; exact rfl; exact rfl; (first | exact trivial | omega | exact ⟨Int.natCast_nonneg _, Int.ofNat_lt.2 (by assumption)⟩ | decide); clear hF a; intro a hF) | (with_reducible refine w_skip ?_) | (with_reducible refine q_blk_n ?_) | ((with_reducible apply c_false2 hF); exact rfl; (first | with_reducible rfl | (refine congrArg Value.bool ?_; focus (simp; done))))))
          have hM3 := hM.sub (.refl _) (.refl _) (Fs' := [RdF encBP a5 hs2, BytF hs2, RdF Value.bool a6 ((List.range N).map (addS S j)), RdF encBP (some ad) ps, BytF ps, RdF id aw (cellsW ws), RdF (Value.int .i64) ap pos, DatF (wP ws), RdF (Value.int .i64) ao ord]) (by intro f hf; simp only [List.mem_cons, List.not_mem_nil, or_false] at hf; (repeat (rcases hf with rfl | hf; · (repeat (first | exact List.mem_cons_self | refine List.mem_cons_of_mem _ ?_)))); first | (subst hf; (repeat (first | exact List.mem_cons_self | refine List.mem_cons_of_mem _ ?_)); done) | (repeat (first | exact hf | refine List.mem_cons_of_mem _ ?_)))
          exact ⟨m - 1, by omega, k + 1, addS S j, hs2, a5, c5, a6, c6, by omega, h6, hF.sub (by repeat (first | exact Sub.nil | refine Sub.cons rfl (by first | with_reducible rfl | (refine congrArg (Value.int _) ?_; omega) | exact rfl) ?_)), hM3⟩
      ·
        intro K hK
        (first | (refine x_pure hF hM rfl rfl ?_ ?_; (first | exact trivial | omega | decide); clear hF a; intro a hF) | (apply x_load hF hM rfl; (repeat (first | exact List.mem_cons_self | refine List.mem_cons_of_mem _ ?_)); exact rfl; exact rfl; clear hF a; intro a hF))
        refine hK _ _ (fun h => by cases h) ?_; clear hK
        refine t_one (i := 10) hF rfl (by kernel_rfl) rfl ?_
        intro K hK
        (first | (refine x_pure hF hM rfl rfl ?_ ?_; (first | exact trivial | omega | decide); clear hF a; intro a hF) | (apply x_load hF hM rfl; (repeat (first | exact List.mem_cons_self | refine List.mem_cons_of_mem _ ?_)); exact rfl; exact rfl; clear hF a; intro a hF))
        refine hK _ _ (fun h => by cases h) ?_; clear hK
        refine t_one (i := 12) hF rfl (by kernel_rfl) rfl ?_
        intro K hK
        (apply x_store hF hM rfl rfl rfl; (repeat (first | exact Upd.z | apply Upd.s)); exact rfl; exact rfl; exact rfl; clear hF hM a; intro w a hM hF)
        refine hK _ _ (fun h => by cases h) ?_; clear hK
        refine t_one (i := 13) hF rfl (by kernel_rfl) rfl ?_
        intro K hK
        (first | (refine x_pure hF hM rfl rfl ?_ ?_; (first | exact trivial | omega | decide); clear hF a; intro a hF) | (apply x_load hF hM rfl; (repeat (first | exact List.mem_cons_self | refine List.mem_cons_of_mem _ ?_)); exact rfl; exact rfl; clear hF a; intro a hF))
        refine hK _ _ (fun h => by cases h) ?_; clear hK
        refine t_done (by kernel_rfl) ?_
        (repeat' (first | (with_reducible refine w_seq ?_) | (with_reducible refine c_region ?_) | (with_reducible refine s_nil ?_) | (with_reducible refine q_then_n ?_) | ((with_reducible apply s_pure hF); exact rfl; exact rfl; exact rfl; (first | exact trivial | omega | exact ⟨Int.natCast_nonneg _, Int.ofNat_lt.2 (by assumption)⟩ | decide); clear hF a; intro a hF) | (with_reducible refine w_skip ?_) | (with_reducible refine q_blk_n ?_) | ((with_reducible apply c_false2 hF); exact rfl; (first | with_reducible rfl | (refine congrArg Value.bool ?_; focus (simp; done))))))
        have hM3 := hM.sub (.refl _) (.refl _) (Fs' := [RdF encBP a5 hs2, BytF hs2, RdF Value.bool a6 ((List.range N).map (addS S j)), RdF encBP (some ad) ps, BytF ps, RdF id aw (cellsW ws), RdF (Value.int .i64) ap pos, DatF (wP ws), RdF (Value.int .i64) ao ord]) (by intro f hf; simp only [List.mem_cons, List.not_mem_nil, or_false] at hf; (repeat (rcases hf with rfl | hf; · (repeat (first | exact List.mem_cons_self | refine List.mem_cons_of_mem _ ?_)))); first | (subst hf; (repeat (first | exact List.mem_cons_self | refine List.mem_cons_of_mem _ ?_)); done) | (repeat (first | exact hf | refine List.mem_cons_of_mem _ ?_)))
        exact ⟨m - 1, by omega, k + 1, addS S j, hs2, a5, c5, a6, c6, by omega, h6, hF.sub (by repeat (first | exact Sub.nil | refine Sub.cons rfl (by first | with_reducible rfl | (refine congrArg (Value.int _) ?_; omega) | exact rfl) ?_)), hM3⟩
    obtain rfl : no = k := by omega
    have e5 := fun {own W} hl k1 k3 => MissS_c vn p E N hcn hpq hEb hN (by omega) S hs h5 hN1 a3 c3 a4 c4 own W hl k1 k3
    have hmem : ∀ y ∈ missL ((List.range N).map S) 0, ∃ j : Nat, y = j ∧ j < N := fun y hy => by
      obtain ⟨j, h1, h2, -⟩ := miss_mem hy
      exact ⟨j, h1, h2⟩
    have hfull : ∀ i, i < N → addL S (missL ((List.range N).map S) 0) i = true := fun i hi => miss_full hi
    have hml : (missL ((List.range N).map S) 0).length ≤ N := by
      have := missL_len ((List.range N).map S) 0
      rw [List.length_map, List.length_range] at this
      exact this
    obtain ⟨M, hMM⟩ : ∃ M, M = missL ((List.range N).map S) 0 := ⟨_, rfl⟩
    rw [← hMM] at e5 hmem hfull hml
    (repeat' (first | (with_reducible refine w_seq ?_) | (with_reducible refine c_region ?_) | (with_reducible refine s_nil ?_) | ((with_reducible apply s_call (f := 27) hF hM); exact rfl; exact rfl; exact rfl; exact rfl; exact rfl; exact (e5 hM.lt (hM.facts (RdF encBP a3 hs) (by (repeat (first | with_reducible exact List.mem_cons_self | refine List.mem_cons_of_mem _ ?_)))) (hM.facts (RdF Value.bool a4 ((List.range N).map S)) (by (repeat (first | with_reducible exact List.mem_cons_self | refine List.mem_cons_of_mem _ ?_))))); clear hF hM a; rintro v w a ⟨aM, nM, cM, hnM, rfl, k5⟩ - hM hF; replace hM := hM.addFact k5) | (with_reducible refine q_then_n ?_) | ((with_reducible apply s_pure hF); exact rfl; exact rfl; exact rfl; (first | exact trivial | omega | exact ⟨Int.natCast_nonneg _, Int.ofNat_lt.2 (by assumption)⟩ | decide); clear hF a; intro a hF) | ((with_reducible apply s_load hF hM); exact rfl; exact rfl; (repeat (first | exact List.mem_cons_self | refine List.mem_cons_of_mem _ ?_)); exact rfl; exact rfl; clear hF a; intro a hF) | (with_reducible refine w_block ?_) | (with_reducible refine w_exit ?_) | (with_reducible refine q_then_x ?_) | (with_reducible refine q_blk_x ?_) | ((with_reducible apply c_false2 hF); exact rfl; (first | with_reducible rfl | (refine congrArg Value.bool ?_; focus (simp; done))))))
    refine c_loop (m := nM) (fun m a w' => ∃ (k : Nat) (hs : List BP) (a3 : Option Addr) (c3 : Nat) (a4 : Option Addr) (c4 : Nat), m + k = nM ∧ hs.map (·.1) = hvS p E N (addL S (M.take k)) ∧
      Fr 180 [] [(145, .int .i64 k), (144, .int .i64 nM), (143, .slice aM nM cM), (20, .pointer (some ⟨b20, 0, none⟩)), (19, .int .i64 N), (7, .slice (some ad) N cP), (3, .pointer (some ⟨b1, 0, none⟩))] a ∧
      Mm (fun _ => False) W [⟨b20, ⟨[.int .i64 vn, .int .i64 N, .int .i64 (sumB E), .slice a3 N c3, .slice a4 N c4]⟩, 65⟩, ⟨b1, ⟨[.int .i64 vb, .int .i64 vn, .int .i64 vt, .slice ap np cp, .slice aw nw cw]⟩, 53⟩] [] [RdF encBP a3 hs, BytF hs, RdF Value.bool a4 ((List.range N).map (addL S (M.take k))), RdF (Value.int .i64) aM M, RdF encBP (some ad) ps, BytF ps, RdF id aw (cellsW ws), RdF (Value.int .i64) ap pos, DatF (wP ws)] w')
      ⟨0, hs, a3, c3, a4, c4, by omega, by rw [List.take_zero, addL_nil]; exact h5, hF.sub (by repeat (first | exact Sub.nil | refine Sub.cons rfl (by first | with_reducible rfl | (refine congrArg (Value.int _) ?_; omega) | exact rfl) ?_)), ?_⟩ ?_
    · rw [List.take_zero, addL_nil]
      exact hM.sub (.refl _) (.refl _) (by intro f hf; simp only [List.mem_cons, List.not_mem_nil, or_false] at hf; (repeat (rcases hf with rfl | hf; · (repeat (first | exact List.mem_cons_self | refine List.mem_cons_of_mem _ ?_)))); first | (subst hf; (repeat (first | exact List.mem_cons_self | refine List.mem_cons_of_mem _ ?_)); done) | (repeat (first | exact hf | refine List.mem_cons_of_mem _ ?_)))
    clear hF hM a e5 k5 h5
    rintro m a w' ⟨k, hs, a3, c3, a4, c4, hm, h5, hF, hM⟩
    by_cases hk : k < nM
    · obtain ⟨y, hy⟩ := get_of_lt (l := M) (i := k) (by omega)
      obtain ⟨j, rfl, hjN⟩ := hmem y (List.mem_of_getElem? hy)
      obtain ⟨q, hq⟩ := get_of_lt (l := ps) (i := j) (by omega)
      have hqm := List.mem_of_getElem? hq
      have hqf := hps1 j q hq
      have hqc := hcap q hqm
      have hqr := byt_one (hM.facts (BytF ps) (by (repeat (first | with_reducible exact List.mem_cons_self | refine List.mem_cons_of_mem _ ?_)))) hqm
      replace hM := hM.addFact hqr
      obtain ⟨am, rfl⟩ : ∃ ad, aM = some ad := rd_some hM (enc := Value.int .i64) (a := aM) (xs := M) (by (repeat (first | exact List.mem_cons_self | refine List.mem_cons_of_mem _ ?_))) hy
      obtain ⟨P, aq, cq⟩ := q
      dsimp only at hqf hqc hqr hM
      have e3 := fun {own W} hl hv k1 k2 k3 => AddS_c vn p E N hcn hpq hEb hN (by omega) j hjN P hqf aq P.length cq rfl hqc (addL S (M.take k)) hs h5 a3 c3 a4 c4 own W hl hv k1 k2 k3
      rw [addL_step hy] at e3
      (repeat' (first | (with_reducible refine w_seq ?_) | (with_reducible refine c_region ?_) | (with_reducible refine s_nil ?_) | (with_reducible refine q_then_n ?_) | ((with_reducible apply s_pure hF); exact rfl; exact rfl; exact rfl; (first | exact trivial | omega | exact ⟨Int.natCast_nonneg _, Int.ofNat_lt.2 (by assumption)⟩ | decide); clear hF a; intro a hF) | ((with_reducible apply s_loadF hF hM); exact rfl; exact rfl; (repeat (first | exact List.mem_cons_self | refine List.mem_cons_of_mem _ ?_)); exact rfl; exact rfl; (first | with_reducible assumption | (simp only [Int.toNat_natCast]; with_reducible assumption)); clear hF a; intro a hF) | (with_reducible refine w_skip ?_) | (with_reducible refine w_block ?_) | ((with_reducible apply c_dec hF); exact rfl; all_goals intro hc; all_goals (try (exfalso; omega)))))
      refine c_draw (fun i => Nat.ble 7 i) hM ?_; clear hM; intro w hM
      (first | (apply t_load (i := 0) hF rfl rfl rfl; (repeat (first | exact List.mem_cons_self | refine List.mem_cons_of_mem _ ?_)); exact rfl; exact rfl; kernel_rfl; exact hM.sm; exact (fun _ _ _ h => h); clear hF a; intro a hF))
      (first | (refine t_pure (i := 1) hF rfl rfl rfl rfl (by kernel_rfl) hM.sm (fun _ _ _ h => h) ?_ ?_; (first | exact trivial | omega | decide); clear hF a; intro a hF))
      (first | (refine t_pure (i := 2) hF rfl rfl rfl rfl (by kernel_rfl) hM.sm (fun _ _ _ h => h) ?_ ?_; (first | exact trivial | omega | decide); clear hF a; intro a hF))
      (first | (refine t_pure (i := 3) hF rfl rfl rfl rfl (by kernel_rfl) hM.sm (fun _ _ _ h => h) ?_ ?_; (first | exact trivial | omega | decide); clear hF a; intro a hF))
      (first | (apply t_loadF (i := 4) hF rfl rfl rfl; (repeat (first | exact List.mem_cons_self | refine List.mem_cons_of_mem _ ?_)); (first | with_reducible assumption | (simp only [Int.toNat_natCast]; with_reducible assumption)); exact rfl; exact rfl; kernel_rfl; exact hM.sm; exact (fun _ _ _ h => h); clear hF a; intro a hF))
      unfold encBP at hF; (try dsimp only at hF)
      refine t_one (i := 5) hF rfl (by kernel_rfl) rfl ?_
      intro K hK
      (apply x_call hF hM; exact rfl; exact rfl; exact rfl; exact rfl; exact (e3 hM.lt (hM.facts (RdF (Value.int .u8) aq P) (by (repeat (first | with_reducible exact List.mem_cons_self | refine List.mem_cons_of_mem _ ?_)))) (hM.facts (RdF encBP a3 hs) (by (repeat (first | with_reducible exact List.mem_cons_self | refine List.mem_cons_of_mem _ ?_)))) (hM.facts (BytF hs) (by (repeat (first | with_reducible exact List.mem_cons_self | refine List.mem_cons_of_mem _ ?_)))) (hM.facts (RdF Value.bool a4 ((List.range N).map (addL S (M.take k)))) (by (repeat (first | with_reducible exact List.mem_cons_self | refine List.mem_cons_of_mem _ ?_))))); clear hF hM a; rintro v w a ⟨u, rfl, hs2, a5, c5, a6, c6, rfl, h6, k5, k6, k7⟩ - hM hF)
      replace hM := ((hM.addFact k5).addFact k6).addFact k7
      refine hK _ _ (fun _ => (hM.sm.sub (fun x hx => by repeat (first | exact hx | refine List.mem_cons_of_mem _ ?_)) (fun _ h => by repeat (first | exact h | refine List.mem_cons_of_mem _ ?_)))) ?_; clear hK
      (first | (refine t_pure (i := 6) hF rfl rfl rfl rfl (by kernel_rfl) (hM.sm.sub (fun x hx => by repeat (first | exact hx | refine List.mem_cons_of_mem _ ?_)) (fun _ h => by repeat (first | exact h | refine List.mem_cons_of_mem _ ?_))) (fun _ _ _ h => h) ?_ ?_; (first | exact trivial | omega | decide); clear hF a; intro a hF))
      refine t_two (i := 7) (j := 8) hF rfl rfl (by kernel_rfl) rfl rfl ?_ ?_
      ·
        intro K hK
        (first | (refine x_pure hF hM rfl rfl ?_ ?_; (first | exact trivial | omega | decide); clear hF a; intro a hF) | (apply x_load hF hM rfl; (repeat (first | exact List.mem_cons_self | refine List.mem_cons_of_mem _ ?_)); exact rfl; exact rfl; clear hF a; intro a hF))
        refine hK _ _ (fun h => by cases h) ?_; clear hK
        refine t_two (i := 8) (j := 9) hF rfl rfl (by kernel_rfl) rfl rfl ?_ ?_
        ·
          intro K hK
          (first | (refine x_pure hF hM rfl rfl ?_ ?_; (first | exact trivial | omega | decide); clear hF a; intro a hF) | (apply x_load hF hM rfl; (repeat (first | exact List.mem_cons_self | refine List.mem_cons_of_mem _ ?_)); exact rfl; exact rfl; clear hF a; intro a hF))
          refine hK _ _ (fun h => by cases h) ?_; clear hK
          refine t_one (i := 9) hF rfl (by kernel_rfl) rfl ?_
          intro K hK
          (apply x_store hF hM rfl rfl rfl; (repeat (first | exact Upd.z | apply Upd.s)); exact rfl; exact rfl; exact rfl; clear hF hM a; intro w a hM hF)
          refine hK _ _ (fun h => by cases h) ?_; clear hK
          refine t_one (i := 10) hF rfl (by kernel_rfl) rfl ?_
          intro K hK
          (first | (refine x_pure hF hM rfl rfl ?_ ?_; (first | exact trivial | omega | decide); clear hF a; intro a hF) | (apply x_load hF hM rfl; (repeat (first | exact List.mem_cons_self | refine List.mem_cons_of_mem _ ?_)); exact rfl; exact rfl; clear hF a; intro a hF))
          refine hK _ _ (fun h => by cases h) ?_; clear hK
          refine t_done (by kernel_rfl) ?_
          (repeat' (first | (with_reducible refine w_seq ?_) | (with_reducible refine c_region ?_) | (with_reducible refine s_nil ?_) | (with_reducible refine q_then_n ?_) | ((with_reducible apply s_pure hF); exact rfl; exact rfl; exact rfl; (first | exact trivial | omega | exact ⟨Int.natCast_nonneg _, Int.ofNat_lt.2 (by assumption)⟩ | decide); clear hF a; intro a hF) | (with_reducible refine w_skip ?_) | (with_reducible refine q_blk_n ?_) | ((with_reducible apply c_false2 hF); exact rfl; (first | with_reducible rfl | (refine congrArg Value.bool ?_; focus (simp; done))))))
          have hM3 := hM.sub (.refl _) (.refl _) (Fs' := [RdF encBP a5 hs2, BytF hs2, RdF Value.bool a6 ((List.range N).map (addL S (M.take (k + 1)))), RdF (Value.int .i64) (some am) M, RdF encBP (some ad) ps, BytF ps, RdF id aw (cellsW ws), RdF (Value.int .i64) ap pos, DatF (wP ws)]) (by intro f hf; simp only [List.mem_cons, List.not_mem_nil, or_false] at hf; (repeat (rcases hf with rfl | hf; · (repeat (first | exact List.mem_cons_self | refine List.mem_cons_of_mem _ ?_)))); first | (subst hf; (repeat (first | exact List.mem_cons_self | refine List.mem_cons_of_mem _ ?_)); done) | (repeat (first | exact hf | refine List.mem_cons_of_mem _ ?_)))
          exact ⟨m - 1, by omega, k + 1, hs2, a5, c5, a6, c6, by omega, h6, hF.sub (by repeat (first | exact Sub.nil | refine Sub.cons rfl (by first | with_reducible rfl | (refine congrArg (Value.int _) ?_; omega) | exact rfl) ?_)), hM3⟩
        ·
          intro K hK
          (apply x_store hF hM rfl rfl rfl; (repeat (first | exact Upd.z | apply Upd.s)); exact rfl; exact rfl; exact rfl; clear hF hM a; intro w a hM hF)
          refine hK _ _ (fun h => by cases h) ?_; clear hK
          refine t_one (i := 8) hF rfl (by kernel_rfl) rfl ?_
          intro K hK
          (first | (refine x_pure hF hM rfl rfl ?_ ?_; (first | exact trivial | omega | decide); clear hF a; intro a hF) | (apply x_load hF hM rfl; (repeat (first | exact List.mem_cons_self | refine List.mem_cons_of_mem _ ?_)); exact rfl; exact rfl; clear hF a; intro a hF))
          refine hK _ _ (fun h => by cases h) ?_; clear hK
          refine t_one (i := 10) hF rfl (by kernel_rfl) rfl ?_
          intro K hK
          (first | (refine x_pure hF hM rfl rfl ?_ ?_; (first | exact trivial | omega | decide); clear hF a; intro a hF) | (apply x_load hF hM rfl; (repeat (first | exact List.mem_cons_self | refine List.mem_cons_of_mem _ ?_)); exact rfl; exact rfl; clear hF a; intro a hF))
          refine hK _ _ (fun h => by cases h) ?_; clear hK
          refine t_done (by kernel_rfl) ?_
          (repeat' (first | (with_reducible refine w_seq ?_) | (with_reducible refine c_region ?_) | (with_reducible refine s_nil ?_) | (with_reducible refine q_then_n ?_) | ((with_reducible apply s_pure hF); exact rfl; exact rfl; exact rfl; (first | exact trivial | omega | exact ⟨Int.natCast_nonneg _, Int.ofNat_lt.2 (by assumption)⟩ | decide); clear hF a; intro a hF) | (with_reducible refine w_skip ?_) | (with_reducible refine q_blk_n ?_) | ((with_reducible apply c_false2 hF); exact rfl; (first | with_reducible rfl | (refine congrArg Value.bool ?_; focus (simp; done))))))
          have hM3 := hM.sub (.refl _) (.refl _) (Fs' := [RdF encBP a5 hs2, BytF hs2, RdF Value.bool a6 ((List.range N).map (addL S (M.take (k + 1)))), RdF (Value.int .i64) (some am) M, RdF encBP (some ad) ps, BytF ps, RdF id aw (cellsW ws), RdF (Value.int .i64) ap pos, DatF (wP ws)]) (by intro f hf; simp only [List.mem_cons, List.not_mem_nil, or_false] at hf; (repeat (rcases hf with rfl | hf; · (repeat (first | exact List.mem_cons_self | refine List.mem_cons_of_mem _ ?_)))); first | (subst hf; (repeat (first | exact List.mem_cons_self | refine List.mem_cons_of_mem _ ?_)); done) | (repeat (first | exact hf | refine List.mem_cons_of_mem _ ?_)))
          exact ⟨m - 1, by omega, k + 1, hs2, a5, c5, a6, c6, by omega, h6, hF.sub (by repeat (first | exact Sub.nil | refine Sub.cons rfl (by first | with_reducible rfl | (refine congrArg (Value.int _) ?_; omega) | exact rfl) ?_)), hM3⟩
      ·
        intro K hK
        (first | (refine x_pure hF hM rfl rfl ?_ ?_; (first | exact trivial | omega | decide); clear hF a; intro a hF) | (apply x_load hF hM rfl; (repeat (first | exact List.mem_cons_self | refine List.mem_cons_of_mem _ ?_)); exact rfl; exact rfl; clear hF a; intro a hF))
        refine hK _ _ (fun h => by cases h) ?_; clear hK
        refine t_one (i := 7) hF rfl (by kernel_rfl) rfl ?_
        intro K hK
        (first | (refine x_pure hF hM rfl rfl ?_ ?_; (first | exact trivial | omega | decide); clear hF a; intro a hF) | (apply x_load hF hM rfl; (repeat (first | exact List.mem_cons_self | refine List.mem_cons_of_mem _ ?_)); exact rfl; exact rfl; clear hF a; intro a hF))
        refine hK _ _ (fun h => by cases h) ?_; clear hK
        refine t_one (i := 9) hF rfl (by kernel_rfl) rfl ?_
        intro K hK
        (apply x_store hF hM rfl rfl rfl; (repeat (first | exact Upd.z | apply Upd.s)); exact rfl; exact rfl; exact rfl; clear hF hM a; intro w a hM hF)
        refine hK _ _ (fun h => by cases h) ?_; clear hK
        refine t_one (i := 10) hF rfl (by kernel_rfl) rfl ?_
        intro K hK
        (first | (refine x_pure hF hM rfl rfl ?_ ?_; (first | exact trivial | omega | decide); clear hF a; intro a hF) | (apply x_load hF hM rfl; (repeat (first | exact List.mem_cons_self | refine List.mem_cons_of_mem _ ?_)); exact rfl; exact rfl; clear hF a; intro a hF))
        refine hK _ _ (fun h => by cases h) ?_; clear hK
        refine t_done (by kernel_rfl) ?_
        (repeat' (first | (with_reducible refine w_seq ?_) | (with_reducible refine c_region ?_) | (with_reducible refine s_nil ?_) | (with_reducible refine q_then_n ?_) | ((with_reducible apply s_pure hF); exact rfl; exact rfl; exact rfl; (first | exact trivial | omega | exact ⟨Int.natCast_nonneg _, Int.ofNat_lt.2 (by assumption)⟩ | decide); clear hF a; intro a hF) | (with_reducible refine w_skip ?_) | (with_reducible refine q_blk_n ?_) | ((with_reducible apply c_false2 hF); exact rfl; (first | with_reducible rfl | (refine congrArg Value.bool ?_; focus (simp; done))))))
        have hM3 := hM.sub (.refl _) (.refl _) (Fs' := [RdF encBP a5 hs2, BytF hs2, RdF Value.bool a6 ((List.range N).map (addL S (M.take (k + 1)))), RdF (Value.int .i64) (some am) M, RdF encBP (some ad) ps, BytF ps, RdF id aw (cellsW ws), RdF (Value.int .i64) ap pos, DatF (wP ws)]) (by intro f hf; simp only [List.mem_cons, List.not_mem_nil, or_false] at hf; (repeat (rcases hf with rfl | hf; · (repeat (first | exact List.mem_cons_self | refine List.mem_cons_of_mem _ ?_)))); first | (subst hf; (repeat (first | exact List.mem_cons_self | refine List.mem_cons_of_mem _ ?_)); done) | (repeat (first | exact hf | refine List.mem_cons_of_mem _ ?_)))
        exact ⟨m - 1, by omega, k + 1, hs2, a5, c5, a6, c6, by omega, h6, hF.sub (by repeat (first | exact Sub.nil | refine Sub.cons rfl (by first | with_reducible rfl | (refine congrArg (Value.int _) ?_; omega) | exact rfl) ?_)), hM3⟩
    obtain rfl : nM = k := by omega
    rw [List.take_of_length_le (by omega)] at h5 hM
    have e6 := fun {own W} hl k1 k2 k3 => CycleS_c vb vn vt pos (wms ws) hfw hby hchk E hE0 p N hpq hN (by omega) hcn (addL S M) hfull hs h5 a3 c3 a4 c4 own W hl k1 k2 k3
    rw [hnp, wms_len, hnw] at e6
    (repeat' (first | (with_reducible refine w_seq ?_) | (with_reducible refine c_region ?_) | (with_reducible refine s_nil ?_) | ((with_reducible apply s_call (f := 28) hF hM); exact rfl; exact rfl; exact rfl; exact rfl; exact rfl; exact (e6 hM.lt (hM.facts (RdF encBP a3 hs) (by (repeat (first | with_reducible exact List.mem_cons_self | refine List.mem_cons_of_mem _ ?_)))) (hM.facts (BytF hs) (by (repeat (first | with_reducible exact List.mem_cons_self | refine List.mem_cons_of_mem _ ?_)))) (hM.facts (RdF Value.bool a4 ((List.range N).map (addL S M))) (by (repeat (first | with_reducible exact List.mem_cons_self | refine List.mem_cons_of_mem _ ?_))))); clear hF hM a; rintro v w a ⟨ts, a5, c5, a6, c6, rfl, i1, k5, k6, k7, -, -⟩ - hM hF; replace hM := ((hM.addFact k5).addFact k6).addFact k7) | (with_reducible refine q_then_n ?_) | ((with_reducible apply s_pure hF); exact rfl; exact rfl; exact rfl; (first | exact trivial | omega | exact ⟨Int.natCast_nonneg _, Int.ofNat_lt.2 (by assumption)⟩ | decide); clear hF a; intro a hF) | ((with_reducible apply s_load hF hM); exact rfl; exact rfl; (repeat (first | exact List.mem_cons_self | refine List.mem_cons_of_mem _ ?_)); exact rfl; exact rfl; clear hF a; intro a hF) | ((with_reducible apply s_store hF hM); exact rfl; exact rfl; exact rfl; exact rfl; (repeat (first | exact Upd.z | apply Upd.s)); exact rfl; exact rfl; exact rfl; clear hM; intro w hM) | ((with_reducible apply s_alloc hF hM); exact rfl; exact rfl; exact rfl; clear hF hM a; intro b w a hM hF) | (with_reducible refine w_exit ?_) | (with_reducible refine q_then_x ?_) | (with_reducible refine q_blk_x ?_) | ((with_reducible apply c_false2 hF); exact rfl; (first | with_reducible rfl | (refine congrArg Value.bool ?_; focus (simp; done))))))
    have h8 : ∀ t ∈ ts, W8 t.1.x ∧ t.1.x.length ≤ 24 := fun t ht => hfw.2 t.1 (by rw [← i1]; exact List.mem_map.2 ⟨t, ht, rfl⟩)
    have htn : ts.length = nw := by rw [← wms_len, i1, wms_len, hnw]
    have e7 := fun {own W} hl k1 k2 k3 k4 k5 k6 => same23_c vb vn vt pos np hnp (by omega) ts ws i1 h8 nw htn (by omega) a5 ap a6 aw c5 cp c6 cw own W hl k1 k2 k3 k4 k5 k6
    generalize b = b25 at *
    (repeat' (first | (with_reducible refine s_nil ?_) | ((with_reducible apply s_call (f := 29) hF hM); exact rfl; exact rfl; exact rfl; exact rfl; exact rfl; exact (e7 hM.lt (hM.facts (RdF id a6 (cellsW ts)) (by (repeat (first | with_reducible exact List.mem_cons_self | refine List.mem_cons_of_mem _ ?_)))) (hM.facts (DatF (wP ts)) (by (repeat (first | with_reducible exact List.mem_cons_self | refine List.mem_cons_of_mem _ ?_)))) (hM.facts (RdF id aw (cellsW ws)) (by (repeat (first | with_reducible exact List.mem_cons_self | refine List.mem_cons_of_mem _ ?_)))) (hM.facts (DatF (wP ws)) (by (repeat (first | with_reducible exact List.mem_cons_self | refine List.mem_cons_of_mem _ ?_)))) (hM.facts (RdF (Value.int .i64) a5 pos) (by (repeat (first | with_reducible exact List.mem_cons_self | refine List.mem_cons_of_mem _ ?_)))) (hM.facts (RdF (Value.int .i64) ap pos) (by (repeat (first | with_reducible exact List.mem_cons_self | refine List.mem_cons_of_mem _ ?_))))); clear hF hM a; rintro v w a rfl - hM hF) | (with_reducible refine q_then_n ?_) | ((with_reducible apply s_pure hF); exact rfl; exact rfl; exact rfl; (first | exact trivial | omega | exact ⟨Int.natCast_nonneg _, Int.ofNat_lt.2 (by assumption)⟩ | decide); clear hF a; intro a hF) | (with_reducible refine w_ret ?_)))
    (apply f_ret Try.results5 hF hM; (repeat (first | exact RL.nil | (apply RL.tmp; exact rfl) | (apply RL.cell; exact rfl; (repeat (first | exact List.mem_cons_self | refine List.mem_cons_of_mem _ ?_)); exact rfl))); refine Ret.mk hM.since ?_; dsimp only [resV])
end Go.Proofs.Ytadfdpkhehdikaa

