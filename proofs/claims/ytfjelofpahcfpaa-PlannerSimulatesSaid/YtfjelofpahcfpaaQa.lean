/- The examples of the planner's law. -/
import Derived.Test.YtfjelofpahcfpaaQl9
set_option linter.unusedSimpArgs false
set_option linter.unusedVariables false
namespace Go.Proofs.Ytfjelofpahcfpaa
open Go.RowKit Go.Shelf
/-- The trace of the examples. -/
def ex (c : List Int) : P56.Tr := { W := [4, 0, 2, 2], C := c, P := 2, L := 1, A := 1 }
def exPl : P56.Pl := ⟨[2, 4], [2, 4], [4, 6], [6, 8], 5⟩
def exPl1 : P56.Pl := ⟨[2, 4], [2, 6], [6, 10], [8, 12], 9⟩
theorem ex_2 : P56.plan (ex [2]) = (exPl, 0) := by decide
theorem ex_1 : P56.plan (ex [1]) = (exPl1, 0) := by decide
theorem ex_20 : P56.plan (TP (ex [2, 0]) 4) = (P56.none, 21) := by decide
def ages : List Int := [0, 1, 2, 3, 4, 5, 4, 5, 4, 5]
theorem ex_age : ∀ k : Fin 10, age (ex [2]) exPl ((k.val : Nat) : Int) = (ages.getD k.val 0, 0) := by decide
theorem ex_v2 : verify (ex [2]) exPl = 0 := by decide
theorem ex_v1 : verify (ex [1]) exPl = 22 := by decide
theorem ex_ok : P56.Ok (TC (ex [9]) 1) := P56.check_ok.1 (by decide)
theorem ex_r5 : IsFirst (rateP (ex [9]) 5) 4096 1 := by
  refine ⟨by decide, fun t h => ?_, fun t h h2 => rateP_mono ex_ok h h2 (by decide)⟩
  obtain rfl : t = 0 := by omega
  decide
theorem ex_r3 : IsFirst (rateP (ex [9]) 3) 4096 4096 := ⟨by decide, fun t h => by
  cases hr : rateP (ex [9]) 3 t with
  | false => rfl
  | true => exact absurd (rateP_mono ex_ok (show t ≤ 4095 by omega) (by decide) hr) (by decide), fun t h h2 => by omega⟩
theorem example_c (C : List Int) (a1 : Option Addr) (n c : Nat) (hn : n = C.length) (own : Nat → Prop) (W : World) (hl : ∀ b, own b → b < W.heap.size) (hr : Has own W (RdF (Value.int .i64) a1 C)) (h1 : C.length ≤ c) (h2 : C.length ≤ 9223372036854775807) :
    Calls Try.prog 30 ⟨[.slice a1 n c]⟩ W (Ret W fun v w' => Has own w' (IsTr · v (ex C))) := by
  subst hn
  have hM := (Mm.start hl).known hr
  refine f_start Try.func30 rfl Try.ntmps30 rfl rfl ?_; intro a hF
  (repeat (first | (with_reducible refine w_seq ?_) | (with_reducible refine c_region ?_) | (with_reducible refine s_nil ?_) | ((with_reducible apply s_lit hF hM); exact rfl; exact rfl; exact rfl; exact rfl; clear hF hM a; intro bl w a hM hF; replace hM := Mm.freeze hM) | (with_reducible refine q_then_n ?_) | ((with_reducible apply s_pure hF); exact rfl; exact rfl; exact rfl; (first | exact trivial | omega | decide); clear hF a; intro a hF) | ((with_reducible apply s_store hF hM); exact rfl; exact rfl; exact rfl; exact rfl; (repeat (first | exact Upd.z | apply Upd.s)); exact rfl; exact rfl; exact rfl; clear hM; intro w hM) | ((with_reducible apply s_alloc hF hM); exact rfl; exact rfl; exact rfl; clear hF hM a; intro b w a hM hF) | (with_reducible refine w_ret ?_)))
  (apply f_ret Try.results30 hF hM; (repeat (first | exact RL.nil | (apply RL.tmp; exact rfl) | (apply RL.cell; exact rfl; (repeat (first | exact List.mem_cons_self | refine List.mem_cons_of_mem _ ?_)); exact rfl))); refine Ret.mk hM.since ?_; dsimp only [resV])
  have h3 := Has.ints (hM.factOut (f := BxF bl _ _) (by (repeat (first | exact List.mem_cons_self | refine List.mem_cons_of_mem _ ?_)))) [4, 0, 2, 2] rfl
  have h4 := hM.factOut (f := RdF (Value.int .i64) a1 C) (by (repeat (first | exact List.mem_cons_self | refine List.mem_cons_of_mem _ ?_)))
  exact isTr_mk (t := ex C) h3 h4 (by simp [ex]) h2 (by simp [ex]) h1
theorem exPlan_c {C : List Int} {q : P56.Pl × Int} (hq : P56.plan (ex C) = q) (v : Value) (own : Nat → Prop) (W : World) (hl : ∀ b, own b → b < W.heap.size) (hv : Has own W (IsTr · v (ex C))) :
    Calls Try.prog 12 ⟨[v]⟩ W (Ret W (PlanR own q)) := hq ▸ Plan_c sizes_c _ _ _ _ hl hv
theorem exPlan2_c (v : Value) (own : Nat → Prop) (W : World) (hl : ∀ b, own b → b < W.heap.size) (hv : Has own W (IsTr · v (TP (ex [2, 0]) 4))) :
    Calls Try.prog 12 ⟨[v]⟩ W (Ret W (PlanR own (P56.none, 21))) := ex_20 ▸ Plan_c sizes_c _ _ _ _ hl hv
theorem exSame_c (v u : Value) (w : World) (hp : IsPl w v exPl) (hq : IsPl w u exPl) : Calls Try.prog 16 #[v, u] w (Ret w fun x _ => x = .bool true) :=
  Ret.of ((show eqPl exPl exPl = true by decide) ▸ same_any _ _ _ _ _ hp hq)
theorem exEq_c (a1 a2 : Option Addr) (n1 n2 c1 c2 : Nat) (own : Nat → Prop) (W : World) (hl : ∀ b, own b → b < W.heap.size) (h1 : Has own W (RdF (Value.int .i64) a1 [8, 12])) (h2 : Has own W (RdF (Value.int .i64) a2 [8, 12])) (e1 : n1 = 2) (e2 : n2 = 2) :
    Calls Try.prog 24 ⟨[.slice a1 n1 c1, .slice a2 n2 c2]⟩ W (Ret W fun v _ => v = .bool true) := by
  subst e1 e2
  have := eq_c [8, 12] [8, 12] a1 a2 c1 c2 own W hl h1 h2 (by decide) (by decide)
  rw [show eqI [8, 12] [8, 12] = true by decide] at this
  exact this
theorem isPl_mk {own : Nat → Prop} {w : World} {p : P56.Pl} {a1 a2 a3 a4 : Option Addr} {c1 c2 c3 c4 : Nat} (h1 : Has own w (RdF (Value.int .i64) a1 p.close)) (h2 : Has own w (RdF (Value.int .i64) a2 p.start)) (h3 : Has own w (RdF (Value.int .i64) a3 p.fin)) (h4 : Has own w (RdF (Value.int .i64) a4 p.applied))
    (l1 : p.close.length ≤ 9223372036854775807) (l2 : p.start.length ≤ 9223372036854775807) (l3 : p.fin.length ≤ 9223372036854775807) (l4 : p.applied.length ≤ 9223372036854775807) :
    Has own w (IsPl · (.agg #[.slice a1 p.close.length c1, .slice a2 p.start.length c2, .slice a3 p.fin.length c3, .slice a4 p.applied.length c4, .int .i64 p.bound]) p) :=
  ((h1.and h2).and (h3.and h4)).imp fun w k => ⟨a1, a2, a3, a4, c1, c2, c3, c4, rfl, k.1.1, k.1.2, k.2.1, k.2.2, l1, l2, l3, l4⟩
theorem exRate5_c (v : Value) (own : Nat → Prop) (W : World) (hl : ∀ b, own b → b < W.heap.size) (hv : Has own W (IsTr · v (ex [9]))) :
    Calls Try.prog 28 ⟨[v, .int .i64 5]⟩ W (Ret W fun x _ => x = .tuple #[.int .i64 2, .int .i64 0]) := by
  have := Rate_c (ex [9]) v 5 1 (fun _ => ex_r5) own W hl hv (by omega)
  rw [show rate (ex [9]) 5 1 = (2, 0) by decide] at this
  exact this
theorem exRate3_c (v : Value) (own : Nat → Prop) (W : World) (hl : ∀ b, own b → b < W.heap.size) (hv : Has own W (IsTr · v (ex [9]))) :
    Calls Try.prog 28 ⟨[v, .int .i64 3]⟩ W (Ret W fun x _ => x = .tuple #[.int .i64 0, .int .i64 21]) := by
  have := Rate_c (ex [9]) v 3 4096 (fun _ => ex_r3) own W hl hv (by omega)
  rw [show rate (ex [9]) 3 4096 = (0, 21) by decide] at this
  exact this
theorem exRate_c (o : Int) (ho : o = 5 ∨ o = 3) (v : Value) (own : Nat → Prop) (W : World) (hl : ∀ b, own b → b < W.heap.size) (hv : Has own W (IsTr · v (ex [9]))) :
    Calls Try.prog 28 ⟨[v, .int .i64 o]⟩ W (Ret W fun x _ => x = .tuple #[.int .i64 (if o = 5 then 2 else 0), .int .i64 (if o = 5 then 0 else 21)]) := by
  rcases ho with rfl | rfl
  · exact exRate5_c v own W hl hv
  · exact exRate3_c v own W hl hv
theorem exVer_c {C : List Int} {e : Int} (he : verify (ex C) exPl = e) (v u : Value) (own : Nat → Prop) (W : World) (hl : ∀ b, own b → b < W.heap.size) (hv : Has own W (IsTr · v (ex C))) (hu : Has own W (IsPl · u exPl)) :
    Calls Try.prog 20 ⟨[v, u]⟩ W (Ret W fun x _ => x = .int .i64 e) := he ▸ Verify_c sizes_c _ _ _ _ _ _ hl hv hu
theorem exAge_c (k : Nat) (hk : k < 10) (x : Int) (hx : ages[k]? = some x) (v u : Value) (own : Nat → Prop) (W : World) (hl : ∀ b, own b → b < W.heap.size) (hv : Has own W (IsTr · v (ex [2]))) (hu : Has own W (IsPl · u exPl)) :
    Calls Try.prog 18 ⟨[v, u, .int .i64 k]⟩ W (Ret W fun y _ => y = .tuple #[.int .i64 x, .int .i64 0]) := by
  have := Age_c sizes_c (ex [2]) exPl v u k own W hl hv hu (by omega)
  have h2 := ex_age ⟨k, hk⟩
  simp only at h2
  rw [h2, getD_get hx] at this
  exact this
set_option maxHeartbeats 4000000 in
theorem awake_c (own : Nat → Prop) (W : World) (hl : ∀ b, own b → b < W.heap.size) :
    Calls Try.prog 11 ⟨[]⟩ W (Ret W fun v _ => v = .bool true) := by
  have hM := Mm.start hl
  refine f_start Try.func11 rfl Try.ntmps11 rfl rfl ?_; intro a hF
  (repeat (first | (with_reducible refine w_seq ?_) | (with_reducible refine c_region ?_) | (with_reducible refine s_nil ?_) | ((with_reducible apply s_lit hF hM); exact rfl; exact rfl; exact rfl; exact rfl; clear hF hM a; intro bl w a hM hF; replace hM := Mm.freeze hM) | ((with_reducible apply s_call (f := 30) hF hM); exact rfl; exact rfl; exact rfl; exact rfl; exact rfl; exact (example_c [2] _ _ _ (by decide) _ _ hM.lt (Has.ints (hM.facts (BxF bl _ _) (by (repeat (first | exact List.mem_cons_self | refine List.mem_cons_of_mem _ ?_)))) [2] rfl) (by decide) (by decide)); clear hF hM a; rintro v w a he - hM hF; replace hM := hM.addFact he) | ((with_reducible apply s_call (f := 12) hF hM); exact rfl; exact rfl; exact rfl; exact rfl; exact rfl; exact (exPlan_c ex_2 _ _ _ hM.lt (hM.facts (IsTr · _ (ex [2])) (by (repeat (first | exact List.mem_cons_self | refine List.mem_cons_of_mem _ ?_))))); clear hF hM a; rintro v w a ⟨pv, rfl, hpv⟩ - hM hF; (obtain ⟨x1, x2, x3, x4, y1, y2, y3, y4, rfl, -⟩ := isPl_open hpv; replace hM := hM.addFact hpv)) | (with_reducible refine q_then_n ?_) | ((with_reducible apply s_pure hF); exact rfl; exact rfl; exact rfl; (first | exact trivial | omega | decide); clear hF a; intro a hF) | ((with_reducible apply s_store hF hM); exact rfl; exact rfl; exact rfl; exact rfl; (repeat (first | exact Upd.z | apply Upd.s)); exact rfl; exact rfl; exact rfl; clear hM; intro w hM) | ((with_reducible apply s_alloc hF hM); exact rfl; exact rfl; exact rfl; clear hF hM a; intro b w a hM hF)))
  obtain ⟨b1, hb1⟩ : ∃ x, x = b := ⟨b, rfl⟩
  subst hb1
  (repeat (first | (with_reducible refine w_seq ?_) | (with_reducible refine c_region ?_) | (with_reducible refine s_nil ?_) | ((with_reducible apply s_lit hF hM); exact rfl; exact rfl; exact rfl; exact rfl; clear hF hM a; intro bl w a hM hF; replace hM := Mm.freeze hM) | ((with_reducible apply s_call (f := 30) hF hM); exact rfl; exact rfl; exact rfl; exact rfl; exact rfl; exact (example_c [1] _ _ _ (by decide) _ _ hM.lt (Has.ints (hM.facts (BxF bl _ _) (by (repeat (first | exact List.mem_cons_self | refine List.mem_cons_of_mem _ ?_)))) [1] rfl) (by decide) (by decide)); clear hF hM a; rintro v w a he - hM hF; replace hM := hM.addFact he) | ((with_reducible apply s_call (f := 12) hF hM); exact rfl; exact rfl; exact rfl; exact rfl; exact rfl; exact (exPlan_c ex_1 _ _ _ hM.lt (hM.facts (IsTr · _ (ex [1])) (by (repeat (first | exact List.mem_cons_self | refine List.mem_cons_of_mem _ ?_))))); clear hF hM a; rintro v w a ⟨pv, rfl, hpv⟩ - hM hF; (obtain ⟨u1, u2, u3, u4, z1, z2, z3, z4, rfl, -, -, -, hq4, -⟩ := isPl_open hpv; replace hM := (hM.addFact hpv).addFact hq4)) | (with_reducible refine q_then_n ?_) | ((with_reducible apply s_pure hF); exact rfl; exact rfl; exact rfl; (first | exact trivial | omega | decide); clear hF a; intro a hF) | ((with_reducible apply s_store hF hM); exact rfl; exact rfl; exact rfl; exact rfl; (repeat (first | exact Upd.z | apply Upd.s)); exact rfl; exact rfl; exact rfl; clear hM; intro w hM) | ((with_reducible apply s_alloc hF hM); exact rfl; exact rfl; exact rfl; clear hF hM a; intro b w a hM hF)))
  (repeat (first | (with_reducible refine w_seq ?_) | (with_reducible refine c_region ?_) | (with_reducible refine s_nil ?_) | ((with_reducible apply s_call (f := 30) hF hM); exact rfl; exact rfl; exact rfl; exact rfl; exact rfl; exact (example_c [2, 0] _ _ _ (by decide) _ _ hM.lt (Has.ints (hM.facts (BxF bl _ _) (by (repeat (first | exact List.mem_cons_self | refine List.mem_cons_of_mem _ ?_)))) [2, 0] rfl) (by decide) (by decide)); clear hF hM a; rintro v w a he - hM hF; (obtain ⟨a0, a1, c0, c1, rfl, hW, hC, l1, l2, l3, l4⟩ := isTr_open he; replace hM := (hM.addFact hW).addFact hC)) | (with_reducible refine q_then_n ?_) | ((with_reducible apply s_pure hF); exact rfl; exact rfl; exact rfl; (first | exact trivial | omega | decide); clear hF a; intro a hF) | ((with_reducible apply s_load hF hM); exact rfl; exact rfl; (repeat (first | exact List.mem_cons_self | refine List.mem_cons_of_mem _ ?_)); exact rfl; exact rfl; clear hF a; intro a hF) | ((with_reducible apply s_store hF hM); exact rfl; exact rfl; exact rfl; exact rfl; (repeat (first | exact Upd.z | apply Upd.s)); exact rfl; exact rfl; exact rfl; clear hM; intro w hM) | ((with_reducible apply s_alloc hF hM); exact rfl; exact rfl; exact rfl; clear hF hM a; intro b w a hM hF)))
  (repeat (first | (with_reducible refine w_seq ?_) | (with_reducible refine c_region ?_) | (with_reducible refine s_nil ?_) | ((with_reducible apply s_lit hF hM); exact rfl; exact rfl; exact rfl; exact rfl; clear hF hM a; intro bl w a hM hF; replace hM := Mm.freeze hM) | ((with_reducible apply s_call (f := 12) hF hM); exact rfl; exact rfl; exact rfl; exact rfl; exact rfl; exact (exPlan2_c _ _ _ hM.lt (isTr_mk (t := TP (ex [2, 0]) 4) (hM.facts (RdF (Value.int .i64) a0 (ex [2, 0]).W) (by (repeat (first | exact List.mem_cons_self | refine List.mem_cons_of_mem _ ?_)))) (hM.facts (RdF (Value.int .i64) a1 (ex [2, 0]).C) (by (repeat (first | exact List.mem_cons_self | refine List.mem_cons_of_mem _ ?_)))) l1 l2 l3 l4)); clear hF hM a; rintro v w a ⟨pv, rfl, hpv⟩ - hM hF; (obtain ⟨v1, v2, v3, v4, r1, r2, r3, r4, rfl, -⟩ := isPl_open hpv)) | (with_reducible refine q_then_n ?_) | ((with_reducible apply s_pure hF); exact rfl; exact rfl; exact rfl; (first | exact trivial | omega | decide); clear hF a; intro a hF) | ((with_reducible apply s_load hF hM); exact rfl; exact rfl; (repeat (first | exact List.mem_cons_self | refine List.mem_cons_of_mem _ ?_)); exact rfl; exact rfl; clear hF a; intro a hF) | ((with_reducible apply s_store hF hM); exact rfl; exact rfl; exact rfl; exact rfl; (repeat (first | exact Upd.z | apply Upd.s)); exact rfl; exact rfl; exact rfl; clear hM; intro w hM) | ((with_reducible apply s_alloc hF hM); exact rfl; exact rfl; exact rfl; clear hF hM a; intro b w a hM hF)))
  (repeat (first | (with_reducible refine w_seq ?_) | (with_reducible refine c_region ?_) | (with_reducible refine s_nil ?_) | ((with_reducible apply s_lit hF hM); exact rfl; exact rfl; exact rfl; exact rfl; clear hF hM a; intro bl w a hM hF; replace hM := Mm.freeze hM) | ((with_reducible apply s_call (f := 16) hF hM); exact rfl; exact rfl; exact rfl; exact rfl; exact rfl; exact (exSame_c _ _ _ (hM.fact (f := (IsPl · _ exPl)) (by (repeat (first | exact List.mem_cons_self | refine List.mem_cons_of_mem _ ?_)))) (isPl_mk (p := exPl) (Has.ints (hM.facts (BxF _ _ _) (by (repeat (first | exact List.mem_cons_self | refine List.mem_cons_of_mem _ ?_)))) [2, 4] rfl) (Has.ints (hM.facts (BxF _ _ _) (by (repeat (first | exact List.mem_cons_self | refine List.mem_cons_of_mem _ ?_)))) [2, 4] rfl) (Has.ints (hM.facts (BxF _ _ _) (by (repeat (first | exact List.mem_cons_self | refine List.mem_cons_of_mem _ ?_)))) [4, 6] rfl) (Has.ints (hM.facts (BxF _ _ _) (by (repeat (first | exact List.mem_cons_self | refine List.mem_cons_of_mem _ ?_)))) [6, 8] rfl) (by decide) (by decide) (by decide) (by decide)).get); clear hF hM a; rintro v w a rfl - hM hF) | ((with_reducible apply s_call (f := 24) hF hM); exact rfl; exact rfl; exact rfl; exact rfl; exact rfl; exact (exEq_c _ _ _ _ _ _ _ _ hM.lt (hM.facts (RdF (Value.int .i64) _ exPl1.applied) (by (repeat (first | exact List.mem_cons_self | refine List.mem_cons_of_mem _ ?_)))) (Has.ints (hM.facts (BxF _ _ _) (by (repeat (first | exact List.mem_cons_self | refine List.mem_cons_of_mem _ ?_)))) [8, 12] rfl) rfl rfl); clear hF hM a; rintro v w a rfl - hM hF) | (with_reducible refine q_then_n ?_) | ((with_reducible apply s_pure hF); exact rfl; exact rfl; exact rfl; (first | exact trivial | omega | decide); clear hF a; intro a hF) | ((with_reducible apply s_load hF hM); exact rfl; exact rfl; (repeat (first | exact List.mem_cons_self | refine List.mem_cons_of_mem _ ?_)); exact rfl; exact rfl; clear hF a; intro a hF) | (with_reducible refine w_skip ?_) | (with_reducible refine w_block ?_) | ((with_reducible apply c_false hF); exact rfl)))
  refine c_loop (m := 10) (fun m a w' => ∃ k : Nat, m + k = 10 ∧ Fr _ [] [(72, .int .i64 k), (71, .int .i64 10), (70, .slice (some ⟨bl, 0, none⟩) 10 10), (1, .pointer (some ⟨b1, 0, none⟩))] a ∧
    Mm own W [⟨b1, ⟨[.slice x1 exPl.close.length y1, .slice x2 exPl.start.length y2, .slice x3 exPl.fin.length y3, .slice x4 exPl.applied.length y4, .int .i64 exPl.bound]⟩, 28⟩] [] [(IsPl · (.agg #[.slice x1 exPl.close.length y1, .slice x2 exPl.start.length y2, .slice x3 exPl.fin.length y3, .slice x4 exPl.applied.length y4, .int .i64 exPl.bound]) exPl), RdF (Value.int .i64) (some ⟨bl, 0, none⟩) ages] w')
    ⟨0, rfl, hF.sub (by repeat (first | exact Sub.nil | refine Sub.cons rfl (by first | with_reducible rfl | (refine congrArg (Value.int _) ?_; omega) | exact rfl) ?_)), (hM.addFact (Has.ints (hM.facts (BxF bl _ _) (by (repeat (first | exact List.mem_cons_self | refine List.mem_cons_of_mem _ ?_)))) ages rfl)).sub (.cons _ (.cons _ (.cons _ (.cons _ (.refl _))))) (.refl _) (by
      intro f hf
      rcases List.mem_cons.1 hf with rfl | hf
      · (repeat (first | exact List.mem_cons_self | refine List.mem_cons_of_mem _ ?_))
      · rcases List.mem_cons.1 hf with rfl | hf
        · (repeat (first | exact List.mem_cons_self | refine List.mem_cons_of_mem _ ?_))
        · cases hf)⟩ ?_
  clear hF hM a
  rintro m a w' ⟨k, hk, hF, hM⟩
  by_cases hlt : k < 10
  · obtain ⟨x, hx⟩ := get_of_lt (l := ages) (show k < ages.length from hlt)
    (repeat' (first | (with_reducible refine w_seq ?_) | (with_reducible refine c_region ?_) | (with_reducible refine s_nil ?_) | (with_reducible refine q_then_n ?_) | ((with_reducible apply s_pure hF); exact rfl; exact rfl; exact rfl; (first | exact trivial | omega | decide); clear hF a; intro a hF) | ((with_reducible apply s_loadF hF hM); exact rfl; exact rfl; (repeat (first | exact List.mem_cons_self | refine List.mem_cons_of_mem _ ?_)); exact rfl; exact rfl; (first | with_reducible assumption | (simp only [Int.toNat_natCast]; with_reducible assumption)); clear hF a; intro a hF) | (with_reducible refine w_skip ?_) | (with_reducible refine w_block ?_) | ((with_reducible apply c_dec hF); exact rfl; all_goals intro hc; all_goals (try (exfalso; omega)))))
    refine c_draw (fun i => Nat.ble 10 i) hM ?_; clear hM; intro w hM
    (first | (apply t_load (i := 2) hF rfl rfl rfl; (repeat (first | exact List.mem_cons_self | refine List.mem_cons_of_mem _ ?_)); exact rfl; exact rfl; kernel_rfl; exact hM.sm; exact (fun _ _ _ h => h); clear hF a; intro a hF))
    (first | (refine t_pure (i := 3) hF rfl rfl rfl rfl (by kernel_rfl) hM.sm (fun _ _ _ h => h) ?_ ?_; (first | exact trivial | omega | decide); clear hF a; intro a hF))
    refine t_one (i := 0) hF rfl (by kernel_rfl) rfl ?_
    intro K hK
    (refine x_lit hF hM rfl rfl rfl ?_; clear hF hM a; intro bl w a hM hF; replace hM := Mm.freeze hM)
    refine hK _ _ (fun _ => (hM.sm.sub (fun x hx => by repeat (first | exact hx | refine List.mem_cons_of_mem _ ?_)) (fun _ h => by repeat (first | exact h | refine List.mem_cons_of_mem _ ?_)))) ?_; clear hK
    refine t_one (i := 1) hF rfl (by kernel_rfl) rfl ?_
    intro K hK
    (apply x_call hF hM; exact rfl; exact rfl; exact rfl; exact rfl; exact (example_c [2] _ _ _ (by decide) _ _ hM.lt (Has.ints (hM.facts (BxF bl _ _) (by (repeat (first | exact List.mem_cons_self | refine List.mem_cons_of_mem _ ?_)))) [2] rfl) (by decide) (by decide)); clear hF hM a; rintro v w a he - hM hF)
    replace hM := hM.addFact he
    refine hK _ _ (fun _ => (hM.sm.sub (fun x hx => by repeat (first | exact hx | refine List.mem_cons_of_mem _ ?_)) (fun _ h => by repeat (first | exact h | refine List.mem_cons_of_mem _ ?_)))) ?_; clear hK
    refine t_one (i := 4) hF rfl (by kernel_rfl) rfl ?_
    intro K hK
    (apply x_call hF hM; exact rfl; exact rfl; exact rfl; exact rfl; exact (exAge_c k hlt x hx _ _ _ _ hM.lt (hM.facts (IsTr · _ (ex [2])) (by (repeat (first | exact List.mem_cons_self | refine List.mem_cons_of_mem _ ?_)))) (hM.facts (IsPl · _ exPl) (by (repeat (first | exact List.mem_cons_self | refine List.mem_cons_of_mem _ ?_))))); clear hF hM a; rintro v w a rfl - hM hF)
    refine hK _ _ (fun _ => (hM.sm.sub (fun x hx => by repeat (first | exact hx | refine List.mem_cons_of_mem _ ?_)) (fun _ h => by repeat (first | exact h | refine List.mem_cons_of_mem _ ?_)))) ?_; clear hK
    (first | (refine t_pure (i := 5) hF rfl rfl rfl rfl (by kernel_rfl) (hM.sm.sub (fun x hx => by repeat (first | exact hx | refine List.mem_cons_of_mem _ ?_)) (fun _ h => by repeat (first | exact h | refine List.mem_cons_of_mem _ ?_))) (fun _ _ _ h => h) ?_ ?_; (first | exact trivial | omega | decide); clear hF a; intro a hF))
    (first | (refine t_pure (i := 6) hF rfl rfl rfl rfl (by kernel_rfl) (hM.sm.sub (fun x hx => by repeat (first | exact hx | refine List.mem_cons_of_mem _ ?_)) (fun _ h => by repeat (first | exact h | refine List.mem_cons_of_mem _ ?_))) (fun _ _ _ h => h) ?_ ?_; (first | exact trivial | omega | decide); clear hF a; intro a hF))
    (first | (refine t_pure (i := 7) hF rfl rfl rfl rfl (by kernel_rfl) (hM.sm.sub (fun x hx => by repeat (first | exact hx | refine List.mem_cons_of_mem _ ?_)) (fun _ h => by repeat (first | exact h | refine List.mem_cons_of_mem _ ?_))) (fun _ _ _ h => h) ?_ ?_; (first | exact trivial | omega | decide); clear hF a; intro a hF))
    (first | (refine t_pure (i := 8) hF rfl rfl rfl rfl (by kernel_rfl) (hM.sm.sub (fun x hx => by repeat (first | exact hx | refine List.mem_cons_of_mem _ ?_)) (fun _ h => by repeat (first | exact h | refine List.mem_cons_of_mem _ ?_))) (fun _ _ _ h => h) ?_ ?_; (first | exact trivial | omega | decide); clear hF a; intro a hF))
    (first | (refine t_pure (i := 9) hF rfl rfl rfl rfl (by kernel_rfl) (hM.sm.sub (fun x hx => by repeat (first | exact hx | refine List.mem_cons_of_mem _ ?_)) (fun _ h => by repeat (first | exact h | refine List.mem_cons_of_mem _ ?_))) (fun _ _ _ h => h) ?_ ?_; (first | exact trivial | omega | decide); clear hF a; intro a hF))
    refine t_done (by kernel_rfl) ?_
    (repeat' (first | (with_reducible refine w_seq ?_) | (with_reducible refine c_region ?_) | (with_reducible refine s_nil ?_) | (with_reducible refine q_then_n ?_) | ((with_reducible apply s_pure hF); exact rfl; exact rfl; exact rfl; (first | exact trivial | omega | decide); clear hF a; intro a hF) | (with_reducible refine w_skip ?_) | (with_reducible refine q_blk_n ?_) | ((with_reducible apply c_dec hF); exact rfl; all_goals intro hc; all_goals (try (exfalso; omega)))))
    refine ⟨m - 1, by omega, k + 1, by omega, hF.sub (by repeat (first | exact Sub.nil | refine Sub.cons rfl (by first | with_reducible rfl | (refine congrArg (Value.int _) ?_; omega) | exact rfl) ?_)), hM.sub (.refl _) (.refl _) (by intro f hf; exact List.mem_cons_of_mem _ (List.mem_cons_of_mem _ hf))⟩
  · (repeat' (first | (with_reducible refine w_seq ?_) | (with_reducible refine c_region ?_) | (with_reducible refine s_nil ?_) | ((with_reducible apply s_lit hF hM); exact rfl; exact rfl; exact rfl; exact rfl; clear hF hM a; intro bl w a hM hF; replace hM := Mm.freeze hM) | ((with_reducible apply s_call (f := 30) hF hM); exact rfl; exact rfl; exact rfl; exact rfl; exact rfl; exact (example_c [9] _ _ _ (by decide) _ _ hM.lt (Has.ints (hM.facts (BxF bl _ _) (by (repeat (first | exact List.mem_cons_self | refine List.mem_cons_of_mem _ ?_)))) [9] rfl) (by decide) (by decide)); clear hF hM a; rintro v w a he - hM hF; replace hM := hM.addFact he) | ((with_reducible apply s_call (f := 28) hF hM); exact rfl; exact rfl; exact rfl; exact rfl; exact rfl; exact (exRate_c _ (by decide) _ _ _ hM.lt (hM.facts (IsTr · _ (ex [9])) (by (repeat (first | exact List.mem_cons_self | refine List.mem_cons_of_mem _ ?_))))); clear hF hM a; rintro v w a rfl - hM hF) | (with_reducible refine q_then_n ?_) | ((with_reducible apply s_pure hF); exact rfl; exact rfl; exact rfl; (first | exact trivial | omega | decide); clear hF a; intro a hF) | (with_reducible refine w_exit ?_) | (with_reducible refine q_then_x ?_) | (with_reducible refine q_blk_x ?_) | ((with_reducible apply c_dec hF); exact rfl; all_goals intro hc; all_goals (try (exfalso; omega)))))
    refine c_draw (fun i => Nat.ble 25 i) hM ?_; clear hM; intro w hM
    (first | (refine t_pure (i := 0) hF rfl rfl rfl rfl (by kernel_rfl) hM.sm (fun _ _ _ h => h) ?_ ?_; (first | exact trivial | omega | decide); clear hF a; intro a hF))
    (first | (refine t_pure (i := 1) hF rfl rfl rfl rfl (by kernel_rfl) hM.sm (fun _ _ _ h => h) ?_ ?_; (first | exact trivial | omega | decide); clear hF a; intro a hF))
    (first | (refine t_pure (i := 2) hF rfl rfl rfl rfl (by kernel_rfl) hM.sm (fun _ _ _ h => h) ?_ ?_; (first | exact trivial | omega | decide); clear hF a; intro a hF))
    (first | (refine t_pure (i := 3) hF rfl rfl rfl rfl (by kernel_rfl) hM.sm (fun _ _ _ h => h) ?_ ?_; (first | exact trivial | omega | decide); clear hF a; intro a hF))
    (first | (refine t_pure (i := 4) hF rfl rfl rfl rfl (by kernel_rfl) hM.sm (fun _ _ _ h => h) ?_ ?_; (first | exact trivial | omega | decide); clear hF a; intro a hF))
    (first | (refine t_pure (i := 5) hF rfl rfl rfl rfl (by kernel_rfl) hM.sm (fun _ _ _ h => h) ?_ ?_; (first | exact trivial | omega | decide); clear hF a; intro a hF))
    (first | (refine t_pure (i := 6) hF rfl rfl rfl rfl (by kernel_rfl) hM.sm (fun _ _ _ h => h) ?_ ?_; (first | exact trivial | omega | decide); clear hF a; intro a hF))
    (first | (refine t_pure (i := 7) hF rfl rfl rfl rfl (by kernel_rfl) hM.sm (fun _ _ _ h => h) ?_ ?_; (first | exact trivial | omega | decide); clear hF a; intro a hF))
    (first | (refine t_pure (i := 8) hF rfl rfl rfl rfl (by kernel_rfl) hM.sm (fun _ _ _ h => h) ?_ ?_; (first | exact trivial | omega | decide); clear hF a; intro a hF))
    (first | (refine t_pure (i := 9) hF rfl rfl rfl rfl (by kernel_rfl) hM.sm (fun _ _ _ h => h) ?_ ?_; (first | exact trivial | omega | decide); clear hF a; intro a hF))
    (first | (refine t_pure (i := 10) hF rfl rfl rfl rfl (by kernel_rfl) hM.sm (fun _ _ _ h => h) ?_ ?_; (first | exact trivial | omega | decide); clear hF a; intro a hF))
    (first | (apply t_load (i := 13) hF rfl rfl rfl; (repeat (first | exact List.mem_cons_self | refine List.mem_cons_of_mem _ ?_)); exact rfl; exact rfl; kernel_rfl; exact hM.sm; exact (fun _ _ _ h => h); clear hF a; intro a hF))
    refine t_one (i := 11) hF rfl (by kernel_rfl) rfl ?_
    intro K hK
    (refine x_lit hF hM rfl rfl rfl ?_; clear hF hM a; intro bl w a hM hF; replace hM := Mm.freeze hM)
    refine hK _ _ (fun _ => (hM.sm.sub (fun x hx => by repeat (first | exact hx | refine List.mem_cons_of_mem _ ?_)) (fun _ h => by repeat (first | exact h | refine List.mem_cons_of_mem _ ?_)))) ?_; clear hK
    refine t_one (i := 12) hF rfl (by kernel_rfl) rfl ?_
    intro K hK
    (apply x_call hF hM; exact rfl; exact rfl; exact rfl; exact rfl; exact (example_c [2] _ _ _ (by decide) _ _ hM.lt (Has.ints (hM.facts (BxF bl _ _) (by (repeat (first | exact List.mem_cons_self | refine List.mem_cons_of_mem _ ?_)))) [2] rfl) (by decide) (by decide)); clear hF hM a; rintro v w a he - hM hF)
    replace hM := hM.addFact he
    refine hK _ _ (fun _ => (hM.sm.sub (fun x hx => by repeat (first | exact hx | refine List.mem_cons_of_mem _ ?_)) (fun _ h => by repeat (first | exact h | refine List.mem_cons_of_mem _ ?_)))) ?_; clear hK
    refine t_one (i := 14) hF rfl (by kernel_rfl) rfl ?_
    intro K hK
    (apply x_call hF hM; exact rfl; exact rfl; exact rfl; exact rfl; exact (exVer_c ex_v2 _ _ _ _ hM.lt (hM.facts (IsTr · _ (ex [2])) (by (repeat (first | exact List.mem_cons_self | refine List.mem_cons_of_mem _ ?_)))) (hM.facts (IsPl · _ exPl) (by (repeat (first | exact List.mem_cons_self | refine List.mem_cons_of_mem _ ?_))))); clear hF hM a; rintro v w a rfl - hM hF)
    refine hK _ _ (fun _ => (hM.sm.sub (fun x hx => by repeat (first | exact hx | refine List.mem_cons_of_mem _ ?_)) (fun _ h => by repeat (first | exact h | refine List.mem_cons_of_mem _ ?_)))) ?_; clear hK
    (first | (refine t_pure (i := 15) hF rfl rfl rfl rfl (by kernel_rfl) (hM.sm.sub (fun x hx => by repeat (first | exact hx | refine List.mem_cons_of_mem _ ?_)) (fun _ h => by repeat (first | exact h | refine List.mem_cons_of_mem _ ?_))) (fun _ _ _ h => h) ?_ ?_; (first | exact trivial | omega | decide); clear hF a; intro a hF))
    (first | (refine t_pure (i := 16) hF rfl rfl rfl rfl (by kernel_rfl) (hM.sm.sub (fun x hx => by repeat (first | exact hx | refine List.mem_cons_of_mem _ ?_)) (fun _ h => by repeat (first | exact h | refine List.mem_cons_of_mem _ ?_))) (fun _ _ _ h => h) ?_ ?_; (first | exact trivial | omega | decide); clear hF a; intro a hF))
    (first | (refine t_pure (i := 17) hF rfl rfl rfl rfl (by kernel_rfl) (hM.sm.sub (fun x hx => by repeat (first | exact hx | refine List.mem_cons_of_mem _ ?_)) (fun _ h => by repeat (first | exact h | refine List.mem_cons_of_mem _ ?_))) (fun _ _ _ h => h) ?_ ?_; (first | exact trivial | omega | decide); clear hF a; intro a hF))
    (first | (apply t_load (i := 20) hF rfl rfl rfl; (repeat (first | exact List.mem_cons_self | refine List.mem_cons_of_mem _ ?_)); exact rfl; exact rfl; kernel_rfl; exact (hM.sm.sub (fun x hx => by repeat (first | exact hx | refine List.mem_cons_of_mem _ ?_)) (fun _ h => by repeat (first | exact h | refine List.mem_cons_of_mem _ ?_))); exact (fun _ _ _ h => h); clear hF a; intro a hF))
    refine t_one (i := 18) hF rfl (by kernel_rfl) rfl ?_
    intro K hK
    (refine x_lit hF hM rfl rfl rfl ?_; clear hF hM a; intro bl w a hM hF; replace hM := Mm.freeze hM)
    refine hK _ _ (fun _ => (hM.sm.sub (fun x hx => by repeat (first | exact hx | refine List.mem_cons_of_mem _ ?_)) (fun _ h => by repeat (first | exact h | refine List.mem_cons_of_mem _ ?_)))) ?_; clear hK
    refine t_one (i := 19) hF rfl (by kernel_rfl) rfl ?_
    intro K hK
    (apply x_call hF hM; exact rfl; exact rfl; exact rfl; exact rfl; exact (example_c [1] _ _ _ (by decide) _ _ hM.lt (Has.ints (hM.facts (BxF bl _ _) (by (repeat (first | exact List.mem_cons_self | refine List.mem_cons_of_mem _ ?_)))) [1] rfl) (by decide) (by decide)); clear hF hM a; rintro v w a he - hM hF)
    replace hM := hM.addFact he
    refine hK _ _ (fun _ => (hM.sm.sub (fun x hx => by repeat (first | exact hx | refine List.mem_cons_of_mem _ ?_)) (fun _ h => by repeat (first | exact h | refine List.mem_cons_of_mem _ ?_)))) ?_; clear hK
    refine t_one (i := 21) hF rfl (by kernel_rfl) rfl ?_
    intro K hK
    (apply x_call hF hM; exact rfl; exact rfl; exact rfl; exact rfl; exact (exVer_c ex_v1 _ _ _ _ hM.lt (hM.facts (IsTr · _ (ex [1])) (by (repeat (first | exact List.mem_cons_self | refine List.mem_cons_of_mem _ ?_)))) (hM.facts (IsPl · _ exPl) (by (repeat (first | exact List.mem_cons_self | refine List.mem_cons_of_mem _ ?_))))); clear hF hM a; rintro v w a rfl - hM hF)
    refine hK _ _ (fun _ => (hM.sm.sub (fun x hx => by repeat (first | exact hx | refine List.mem_cons_of_mem _ ?_)) (fun _ h => by repeat (first | exact h | refine List.mem_cons_of_mem _ ?_)))) ?_; clear hK
    (first | (refine t_pure (i := 22) hF rfl rfl rfl rfl (by kernel_rfl) (hM.sm.sub (fun x hx => by repeat (first | exact hx | refine List.mem_cons_of_mem _ ?_)) (fun _ h => by repeat (first | exact h | refine List.mem_cons_of_mem _ ?_))) (fun _ _ _ h => h) ?_ ?_; (first | exact trivial | omega | decide); clear hF a; intro a hF))
    (first | (refine t_pure (i := 23) hF rfl rfl rfl rfl (by kernel_rfl) (hM.sm.sub (fun x hx => by repeat (first | exact hx | refine List.mem_cons_of_mem _ ?_)) (fun _ h => by repeat (first | exact h | refine List.mem_cons_of_mem _ ?_))) (fun _ _ _ h => h) ?_ ?_; (first | exact trivial | omega | decide); clear hF a; intro a hF))
    (first | (refine t_pure (i := 24) hF rfl rfl rfl rfl (by kernel_rfl) (hM.sm.sub (fun x hx => by repeat (first | exact hx | refine List.mem_cons_of_mem _ ?_)) (fun _ h => by repeat (first | exact h | refine List.mem_cons_of_mem _ ?_))) (fun _ _ _ h => h) ?_ ?_; (first | exact trivial | omega | decide); clear hF a; intro a hF))
    refine t_done (by kernel_rfl) ?_
    (repeat' (first | (with_reducible refine q_then_n ?_) | (with_reducible refine w_ret ?_)))
    (apply f_ret Try.results11 hF hM; (repeat (first | exact RL.nil | (apply RL.tmp; exact rfl) | (apply RL.cell; exact rfl; (repeat (first | exact List.mem_cons_self | refine List.mem_cons_of_mem _ ?_)); exact rfl))); refine Ret.mk hM.since ?_; dsimp only [resV])
    rfl
end Go.Proofs.Ytfjelofpahcfpaa
