/- The law's own helpers: small, capacity. -/
import Derived.Test.YtfjelofpahcfpaaQa
set_option linter.unusedSimpArgs false
set_option linter.unusedVariables false
namespace Go.Proofs.Ytfjelofpahcfpaa
open Go.RowKit Go.Shelf
def big (n : Int) : Bool := decide (n < 0 ∨ 20 < n)
def smallB (t : P56.Tr) : Bool := fewB t && decide (P56.check t = 0) && !t.W.any big && !t.C.any big && decide (t.P ≤ 60) && decide (t.L ≤ 30) && decide (t.A ≤ 30)
theorem small1_c (n : Int) (w : World) : Calls Try.prog 41 ⟨[.int .i64 n]⟩ w (Ret w fun v _ => v = .bool (big n)) := by
  have hM := Mm.start (own := fun _ => False) (w := w) (fun _ h => h.elim)
  unfold big
  refine f_start Try.func41 rfl Try.ntmps41 rfl rfl ?_; intro a hF
  by_cases h1 : n < 0 ∨ 20 < n
  · (repeat' (first | (with_reducible refine w_seq ?_) | (with_reducible refine c_region ?_) | (with_reducible refine s_nil ?_) | (with_reducible refine q_then_n ?_) | ((with_reducible apply s_pure hF); exact rfl; exact rfl; exact rfl; (first | exact trivial | omega | decide); clear hF a; intro a hF) | (with_reducible refine w_ret ?_) | ((with_reducible apply s_skip hF); exact rfl; exact rfl; clear hF a; intro a hF) | ((with_reducible apply g_dec hF); exact rfl; exact rfl; all_goals (clear hF; intro hc hF); all_goals (try (exfalso; omega)))))
    all_goals (apply f_ret Try.results41 hF hM; (repeat (first | exact RL.nil | (apply RL.tmp; exact rfl) | (apply RL.cell; exact rfl; (repeat (first | exact List.mem_cons_self | refine List.mem_cons_of_mem _ ?_)); exact rfl))); refine Ret.mk hM.since ?_; dsimp only [resV])
    all_goals simp [*]
  · (repeat' (first | (with_reducible refine w_seq ?_) | (with_reducible refine c_region ?_) | (with_reducible refine s_nil ?_) | (with_reducible refine q_then_n ?_) | ((with_reducible apply s_pure hF); exact rfl; exact rfl; exact rfl; (first | exact trivial | omega | decide); clear hF a; intro a hF) | (with_reducible refine w_ret ?_) | ((with_reducible apply g_dec hF); exact rfl; exact rfl; all_goals (clear hF; intro hc hF); all_goals (try (exfalso; omega)))))
    all_goals (apply f_ret Try.results41 hF hM; (repeat (first | exact RL.nil | (apply RL.tmp; exact rfl) | (apply RL.cell; exact rfl; (repeat (first | exact List.mem_cons_self | refine List.mem_cons_of_mem _ ?_)); exact rfl))); refine Ret.mk hM.since ?_; dsimp only [resV])
    all_goals simp [*]
theorem contains_c (a : Option Addr) (c : Nat) (l : List Int) (w : World) (hl : l.length ≤ 9223372036854775807) (hr : Reads (Value.int .i64) w a l) :
    Calls Try.prog 42 ⟨[.slice a l.length c, .func (.func 41) #[] #[]]⟩ w (Ret w fun v _ => v = .bool (l.any big)) :=
  Ret.of (containsFunc_any _ #[] big a c l w hl hr (fun x w' _ => Ret.to (small1_c x w')) (enters_of Try.func41 (by kernel_rfl) rfl))
set_option maxHeartbeats 4000000 in
theorem small_c (t : P56.Tr) (v : Value) (own : Nat → Prop) (W : World) (hl : ∀ b, own b → b < W.heap.size) (hv : Has own W (IsTr · v t)) :
    Calls Try.prog 22 ⟨[v]⟩ W (Ret W fun x _ => x = .bool (smallB t)) := by
  obtain ⟨a0, a1, c0, c1, rfl, hW, hC, l1, l2, l3, l4⟩ := isTr_open hv
  have hM := (((Mm.start hl).known hv).known hW).known hC
  refine f_start Try.func22 rfl Try.ntmps22 rfl rfl ?_; intro a hF
  (repeat' (first | (with_reducible refine w_seq ?_) | (with_reducible refine c_region ?_) | (with_reducible refine s_nil ?_) | ((with_reducible apply s_call (f := 10) hF hM); exact rfl; exact rfl; exact rfl; exact rfl; exact rfl; exact (Ret.of (few_any t _ _ (hM.fact (f := (IsTr · _ t)) (by (repeat (first | exact List.mem_cons_self | refine List.mem_cons_of_mem _ ?_)))))); clear hF hM a; rintro v w a rfl - hM hF) | ((with_reducible apply s_call (f := 14) hF hM); exact rfl; exact rfl; exact rfl; exact rfl; exact rfl; exact (Ret.of (check_any t _ _ (hM.fact (f := (IsTr · _ t)) (by (repeat (first | exact List.mem_cons_self | refine List.mem_cons_of_mem _ ?_)))))); clear hF hM a; rintro v w a rfl - hM hF) | ((with_reducible apply s_call (f := 42) hF hM); exact rfl; exact rfl; exact rfl; exact rfl; exact rfl; exact (contains_c _ _ _ _ (by assumption) (hM.fact (f := RdF (Value.int .i64) _ _) (by (repeat (first | exact List.mem_cons_self | refine List.mem_cons_of_mem _ ?_))))); clear hF hM a; rintro v w a rfl - hM hF) | (with_reducible refine q_then_n ?_) | ((with_reducible apply s_pure hF); exact rfl; exact rfl; exact rfl; (first | exact trivial | omega | decide); clear hF a; intro a hF) | ((with_reducible apply s_load hF hM); exact rfl; exact rfl; (repeat (first | exact List.mem_cons_self | refine List.mem_cons_of_mem _ ?_)); exact rfl; exact rfl; clear hF a; intro a hF) | ((with_reducible apply s_box hF hM); exact rfl; exact rfl; exact rfl; exact rfl; clear hF hM a; intro b w a hM hF) | (with_reducible refine w_ret ?_) | ((with_reducible apply s_skip hF); exact rfl; exact rfl; clear hF a; intro a hF) | ((with_reducible apply g_dec hF); exact rfl; exact rfl; all_goals (clear hF; intro hc hF); all_goals (try (exfalso; omega))) | ((with_reducible apply g_nbool hF); exact rfl; exact rfl; all_goals (clear hF; intro hc hF)) | ((with_reducible apply g_bool hF); exact rfl; exact rfl; all_goals (clear hF; intro hc hF))))
  all_goals (apply f_ret Try.results22 hF hM; (repeat (first | exact RL.nil | (apply RL.tmp; exact rfl) | (apply RL.cell; exact rfl; (repeat (first | exact List.mem_cons_self | refine List.mem_cons_of_mem _ ?_)); exact rfl))); refine Ret.mk hM.since ?_; dsimp only [resV])
  all_goals simp [smallB, *]
theorem capacity_c (t : P56.Tr) (x : Nat) (v : Value) (own : Nat → Prop) (W : World) (hl : ∀ b, own b → b < W.heap.size) (hv : Has own W (IsTr · v t)) (h0 : 1 ≤ t.C.length) (hx : x ≤ 4000000000000000000) :
    Calls Try.prog 23 ⟨[v, .int .i64 x]⟩ W (Ret W fun u _ => u = .int .i64 (P56.capAt t.C x)) := by
  obtain ⟨a0, a1, c0, c1, rfl, hW, hC, l1, l2, l3, l4⟩ := isTr_open hv
  have hM := ((Mm.start hl).known hW).known hC
  obtain ⟨y, hy⟩ := get_of_lt (l := t.C) (show min x (t.C.length - 1) < t.C.length by omega)
  obtain ⟨ad, rfl⟩ := rd_some hM (by (repeat (first | exact List.mem_cons_self | refine List.mem_cons_of_mem _ ?_))) hy
  have hy' : t.C[(min (x : Int) ((t.C.length : Int) - 1)).toNat]? = some y := by rw [show (min (x : Int) ((t.C.length : Int) - 1)).toNat = min x (t.C.length - 1) by omega]; exact hy
  refine f_start Try.func23 rfl Try.ntmps23 rfl rfl ?_; intro a hF
  (repeat (first | (with_reducible refine w_seq ?_) | (with_reducible refine c_region ?_) | (with_reducible refine s_nil ?_) | (with_reducible refine q_then_n ?_) | ((with_reducible apply s_pure hF); exact rfl; exact rfl; exact rfl; (first | exact trivial | omega | decide); clear hF a; intro a hF) | ((with_reducible apply s_load hF hM); exact rfl; exact rfl; (repeat (first | exact List.mem_cons_self | refine List.mem_cons_of_mem _ ?_)); exact rfl; exact rfl; clear hF a; intro a hF) | ((with_reducible apply s_loadF hF hM); exact rfl; exact rfl; (repeat (first | exact List.mem_cons_self | refine List.mem_cons_of_mem _ ?_)); exact rfl; exact rfl; (first | with_reducible assumption | (simp only [Int.toNat_natCast]; with_reducible assumption)); clear hF a; intro a hF) | ((with_reducible apply s_box hF hM); exact rfl; exact rfl; exact rfl; exact rfl; clear hF hM a; intro b w a hM hF) | (with_reducible refine w_ret ?_)))
  (apply f_ret Try.results23 hF hM; (repeat (first | exact RL.nil | (apply RL.tmp; exact rfl) | (apply RL.cell; exact rfl; (repeat (first | exact List.mem_cons_self | refine List.mem_cons_of_mem _ ?_)); exact rfl))); refine Ret.mk hM.since ?_; dsimp only [resV])
  congr 1
  unfold P56.capAt
  by_cases hx2 : x < t.C.length
  · rw [dif_pos hx2]
    rw [show min x (t.C.length - 1) = x by omega, List.getElem?_eq_getElem hx2] at hy
    injection hy with hy
    exact hy.symm
  · rw [dif_neg hx2]
    rw [show min x (t.C.length - 1) = t.C.length - 1 by omega] at hy
    unfold P56.last
    rw [List.getLastD_eq_getLast?, List.getLast?_eq_getElem?, hy]
    rfl
structure Small (t : P56.Tr) : Prop where
  ok : P56.Ok t
  wl : t.W.length ≤ 40
  cl : t.C.length ≤ 60
  w : ∀ x ∈ t.W, 0 ≤ x ∧ x ≤ 20
  c : ∀ x ∈ t.C, 0 ≤ x ∧ x ≤ 20
  p : t.P ≤ 60
  l : t.L ≤ 30
  a : t.A ≤ 30
theorem small_open {t : P56.Tr} (h : smallB t = true) : Small t := by
  unfold smallB fewB big at h
  simp only [Bool.and_eq_true, decide_eq_true_eq, Bool.not_eq_true', List.any_eq_false, decide_eq_false_iff_not] at h
  obtain ⟨⟨⟨⟨⟨⟨⟨h1, h2⟩, h3⟩, h4⟩, h5⟩, h6⟩, h7⟩, h8⟩ := h
  exact ⟨P56.check_ok.1 h3, h1, h2, fun x hx => by have := h4 x hx; omega, fun x hx => by have := h5 x hx; omega, h6, h7, h8⟩
theorem Small.size {t : P56.Tr} (h : Small t) (k : Nat) : 0 ≤ P56.size t k ∧ P56.size t k ≤ 800 := by
  have h1 := P56.sum_bd (l := (t.W.drop (k * t.P.toNat)).take t.P.toNat) (b := 20) (fun x hx => h.w x (List.mem_of_mem_drop (List.mem_of_mem_take hx)))
  have h2 : ((t.W.drop (k * t.P.toNat)).take t.P.toNat).length ≤ 40 := by simp; have := h.wl; omega
  unfold P56.size
  omega
theorem isPl_openL {own : Nat → Prop} {w : World} {v : Value} {t : P56.Tr} {k : Nat} {b : Int} (h : Has own w (IsPl · v (P56.lists t k b))) : ∃ a1 a2 a3 a4 c1 c2 c3 c4, v = .agg #[.slice a1 k c1, .slice a2 k c2, .slice a3 k c3, .slice a4 k c4, .int .i64 b] ∧
    Has own w (RdF (Value.int .i64) a1 (P56.cls t k)) ∧ Has own w (RdF (Value.int .i64) a2 (P56.sts t k)) ∧ Has own w (RdF (Value.int .i64) a3 (P56.ens t k)) ∧ Has own w (RdF (Value.int .i64) a4 (P56.aps t k)) := by
  obtain ⟨a1, a2, a3, a4, c1, c2, c3, c4, rfl, h1, h2, h3, h4, -⟩ := isPl_open h
  refine ⟨a1, a2, a3, a4, c1, c2, c3, c4, ?_, h1, h2, h3, h4⟩
  simp [P56.lists]
theorem planEq_c {t : P56.Tr} {q : P56.Pl × Int} (hq : P56.plan t = q) (v : Value) (own : Nat → Prop) (W : World) (hl : ∀ b, own b → b < W.heap.size) (hv : Has own W (IsTr · v t)) :
    Calls Try.prog 12 ⟨[v]⟩ W (Ret W (PlanR own q)) := hq ▸ Plan_c sizes_c _ _ _ _ hl hv
end Go.Proofs.Ytfjelofpahcfpaa
