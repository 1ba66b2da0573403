/- runlength: runs of equal sectors. -/
import Derived.Test.YthcnnedgfndklaaGo
set_option linter.unusedSimpArgs false
set_option linter.unusedVariables false
set_option linter.unusedSectionVars false
namespace Go.Proofs.Ythcnnedgfndklaa
open Go.RowKit Go.Shelf
/-- The zero sector. -/
abbrev zr : List Int := [0, 0, 0, 0, 0, 0, 0, 0]
/-- All have the length of a sector. -/
def W8 (l : List (List Int)) : Prop := ∀ y ∈ l, y.length = 8
/-- The number of sectors from a place on that are equal to the one there. -/
def rl (l : List (List Int)) (i : Nat) : Nat := 1 + ((l.drop (i + 1)).takeWhile fun s => decide (l[i]? = some s)).length
theorem rl_eq {l : List (List Int)} {i n : Nat} {s : List Int} (hs : l[i]? = some s) (h1 : 1 ≤ n) (h2 : ∀ j, j < n → l[i + j]? = some s) (h3 : l[i + n]? ≠ some s) : rl l i = n := by
  unfold rl
  have key : ∀ (m : Nat) (k : List (List Int)), (∀ j, j < m → k[j]? = some s) → k[m]? ≠ some s → (k.takeWhile fun x => decide (some s = some x)).length = m := by
    intro m
    induction m with
    | zero =>
      intro k _ h
      cases k with
      | nil => rfl
      | cons x k =>
        have hx : x ≠ s := fun e => h (by simp [e])
        rw [List.takeWhile_cons_of_neg (by simp; exact fun e => hx e.symm)]
        rfl
    | succ m ih =>
      intro k h h'
      cases k with
      | nil => have := h 0 (by omega); simp at this
      | cons x k =>
        have hx : x = s := by have := h 0 (by omega); simpa using this
        subst hx
        rw [List.takeWhile_cons_of_pos (by simp), List.length_cons, ih k (fun j hj => by have := h (j + 1) (by omega); simpa using this) (by simpa using h')]
  have := key (n - 1) (l.drop (i + 1)) (fun j hj => by rw [List.getElem?_drop]; have := h2 (j + 1) (by omega); rwa [show i + 1 + j = i + (j + 1) by omega]) (by rw [List.getElem?_drop, show i + 1 + (n - 1) = i + n by omega]; exact h3)
  rw [hs, this]
  omega
theorem run_c (l : List (List Int)) (hw : W8 l) (i : Nat) (q : Int) (hq0 : q = i) (hi : i < l.length) (hlen : l.length ≤ 1000000) (a0 : Option Addr) (c0 : Nat) (own : Nat → Prop) (W : World) (hl : ∀ b, own b → b < W.heap.size) (hv : Has own W (RdF (Value.int .u8) a0 l.flatten)) :
    Calls Try.prog 31 ⟨[.slice a0 l.length c0, .int .i64 q]⟩ W (Ret W fun v _ => v = .int .i64 (rl l i)) := by
  subst hq0
  have hM := (Mm.start hl).known hv
  have hw' : ∀ y ∈ l, y.length = 8 := hw
  obtain ⟨s, hs⟩ := get_of_lt hi
  have hs8 := hw s (List.mem_of_getElem? hs)
  obtain ⟨ad, rfl⟩ : ∃ ad, a0 = some ad := by
    have h0 : 0 < s.length := by omega
    exact rd_some hM (by (repeat (first | exact List.mem_cons_self | refine List.mem_cons_of_mem _ ?_))) (flat_get hw hs (List.getElem?_eq_getElem h0))
  refine f_start Try.func31 rfl Try.ntmps31 rfl rfl ?_; intro a hF
  (repeat' (first | (with_reducible refine w_seq ?_) | (with_reducible refine c_region ?_) | (with_reducible refine s_nil ?_) | (with_reducible refine q_then_n ?_) | ((with_reducible apply s_pure hF); exact rfl; exact rfl; exact rfl; (first | exact trivial | omega | decide); clear hF a; intro a hF) | (with_reducible refine w_block ?_)))
  refine c_loop (m := l.length) (fun m a w' => ∃ n : Nat, m + n = l.length + 1 ∧ 1 ≤ n ∧ i + n ≤ l.length ∧ (∀ j, j < n → l[i + j]? = some s) ∧
    Fr 28 [] [(5, .int .i64 n), (0, .slice (some ad) l.length c0), (1, .int .i64 i)] a ∧ Mm own W [] [] [RdF (Value.int .u8) (some ad) l.flatten] w') ⟨1, by omega, by omega, by omega, fun j hj => by rw [show i + j = i by omega]; exact hs, hF.sub (by repeat (first | exact Sub.nil | refine Sub.cons rfl (by first | with_reducible rfl | (refine congrArg (Value.int _) ?_; omega) | exact rfl) ?_)), hM⟩ ?_
  clear hF hM a
  rintro m a w' ⟨n, hm, hn, hin, hall, hF, hM⟩
  by_cases hlt : i + n < l.length
  · obtain ⟨s2, hs2⟩ := get_of_lt hlt
    have hs28 := hw s2 (List.mem_of_getElem? hs2)
    have hs2' : l[((i : Int) + (n : Int)).toNat]? = some s2 := by rw [show ((i : Int) + (n : Int)).toNat = i + n by omega]; exact hs2
    with_reducible refine w_seq ?_
    with_reducible refine w_seq ?_
    refine c_draw (fun i => Nat.ble 19 i) hM ?_; clear hM; intro w hM
    (first | (refine t_pure (i := 0) hF rfl rfl rfl rfl (by kernel_rfl) hM.sm (fun _ _ _ h => h) ?_ ?_; (first | exact trivial | omega | decide); clear hF a; intro a hF))
    (first | (refine t_pure (i := 1) hF rfl rfl rfl rfl (by kernel_rfl) hM.sm (fun _ _ _ h => h) ?_ ?_; (first | exact trivial | omega | decide); clear hF a; intro a hF))
    (first | (refine t_pure (i := 2) hF rfl rfl rfl rfl (by kernel_rfl) hM.sm (fun _ _ _ h => h) ?_ ?_; (first | exact trivial | omega | decide); clear hF a; intro a hF))
    (first | (refine t_pure (i := 3) hF rfl rfl rfl rfl (by kernel_rfl) hM.sm (fun _ _ _ h => h) ?_ ?_; (first | exact trivial | omega | decide); clear hF a; intro a hF))
    (first | (refine t_pure (i := 4) hF rfl rfl rfl rfl (by kernel_rfl) hM.sm (fun _ _ _ h => h) ?_ ?_; (first | exact trivial | omega | decide); clear hF a; intro a hF))
    (first | (refine t_pure (i := 5) hF rfl rfl rfl rfl (by kernel_rfl) hM.sm (fun _ _ _ h => h) ?_ ?_; (first | exact trivial | omega | decide); clear hF a; intro a hF))
    rw [show decide ((i : Int) + (n : Int) < (l.length : Int)) = true from decide_eq_true (by omega)] at hF
    (first | (refine t_pure (i := 6) hF rfl rfl rfl rfl (by kernel_rfl) (hM.sm.sub (fun x hx => by repeat (first | exact hx | refine List.mem_cons_of_mem _ ?_)) (fun _ h => by repeat (first | exact h | refine List.mem_cons_of_mem _ ?_))) (fun _ _ _ h => h) ?_ ?_; (first | exact trivial | omega | decide); clear hF a; intro a hF))
    (first | (refine t_pure (i := 7) hF rfl rfl rfl rfl (by kernel_rfl) (hM.sm.sub (fun x hx => by repeat (first | exact hx | refine List.mem_cons_of_mem _ ?_)) (fun _ h => by repeat (first | exact h | refine List.mem_cons_of_mem _ ?_))) (fun _ _ _ h => h) ?_ ?_; (first | exact trivial | omega | decide); clear hF a; intro a hF))
    (first | (refine t_pure (i := 8) hF rfl rfl rfl rfl (by kernel_rfl) (hM.sm.sub (fun x hx => by repeat (first | exact hx | refine List.mem_cons_of_mem _ ?_)) (fun _ h => by repeat (first | exact h | refine List.mem_cons_of_mem _ ?_))) (fun _ _ _ h => h) ?_ ?_; (first | exact trivial | omega | decide); clear hF a; intro a hF))
    (first | (refine t_pure (i := 9) hF rfl rfl rfl rfl (by kernel_rfl) (hM.sm.sub (fun x hx => by repeat (first | exact hx | refine List.mem_cons_of_mem _ ?_)) (fun _ h => by repeat (first | exact h | refine List.mem_cons_of_mem _ ?_))) (fun _ _ _ h => h) ?_ ?_; (first | exact trivial | omega | decide); clear hF a; intro a hF))
    (first | (refine t_pure (i := 10) hF rfl rfl rfl rfl (by kernel_rfl) (hM.sm.sub (fun x hx => by repeat (first | exact hx | refine List.mem_cons_of_mem _ ?_)) (fun _ h => by repeat (first | exact h | refine List.mem_cons_of_mem _ ?_))) (fun _ _ _ h => h) ?_ ?_; (first | exact trivial | omega | decide); clear hF a; intro a hF))
    (first | (refine t_pure (i := 11) hF rfl rfl rfl rfl (by kernel_rfl) (hM.sm.sub (fun x hx => by repeat (first | exact hx | refine List.mem_cons_of_mem _ ?_)) (fun _ h => by repeat (first | exact h | refine List.mem_cons_of_mem _ ?_))) (fun _ _ _ h => h) ?_ ?_; (first | exact trivial | omega | decide); clear hF a; intro a hF))
    (first | (apply t_loadS (i := 12) hF rfl rfl rfl; (repeat (first | exact List.mem_cons_self | refine List.mem_cons_of_mem _ ?_)); (first | with_reducible assumption | (simp only [Int.toNat_natCast]; with_reducible assumption)); (with_reducible assumption); exact rfl; exact rfl; kernel_rfl; exact (hM.sm.sub (fun x hx => by repeat (first | exact hx | refine List.mem_cons_of_mem _ ?_)) (fun _ h => by repeat (first | exact h | refine List.mem_cons_of_mem _ ?_))); exact (fun _ _ _ h => h); clear hF a; intro a hF))
    (first | (refine t_pure (i := 13) hF rfl rfl rfl rfl (by kernel_rfl) (hM.sm.sub (fun x hx => by repeat (first | exact hx | refine List.mem_cons_of_mem _ ?_)) (fun _ h => by repeat (first | exact h | refine List.mem_cons_of_mem _ ?_))) (fun _ _ _ h => h) ?_ ?_; (first | exact trivial | omega | decide); clear hF a; intro a hF))
    (first | (refine t_pure (i := 14) hF rfl rfl rfl rfl (by kernel_rfl) (hM.sm.sub (fun x hx => by repeat (first | exact hx | refine List.mem_cons_of_mem _ ?_)) (fun _ h => by repeat (first | exact h | refine List.mem_cons_of_mem _ ?_))) (fun _ _ _ h => h) ?_ ?_; (first | exact trivial | omega | decide); clear hF a; intro a hF))
    (first | (refine t_pure (i := 15) hF rfl rfl rfl rfl (by kernel_rfl) (hM.sm.sub (fun x hx => by repeat (first | exact hx | refine List.mem_cons_of_mem _ ?_)) (fun _ h => by repeat (first | exact h | refine List.mem_cons_of_mem _ ?_))) (fun _ _ _ h => h) ?_ ?_; (first | exact trivial | omega | decide); clear hF a; intro a hF))
    (first | (apply t_loadS (i := 16) hF rfl rfl rfl; (repeat (first | exact List.mem_cons_self | refine List.mem_cons_of_mem _ ?_)); (first | with_reducible assumption | (simp only [Int.toNat_natCast]; with_reducible assumption)); (with_reducible assumption); exact rfl; exact rfl; kernel_rfl; exact (hM.sm.sub (fun x hx => by repeat (first | exact hx | refine List.mem_cons_of_mem _ ?_)) (fun _ h => by repeat (first | exact h | refine List.mem_cons_of_mem _ ?_))); exact (fun _ _ _ h => h); clear hF a; intro a hF))
    (first | (apply t_eqA (i := 17) hF rfl rfl rfl rfl rfl; kernel_rfl; exact rfl; exact rfl; kernel_rfl; (first | with_reducible assumption | rfl); (first | with_reducible assumption | rfl); exact (hM.sm.sub (fun x hx => by repeat (first | exact hx | refine List.mem_cons_of_mem _ ?_)) (fun _ h => by repeat (first | exact h | refine List.mem_cons_of_mem _ ?_))); exact (fun _ _ _ h => h); clear hF a; intro a hF))
    (first | (refine t_pure (i := 18) hF rfl rfl rfl rfl (by kernel_rfl) (hM.sm.sub (fun x hx => by repeat (first | exact hx | refine List.mem_cons_of_mem _ ?_)) (fun _ h => by repeat (first | exact h | refine List.mem_cons_of_mem _ ?_))) (fun _ _ _ h => h) ?_ ?_; (first | exact trivial | omega | decide); clear hF a; intro a hF))
    refine t_done (by kernel_rfl) ?_
    (repeat' (first | (with_reducible refine w_seq ?_) | (with_reducible refine c_region ?_) | (with_reducible refine s_nil ?_) | (with_reducible refine q_then_n ?_) | ((with_reducible apply s_pure hF); exact rfl; exact rfl; exact rfl; (first | exact trivial | omega | decide); clear hF a; intro a hF) | (with_reducible refine w_skip ?_) | (with_reducible refine w_block ?_) | (with_reducible refine w_exit ?_) | (with_reducible refine w_ret ?_) | (with_reducible refine q_then_x ?_) | (with_reducible refine q_blk_n ?_) | (with_reducible refine q_blk_x ?_) | ((with_reducible apply c_dec hF); exact rfl; all_goals intro hc; all_goals (try (exfalso; omega)))))
    · refine ⟨m - 1, by omega, n + 1, by omega, by omega, by omega, fun j hj => ?_, hF.sub (by repeat (first | exact Sub.nil | refine Sub.cons rfl (by first | with_reducible rfl | (refine congrArg (Value.int _) ?_; omega) | exact rfl) ?_)), hM⟩
      by_cases hj' : j = n
      · subst hj'; rw [hs2, hc]
      · exact hall j (by omega)
    (apply f_ret Try.results31 hF hM; (repeat (first | exact RL.nil | (apply RL.tmp; exact rfl) | (apply RL.cell; exact rfl; (repeat (first | exact List.mem_cons_self | refine List.mem_cons_of_mem _ ?_)); exact rfl))); refine Ret.mk hM.since ?_; dsimp only [resV])
    rw [rl_eq hs hn hall (by rw [hs2]; intro h; injection h with h; exact hc h)]
  · with_reducible refine w_seq ?_
    with_reducible refine w_seq ?_
    refine c_draw (fun i => Nat.ble 19 i) hM ?_; clear hM; intro w hM
    (first | (refine t_pure (i := 0) hF rfl rfl rfl rfl (by kernel_rfl) hM.sm (fun _ _ _ h => h) ?_ ?_; (first | exact trivial | omega | decide); clear hF a; intro a hF))
    (first | (refine t_pure (i := 1) hF rfl rfl rfl rfl (by kernel_rfl) hM.sm (fun _ _ _ h => h) ?_ ?_; (first | exact trivial | omega | decide); clear hF a; intro a hF))
    (first | (refine t_pure (i := 2) hF rfl rfl rfl rfl (by kernel_rfl) hM.sm (fun _ _ _ h => h) ?_ ?_; (first | exact trivial | omega | decide); clear hF a; intro a hF))
    (first | (refine t_pure (i := 3) hF rfl rfl rfl rfl (by kernel_rfl) hM.sm (fun _ _ _ h => h) ?_ ?_; (first | exact trivial | omega | decide); clear hF a; intro a hF))
    (first | (refine t_pure (i := 4) hF rfl rfl rfl rfl (by kernel_rfl) hM.sm (fun _ _ _ h => h) ?_ ?_; (first | exact trivial | omega | decide); clear hF a; intro a hF))
    (first | (refine t_pure (i := 5) hF rfl rfl rfl rfl (by kernel_rfl) hM.sm (fun _ _ _ h => h) ?_ ?_; (first | exact trivial | omega | decide); clear hF a; intro a hF))
    rw [show decide ((i : Int) + (n : Int) < (l.length : Int)) = false from decide_eq_false (by omega)] at hF
    (first | (refine t_pure (i := 6) hF rfl rfl rfl rfl (by kernel_rfl) (hM.sm.sub (fun x hx => by repeat (first | exact hx | refine List.mem_cons_of_mem _ ?_)) (fun _ h => by repeat (first | exact h | refine List.mem_cons_of_mem _ ?_))) (fun _ _ _ h => h) ?_ ?_; (first | exact trivial | omega | decide); clear hF a; intro a hF))
    (first | (refine t_skip (i := 7) hF rfl rfl rfl (by kernel_rfl) (hM.sm.sub (fun x hx => by repeat (first | exact hx | refine List.mem_cons_of_mem _ ?_)) (fun _ h => by repeat (first | exact h | refine List.mem_cons_of_mem _ ?_))) (fun _ _ _ h => h) ?_; clear hF a; intro a hF))
    (first | (refine t_skip (i := 8) hF rfl rfl rfl (by kernel_rfl) (hM.sm.sub (fun x hx => by repeat (first | exact hx | refine List.mem_cons_of_mem _ ?_)) (fun _ h => by repeat (first | exact h | refine List.mem_cons_of_mem _ ?_))) (fun _ _ _ h => h) ?_; clear hF a; intro a hF))
    (first | (refine t_skip (i := 9) hF rfl rfl rfl (by kernel_rfl) (hM.sm.sub (fun x hx => by repeat (first | exact hx | refine List.mem_cons_of_mem _ ?_)) (fun _ h => by repeat (first | exact h | refine List.mem_cons_of_mem _ ?_))) (fun _ _ _ h => h) ?_; clear hF a; intro a hF))
    (first | (refine t_skip (i := 10) hF rfl rfl rfl (by kernel_rfl) (hM.sm.sub (fun x hx => by repeat (first | exact hx | refine List.mem_cons_of_mem _ ?_)) (fun _ h => by repeat (first | exact h | refine List.mem_cons_of_mem _ ?_))) (fun _ _ _ h => h) ?_; clear hF a; intro a hF))
    (first | (refine t_skip (i := 11) hF rfl rfl rfl (by kernel_rfl) (hM.sm.sub (fun x hx => by repeat (first | exact hx | refine List.mem_cons_of_mem _ ?_)) (fun _ h => by repeat (first | exact h | refine List.mem_cons_of_mem _ ?_))) (fun _ _ _ h => h) ?_; clear hF a; intro a hF))
    (first | (refine t_skip (i := 12) hF rfl rfl rfl (by kernel_rfl) (hM.sm.sub (fun x hx => by repeat (first | exact hx | refine List.mem_cons_of_mem _ ?_)) (fun _ h => by repeat (first | exact h | refine List.mem_cons_of_mem _ ?_))) (fun _ _ _ h => h) ?_; clear hF a; intro a hF))
    (first | (refine t_skip (i := 13) hF rfl rfl rfl (by kernel_rfl) (hM.sm.sub (fun x hx => by repeat (first | exact hx | refine List.mem_cons_of_mem _ ?_)) (fun _ h => by repeat (first | exact h | refine List.mem_cons_of_mem _ ?_))) (fun _ _ _ h => h) ?_; clear hF a; intro a hF))
    (first | (refine t_skip (i := 14) hF rfl rfl rfl (by kernel_rfl) (hM.sm.sub (fun x hx => by repeat (first | exact hx | refine List.mem_cons_of_mem _ ?_)) (fun _ h => by repeat (first | exact h | refine List.mem_cons_of_mem _ ?_))) (fun _ _ _ h => h) ?_; clear hF a; intro a hF))
    (first | (refine t_skip (i := 15) hF rfl rfl rfl (by kernel_rfl) (hM.sm.sub (fun x hx => by repeat (first | exact hx | refine List.mem_cons_of_mem _ ?_)) (fun _ h => by repeat (first | exact h | refine List.mem_cons_of_mem _ ?_))) (fun _ _ _ h => h) ?_; clear hF a; intro a hF))
    (first | (refine t_skip (i := 16) hF rfl rfl rfl (by kernel_rfl) (hM.sm.sub (fun x hx => by repeat (first | exact hx | refine List.mem_cons_of_mem _ ?_)) (fun _ h => by repeat (first | exact h | refine List.mem_cons_of_mem _ ?_))) (fun _ _ _ h => h) ?_; clear hF a; intro a hF))
    (first | (refine t_skip (i := 17) hF rfl rfl rfl (by kernel_rfl) (hM.sm.sub (fun x hx => by repeat (first | exact hx | refine List.mem_cons_of_mem _ ?_)) (fun _ h => by repeat (first | exact h | refine List.mem_cons_of_mem _ ?_))) (fun _ _ _ h => h) ?_; clear hF a; intro a hF))
    (first | (refine t_pure (i := 18) hF rfl rfl rfl rfl (by kernel_rfl) (hM.sm.sub (fun x hx => by repeat (first | exact hx | refine List.mem_cons_of_mem _ ?_)) (fun _ h => by repeat (first | exact h | refine List.mem_cons_of_mem _ ?_))) (fun _ _ _ h => h) ?_ ?_; (first | exact trivial | omega | decide); clear hF a; intro a hF))
    refine t_done (by kernel_rfl) ?_
    (repeat' (first | (with_reducible refine w_seq ?_) | (with_reducible refine c_region ?_) | (with_reducible refine s_nil ?_) | (with_reducible refine q_then_n ?_) | ((with_reducible apply s_pure hF); exact rfl; exact rfl; exact rfl; (first | exact trivial | omega | decide); clear hF a; intro a hF) | (with_reducible refine w_exit ?_) | (with_reducible refine w_ret ?_) | (with_reducible refine q_then_x ?_) | (with_reducible refine q_blk_x ?_) | ((with_reducible apply c_false hF); exact rfl)))
    (apply f_ret Try.results31 hF hM; (repeat (first | exact RL.nil | (apply RL.tmp; exact rfl) | (apply RL.cell; exact rfl; (repeat (first | exact List.mem_cons_self | refine List.mem_cons_of_mem _ ?_)); exact rfl))); refine Ret.mk hM.since ?_; dsimp only [resV])
    rw [rl_eq hs hn hall (by rw [List.getElem?_eq_none (by omega)]; exact fun h => by cases h)]
/-- A sector at this place belongs to a literal group. -/
def okL (l : List (List Int)) (j : Nat) : Prop := l[j]? ≠ some zr ∧ rl l j = 1
instance (l : List (List Int)) (j : Nat) : Decidable (okL l j) := by unfold okL; infer_instance
/-- How many more sectors the literal group has. -/
def litF (l : List (List Int)) : Nat → Nat → Nat
  | 0, _ => 0
  | f + 1, p => if okL l p then 1 + litF l f (p + 1) else 0
/-- The length of the literal group at a place. -/
def lit (l : List (List Int)) (i : Nat) : Nat := 1 + litF l (l.length - (i + 1)) (i + 1)
/-- The kind and the length of the group at a place. -/
def nx (l : List (List Int)) (i : Nat) : Nat × Nat := if l[i]? = some zr then (2, rl l i) else if 2 ≤ rl l i then (1, rl l i) else (0, lit l i)
theorem rl_pos {l : List (List Int)} {i : Nat} : 1 ≤ rl l i := by unfold rl; omega
theorem rl_le {l : List (List Int)} {i : Nat} (hi : i < l.length) : i + rl l i ≤ l.length := by
  unfold rl
  have := List.Sublist.length_le (List.takeWhile_sublist (p := fun s => decide (l[i]? = some s)) (l := l.drop (i + 1)))
  rw [List.length_drop] at this
  omega
theorem litF_le {l : List (List Int)} : ∀ (f p : Nat), litF l f p ≤ f
  | 0, _ => Nat.le_refl _
  | f + 1, p => by
    rw [litF]
    have := litF_le (l := l) f (p + 1)
    split <;> omega
set_option maxRecDepth 20000 in
theorem next_c (l : List (List Int)) (hw : W8 l) (i : Nat) (q : Int) (hq0 : q = i) (hi : i < l.length) (hlen : l.length ≤ 1000000) (a0 : Option Addr) (c0 : Nat) (own : Nat → Prop) (W : World) (hl : ∀ b, own b → b < W.heap.size) (hv : Has own W (RdF (Value.int .u8) a0 l.flatten)) :
    Calls Try.prog 35 ⟨[.slice a0 l.length c0, .int .i64 q]⟩ W (Ret W fun v _ => v = .agg #[.int .i64 (nx l i).1, .int .i64 i, .int .i64 (nx l i).2]) := by
  subst hq0
  have hM := (Mm.start hl).known hv
  have hw' : ∀ y ∈ l, y.length = 8 := hw
  obtain ⟨s, hs⟩ := get_of_lt hi
  have hs8 := hw s (List.mem_of_getElem? hs)
  have hs' : l[((i : Int)).toNat]? = some s := by rw [Int.toNat_natCast]; exact hs
  obtain ⟨ad, rfl⟩ : ∃ ad, a0 = some ad := by
    have h0 : 0 < s.length := by omega
    exact rd_some hM (by (repeat (first | exact List.mem_cons_self | refine List.mem_cons_of_mem _ ?_))) (flat_get hw hs (List.getElem?_eq_getElem h0))
  have hn := rl_le hi
  have hn1 := rl_pos (l := l) (i := i)
  refine f_start Try.func35 rfl Try.ntmps35 rfl rfl ?_; intro a hF
  (repeat (first | (with_reducible refine w_seq ?_) | (with_reducible refine c_region ?_) | (with_reducible refine s_nil ?_) | ((with_reducible apply s_call (f := 31) hF hM); exact rfl; exact rfl; exact rfl; exact rfl; exact rfl; exact (run_c l hw i _ rfl hi hlen _ c0 _ _ hM.lt (hM.facts _ (by (repeat (first | exact List.mem_cons_self | refine List.mem_cons_of_mem _ ?_))))); clear hF hM a; rintro v w a rfl - hM hF) | ((with_reducible apply s_eqA (ys := zr) hF); exact rfl; exact rfl; exact rfl; exact rfl; kernel_rfl; exact rfl; exact rfl; (first | with_reducible assumption | rfl); rfl; clear hF a; intro a hF) | ((with_reducible apply s_loadS hF hM); exact rfl; exact rfl; (repeat (first | exact List.mem_cons_self | refine List.mem_cons_of_mem _ ?_)); exact rfl; exact rfl; (first | with_reducible assumption | (simp only [Int.toNat_natCast]; with_reducible assumption)); (with_reducible assumption); clear hF a; intro a hF) | (with_reducible refine q_then_n ?_) | ((with_reducible apply s_pure hF); exact rfl; exact rfl; exact rfl; (first | exact trivial | omega | decide); clear hF a; intro a hF) | ((with_reducible apply s_alloc hF hM); exact rfl; exact rfl; exact rfl; clear hF hM a; intro b w a hM hF) | (with_reducible refine w_block ?_)))
  by_cases hz : s = zr
  · have hnx : nx l i = (2, rl l i) := by unfold nx; rw [if_pos (by rw [hs, hz])]
    rw [decide_eq_true hz] at hF
    (repeat' (first | (with_reducible refine w_seq ?_) | (with_reducible refine c_region ?_) | (with_reducible refine s_nil ?_) | (with_reducible refine q_then_n ?_) | ((with_reducible apply s_pure hF); exact rfl; exact rfl; exact rfl; (first | exact trivial | omega | decide); clear hF a; intro a hF) | ((with_reducible apply s_store hF hM); exact rfl; exact rfl; exact rfl; exact rfl; (repeat (first | exact Upd.z | apply Upd.s)); exact rfl; exact rfl; exact rfl; clear hM; intro w hM) | (with_reducible refine w_ret ?_) | (with_reducible refine q_then_r ?_) | (with_reducible refine q_blk_r ?_) | ((with_reducible apply c_true hF); exact rfl)))
    (apply f_ret Try.results35 hF hM; (repeat (first | exact RL.nil | (apply RL.tmp; exact rfl) | (apply RL.cell; exact rfl; (repeat (first | exact List.mem_cons_self | refine List.mem_cons_of_mem _ ?_)); exact rfl))); refine Ret.mk hM.since ?_; dsimp only [resV])
    rw [hnx]
    rfl
  rw [decide_eq_false hz] at hF
  by_cases h2 : 2 ≤ rl l i
  · have hnx : nx l i = (1, rl l i) := by unfold nx; rw [if_neg (by rw [hs]; intro h; injection h with h; exact hz h), if_pos h2]
    (repeat' (first | (with_reducible refine w_seq ?_) | (with_reducible refine c_region ?_) | (with_reducible refine s_nil ?_) | (with_reducible refine q_then_n ?_) | ((with_reducible apply s_pure hF); exact rfl; exact rfl; exact rfl; (first | exact trivial | omega | decide); clear hF a; intro a hF) | ((with_reducible apply s_store hF hM); exact rfl; exact rfl; exact rfl; exact rfl; (repeat (first | exact Upd.z | apply Upd.s)); exact rfl; exact rfl; exact rfl; clear hM; intro w hM) | (with_reducible refine w_ret ?_) | (with_reducible refine q_then_r ?_) | (with_reducible refine q_blk_r ?_) | ((with_reducible apply c_false hF); exact rfl) | ((with_reducible apply c_dec hF); exact rfl; all_goals intro hc; all_goals (try (exfalso; omega)))))
    (apply f_ret Try.results35 hF hM; (repeat (first | exact RL.nil | (apply RL.tmp; exact rfl) | (apply RL.cell; exact rfl; (repeat (first | exact List.mem_cons_self | refine List.mem_cons_of_mem _ ?_)); exact rfl))); refine Ret.mk hM.since ?_; dsimp only [resV])
    rw [hnx]
    rfl
  have hnx : nx l i = (0, lit l i) := by unfold nx; rw [if_neg (by rw [hs]; intro h; injection h with h; exact hz h), if_neg h2]
  have hr1 : rl l i = 1 := by omega
  rw [hr1] at hF
  (repeat' (first | (with_reducible refine w_seq ?_) | (with_reducible refine c_region ?_) | (with_reducible refine s_nil ?_) | (with_reducible refine q_then_n ?_) | ((with_reducible apply s_pure hF); exact rfl; exact rfl; exact rfl; (first | exact trivial | omega | decide); clear hF a; intro a hF) | (with_reducible refine w_skip ?_) | (with_reducible refine w_block ?_) | (with_reducible refine q_blk_n ?_) | ((with_reducible apply c_false hF); exact rfl)))
  refine c_loop (m := l.length) (fun m a w' => ∃ n : Nat, m + n = l.length + 1 ∧ 1 ≤ n ∧ i + n ≤ l.length ∧ lit l i = n + litF l (l.length - (i + n)) (i + n) ∧
    Fr 54 [] [(5, .int .i64 n), (4, .pointer (some ⟨b, 0, none⟩)), (0, .slice (some ad) l.length c0), (1, .int .i64 i)] a ∧ Mm own W [⟨b, ⟨[.int .i64 0, .int .i64 0, .int .i64 0]⟩, 53⟩] [] [RdF (Value.int .u8) (some ad) l.flatten] w') ⟨1, by omega, by omega, by omega, rfl, hF.sub (by repeat (first | exact Sub.nil | refine Sub.cons rfl (by first | with_reducible rfl | (refine congrArg (Value.int _) ?_; omega) | exact rfl) ?_)), hM⟩ ?_
  clear hF hM a
  rintro m a w' ⟨n, hm, hn, hin, hlit, hF, hM⟩
  by_cases hlt : i + n < l.length
  · obtain ⟨s2, hs2⟩ := get_of_lt hlt
    have hs28 := hw s2 (List.mem_of_getElem? hs2)
    have hs2' : l[((i : Int) + (n : Int)).toNat]? = some s2 := by rw [show ((i : Int) + (n : Int)).toNat = i + n by omega]; exact hs2
    rw [show l.length - (i + n) = (l.length - (i + (n + 1))) + 1 by omega, litF, show i + n + 1 = i + (n + 1) by omega] at hlit
    (repeat' (first | (with_reducible refine w_seq ?_) | (with_reducible refine c_region ?_) | (with_reducible refine s_nil ?_) | ((with_reducible apply s_call (f := 31) hF hM); exact rfl; exact rfl; exact rfl; exact rfl; exact rfl; exact (run_c l hw (i + n) _ (by omega) hlt hlen _ c0 _ _ hM.lt (hM.facts _ (by (repeat (first | exact List.mem_cons_self | refine List.mem_cons_of_mem _ ?_))))); clear hF hM a; rintro v w a rfl - hM hF) | ((with_reducible apply s_eqA (ys := zr) hF); exact rfl; exact rfl; exact rfl; exact rfl; kernel_rfl; exact rfl; exact rfl; (first | with_reducible assumption | rfl); rfl; clear hF a; intro a hF) | ((with_reducible apply s_loadS hF hM); exact rfl; exact rfl; (repeat (first | exact List.mem_cons_self | refine List.mem_cons_of_mem _ ?_)); exact rfl; exact rfl; (first | with_reducible assumption | (simp only [Int.toNat_natCast]; with_reducible assumption)); (with_reducible assumption); clear hF a; intro a hF) | (with_reducible refine q_then_n ?_) | ((with_reducible apply s_pure hF); exact rfl; exact rfl; exact rfl; (first | exact trivial | omega | decide); clear hF a; intro a hF) | ((with_reducible apply s_store hF hM); exact rfl; exact rfl; exact rfl; exact rfl; (repeat (first | exact Upd.z | apply Upd.s)); exact rfl; exact rfl; exact rfl; clear hM; intro w hM) | (with_reducible refine w_skip ?_) | (with_reducible refine w_block ?_) | (with_reducible refine w_exit ?_) | (with_reducible refine w_ret ?_) | (with_reducible refine q_then_x ?_) | (with_reducible refine q_blk_n ?_) | (with_reducible refine q_blk_x ?_) | ((with_reducible apply c_false hF); exact rfl) | ((with_reducible apply s_skip hF); exact rfl; exact rfl; clear hF a; intro a hF) | ((with_reducible apply g_dec hF); exact rfl; exact rfl; all_goals (clear hF; intro hc hF); all_goals (try (exfalso; omega))) | ((with_reducible apply g_ndec hF); exact rfl; exact rfl; all_goals (clear hF; intro hc hF); all_goals (try (exfalso; omega))) | ((with_reducible apply c_dec hF); exact rfl; all_goals intro hc; all_goals (try (exfalso; omega)))))
    · have hz2 : ¬ s2 = zr := by assumption
      rw [if_pos ⟨by rw [hs2]; intro h; injection h with h; exact hz2 h, by omega⟩] at hlit
      exact ⟨m - 1, by omega, n + 1, by omega, by omega, by omega, by omega, hF.sub (by repeat (first | exact Sub.nil | refine Sub.cons rfl (by first | with_reducible rfl | (refine congrArg (Value.int _) ?_; omega) | exact rfl) ?_)), hM⟩
    · (apply f_ret Try.results35 hF hM; (repeat (first | exact RL.nil | (apply RL.tmp; exact rfl) | (apply RL.cell; exact rfl; (repeat (first | exact List.mem_cons_self | refine List.mem_cons_of_mem _ ?_)); exact rfl))); refine Ret.mk hM.since ?_; dsimp only [resV])
      rw [if_neg (fun h => by have := h.2; omega)] at hlit
      rw [hnx, hlit]
      rfl
    · (apply f_ret Try.results35 hF hM; (repeat (first | exact RL.nil | (apply RL.tmp; exact rfl) | (apply RL.cell; exact rfl; (repeat (first | exact List.mem_cons_self | refine List.mem_cons_of_mem _ ?_)); exact rfl))); refine Ret.mk hM.since ?_; dsimp only [resV])
      have hz2 : s2 = zr := by assumption
      rw [if_neg (fun h => h.1 (by rw [hs2, hz2]))] at hlit
      rw [hnx, hlit]
      rfl
  · rw [show l.length - (i + n) = 0 by omega, litF] at hlit
    (repeat' (first | (with_reducible refine w_seq ?_) | (with_reducible refine c_region ?_) | (with_reducible refine s_nil ?_) | (with_reducible refine q_then_n ?_) | ((with_reducible apply s_pure hF); exact rfl; exact rfl; exact rfl; (first | exact trivial | omega | decide); clear hF a; intro a hF) | ((with_reducible apply s_store hF hM); exact rfl; exact rfl; exact rfl; exact rfl; (repeat (first | exact Upd.z | apply Upd.s)); exact rfl; exact rfl; exact rfl; clear hM; intro w hM) | (with_reducible refine w_exit ?_) | (with_reducible refine w_ret ?_) | (with_reducible refine q_then_x ?_) | (with_reducible refine q_blk_x ?_) | ((with_reducible apply c_false hF); exact rfl) | ((with_reducible apply s_skip hF); exact rfl; exact rfl; clear hF a; intro a hF) | ((with_reducible apply g_dec hF); exact rfl; exact rfl; all_goals (clear hF; intro hc hF); all_goals (try (exfalso; omega)))))
    (apply f_ret Try.results35 hF hM; (repeat (first | exact RL.nil | (apply RL.tmp; exact rfl) | (apply RL.cell; exact rfl; (repeat (first | exact List.mem_cons_self | refine List.mem_cons_of_mem _ ?_)); exact rfl))); refine Ret.mk hM.since ?_; dsimp only [resV])
    rw [hnx, hlit]
    rfl
end Go.Proofs.Ythcnnedgfndklaa
