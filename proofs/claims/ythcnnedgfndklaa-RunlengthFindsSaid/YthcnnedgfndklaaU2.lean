/- runlength: the groups as a sequence. -/
import Derived.Test.YthcnnedgfndklaaGs
import Derived.Test.YthcnnedgfndklaaU1
set_option linter.unusedSimpArgs false
set_option linter.unusedVariables false
set_option linter.unusedSectionVars false
namespace Go.Proofs.Ythcnnedgfndklaa
open Go.RowKit Go.Shelf
/-- The places where the groups of a list begin, from a place on. -/
def grpF (l : List (List Int)) : Nat → Nat → List (Fin l.length)
  | 0, _ => []
  | f + 1, i => if h : i < l.length then ⟨i, h⟩ :: grpF l f (i + (nx l i).2) else []
def grp (l : List (List Int)) : List (Fin l.length) := grpF l l.length 0
def gv (l : List (List Int)) (i : Nat) : Value := .agg #[.int .i64 (nx l i).1, .int .i64 i, .int .i64 (nx l i).2]
theorem nx_pos {l : List (List Int)} {i : Nat} : 1 ≤ (nx l i).2 := by
  unfold nx lit
  have := rl_pos (l := l) (i := i)
  split
  · exact this
  · split
    · exact this
    · simp only; omega
theorem nx_le {l : List (List Int)} {i : Nat} (hi : i < l.length) : i + (nx l i).2 ≤ l.length := by
  unfold nx lit
  have := rl_le hi
  have := litF_le (l := l) (l.length - (i + 1)) (i + 1)
  split
  · assumption
  · split
    · assumption
    · simp only; omega
theorem Since.trans' {W0 w w' : World} (h : Since W0 w) (k : Below W0.heap.size w w') : Since W0 w' := Below.trans h k
/-- What a round keeps for the sequence of groups. -/
def Kg (W0 A B : World) : Prop := Below W0.heap.size A B ∧ KT W0.heap.size 53 A B ∧ KT W0.heap.size 22 A B
theorem Kg.trans {W0 A B C : World} (h : Kg W0 A B) (k : Kg W0 B C) : Kg W0 A C := ⟨h.1.trans k.1, h.2.1.trans k.2.1, h.2.2.trans k.2.2⟩
theorem groups_c (a0 : Option Addr) (n c0 : Nat) (own : Nat → Prop) (W : World) (hl : ∀ b, own b → b < W.heap.size) :
    Calls Try.prog 23 ⟨[.slice a0 n c0]⟩ W (Ret W fun v w' => ∃ b, W.heap.size ≤ b ∧ v = .func (.func 34) #[] #[.pointer (some ⟨b, 0, none⟩)] ∧ Box w' b ⟨[.slice a0 n c0]⟩ 22) := by
  have hM := Mm.start hl
  refine f_start Try.func23 rfl Try.ntmps23 rfl rfl ?_; intro a hF
  (repeat (first | (with_reducible refine w_seq ?_) | (with_reducible refine c_region ?_) | (with_reducible refine s_nil ?_) | (with_reducible refine q_then_n ?_) | ((with_reducible apply s_pure hF); exact rfl; exact rfl; exact rfl; (first | exact trivial | omega | decide); clear hF a; intro a hF) | ((with_reducible apply s_box hF hM); exact rfl; exact rfl; exact rfl; exact rfl; clear hF hM a; intro b w a hM hF) | (with_reducible refine w_ret ?_)))
  (apply f_ret Try.results23 hF hM; (repeat (first | exact RL.nil | (apply RL.tmp; exact rfl) | (apply RL.cell; exact rfl; (repeat (first | exact List.mem_cons_self | refine List.mem_cons_of_mem _ ?_)); exact rfl))); refine Ret.mk hM.since ?_; dsimp only [resV])
  exact ⟨_, hM.mem.new _ List.mem_cons_self, rfl, hM.bx List.mem_cons_self⟩
set_option maxRecDepth 20000 in
theorem groups_stops (l : List (List Int)) (hw : W8 l) (hlen : l.length ≤ 1000000) (a0 : Option Addr) (c0 b0 : Nat) (W0 w : World) (hr : Reads (Value.int .u8) W0 a0 l.flatten) (hs : Since W0 w) (hb : W0.heap.size ≤ b0) (hbx : Box w b0 ⟨[.slice a0 l.length c0]⟩ 22) :
    SeqStopsK Fence.wide 8 Try.prog 34 #[.pointer (some ⟨b0, 0, none⟩)] (fun i : Fin l.length => #[gv l i]) (Kg W0) (fun ys => ys = grp l) (fun pre => ∃ k, pre = (grp l).take k) (grp l).length w := by
  intro lp J Jx W hW hJ hJx hY h0
  refine callsIn_wide.2 ?_
  show Calls Try.prog _ ⟨[.func (.yield lp) #[] #[], .pointer (some ⟨b0, 0, none⟩)]⟩ W _
  have hM : Mm (fun _ => False) W [] [] [] W := Mm.start (fun _ h => h.elim)
  refine f_start Try.func34 rfl Try.ntmps34 rfl rfl ?_; intro a hF
  (repeat' (first | (with_reducible refine w_seq ?_) | (with_reducible refine c_region ?_) | (with_reducible refine s_nil ?_) | (with_reducible refine q_then_n ?_) | ((with_reducible apply s_pure hF); exact rfl; exact rfl; exact rfl; (first | exact trivial | omega | decide); clear hF a; intro a hF) | (with_reducible refine w_block ?_)))
  have hsW : Since W0 W := hs.trans hW
  have hbW : Box W b0 ⟨[.slice a0 l.length c0]⟩ 22 := hbx.of_block (hW.block _ hbx.lt)
  refine c_loop (m := l.length) (fun m a w' => ∃ (i f : Nat) (pre : List (Fin l.length)), m + i = l.length ∧ l.length ≤ i + f ∧ grp l = pre ++ grpF l f i ∧ J pre w' ∧ Since W0 w' ∧ Box w' b0 ⟨[.slice a0 l.length c0]⟩ 22 ∧
    Fr 20 [] [(3, .int .i64 i), (0, .func (.yield lp) #[] #[]), (1, .pointer (some ⟨b0, 0, none⟩))] a) ⟨0, l.length, [], by omega, by omega, rfl, h0, hsW, hbW, hF.sub (by repeat (first | exact Sub.nil | refine Sub.cons rfl (by first | with_reducible rfl | (refine congrArg (Value.int _) ?_; omega) | exact rfl) ?_))⟩ ?_
  clear hF hM a
  rintro m a w' ⟨i, f, pre, hm, hf, hg, hJp, hsp, hbp, hF⟩
  have hM : Mm (fun _ => False) w' [] [] [RdF (Value.int .u8) a0 l.flatten, BxF b0 [.slice a0 l.length c0] 22] w' :=
    ((Mm.start (fun _ h => h.elim)).known (BxF.has hbp)).known (RdF.has (hr.since hsp) fun _ _ k => k)
  by_cases hlt : i < l.length
  · obtain ⟨f, rfl⟩ : ∃ f', f = f' + 1 := ⟨f - 1, by omega⟩
    rw [grpF, dif_pos hlt] at hg
    with_reducible refine w_seq ?_
    refine c_cut (fun a' w1 => w1 = w' ∧ Fr 20 [] [(3, .int .i64 i), (0, .func (.yield lp) #[] #[]), (1, .pointer (some ⟨b0, 0, none⟩))] a') ?_ ?_
    · (repeat' (first | (with_reducible refine w_seq ?_) | (with_reducible refine c_region ?_) | (with_reducible refine s_nil ?_) | (with_reducible refine q_then_n ?_) | ((with_reducible apply s_pure hF); exact rfl; exact rfl; exact rfl; (first | exact trivial | omega | decide); clear hF a; intro a hF) | ((with_reducible apply s_loadK hF hM); exact rfl; exact rfl; (repeat (first | exact List.mem_cons_self | refine List.mem_cons_of_mem _ ?_)); exact rfl; exact rfl; clear hF a; intro a hF) | (with_reducible refine w_skip ?_) | ((with_reducible apply c_dec hF); exact rfl; all_goals intro hc; all_goals (try (exfalso; omega)))))
      exact q_cut ⟨rfl, hF.sub (by repeat (first | exact Sub.nil | refine Sub.cons rfl (by first | with_reducible rfl | (refine congrArg (Value.int _) ?_; omega) | exact rfl) ?_))⟩
    clear hF a
    rintro a w1 ⟨rfl, hF⟩
    with_reducible refine w_block ?_
    with_reducible refine w_seq ?_
    refine c_cut (fun a' w2 => ∃ b4, Fr 20 [] [(4, .pointer (some ⟨b4, 0, none⟩)), (3, .int .i64 i), (0, .func (.yield lp) #[] #[]), (1, .pointer (some ⟨b0, 0, none⟩))] a' ∧
      Mm (fun _ => False) w1 [⟨b4, ⟨[.int .i64 (nx l i).1, .int .i64 i, .int .i64 (nx l i).2]⟩, 53⟩] [] [RdF (Value.int .u8) a0 l.flatten, BxF b0 [.slice a0 l.length c0] 22] w2) ?_ ?_
    · (repeat (first | (with_reducible refine c_region ?_) | (with_reducible refine s_nil ?_) | ((with_reducible apply s_call (f := 35) hF hM); exact rfl; exact rfl; exact rfl; exact rfl; exact rfl; exact (next_c l hw i _ rfl hlt hlen _ c0 _ _ hM.lt (hM.facts (RdF (Value.int .u8) a0 l.flatten) (by (repeat (first | exact List.mem_cons_self | refine List.mem_cons_of_mem _ ?_))))); clear hF hM a; rintro v w a rfl - hM hF) | ((with_reducible apply s_pure hF); exact rfl; exact rfl; exact rfl; (first | exact trivial | omega | decide); clear hF a; intro a hF) | ((with_reducible apply s_loadK hF hM); exact rfl; exact rfl; (repeat (first | exact List.mem_cons_self | refine List.mem_cons_of_mem _ ?_)); exact rfl; exact rfl; clear hF a; intro a hF) | ((with_reducible apply s_store hF hM); exact rfl; exact rfl; exact rfl; exact rfl; (repeat (first | exact Upd.z | apply Upd.s)); exact rfl; exact rfl; exact rfl; clear hM; intro w hM) | ((with_reducible apply s_alloc hF hM); exact rfl; exact rfl; exact rfl; clear hF hM a; intro b w a hM hF)))
      exact q_cut ⟨b, hF.sub (by repeat (first | exact Sub.nil | refine Sub.cons rfl (by first | with_reducible rfl | (refine congrArg (Value.int _) ?_; omega) | exact rfl) ?_)), hM⟩
    clear hF hM a
    rintro a w2 ⟨b4, hF, hM⟩
    with_reducible refine w_seq ?_
    with_reducible refine w_seq ?_
    apply c_yield (n := 20) (ds := []) 2 7
    · exact rfl
    · exact rfl
    show wl _ _ [_, _] _ _
    (repeat (first | (with_reducible refine s_nil ?_) | (with_reducible refine q_then_n ?_) | ((with_reducible apply s_pure hF); exact rfl; exact rfl; exact rfl; (first | exact trivial | omega | decide); clear hF a; intro a hF) | ((with_reducible apply s_load hF hM); exact rfl; exact rfl; (repeat (first | exact List.mem_cons_self | refine List.mem_cons_of_mem _ ?_)); exact rfl; exact rfl; clear hF a; intro a hF)))
    have hJ2 : J pre w2 := hJ pre w1 w2 none hJp hM.since.grows (fun r e => by cases e)
    have hlp : pre.length < (grp l).length := by rw [hg]; simp
    refine ⟨_, [gv l i], lp, _, hF, rfl, rfl, hY pre ⟨i, hlt⟩ w2 hJ2 hlp, ?_⟩
    have hk := hM.bx List.mem_cons_self
    have hs2 : Since W0 w2 := hsp.trans hM.since
    have hb2 : Box w2 b0 ⟨[.slice a0 l.length c0]⟩ 22 := hM.fact (f := BxF b0 [.slice a0 l.length c0] 22) (by (repeat (first | exact List.mem_cons_self | refine List.mem_cons_of_mem _ ?_)))
    have h4 : W0.heap.size ≤ b4 := Nat.le_trans hsp.size (hM.mem.new _ List.mem_cons_self)
    rintro e w3 (⟨rfl, hJ3, k1, k2, k3⟩ | ⟨rfl, hJx3⟩)
    · refine ⟨_, rfl, fun a hF => ?_⟩
      have hk3 : Box w3 b4 _ _ := k2 b4 _ h4 hk
      have hb3 : Box w3 b0 _ _ := k3 b0 _ hb hb2
      have hs3 : Since W0 w3 := hs2.trans' k1
      clear hM
      have hM : Mm (fun _ => False) w3 [] [] [BxF b4 [.int .i64 (nx l i).1, .int .i64 i, .int .i64 (nx l i).2] 53] w3 := (Mm.start (fun _ h => h.elim)).known (BxF.has hk3)
      have hnp := nx_pos (l := l) (i := i)
      have hnl := nx_le hlt
      (repeat' (first | (with_reducible refine c_region ?_) | (with_reducible refine s_nil ?_) | (with_reducible refine q_then_n ?_) | ((with_reducible apply s_pure hF); exact rfl; exact rfl; exact rfl; (first | exact trivial | omega | decide); clear hF a; intro a hF) | ((with_reducible apply s_loadK hF hM); exact rfl; exact rfl; (repeat (first | exact List.mem_cons_self | refine List.mem_cons_of_mem _ ?_)); exact rfl; exact rfl; clear hF a; intro a hF) | (with_reducible refine w_skip ?_) | (with_reducible refine q_blk_n ?_) | ((with_reducible apply c_false hF); exact rfl)))
      exact ⟨m - (nx l i).2, by omega, i + (nx l i).2, f, pre ++ [⟨i, hlt⟩], by omega, by omega, by rw [hg]; simp, hJ3, hs3, hb3, hF.sub (by repeat (first | exact Sub.nil | refine Sub.cons rfl (by first | with_reducible rfl | (refine congrArg (Value.int _) ?_; omega) | exact rfl) ?_))⟩
    · refine ⟨_, rfl, fun a hF => ?_⟩
      clear hM
      have hM : Mm (fun _ => False) w3 [] [] [] w3 := Mm.start (fun _ h => h.elim)
      (repeat' (first | (with_reducible refine s_nil ?_) | (with_reducible refine q_then_n ?_) | ((with_reducible apply s_pure hF); exact rfl; exact rfl; exact rfl; (first | exact trivial | omega | decide); clear hF a; intro a hF) | (with_reducible refine w_ret ?_) | (with_reducible refine q_then_r ?_) | (with_reducible refine q_blk_r ?_) | ((with_reducible apply c_true hF); exact rfl)))
      (apply f_ret Try.results34 hF hM; (repeat (first | exact RL.nil | (apply RL.tmp; exact rfl) | (apply RL.cell; exact rfl; (repeat (first | exact List.mem_cons_self | refine List.mem_cons_of_mem _ ?_)); exact rfl))); dsimp only [resV])
      refine ⟨⟨_, rfl⟩, .inr ⟨_, ⟨pre.length + 1, ?_⟩, hJx3⟩⟩
      rw [hg, show pre.length + 1 = (pre ++ [(⟨i, hlt⟩ : Fin l.length)]).length by simp, show pre ++ ⟨i, hlt⟩ :: grpF l f (i + (nx l i).2) = (pre ++ [⟨i, hlt⟩]) ++ grpF l f (i + (nx l i).2) by simp, List.take_left']
      rfl
  · have hi : i = l.length := by omega
    have hg2 : grpF l f i = [] := by
      cases f with
      | zero => rfl
      | succ f => rw [grpF, dif_neg hlt]
    (repeat' (first | (with_reducible refine w_seq ?_) | (with_reducible refine c_region ?_) | (with_reducible refine s_nil ?_) | (with_reducible refine q_then_n ?_) | ((with_reducible apply s_pure hF); exact rfl; exact rfl; exact rfl; (first | exact trivial | omega | decide); clear hF a; intro a hF) | ((with_reducible apply s_loadK hF hM); exact rfl; exact rfl; (repeat (first | exact List.mem_cons_self | refine List.mem_cons_of_mem _ ?_)); exact rfl; exact rfl; clear hF a; intro a hF) | (with_reducible refine w_exit ?_) | (with_reducible refine q_then_x ?_) | (with_reducible refine q_blk_x ?_) | ((with_reducible apply c_dec hF); exact rfl; all_goals intro hc; all_goals (try (exfalso; omega)))))
    (apply f_end Try.results34 hF hM; (repeat (first | exact RL.nil | (apply RL.tmp; exact rfl) | (apply RL.cell; exact rfl; (repeat (first | exact List.mem_cons_self | refine List.mem_cons_of_mem _ ?_)); exact rfl))); dsimp only [resV])
    rw [hg2, List.append_nil] at hg
    refine ⟨⟨_, rfl⟩, .inl ⟨_, hg.symm, ?_⟩⟩
    exact hJ pre _ _ none hJp hM.since.grows (fun r e => by cases e)
end Go.Proofs.Ythcnnedgfndklaa
