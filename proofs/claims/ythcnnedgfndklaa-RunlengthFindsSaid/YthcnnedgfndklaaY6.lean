/- Layer 5's law helpers; contracts that return facts. -/
import Derived.Test.YthcnnedgfndklaaY5
set_option linter.unusedSimpArgs false
set_option linter.unusedVariables false
set_option linter.unusedSectionVars false
namespace Go.Proofs.Ythcnnedgfndklaa
open Go.RowKit Go.Shelf
theorem Owns.fact {α : Type} {enc : α → Value} {own : Nat → Prop} {w : World} {base : Nat} {e : TypeId} {size : Nat} {ao : Option Addr} {m c : Nat} {xs : List α} (h : Owns w base [⟨e, size, .slice ao m c, m, xs.map enc⟩]) (hl : ∀ b, own b → b < base) : m ≤ c ∧ Has own w (RdF enc ao xs) := by
  have ho := h.own _ List.mem_cons_self
  refine ⟨?_, RdF.has (own_readsN ho) ?_⟩
  · rcases ho.2 with ⟨h1, h2⟩ | ⟨g, cap, cur, h1, _, _, h2, _⟩
    · simp only at h2; omega
    · simp only [Value.slice.injEq] at h1
      have h3 : m ≤ cap := h2
      omega
  · rintro ad rfl hn
    have h1 := h.lt List.mem_cons_self ad.block rfl
    have := hl _ hn
    omega
/-- A call that hands over a slice that is only read. -/
def Sl {α : Type} (enc : α → Value) (own : Nat → Prop) (xs : List α) (n : Nat) (v : Value) (w' : World) : Prop := ∃ a' c', v = .slice a' n c' ∧ n ≤ c' ∧ Has own w' (RdF enc a' xs)
theorem Ret.sl {α : Type} {enc : α → Value} {own : Nat → Prop} {W : World} {f : FuncId} {args : Array Value} {e : TypeId} {size : Nat} {m : Nat} {xs : List α} (h : Calls Try.prog f args W (Ret W fun v w' => ∃ a' c', v = .slice a' m c' ∧ Owns w' W.heap.size [⟨e, size, .slice a' m c', m, xs.map enc⟩])) (hl : ∀ b, own b → b < W.heap.size) : Calls Try.prog f args W (Ret W (Sl enc own xs m)) :=
  h.mono fun _ _ ⟨v, h1, h2, a', c', h3, h4⟩ => ⟨v, h1, h2, a', c', h3, (h4.fact hl).1, (h4.fact hl).2⟩
def DecF (own : Nat → Prop) (r : Except Int (List (List Int))) (v : Value) (w' : World) : Prop := match r with
  | .error e => v = .tuple #[.slice none 0 0, .int .i64 e]
  | .ok ls => ∃ a' c', v = .tuple #[.slice a' ls.length c', .int .i64 0] ∧ ls.length ≤ c' ∧ Has own w' (RdF (Value.int .u8) a' ls.flatten)
theorem Ret.decf {own : Nat → Prop} {W : World} {f : FuncId} {args : Array Value} {r : Except Int (List (List Int))} (h : Calls Try.prog f args W (Ret W (DecR W r))) (hl : ∀ b, own b → b < W.heap.size) : Calls Try.prog f args W (Ret W (DecF own r)) := by
  refine h.mono fun _ _ ⟨v, h1, h2, h3⟩ => ⟨v, h1, h2, ?_⟩
  cases r with
  | error e => exact h3
  | ok ls =>
    obtain ⟨a', c', h4, h5⟩ := h3
    exact ⟨a', c', h4, (h5.fact hl).1, (h5.fact hl).2⟩
theorem decf_ok {own : Nat → Prop} {W : World} {f : FuncId} {args : Array Value} {r : Except Int (List (List Int))} {ls : List (List Int)} (h : Calls Try.prog f args W (Ret W (DecF own r))) (hr : r = .ok ls) : Calls Try.prog f args W (Ret W fun v w' => ∃ a' c', v = .tuple #[.slice a' ls.length c', .int .i64 0] ∧ ls.length ≤ c' ∧ Has own w' (RdF (Value.int .u8) a' ls.flatten)) := by subst hr; exact h
theorem decf_err {own : Nat → Prop} {W : World} {f : FuncId} {args : Array Value} {r : Except Int (List (List Int))} {e : Int} (h : Calls Try.prog f args W (Ret W (DecF own r))) (hr : r = .error e) : Calls Try.prog f args W (Ret W fun v _ => v = .tuple #[.slice none 0 0, .int .i64 e]) := by subst hr; exact h
section
variable {own : Nat → Prop} {W : World} (hl : ∀ b, own b → b < W.heap.size)
include hl
theorem Encode_f (l : List (List Int)) (hw : W8 l) (hlen : l.length ≤ 30000) (a0 : Option Addr) (n c0 : Nat) (hn : l.length = n) (hc0 : n ≤ c0) (hv : Has own W (RdF (Value.int .u8) a0 l.flatten)) :
    Calls Try.prog 11 ⟨[.slice a0 n c0]⟩ W (Ret W (Sl (Value.int .u8) own (enc l) (enc l).length)) := by subst hn; exact Ret.sl (Encode_c l hw hlen a0 c0 hc0 own W hl hv) hl
theorem EncodeR_f (l : List (List Int)) (hw : W8 l) (hlen : l.length ≤ 30000) (a0 : Option Addr) (n c0 : Nat) (hn : l.length = n) (hc0 : n ≤ c0) (hv : Has own W (RdF (Value.int .u8) a0 l.flatten)) :
    Calls Try.prog 13 ⟨[.slice a0 n c0]⟩ W (Ret W (Sl (Value.int .u8) own (enc l) (enc l).length)) := by subst hn; exact Ret.sl (EncodeR_c l hw hlen a0 c0 hc0 own W hl hv) hl
theorem Size_f (l : List (List Int)) (hw : W8 l) (hlen : l.length ≤ 30000) (a0 : Option Addr) (n c0 : Nat) (hn : l.length = n) (hc0 : n ≤ c0) (hv : Has own W (RdF (Value.int .u8) a0 l.flatten)) :
    Calls Try.prog 14 ⟨[.slice a0 n c0]⟩ W (Ret W fun v _ => v = .int .i64 (enc l).length) := by subst hn; exact Size_c l hw hlen a0 c0 hc0 own W hl hv
theorem Decode_f (xb : List Int) (hxb : By xb) (hlen : xb.length ≤ 1000000) (most : Int) (a0 : Option Addr) (n c0 : Nat) (hn : xb.length = n) (hc0 : n ≤ c0) (hv : Has own W (RdF (Value.int .u8) a0 xb)) :
    Calls Try.prog 15 ⟨[.slice a0 n c0, .int .i64 most]⟩ W (Ret W (DecF own (dec (mst most) xb))) := by subst hn; exact Ret.decf (Decode_c xb hxb hlen most a0 c0 hc0 own W hl hv) hl
theorem DecodeR_f (xb : List Int) (hxb : By xb) (hlen : xb.length ≤ 1000000) (most : Int) (a0 : Option Addr) (n c0 : Nat) (hn : xb.length = n) (hc0 : n ≤ c0) (hv : Has own W (RdF (Value.int .u8) a0 xb)) :
    Calls Try.prog 16 ⟨[.slice a0 n c0, .int .i64 most]⟩ W (Ret W (DecF own (dec (mst most) xb))) := by subst hn; exact Ret.decf (DecodeR_c xb hxb hlen most a0 c0 hc0 own W hl hv) hl
theorem Runs_f (l : List (List Int)) (hw : W8 l) (hlen : l.length ≤ 30000) (a0 : Option Addr) (n c0 : Nat) (hn : l.length = n) (hv : Has own W (RdF (Value.int .u8) a0 l.flatten)) :
    Calls Try.prog 19 ⟨[.slice a0 n c0]⟩ W (Ret W (Sl (Value.int .i64) own (extL (runs l)).flatten (runs l).length)) := by
  subst hn
  have := Runs_c l hw hlen a0 c0 own W hl hv
  simp only [extC_L] at this
  exact Ret.sl this hl
theorem RunsR_f (l : List (List Int)) (hw : W8 l) (hlen : l.length ≤ 30000) (a0 : Option Addr) (n c0 : Nat) (hn : l.length = n) (hv : Has own W (RdF (Value.int .u8) a0 l.flatten)) :
    Calls Try.prog 20 ⟨[.slice a0 n c0]⟩ W (Ret W (Sl (Value.int .i64) own (extL (runs l)).flatten (runs l).length)) := by
  subst hn
  have := RunsR_c l hw hlen a0 c0 own W hl hv
  simp only [extC_L] at this
  exact Ret.sl this hl
end
/-- The sector that begins with a byte. -/
def sec (x : Int) : List Int := [x, 0, 0, 0, 0, 0, 0, 0]
set_option maxRecDepth 20000 in
theorem sector_c (x : Int) (W : World) : Calls Try.prog 33 ⟨[.int .u8 x]⟩ W (Ret W fun v _ => v = .agg #[.int .u8 x, .int .u8 0, .int .u8 0, .int .u8 0, .int .u8 0, .int .u8 0, .int .u8 0, .int .u8 0]) := by
  have hM : Mm (fun _ => False) W [] [] [] W := Mm.start (fun _ h => h.elim)
  refine f_start Try.func33 rfl Try.ntmps33 rfl rfl ?_; intro a hF
  (repeat (first | (with_reducible refine w_seq ?_) | (with_reducible refine c_region ?_) | (with_reducible refine s_nil ?_) | (with_reducible refine q_then_n ?_) | ((with_reducible apply s_pure hF); exact rfl; exact rfl; exact rfl; (first | exact trivial | omega | decide); clear hF a; intro a hF) | ((with_reducible apply s_store hF hM); exact rfl; exact rfl; exact rfl; exact rfl; (repeat (first | exact Upd.z | apply Upd.s)); exact rfl; exact rfl; exact rfl; clear hM; intro w hM) | ((with_reducible apply s_alloc hF hM); exact rfl; exact rfl; exact rfl; clear hF hM a; intro b w a hM hF) | (with_reducible refine w_ret ?_)))
  (apply f_ret Try.results33 hF hM; (repeat (first | exact RL.nil | (apply RL.tmp; exact rfl) | (apply RL.cell; exact rfl; (repeat (first | exact List.mem_cons_self | refine List.mem_cons_of_mem _ ?_)); exact rfl))); refine Ret.mk hM.since ?_; dsimp only [resV])
set_option maxRecDepth 20000 in
theorem sectors_c (xs : List Int) (hlen : xs.length ≤ 1000) (a0 : Option Addr) (n c0 : Nat) (hn : xs.length = n) (own : Nat → Prop) (W : World) (hl : ∀ b, own b → b < W.heap.size) (hv : Has own W (RdF (Value.int .u8) a0 xs)) :
    Calls Try.prog 21 ⟨[.slice a0 n c0]⟩ W (Ret W (Sl (Value.int .u8) own (xs.map sec).flatten n)) := by
  subst hn
  have hM := (Mm.start hl).known hv
  refine f_start Try.func21 rfl Try.ntmps21 rfl rfl ?_; intro a hF
  (repeat (first | (with_reducible refine w_seq ?_) | (with_reducible refine c_region ?_) | (with_reducible refine s_nil ?_) | (with_reducible refine q_then_n ?_) | ((with_reducible apply s_pure hF); exact rfl; exact rfl; exact rfl; (first | exact trivial | omega | decide); clear hF a; intro a hF) | (with_reducible refine w_block ?_)))
  replace hM := hM.nilRow 38 8
  refine c_loop (m := xs.length) (fun m a w' => ∃ (i : Nat) (v : Value), m + i = xs.length ∧ Fr 19 [] [(8, .int .i64 i), (7, .int .i64 xs.length), (6, .slice a0 xs.length c0), (3, v)] a ∧ Mm own W [] [⟨38, 8, v, i, ((xs.take i).map sec).flatten.map (Value.int .u8)⟩] [RdF (Value.int .u8) a0 xs] w') ⟨0, _, by omega, hF.sub (by repeat (first | exact Sub.nil | refine Sub.cons rfl (by first | with_reducible rfl | (refine congrArg (Value.int _) ?_; omega) | exact rfl) ?_)), hM⟩ ?_
  clear hF hM a
  rintro m a w' ⟨i, v, hm, hF, hM⟩
  by_cases hi : i < xs.length
  · obtain ⟨x, hx⟩ := get_of_lt hi
    have hx' : xs[((i : Int)).toNat]? = some x := by rw [Int.toNat_natCast]; exact hx
    obtain ⟨ad, rfl⟩ := rd_some hM (by (repeat (first | exact List.mem_cons_self | refine List.mem_cons_of_mem _ ?_))) hx
    (repeat' (first | (with_reducible refine w_seq ?_) | (with_reducible refine c_region ?_) | (with_reducible refine s_nil ?_) | ((with_reducible apply s_call (f := 33) hF hM); exact rfl; exact rfl; exact rfl; exact rfl; exact rfl; exact (sector_c x _); clear hF hM a; rintro v w a rfl - hM hF) | (with_reducible refine q_then_n ?_) | ((with_reducible apply s_pure hF); exact rfl; exact rfl; exact rfl; (first | exact trivial | omega | decide); clear hF a; intro a hF) | ((with_reducible apply s_loadF hF hM); exact rfl; exact rfl; (repeat (first | exact List.mem_cons_self | refine List.mem_cons_of_mem _ ?_)); exact rfl; exact rfl; (first | with_reducible assumption | (simp only [Int.toNat_natCast]; with_reducible assumption)); clear hF a; intro a hF) | ((with_reducible apply s_lit hF hM); exact rfl; exact rfl; exact rfl; exact rfl; clear hF hM a; intro bl w a hM hF) | ((with_reducible apply s_app hF hM); exact rfl; exact rfl; exact rfl; exact rfl; (repeat (first | exact Kth.z | apply Kth.s)); exact rfl; exact rfl; exact rfl; exact rfl; omega; clear hF hM a; intro g cap w a hM hF; dsimp only [List.set] at hM) | (with_reducible refine w_skip ?_) | (with_reducible refine w_block ?_) | (with_reducible refine q_blk_n ?_) | ((with_reducible apply c_dec hF); exact rfl; all_goals intro hc; all_goals (try (exfalso; omega)))))
    refine ⟨m - 1, by omega, i + 1, .slice (some ⟨g, 0, none⟩) (i + 1) cap, by omega, hF.sub (by repeat (first | exact Sub.nil | refine Sub.cons rfl (by first | with_reducible rfl | (refine congrArg (Value.int _) ?_; omega) | exact rfl) ?_)), ?_⟩
    rw [List.take_add_one, hx, List.map_append, List.flatten_append, List.map_append]
    exact hM
  · obtain rfl : i = xs.length := by omega
    obtain ⟨ao, co, rfl⟩ : ∃ ao co, v = .slice ao xs.length co := by
      rcases (hM.mem.own.own _ List.mem_cons_self).2 with ⟨h1, h2⟩ | ⟨g, cap, cur, h1, _⟩
      · exact ⟨none, 0, by rw [show xs.length = 0 from h2]; exact h1⟩
      · exact ⟨_, _, h1⟩
    rw [List.take_length] at hM
    (repeat' (first | (with_reducible refine w_seq ?_) | (with_reducible refine c_region ?_) | (with_reducible refine s_nil ?_) | (with_reducible refine q_then_n ?_) | ((with_reducible apply s_pure hF); exact rfl; exact rfl; exact rfl; (first | exact trivial | omega | decide); clear hF a; intro a hF) | (with_reducible refine w_exit ?_) | (with_reducible refine w_ret ?_) | (with_reducible refine q_then_x ?_) | (with_reducible refine q_blk_x ?_) | ((with_reducible apply c_dec hF); exact rfl; all_goals intro hc; all_goals (try (exfalso; omega)))))
    (apply f_ret Try.results21 hF hM; (repeat (first | exact RL.nil | (apply RL.tmp; exact rfl) | (apply RL.cell; exact rfl; (repeat (first | exact List.mem_cons_self | refine List.mem_cons_of_mem _ ?_)); exact rfl))); refine Ret.mk hM.since ?_; dsimp only [resV])
    exact ⟨_, _, rfl, row_capB hM List.mem_cons_self, hM.rowF List.mem_cons_self⟩
/-- Bytes, in which a negative number stands for a sector. -/
def encO (ns : List Int) : List Int := ns.flatMap fun n => if 0 ≤ n then [n] else sec (-n)
set_option maxRecDepth 20000 in
theorem encoded_c (ns : List Int) (hns : ∀ n ∈ ns, -255 ≤ n ∧ n ≤ 255) (hlen : ns.length ≤ 1000) (a0 : Option Addr) (n c0 : Nat) (hn : ns.length = n) (own : Nat → Prop) (W : World) (hl : ∀ b, own b → b < W.heap.size) (hv : Has own W (RdF (Value.int .i64) a0 ns)) :
    Calls Try.prog 22 ⟨[.slice a0 n c0]⟩ W (Ret W (Sl (Value.int .u8) own (encO ns) (encO ns).length)) := by
  subst hn
  have hM := (Mm.start hl).known hv
  refine f_start Try.func22 rfl Try.ntmps22 rfl rfl ?_; intro a hF
  (repeat (first | (with_reducible refine w_seq ?_) | (with_reducible refine c_region ?_) | (with_reducible refine s_nil ?_) | (with_reducible refine q_then_n ?_) | ((with_reducible apply s_pure hF); exact rfl; exact rfl; exact rfl; (first | exact trivial | omega | decide); clear hF a; intro a hF) | (with_reducible refine w_block ?_)))
  replace hM := hM.nilRow 5 1
  refine c_loop (m := ns.length) (fun m a w' => ∃ (i : Nat) (v : Value) (k : Nat), m + i = ns.length ∧ k = (encO (ns.take i)).length ∧ k ≤ 8 * i ∧ Fr 29 [] [(9, .int .i64 i), (8, .int .i64 ns.length), (7, .slice a0 ns.length c0), (3, v)] a ∧ Mm own W [] [⟨5, 1, v, k, (encO (ns.take i)).map (Value.int .u8)⟩] [RdF (Value.int .i64) a0 ns] w') ⟨0, _, 0, by omega, rfl, by omega, hF.sub (by repeat (first | exact Sub.nil | refine Sub.cons rfl (by first | with_reducible rfl | (refine congrArg (Value.int _) ?_; omega) | exact rfl) ?_)), hM⟩ ?_
  clear hF hM a
  rintro m a w' ⟨i, v, k, hm, hk, hk8, hF, hM⟩
  by_cases hi : i < ns.length
  · obtain ⟨x, hx⟩ := get_of_lt hi
    have hx' : ns[((i : Int)).toNat]? = some x := by rw [Int.toNat_natCast]; exact hx
    have hxb := hns x (List.mem_of_getElem? hx)
    obtain ⟨ad, rfl⟩ := rd_some hM (by (repeat (first | exact List.mem_cons_self | refine List.mem_cons_of_mem _ ?_))) hx
    have he : encO (ns.take (i + 1)) = encO (ns.take i) ++ (if 0 ≤ x then [x] else sec (-x)) := by
      rw [List.take_add_one, hx]
      unfold encO
      rw [List.flatMap_append]
      simp
    (repeat' (first | (with_reducible refine w_seq ?_) | (with_reducible refine c_region ?_) | (with_reducible refine s_nil ?_) | ((with_reducible apply s_call (f := 33) hF hM); exact rfl; exact rfl; exact rfl; exact rfl; exact rfl; exact (sector_c _ _); clear hF hM a; rintro v w a rfl - hM hF) | ((with_reducible apply s_arrSl hF); exact rfl; exact rfl; exact rfl; exact rfl; clear hF a; intro a hF) | (with_reducible refine q_then_n ?_) | ((with_reducible apply s_pure hF); exact rfl; exact rfl; exact rfl; (first | exact trivial | omega | decide); clear hF a; intro a hF) | ((with_reducible apply s_loadF hF hM); exact rfl; exact rfl; (repeat (first | exact List.mem_cons_self | refine List.mem_cons_of_mem _ ?_)); exact rfl; exact rfl; (first | with_reducible assumption | (simp only [Int.toNat_natCast]; with_reducible assumption)); clear hF a; intro a hF) | ((with_reducible apply s_store hF hM); exact rfl; exact rfl; exact rfl; exact rfl; (repeat (first | exact Upd.z | apply Upd.s)); exact rfl; exact rfl; exact rfl; clear hM; intro w hM) | ((with_reducible apply s_alloc hF hM); exact rfl; exact rfl; exact rfl; clear hF hM a; intro b w a hM hF) | ((with_reducible apply s_lit hF hM); exact rfl; exact rfl; exact rfl; exact rfl; clear hF hM a; intro bl w a hM hF) | ((with_reducible apply s_app hF hM); exact rfl; exact rfl; exact rfl; exact rfl; (repeat (first | exact Kth.z | apply Kth.s)); exact rfl; exact rfl; exact rfl; exact rfl; omega; clear hF hM a; intro g cap w a hM hF; dsimp only [List.set] at hM) | (with_reducible refine w_skip ?_) | (with_reducible refine w_block ?_) | (with_reducible refine w_exit ?_) | (with_reducible refine q_then_x ?_) | (with_reducible refine q_blk_n ?_) | (with_reducible refine q_blk_x ?_) | ((with_reducible apply c_dec hF); exact rfl; all_goals intro hc; all_goals (try (exfalso; omega)))))
    · rw [if_pos (by omega)] at he
      rw [show x % 256 = x by omega] at hM
      refine ⟨m - 1, by omega, i + 1, .slice (some ⟨g, 0, none⟩) (k + 1) cap, k + 1, by omega, by rw [he]; simp [hk], by omega, hF.sub (by repeat (first | exact Sub.nil | refine Sub.cons rfl (by first | with_reducible rfl | (refine congrArg (Value.int _) ?_; omega) | exact rfl) ?_)), ?_⟩
      rw [he, List.map_append]
      exact hM
    · rw [if_neg (by omega)] at he
      rw [show (0 - x) % 256 = -x by omega] at hM
      refine ⟨m - 1, by omega, i + 1, .slice (some ⟨g, 0, none⟩) (k + 8) cap, k + 8, by omega, by rw [he]; simp [hk, sec], by omega, hF.sub (by repeat (first | exact Sub.nil | refine Sub.cons rfl (by first | with_reducible rfl | (refine congrArg (Value.int _) ?_; omega) | exact rfl) ?_)), ?_⟩
      rw [he, List.map_append]
      exact hM
  · rw [List.take_of_length_le (by omega)] at hM hk
    subst hk
    obtain ⟨ao, co, rfl, -, -⟩ := hM.row List.mem_cons_self
    (repeat' (first | (with_reducible refine w_seq ?_) | (with_reducible refine c_region ?_) | (with_reducible refine s_nil ?_) | (with_reducible refine q_then_n ?_) | ((with_reducible apply s_pure hF); exact rfl; exact rfl; exact rfl; (first | exact trivial | omega | decide); clear hF a; intro a hF) | (with_reducible refine w_exit ?_) | (with_reducible refine w_ret ?_) | (with_reducible refine q_then_x ?_) | (with_reducible refine q_blk_x ?_) | ((with_reducible apply c_dec hF); exact rfl; all_goals intro hc; all_goals (try (exfalso; omega)))))
    (apply f_ret Try.results22 hF hM; (repeat (first | exact RL.nil | (apply RL.tmp; exact rfl) | (apply RL.cell; exact rfl; (repeat (first | exact List.mem_cons_self | refine List.mem_cons_of_mem _ ?_)); exact rfl))); refine Ret.mk hM.since ?_; dsimp only [resV])
    exact ⟨_, _, rfl, row_capB hM List.mem_cons_self, hM.rowF List.mem_cons_self⟩
end Go.Proofs.Ythcnnedgfndklaa
