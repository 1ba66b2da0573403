/- Texts of this seat, one behind the other: Kf Kn Kg Kh Va Vb Vc Ki Pl2 Kj V4 Kk Kl. -/
import Derived.Deep.QuietTactic
import Derived.BigQuiet
import Derived.Test.YtabfhoipclbeeaaQRK3c
set_option linter.unusedSimpArgs false
set_option linter.unusedVariables false
set_option linter.unusedSectionVars false
set_option maxRecDepth 3000
/- certificate: Decode. -/
namespace Go.Proofs.Ytabfhoipclbeeaa
open Go.RowKit Go.Shelf C55 K57
/-- A number that is read. -/
def rdI (xs : List Int) : Except Int (Int × List Int) := if (rdNum xs).2.1 ≠ 0 then .error (rdNum xs).2.1 else .ok ((rdNum xs).1, xs.drop (rdNum xs).2.2)
section
variable (xs : List Int) (hxb : ∀ x ∈ xs, 0 ≤ x ∧ x < 256) (hlen : xs.length ≤ 1000000) (a0 : Option Addr) (c0 : Nat) (hc0 : xs.length ≤ c0) (own : Nat → Prop) (W : World) (hl : ∀ b, own b → b < W.heap.size) (hv : Has own W (RdF (Value.int .u8) a0 xs))
include hxb hlen hc0 hl hv
theorem IntF_ok {n : Int} {ys : List Int} (h : rdI xs = .ok (n, ys)) : Calls Try.prog 70 ⟨[.slice a0 xs.length c0]⟩ W (Ret W fun v w' => ∃ a' c', v = .tuple #[.int .i64 n, .slice a' ys.length c', .int .i64 0] ∧ Has own w' (RdF (Value.int .u8) a' ys) ∧ ys.length ≤ c') := by
  unfold rdI at h
  split at h
  · cases h
  · rename_i he
    injection h with h
    injection h with h1 h2
    subst h1 h2
    exact (Int_ok xs hxb hlen a0 c0 hc0 own W hl hv (by omega)).mono fun _ _ ⟨v, e1, e2, a', c', e3, hO⟩ => ⟨v, e1, e2, a', c', e3, hO.fact hl⟩
theorem IntF_err {e : Int} (h : rdI xs = .error e) : Calls Try.prog 70 ⟨[.slice a0 xs.length c0]⟩ W (Ret W fun v _ => v = .tuple #[.int .i64 0, .slice none 0 0, .int .i64 e]) := by
  unfold rdI at h
  split at h
  · rename_i he
    injection h with h
    subst h
    exact Int_err xs hxb hlen a0 c0 hc0 own W hl hv he
  · cases h
end
theorem rdI_err {xs : List Int} {e : Int} (h : rdI xs = .error e) : e ≠ 0 := by
  unfold rdI at h
  split at h
  · rename_i he
    injection h with h
    rw [← h]
    exact he
  · cases h
theorem rdI_ok {xs ys : List Int} {n : Int} (hb : ∀ x ∈ xs, 0 ≤ x ∧ x < 256) (h : rdI xs = .ok (n, ys)) : (∀ y ∈ ys, 0 ≤ y ∧ y < 256) ∧ ys.length ≤ xs.length ∧ 0 ≤ n ∧ n ≤ 9007199254740991 := by
  have hnn := rdNum_nn hb
  unfold rdI at h
  split at h
  · cases h
  · injection h with h
    injection h with h1 h2
    subst h1 h2
    exact ⟨fun y hy => hb y (List.mem_of_mem_drop hy), by simp, hnn⟩
namespace K57
def dec8 (xs : List Int) : Except Int (Ce × List Int) := match rdInts xs with
  | .error e => .error e
  | .ok (v1, xs) => match rdI xs with
  | .error e => .error e
  | .ok (s1, xs) => match rdInts xs with
  | .error e => .error e
  | .ok (v2, xs) => match rdI xs with
  | .error e => .error e
  | .ok (s2, xs) => match rdI xs with
  | .error e => .error e
  | .ok (p, xs) => match rdI xs with
  | .error e => .error e
  | .ok (l, xs) => match rdI xs with
  | .error e => .error e
  | .ok (d, xs) => match rdI xs with
  | .error e => .error e
  | .ok (b, xs) => .ok (⟨⟨v1, s1⟩, ⟨v2, s2⟩, p, l, d, b⟩, xs)
def decC (xs : List Int) : Except Int Ce := if 65536 < xs.length then .error 5 else match dec8 xs with
  | .error e => .error e
  | .ok (c, ys) => if ys.length ≠ 0 then .error 3 else if chkE c ≠ 0 then .error (chkE c) else .ok c
end K57
section
variable (xs : List Int) (hxb : ∀ x ∈ xs, 0 ≤ x ∧ x < 256) (hlen : xs.length ≤ 1000000) (a0 : Option Addr) (c0 : Nat) (hc0 : xs.length ≤ c0) {own : Nat → Prop} {w0 W : World} {L : List Ent} {Fs : List (World → Prop)} (be bc bb : Nat) (xg xr x1 x2 : BoxE) (v0 v1 v2 v3 v4 v5 v6 v7 : Value)
include hxb hlen hc0
theorem num1_ok {n : Int} {ys : List Int} (h : rdI xs = .ok (n, ys)) (hM : Mm own w0 (x1 :: ⟨be, ⟨[.int .i64 0]⟩, 32⟩ :: xg :: ⟨bc, ⟨[v0, v1, v2, v3, v4, v5, v6, v7]⟩, 29⟩ :: xr :: ⟨bb, ⟨[.slice a0 xs.length c0]⟩, 57⟩ :: []) L (RdF (Value.int .u8) a0 xs :: Fs) W) : Calls Try.prog 69 ⟨[.pointer (some ⟨bc, 1, none⟩), .pointer (some ⟨bb, 0, none⟩), .pointer (some ⟨be, 0, none⟩)]⟩ W (Rtn fun _ w' => ∃ a' c', ys.length ≤ c' ∧ Mm own w0 (x1 :: ⟨be, ⟨[.int .i64 0]⟩, 32⟩ :: xg :: ⟨bc, ⟨[v0, .int .i64 n, v2, v3, v4, v5, v6, v7]⟩, 29⟩ :: xr :: ⟨bb, ⟨[.slice a' ys.length c']⟩, 57⟩ :: []) L (RdF (Value.int .u8) a' ys :: RdF (Value.int .u8) a0 xs :: Fs) w') := by
  refine f_start Try.func69 rfl Try.ntmps69 rfl rfl ?_; intro a hF
  (repeat' (first | (with_reducible refine w_seq ?_) | (with_reducible refine c_region ?_) | (with_reducible refine s_nil ?_) | ((with_reducible apply s_call (f := 70) hF hM); exact rfl; exact rfl; exact rfl; exact rfl; exact rfl; exact (IntF_ok xs hxb hlen a0 c0 hc0 _ _ hM.lt (hM.facts (RdF (Value.int .u8) a0 xs) List.mem_cons_self) h); clear hF hM a; rintro v w a ⟨a', c', rfl, hf, hc⟩ - hM hF; replace hM := hM.addFact hf) | ((with_reducible apply s_call (f := 71) hF hM); exact rfl; exact rfl; exact rfl; exact rfl; exact rfl; exact (right_t _ _ hM.lt rfl); clear hF hM a; rintro v w a - - hM hF) | (with_reducible refine q_then_n ?_) | ((with_reducible apply s_pure hF); exact rfl; exact rfl; exact rfl; (first | exact trivial | omega | exact ⟨Int.natCast_nonneg _, Int.ofNat_lt.2 (by assumption)⟩ | decide); clear hF a; intro a hF) | ((with_reducible apply s_load hF hM); exact rfl; exact rfl; (repeat (first | exact List.mem_cons_self | refine List.mem_cons_of_mem _ ?_)); exact rfl; exact rfl; clear hF a; intro a hF) | ((with_reducible apply s_store hF hM); exact rfl; exact rfl; exact rfl; exact rfl; (repeat (first | exact Upd.z | apply Upd.s)); exact rfl; exact rfl; exact rfl; clear hM; intro w hM)))
  (apply f_end Try.results69 hF hM; (repeat (first | exact RL.nil | (apply RL.tmp; exact rfl) | (apply RL.cell; exact rfl; (repeat (first | exact List.mem_cons_self | refine List.mem_cons_of_mem _ ?_)); exact rfl))); try dsimp only [resV])
  exact ⟨a', c', hc, hM⟩
theorem num1_err {e : Int} (h : rdI xs = .error e) (hM : Mm own w0 (x1 :: ⟨be, ⟨[.int .i64 0]⟩, 32⟩ :: xg :: ⟨bc, ⟨[v0, v1, v2, v3, v4, v5, v6, v7]⟩, 29⟩ :: xr :: ⟨bb, ⟨[.slice a0 xs.length c0]⟩, 57⟩ :: []) L (RdF (Value.int .u8) a0 xs :: Fs) W) : Calls Try.prog 69 ⟨[.pointer (some ⟨bc, 1, none⟩), .pointer (some ⟨bb, 0, none⟩), .pointer (some ⟨be, 0, none⟩)]⟩ W (Both (fun _ _ => False) fun p w' => p = failK e ∧ ∃ cs1 cs2, Mm own w0 (xg :: ⟨bc, cs1, 29⟩ :: xr :: ⟨bb, cs2, 57⟩ :: []) L (RdF (Value.int .u8) a0 xs :: Fs) w') := by
  have he := rdI_err h
  refine f_start Try.func69 rfl Try.ntmps69 rfl rfl ?_; intro a hF
  (repeat' (first | (with_reducible refine w_seq ?_) | (with_reducible refine c_region ?_) | (with_reducible refine s_nil ?_) | ((with_reducible apply s_call (f := 70) hF hM); exact rfl; exact rfl; exact rfl; exact rfl; exact rfl; exact (IntF_err xs hxb hlen a0 c0 hc0 _ _ hM.lt (hM.facts (RdF (Value.int .u8) a0 xs) List.mem_cons_self) h); clear hF hM a; rintro v w a rfl - hM hF) | ((with_reducible apply s_callE (f := 71) hF hM); exact rfl; exact rfl; exact rfl; exact rfl; exact (right_f _ _ hM.lt he); clear hF hM a; intro w a hM hF) | (with_reducible refine q_then_n ?_) | ((with_reducible apply s_pure hF); exact rfl; exact rfl; exact rfl; (first | exact trivial | omega | exact ⟨Int.natCast_nonneg _, Int.ofNat_lt.2 (by assumption)⟩ | decide); clear hF a; intro a hF) | ((with_reducible apply s_load hF hM); exact rfl; exact rfl; (repeat (first | exact List.mem_cons_self | refine List.mem_cons_of_mem _ ?_)); exact rfl; exact rfl; clear hF a; intro a hF) | ((with_reducible apply s_store hF hM); exact rfl; exact rfl; exact rfl; exact rfl; (repeat (first | exact Upd.z | apply Upd.s)); exact rfl; exact rfl; exact rfl; clear hM; intro w hM)))
  refine f_panic hF ?_
  exact ⟨rfl, _, _, hM.sub (.cons _ (.cons _ (.refl _))) (.refl _) (fun _ h => h)⟩
theorem num3_ok {n : Int} {ys : List Int} (h : rdI xs = .ok (n, ys)) (hM : Mm own w0 (x1 :: ⟨be, ⟨[.int .i64 0]⟩, 32⟩ :: xg :: ⟨bc, ⟨[v0, v1, v2, v3, v4, v5, v6, v7]⟩, 29⟩ :: xr :: ⟨bb, ⟨[.slice a0 xs.length c0]⟩, 57⟩ :: []) L (RdF (Value.int .u8) a0 xs :: Fs) W) : Calls Try.prog 69 ⟨[.pointer (some ⟨bc, 3, none⟩), .pointer (some ⟨bb, 0, none⟩), .pointer (some ⟨be, 0, none⟩)]⟩ W (Rtn fun _ w' => ∃ a' c', ys.length ≤ c' ∧ Mm own w0 (x1 :: ⟨be, ⟨[.int .i64 0]⟩, 32⟩ :: xg :: ⟨bc, ⟨[v0, v1, v2, .int .i64 n, v4, v5, v6, v7]⟩, 29⟩ :: xr :: ⟨bb, ⟨[.slice a' ys.length c']⟩, 57⟩ :: []) L (RdF (Value.int .u8) a' ys :: RdF (Value.int .u8) a0 xs :: Fs) w') := by
  refine f_start Try.func69 rfl Try.ntmps69 rfl rfl ?_; intro a hF
  (repeat' (first | (with_reducible refine w_seq ?_) | (with_reducible refine c_region ?_) | (with_reducible refine s_nil ?_) | ((with_reducible apply s_call (f := 70) hF hM); exact rfl; exact rfl; exact rfl; exact rfl; exact rfl; exact (IntF_ok xs hxb hlen a0 c0 hc0 _ _ hM.lt (hM.facts (RdF (Value.int .u8) a0 xs) List.mem_cons_self) h); clear hF hM a; rintro v w a ⟨a', c', rfl, hf, hc⟩ - hM hF; replace hM := hM.addFact hf) | ((with_reducible apply s_call (f := 71) hF hM); exact rfl; exact rfl; exact rfl; exact rfl; exact rfl; exact (right_t _ _ hM.lt rfl); clear hF hM a; rintro v w a - - hM hF) | (with_reducible refine q_then_n ?_) | ((with_reducible apply s_pure hF); exact rfl; exact rfl; exact rfl; (first | exact trivial | omega | exact ⟨Int.natCast_nonneg _, Int.ofNat_lt.2 (by assumption)⟩ | decide); clear hF a; intro a hF) | ((with_reducible apply s_load hF hM); exact rfl; exact rfl; (repeat (first | exact List.mem_cons_self | refine List.mem_cons_of_mem _ ?_)); exact rfl; exact rfl; clear hF a; intro a hF) | ((with_reducible apply s_store hF hM); exact rfl; exact rfl; exact rfl; exact rfl; (repeat (first | exact Upd.z | apply Upd.s)); exact rfl; exact rfl; exact rfl; clear hM; intro w hM)))
  (apply f_end Try.results69 hF hM; (repeat (first | exact RL.nil | (apply RL.tmp; exact rfl) | (apply RL.cell; exact rfl; (repeat (first | exact List.mem_cons_self | refine List.mem_cons_of_mem _ ?_)); exact rfl))); try dsimp only [resV])
  exact ⟨a', c', hc, hM⟩
theorem num3_err {e : Int} (h : rdI xs = .error e) (hM : Mm own w0 (x1 :: ⟨be, ⟨[.int .i64 0]⟩, 32⟩ :: xg :: ⟨bc, ⟨[v0, v1, v2, v3, v4, v5, v6, v7]⟩, 29⟩ :: xr :: ⟨bb, ⟨[.slice a0 xs.length c0]⟩, 57⟩ :: []) L (RdF (Value.int .u8) a0 xs :: Fs) W) : Calls Try.prog 69 ⟨[.pointer (some ⟨bc, 3, none⟩), .pointer (some ⟨bb, 0, none⟩), .pointer (some ⟨be, 0, none⟩)]⟩ W (Both (fun _ _ => False) fun p w' => p = failK e ∧ ∃ cs1 cs2, Mm own w0 (xg :: ⟨bc, cs1, 29⟩ :: xr :: ⟨bb, cs2, 57⟩ :: []) L (RdF (Value.int .u8) a0 xs :: Fs) w') := by
  have he := rdI_err h
  refine f_start Try.func69 rfl Try.ntmps69 rfl rfl ?_; intro a hF
  (repeat' (first | (with_reducible refine w_seq ?_) | (with_reducible refine c_region ?_) | (with_reducible refine s_nil ?_) | ((with_reducible apply s_call (f := 70) hF hM); exact rfl; exact rfl; exact rfl; exact rfl; exact rfl; exact (IntF_err xs hxb hlen a0 c0 hc0 _ _ hM.lt (hM.facts (RdF (Value.int .u8) a0 xs) List.mem_cons_self) h); clear hF hM a; rintro v w a rfl - hM hF) | ((with_reducible apply s_callE (f := 71) hF hM); exact rfl; exact rfl; exact rfl; exact rfl; exact (right_f _ _ hM.lt he); clear hF hM a; intro w a hM hF) | (with_reducible refine q_then_n ?_) | ((with_reducible apply s_pure hF); exact rfl; exact rfl; exact rfl; (first | exact trivial | omega | exact ⟨Int.natCast_nonneg _, Int.ofNat_lt.2 (by assumption)⟩ | decide); clear hF a; intro a hF) | ((with_reducible apply s_load hF hM); exact rfl; exact rfl; (repeat (first | exact List.mem_cons_self | refine List.mem_cons_of_mem _ ?_)); exact rfl; exact rfl; clear hF a; intro a hF) | ((with_reducible apply s_store hF hM); exact rfl; exact rfl; exact rfl; exact rfl; (repeat (first | exact Upd.z | apply Upd.s)); exact rfl; exact rfl; exact rfl; clear hM; intro w hM)))
  refine f_panic hF ?_
  exact ⟨rfl, _, _, hM.sub (.cons _ (.cons _ (.refl _))) (.refl _) (fun _ h => h)⟩
theorem num4_ok {n : Int} {ys : List Int} (h : rdI xs = .ok (n, ys)) (hM : Mm own w0 (x2 :: x1 :: ⟨be, ⟨[.int .i64 0]⟩, 32⟩ :: xg :: ⟨bc, ⟨[v0, v1, v2, v3, v4, v5, v6, v7]⟩, 29⟩ :: xr :: ⟨bb, ⟨[.slice a0 xs.length c0]⟩, 57⟩ :: []) L (RdF (Value.int .u8) a0 xs :: Fs) W) : Calls Try.prog 69 ⟨[.pointer (some ⟨bc, 4, none⟩), .pointer (some ⟨bb, 0, none⟩), .pointer (some ⟨be, 0, none⟩)]⟩ W (Rtn fun _ w' => ∃ a' c', ys.length ≤ c' ∧ Mm own w0 (x2 :: x1 :: ⟨be, ⟨[.int .i64 0]⟩, 32⟩ :: xg :: ⟨bc, ⟨[v0, v1, v2, v3, .int .i64 n, v5, v6, v7]⟩, 29⟩ :: xr :: ⟨bb, ⟨[.slice a' ys.length c']⟩, 57⟩ :: []) L (RdF (Value.int .u8) a' ys :: RdF (Value.int .u8) a0 xs :: Fs) w') := by
  refine f_start Try.func69 rfl Try.ntmps69 rfl rfl ?_; intro a hF
  (repeat' (first | (with_reducible refine w_seq ?_) | (with_reducible refine c_region ?_) | (with_reducible refine s_nil ?_) | ((with_reducible apply s_call (f := 70) hF hM); exact rfl; exact rfl; exact rfl; exact rfl; exact rfl; exact (IntF_ok xs hxb hlen a0 c0 hc0 _ _ hM.lt (hM.facts (RdF (Value.int .u8) a0 xs) List.mem_cons_self) h); clear hF hM a; rintro v w a ⟨a', c', rfl, hf, hc⟩ - hM hF; replace hM := hM.addFact hf) | ((with_reducible apply s_call (f := 71) hF hM); exact rfl; exact rfl; exact rfl; exact rfl; exact rfl; exact (right_t _ _ hM.lt rfl); clear hF hM a; rintro v w a - - hM hF) | (with_reducible refine q_then_n ?_) | ((with_reducible apply s_pure hF); exact rfl; exact rfl; exact rfl; (first | exact trivial | omega | exact ⟨Int.natCast_nonneg _, Int.ofNat_lt.2 (by assumption)⟩ | decide); clear hF a; intro a hF) | ((with_reducible apply s_load hF hM); exact rfl; exact rfl; (repeat (first | exact List.mem_cons_self | refine List.mem_cons_of_mem _ ?_)); exact rfl; exact rfl; clear hF a; intro a hF) | ((with_reducible apply s_store hF hM); exact rfl; exact rfl; exact rfl; exact rfl; (repeat (first | exact Upd.z | apply Upd.s)); exact rfl; exact rfl; exact rfl; clear hM; intro w hM)))
  (apply f_end Try.results69 hF hM; (repeat (first | exact RL.nil | (apply RL.tmp; exact rfl) | (apply RL.cell; exact rfl; (repeat (first | exact List.mem_cons_self | refine List.mem_cons_of_mem _ ?_)); exact rfl))); try dsimp only [resV])
  exact ⟨a', c', hc, hM⟩
theorem num4_err {e : Int} (h : rdI xs = .error e) (hM : Mm own w0 (x2 :: x1 :: ⟨be, ⟨[.int .i64 0]⟩, 32⟩ :: xg :: ⟨bc, ⟨[v0, v1, v2, v3, v4, v5, v6, v7]⟩, 29⟩ :: xr :: ⟨bb, ⟨[.slice a0 xs.length c0]⟩, 57⟩ :: []) L (RdF (Value.int .u8) a0 xs :: Fs) W) : Calls Try.prog 69 ⟨[.pointer (some ⟨bc, 4, none⟩), .pointer (some ⟨bb, 0, none⟩), .pointer (some ⟨be, 0, none⟩)]⟩ W (Both (fun _ _ => False) fun p w' => p = failK e ∧ ∃ cs1 cs2, Mm own w0 (xg :: ⟨bc, cs1, 29⟩ :: xr :: ⟨bb, cs2, 57⟩ :: []) L (RdF (Value.int .u8) a0 xs :: Fs) w') := by
  have he := rdI_err h
  refine f_start Try.func69 rfl Try.ntmps69 rfl rfl ?_; intro a hF
  (repeat' (first | (with_reducible refine w_seq ?_) | (with_reducible refine c_region ?_) | (with_reducible refine s_nil ?_) | ((with_reducible apply s_call (f := 70) hF hM); exact rfl; exact rfl; exact rfl; exact rfl; exact rfl; exact (IntF_err xs hxb hlen a0 c0 hc0 _ _ hM.lt (hM.facts (RdF (Value.int .u8) a0 xs) List.mem_cons_self) h); clear hF hM a; rintro v w a rfl - hM hF) | ((with_reducible apply s_callE (f := 71) hF hM); exact rfl; exact rfl; exact rfl; exact rfl; exact (right_f _ _ hM.lt he); clear hF hM a; intro w a hM hF) | (with_reducible refine q_then_n ?_) | ((with_reducible apply s_pure hF); exact rfl; exact rfl; exact rfl; (first | exact trivial | omega | exact ⟨Int.natCast_nonneg _, Int.ofNat_lt.2 (by assumption)⟩ | decide); clear hF a; intro a hF) | ((with_reducible apply s_load hF hM); exact rfl; exact rfl; (repeat (first | exact List.mem_cons_self | refine List.mem_cons_of_mem _ ?_)); exact rfl; exact rfl; clear hF a; intro a hF) | ((with_reducible apply s_store hF hM); exact rfl; exact rfl; exact rfl; exact rfl; (repeat (first | exact Upd.z | apply Upd.s)); exact rfl; exact rfl; exact rfl; clear hM; intro w hM)))
  refine f_panic hF ?_
  exact ⟨rfl, _, _, hM.sub (.cons _ (.cons _ (.cons _ (.refl _)))) (.refl _) (fun _ h => h)⟩
theorem num5_ok {n : Int} {ys : List Int} (h : rdI xs = .ok (n, ys)) (hM : Mm own w0 (x2 :: x1 :: ⟨be, ⟨[.int .i64 0]⟩, 32⟩ :: xg :: ⟨bc, ⟨[v0, v1, v2, v3, v4, v5, v6, v7]⟩, 29⟩ :: xr :: ⟨bb, ⟨[.slice a0 xs.length c0]⟩, 57⟩ :: []) L (RdF (Value.int .u8) a0 xs :: Fs) W) : Calls Try.prog 69 ⟨[.pointer (some ⟨bc, 5, none⟩), .pointer (some ⟨bb, 0, none⟩), .pointer (some ⟨be, 0, none⟩)]⟩ W (Rtn fun _ w' => ∃ a' c', ys.length ≤ c' ∧ Mm own w0 (x2 :: x1 :: ⟨be, ⟨[.int .i64 0]⟩, 32⟩ :: xg :: ⟨bc, ⟨[v0, v1, v2, v3, v4, .int .i64 n, v6, v7]⟩, 29⟩ :: xr :: ⟨bb, ⟨[.slice a' ys.length c']⟩, 57⟩ :: []) L (RdF (Value.int .u8) a' ys :: RdF (Value.int .u8) a0 xs :: Fs) w') := by
  refine f_start Try.func69 rfl Try.ntmps69 rfl rfl ?_; intro a hF
  (repeat' (first | (with_reducible refine w_seq ?_) | (with_reducible refine c_region ?_) | (with_reducible refine s_nil ?_) | ((with_reducible apply s_call (f := 70) hF hM); exact rfl; exact rfl; exact rfl; exact rfl; exact rfl; exact (IntF_ok xs hxb hlen a0 c0 hc0 _ _ hM.lt (hM.facts (RdF (Value.int .u8) a0 xs) List.mem_cons_self) h); clear hF hM a; rintro v w a ⟨a', c', rfl, hf, hc⟩ - hM hF; replace hM := hM.addFact hf) | ((with_reducible apply s_call (f := 71) hF hM); exact rfl; exact rfl; exact rfl; exact rfl; exact rfl; exact (right_t _ _ hM.lt rfl); clear hF hM a; rintro v w a - - hM hF) | (with_reducible refine q_then_n ?_) | ((with_reducible apply s_pure hF); exact rfl; exact rfl; exact rfl; (first | exact trivial | omega | exact ⟨Int.natCast_nonneg _, Int.ofNat_lt.2 (by assumption)⟩ | decide); clear hF a; intro a hF) | ((with_reducible apply s_load hF hM); exact rfl; exact rfl; (repeat (first | exact List.mem_cons_self | refine List.mem_cons_of_mem _ ?_)); exact rfl; exact rfl; clear hF a; intro a hF) | ((with_reducible apply s_store hF hM); exact rfl; exact rfl; exact rfl; exact rfl; (repeat (first | exact Upd.z | apply Upd.s)); exact rfl; exact rfl; exact rfl; clear hM; intro w hM)))
  (apply f_end Try.results69 hF hM; (repeat (first | exact RL.nil | (apply RL.tmp; exact rfl) | (apply RL.cell; exact rfl; (repeat (first | exact List.mem_cons_self | refine List.mem_cons_of_mem _ ?_)); exact rfl))); try dsimp only [resV])
  exact ⟨a', c', hc, hM⟩
theorem num5_err {e : Int} (h : rdI xs = .error e) (hM : Mm own w0 (x2 :: x1 :: ⟨be, ⟨[.int .i64 0]⟩, 32⟩ :: xg :: ⟨bc, ⟨[v0, v1, v2, v3, v4, v5, v6, v7]⟩, 29⟩ :: xr :: ⟨bb, ⟨[.slice a0 xs.length c0]⟩, 57⟩ :: []) L (RdF (Value.int .u8) a0 xs :: Fs) W) : Calls Try.prog 69 ⟨[.pointer (some ⟨bc, 5, none⟩), .pointer (some ⟨bb, 0, none⟩), .pointer (some ⟨be, 0, none⟩)]⟩ W (Both (fun _ _ => False) fun p w' => p = failK e ∧ ∃ cs1 cs2, Mm own w0 (xg :: ⟨bc, cs1, 29⟩ :: xr :: ⟨bb, cs2, 57⟩ :: []) L (RdF (Value.int .u8) a0 xs :: Fs) w') := by
  have he := rdI_err h
  refine f_start Try.func69 rfl Try.ntmps69 rfl rfl ?_; intro a hF
  (repeat' (first | (with_reducible refine w_seq ?_) | (with_reducible refine c_region ?_) | (with_reducible refine s_nil ?_) | ((with_reducible apply s_call (f := 70) hF hM); exact rfl; exact rfl; exact rfl; exact rfl; exact rfl; exact (IntF_err xs hxb hlen a0 c0 hc0 _ _ hM.lt (hM.facts (RdF (Value.int .u8) a0 xs) List.mem_cons_self) h); clear hF hM a; rintro v w a rfl - hM hF) | ((with_reducible apply s_callE (f := 71) hF hM); exact rfl; exact rfl; exact rfl; exact rfl; exact (right_f _ _ hM.lt he); clear hF hM a; intro w a hM hF) | (with_reducible refine q_then_n ?_) | ((with_reducible apply s_pure hF); exact rfl; exact rfl; exact rfl; (first | exact trivial | omega | exact ⟨Int.natCast_nonneg _, Int.ofNat_lt.2 (by assumption)⟩ | decide); clear hF a; intro a hF) | ((with_reducible apply s_load hF hM); exact rfl; exact rfl; (repeat (first | exact List.mem_cons_self | refine List.mem_cons_of_mem _ ?_)); exact rfl; exact rfl; clear hF a; intro a hF) | ((with_reducible apply s_store hF hM); exact rfl; exact rfl; exact rfl; exact rfl; (repeat (first | exact Upd.z | apply Upd.s)); exact rfl; exact rfl; exact rfl; clear hM; intro w hM)))
  refine f_panic hF ?_
  exact ⟨rfl, _, _, hM.sub (.cons _ (.cons _ (.cons _ (.refl _)))) (.refl _) (fun _ h => h)⟩
theorem num6_ok {n : Int} {ys : List Int} (h : rdI xs = .ok (n, ys)) (hM : Mm own w0 (x2 :: x1 :: ⟨be, ⟨[.int .i64 0]⟩, 32⟩ :: xg :: ⟨bc, ⟨[v0, v1, v2, v3, v4, v5, v6, v7]⟩, 29⟩ :: xr :: ⟨bb, ⟨[.slice a0 xs.length c0]⟩, 57⟩ :: []) L (RdF (Value.int .u8) a0 xs :: Fs) W) : Calls Try.prog 69 ⟨[.pointer (some ⟨bc, 6, none⟩), .pointer (some ⟨bb, 0, none⟩), .pointer (some ⟨be, 0, none⟩)]⟩ W (Rtn fun _ w' => ∃ a' c', ys.length ≤ c' ∧ Mm own w0 (x2 :: x1 :: ⟨be, ⟨[.int .i64 0]⟩, 32⟩ :: xg :: ⟨bc, ⟨[v0, v1, v2, v3, v4, v5, .int .i64 n, v7]⟩, 29⟩ :: xr :: ⟨bb, ⟨[.slice a' ys.length c']⟩, 57⟩ :: []) L (RdF (Value.int .u8) a' ys :: RdF (Value.int .u8) a0 xs :: Fs) w') := by
  refine f_start Try.func69 rfl Try.ntmps69 rfl rfl ?_; intro a hF
  (repeat' (first | (with_reducible refine w_seq ?_) | (with_reducible refine c_region ?_) | (with_reducible refine s_nil ?_) | ((with_reducible apply s_call (f := 70) hF hM); exact rfl; exact rfl; exact rfl; exact rfl; exact rfl; exact (IntF_ok xs hxb hlen a0 c0 hc0 _ _ hM.lt (hM.facts (RdF (Value.int .u8) a0 xs) List.mem_cons_self) h); clear hF hM a; rintro v w a ⟨a', c', rfl, hf, hc⟩ - hM hF; replace hM := hM.addFact hf) | ((with_reducible apply s_call (f := 71) hF hM); exact rfl; exact rfl; exact rfl; exact rfl; exact rfl; exact (right_t _ _ hM.lt rfl); clear hF hM a; rintro v w a - - hM hF) | (with_reducible refine q_then_n ?_) | ((with_reducible apply s_pure hF); exact rfl; exact rfl; exact rfl; (first | exact trivial | omega | exact ⟨Int.natCast_nonneg _, Int.ofNat_lt.2 (by assumption)⟩ | decide); clear hF a; intro a hF) | ((with_reducible apply s_load hF hM); exact rfl; exact rfl; (repeat (first | exact List.mem_cons_self | refine List.mem_cons_of_mem _ ?_)); exact rfl; exact rfl; clear hF a; intro a hF) | ((with_reducible apply s_store hF hM); exact rfl; exact rfl; exact rfl; exact rfl; (repeat (first | exact Upd.z | apply Upd.s)); exact rfl; exact rfl; exact rfl; clear hM; intro w hM)))
  (apply f_end Try.results69 hF hM; (repeat (first | exact RL.nil | (apply RL.tmp; exact rfl) | (apply RL.cell; exact rfl; (repeat (first | exact List.mem_cons_self | refine List.mem_cons_of_mem _ ?_)); exact rfl))); try dsimp only [resV])
  exact ⟨a', c', hc, hM⟩
theorem num6_err {e : Int} (h : rdI xs = .error e) (hM : Mm own w0 (x2 :: x1 :: ⟨be, ⟨[.int .i64 0]⟩, 32⟩ :: xg :: ⟨bc, ⟨[v0, v1, v2, v3, v4, v5, v6, v7]⟩, 29⟩ :: xr :: ⟨bb, ⟨[.slice a0 xs.length c0]⟩, 57⟩ :: []) L (RdF (Value.int .u8) a0 xs :: Fs) W) : Calls Try.prog 69 ⟨[.pointer (some ⟨bc, 6, none⟩), .pointer (some ⟨bb, 0, none⟩), .pointer (some ⟨be, 0, none⟩)]⟩ W (Both (fun _ _ => False) fun p w' => p = failK e ∧ ∃ cs1 cs2, Mm own w0 (xg :: ⟨bc, cs1, 29⟩ :: xr :: ⟨bb, cs2, 57⟩ :: []) L (RdF (Value.int .u8) a0 xs :: Fs) w') := by
  have he := rdI_err h
  refine f_start Try.func69 rfl Try.ntmps69 rfl rfl ?_; intro a hF
  (repeat' (first | (with_reducible refine w_seq ?_) | (with_reducible refine c_region ?_) | (with_reducible refine s_nil ?_) | ((with_reducible apply s_call (f := 70) hF hM); exact rfl; exact rfl; exact rfl; exact rfl; exact rfl; exact (IntF_err xs hxb hlen a0 c0 hc0 _ _ hM.lt (hM.facts (RdF (Value.int .u8) a0 xs) List.mem_cons_self) h); clear hF hM a; rintro v w a rfl - hM hF) | ((with_reducible apply s_callE (f := 71) hF hM); exact rfl; exact rfl; exact rfl; exact rfl; exact (right_f _ _ hM.lt he); clear hF hM a; intro w a hM hF) | (with_reducible refine q_then_n ?_) | ((with_reducible apply s_pure hF); exact rfl; exact rfl; exact rfl; (first | exact trivial | omega | exact ⟨Int.natCast_nonneg _, Int.ofNat_lt.2 (by assumption)⟩ | decide); clear hF a; intro a hF) | ((with_reducible apply s_load hF hM); exact rfl; exact rfl; (repeat (first | exact List.mem_cons_self | refine List.mem_cons_of_mem _ ?_)); exact rfl; exact rfl; clear hF a; intro a hF) | ((with_reducible apply s_store hF hM); exact rfl; exact rfl; exact rfl; exact rfl; (repeat (first | exact Upd.z | apply Upd.s)); exact rfl; exact rfl; exact rfl; clear hM; intro w hM)))
  refine f_panic hF ?_
  exact ⟨rfl, _, _, hM.sub (.cons _ (.cons _ (.cons _ (.refl _)))) (.refl _) (fun _ h => h)⟩
theorem num7_ok {n : Int} {ys : List Int} (h : rdI xs = .ok (n, ys)) (hM : Mm own w0 (x2 :: x1 :: ⟨be, ⟨[.int .i64 0]⟩, 32⟩ :: xg :: ⟨bc, ⟨[v0, v1, v2, v3, v4, v5, v6, v7]⟩, 29⟩ :: xr :: ⟨bb, ⟨[.slice a0 xs.length c0]⟩, 57⟩ :: []) L (RdF (Value.int .u8) a0 xs :: Fs) W) : Calls Try.prog 69 ⟨[.pointer (some ⟨bc, 7, none⟩), .pointer (some ⟨bb, 0, none⟩), .pointer (some ⟨be, 0, none⟩)]⟩ W (Rtn fun _ w' => ∃ a' c', ys.length ≤ c' ∧ Mm own w0 (x2 :: x1 :: ⟨be, ⟨[.int .i64 0]⟩, 32⟩ :: xg :: ⟨bc, ⟨[v0, v1, v2, v3, v4, v5, v6, .int .i64 n]⟩, 29⟩ :: xr :: ⟨bb, ⟨[.slice a' ys.length c']⟩, 57⟩ :: []) L (RdF (Value.int .u8) a' ys :: RdF (Value.int .u8) a0 xs :: Fs) w') := by
  refine f_start Try.func69 rfl Try.ntmps69 rfl rfl ?_; intro a hF
  (repeat' (first | (with_reducible refine w_seq ?_) | (with_reducible refine c_region ?_) | (with_reducible refine s_nil ?_) | ((with_reducible apply s_call (f := 70) hF hM); exact rfl; exact rfl; exact rfl; exact rfl; exact rfl; exact (IntF_ok xs hxb hlen a0 c0 hc0 _ _ hM.lt (hM.facts (RdF (Value.int .u8) a0 xs) List.mem_cons_self) h); clear hF hM a; rintro v w a ⟨a', c', rfl, hf, hc⟩ - hM hF; replace hM := hM.addFact hf) | ((with_reducible apply s_call (f := 71) hF hM); exact rfl; exact rfl; exact rfl; exact rfl; exact rfl; exact (right_t _ _ hM.lt rfl); clear hF hM a; rintro v w a - - hM hF) | (with_reducible refine q_then_n ?_) | ((with_reducible apply s_pure hF); exact rfl; exact rfl; exact rfl; (first | exact trivial | omega | exact ⟨Int.natCast_nonneg _, Int.ofNat_lt.2 (by assumption)⟩ | decide); clear hF a; intro a hF) | ((with_reducible apply s_load hF hM); exact rfl; exact rfl; (repeat (first | exact List.mem_cons_self | refine List.mem_cons_of_mem _ ?_)); exact rfl; exact rfl; clear hF a; intro a hF) | ((with_reducible apply s_store hF hM); exact rfl; exact rfl; exact rfl; exact rfl; (repeat (first | exact Upd.z | apply Upd.s)); exact rfl; exact rfl; exact rfl; clear hM; intro w hM)))
  (apply f_end Try.results69 hF hM; (repeat (first | exact RL.nil | (apply RL.tmp; exact rfl) | (apply RL.cell; exact rfl; (repeat (first | exact List.mem_cons_self | refine List.mem_cons_of_mem _ ?_)); exact rfl))); try dsimp only [resV])
  exact ⟨a', c', hc, hM⟩
theorem num7_err {e : Int} (h : rdI xs = .error e) (hM : Mm own w0 (x2 :: x1 :: ⟨be, ⟨[.int .i64 0]⟩, 32⟩ :: xg :: ⟨bc, ⟨[v0, v1, v2, v3, v4, v5, v6, v7]⟩, 29⟩ :: xr :: ⟨bb, ⟨[.slice a0 xs.length c0]⟩, 57⟩ :: []) L (RdF (Value.int .u8) a0 xs :: Fs) W) : Calls Try.prog 69 ⟨[.pointer (some ⟨bc, 7, none⟩), .pointer (some ⟨bb, 0, none⟩), .pointer (some ⟨be, 0, none⟩)]⟩ W (Both (fun _ _ => False) fun p w' => p = failK e ∧ ∃ cs1 cs2, Mm own w0 (xg :: ⟨bc, cs1, 29⟩ :: xr :: ⟨bb, cs2, 57⟩ :: []) L (RdF (Value.int .u8) a0 xs :: Fs) w') := by
  have he := rdI_err h
  refine f_start Try.func69 rfl Try.ntmps69 rfl rfl ?_; intro a hF
  (repeat' (first | (with_reducible refine w_seq ?_) | (with_reducible refine c_region ?_) | (with_reducible refine s_nil ?_) | ((with_reducible apply s_call (f := 70) hF hM); exact rfl; exact rfl; exact rfl; exact rfl; exact rfl; exact (IntF_err xs hxb hlen a0 c0 hc0 _ _ hM.lt (hM.facts (RdF (Value.int .u8) a0 xs) List.mem_cons_self) h); clear hF hM a; rintro v w a rfl - hM hF) | ((with_reducible apply s_callE (f := 71) hF hM); exact rfl; exact rfl; exact rfl; exact rfl; exact (right_f _ _ hM.lt he); clear hF hM a; intro w a hM hF) | (with_reducible refine q_then_n ?_) | ((with_reducible apply s_pure hF); exact rfl; exact rfl; exact rfl; (first | exact trivial | omega | exact ⟨Int.natCast_nonneg _, Int.ofNat_lt.2 (by assumption)⟩ | decide); clear hF a; intro a hF) | ((with_reducible apply s_load hF hM); exact rfl; exact rfl; (repeat (first | exact List.mem_cons_self | refine List.mem_cons_of_mem _ ?_)); exact rfl; exact rfl; clear hF a; intro a hF) | ((with_reducible apply s_store hF hM); exact rfl; exact rfl; exact rfl; exact rfl; (repeat (first | exact Upd.z | apply Upd.s)); exact rfl; exact rfl; exact rfl; clear hM; intro w hM)))
  refine f_panic hF ?_
  exact ⟨rfl, _, _, hM.sub (.cons _ (.cons _ (.cons _ (.refl _)))) (.refl _) (fun _ h => h)⟩
end
/-- How the reading ends. -/
def D1R (own : Nat → Prop) (w0 : World) (L : List Ent) (bg bc br bb : Nat) (r : Except Int Ce) : Ending → World → Prop := match r with
  | .error e => Both (fun _ _ => False) fun p w' => p = failK e ∧ ∃ bs' L' Fs', (∃ cs1 cs2, bs' = [⟨bc, cs1, 29⟩, ⟨br, ⟨ceZ⟩, 29⟩, ⟨bb, cs2, 57⟩]) ∧ Mm own w0 (⟨bg, ⟨[.int .i64 0]⟩, 32⟩ :: bs') L' Fs' w'
  | .ok c => Rtn fun _ w' => ∃ bs' L' Fs', (∃ a1 c1 a2 c2 cs2 Fs2, bs' = [⟨bc, ⟨ceL c a1 c1 a2 c2⟩, 29⟩, ⟨br, ⟨ceZ⟩, 29⟩, ⟨bb, cs2, 57⟩] ∧ Fs' = RdF (Value.int .i64) a1 c.A.V :: RdF (Value.int .i64) a2 c.S.V :: Fs2 ∧ c.A.V.length ≤ c1 ∧ c.S.V.length ≤ c2) ∧ Mm own w0 (⟨bg, ⟨[.int .i64 0]⟩, 32⟩ :: bs') L' Fs' w'
set_option maxHeartbeats 8000000 in
theorem dec1_c (xs : List Int) (hxb : ∀ x ∈ xs, 0 ≤ x ∧ x < 256) (hlen : xs.length ≤ 1000000) (a0 : Option Addr) (c0 : Nat) (hc0 : xs.length ≤ c0) {own : Nat → Prop} {w0 W : World} {L : List Ent} {Fs : List (World → Prop)} (bg bc br bb : Nat) (hM : Mm own w0 (⟨bg, ⟨[.int .i64 0]⟩, 32⟩ :: ⟨bc, ⟨ceZ⟩, 29⟩ :: ⟨br, ⟨ceZ⟩, 29⟩ :: ⟨bb, ⟨[.slice a0 xs.length c0]⟩, 57⟩ :: []) L (RdF (Value.int .u8) a0 xs :: Fs) W) :
    Calls Try.prog 68 ⟨[.pointer (some ⟨bb, 0, none⟩), .pointer (some ⟨bc, 0, none⟩)]⟩ W (D1R own w0 L bg bc br bb (decC xs)) := by
  refine f_start Try.func68 rfl Try.ntmps68 rfl rfl ?_; intro a hF
  unfold decC
  by_cases hbig : 65536 < xs.length
  · rw [if_pos hbig]
    (repeat' (first | (with_reducible refine w_seq ?_) | (with_reducible refine c_region ?_) | ((with_reducible apply s_callE (f := 58) hF hM); exact rfl; exact rfl; exact rfl; exact rfl; exact (demand_f _ _ _ hM.lt (decide_eq_false (by omega))); clear hF hM a; intro w a hM hF) | (with_reducible refine q_then_p ?_) | ((with_reducible apply s_pure hF); exact rfl; exact rfl; exact rfl; (first | exact trivial | omega | exact ⟨Int.natCast_nonneg _, Int.ofNat_lt.2 (by assumption)⟩ | decide); clear hF a; intro a hF) | ((with_reducible apply s_load hF hM); exact rfl; exact rfl; (repeat (first | exact List.mem_cons_self | refine List.mem_cons_of_mem _ ?_)); exact rfl; exact rfl; clear hF a; intro a hF)))
    refine f_panic hF ?_
    exact ⟨rfl, _, _, _, ⟨_, _, rfl⟩, hM⟩
  rw [if_neg hbig]
  (repeat' (first | (with_reducible refine w_seq ?_) | (with_reducible refine c_region ?_) | (with_reducible refine s_nil ?_) | ((with_reducible apply s_call (f := 58) hF hM); exact rfl; exact rfl; exact rfl; exact rfl; exact rfl; exact (demand_t _ _ _ hM.lt (decide_eq_true (by omega))); clear hF hM a; rintro v w a - - hM hF) | (with_reducible refine q_then_n ?_) | ((with_reducible apply s_pure hF); exact rfl; exact rfl; exact rfl; (first | exact trivial | omega | exact ⟨Int.natCast_nonneg _, Int.ofNat_lt.2 (by assumption)⟩ | decide); clear hF a; intro a hF) | ((with_reducible apply s_load hF hM); exact rfl; exact rfl; (repeat (first | exact List.mem_cons_self | refine List.mem_cons_of_mem _ ?_)); exact rfl; exact rfl; clear hF a; intro a hF) | ((with_reducible apply s_alloc hF hM); exact rfl; exact rfl; exact rfl; clear hF hM a; intro b w a hM hF) | ((with_reducible apply s_lit hF hM); exact rfl; exact rfl; exact rfl; exact rfl; clear hF hM a; intro bl w a hM hF) | (with_reducible refine w_block ?_)))
  refine c_roll 3 ?_
  (repeat (first | (with_reducible refine w_seq ?_) | (with_reducible refine c_region ?_) | (with_reducible refine s_nil ?_) | (with_reducible refine q_then_n ?_) | ((with_reducible apply s_pure hF); exact rfl; exact rfl; exact rfl; (first | exact trivial | omega | exact ⟨Int.natCast_nonneg _, Int.ofNat_lt.2 (by assumption)⟩ | decide); clear hF a; intro a hF) | ((with_reducible apply s_load hF hM); exact rfl; exact rfl; (repeat (first | exact List.mem_cons_self | refine List.mem_cons_of_mem _ ?_)); exact rfl; exact rfl; clear hF a; intro a hF) | ((with_reducible apply s_loadB hF hM); exact rfl; exact rfl; (repeat (first | exact List.mem_cons_self | refine List.mem_cons_of_mem _ ?_)); exact rfl; exact rfl; clear hF a; intro a hF) | (with_reducible refine w_skip ?_) | (with_reducible refine r_succ ?_) | (with_reducible refine w_block ?_) | ((with_reducible apply c_true2 hF); exact rfl; (first | with_reducible rfl | (refine congrArg Value.bool ?_; focus (simp; done))))))
  generalize b = be at *
  generalize bl = b1 at *
  cases g1 : rdInts xs with
  | error e =>
    have hde : dec8 xs = .error e := by unfold dec8; simp only [g1]
    rw [hde]
    (((with_reducible apply s_call (f := 72) hF hM); exact rfl; exact rfl; exact rfl; exact rfl; exact rfl; exact (Ints_err xs hxb hlen a0 c0 hc0 _ _ hM.lt (hM.facts (RdF (Value.int .u8) a0 xs) (by (repeat (first | with_reducible exact List.mem_cons_self | refine List.mem_cons_of_mem _ ?_)))) g1); clear hF hM a; rintro v w a ⟨rfl, hne⟩ - hM hF))
    (repeat' (first | (with_reducible refine w_seq ?_) | (with_reducible refine c_region ?_) | (with_reducible refine s_nil ?_) | ((with_reducible apply s_callE (f := 71) hF hM); exact rfl; exact rfl; exact rfl; exact rfl; exact (right_f _ _ hM.lt hne); clear hF hM a; intro w a hM hF) | (with_reducible refine q_then_p ?_) | (with_reducible refine q_blk_p ?_) | (with_reducible refine q_then_n ?_) | ((with_reducible apply s_pure hF); exact rfl; exact rfl; exact rfl; (first | exact trivial | omega | exact ⟨Int.natCast_nonneg _, Int.ofNat_lt.2 (by assumption)⟩ | decide); clear hF a; intro a hF) | ((with_reducible apply s_load hF hM); exact rfl; exact rfl; (repeat (first | exact List.mem_cons_self | refine List.mem_cons_of_mem _ ?_)); exact rfl; exact rfl; clear hF a; intro a hF) | ((with_reducible apply s_store hF hM); exact rfl; exact rfl; exact rfl; exact rfl; (repeat (first | exact Upd.z | apply Upd.s)); exact rfl; exact rfl; exact rfl; clear hM; intro w hM)))
    refine f_panic hF ?_
    exact ⟨rfl, _, _, _, ⟨_, _, rfl⟩, hM.sub (.cons _ (.cons _ (.refl _))) (.refl _) (fun _ h => h)⟩
  | ok pr =>
  obtain ⟨l1, y1⟩ := pr
  (((with_reducible apply s_call (f := 72) hF hM); exact rfl; exact rfl; exact rfl; exact rfl; exact rfl; exact (Ints_ok xs hxb hlen a0 c0 hc0 _ _ hM.lt (hM.facts (RdF (Value.int .u8) a0 xs) (by (repeat (first | with_reducible exact List.mem_cons_self | refine List.mem_cons_of_mem _ ?_)))) g1); clear hF hM a; rintro v w a ⟨p1, q1, r1, d1, rfl, f1, f1', k1, hc1, m1, hb1, hl1⟩ - hM hF; replace hM := (hM.addFact f1).addFact f1'))
  (repeat (first | (with_reducible refine w_seq ?_) | (with_reducible refine c_region ?_) | (with_reducible refine s_nil ?_) | ((with_reducible apply s_call (f := 71) hF hM); exact rfl; exact rfl; exact rfl; exact rfl; exact rfl; exact (right_t _ _ hM.lt rfl); clear hF hM a; rintro v w a - - hM hF) | (with_reducible refine q_then_n ?_) | ((with_reducible apply s_pure hF); exact rfl; exact rfl; exact rfl; (first | exact trivial | omega | exact ⟨Int.natCast_nonneg _, Int.ofNat_lt.2 (by assumption)⟩ | decide); clear hF a; intro a hF) | ((with_reducible apply s_load hF hM); exact rfl; exact rfl; (repeat (first | exact List.mem_cons_self | refine List.mem_cons_of_mem _ ?_)); exact rfl; exact rfl; clear hF a; intro a hF) | ((with_reducible apply s_store hF hM); exact rfl; exact rfl; exact rfl; exact rfl; (repeat (first | exact Upd.z | apply Upd.s)); exact rfl; exact rfl; exact rfl; clear hM; intro w hM)))
  have hy1 : y1.length ≤ 1000000 := by omega
  cases g2 : rdI y1 with
  | error e =>
    have hde : dec8 xs = .error e := by unfold dec8; simp only [g1, g2]
    rw [hde]
    refine s_callcB hF rfl rfl rfl rfl rfl rfl rfl (num1_err y1 hb1 hy1 r1 d1 hc1 be bc bb _ _ _ _ _ _ _ _ _ _ _ g2 hM) ?_ (fun _ _ _ h => h.elim)
    clear hF hM a
    rintro p w a ⟨rfl, cs1, cs2, hM⟩ hF
    (repeat' (first | (with_reducible refine q_then_p ?_) | (with_reducible refine q_blk_p ?_)))
    refine f_panic hF ?_
    exact ⟨rfl, _, _, _, ⟨_, _, rfl⟩, hM⟩
  | ok pr =>
  obtain ⟨n2, y2⟩ := pr
  refine s_callcM hF rfl rfl rfl rfl rfl rfl rfl (num1_ok y1 hb1 hy1 r1 d1 hc1 be bc bb _ _ _ _ _ _ _ _ _ _ _ g2 hM) ?_
  clear hF hM a
  rintro v w a ⟨r2, d2, hc2, hM⟩ hF
  obtain ⟨hb2, hz2, hn2, hn2'⟩ := rdI_ok hb1 g2
  have hy2 : y2.length ≤ 1000000 := by omega
  (repeat (first | (with_reducible refine w_seq ?_) | (with_reducible refine c_region ?_) | (with_reducible refine s_nil ?_) | (with_reducible refine q_then_n ?_) | ((with_reducible apply s_pure hF); exact rfl; exact rfl; exact rfl; (first | exact trivial | omega | exact ⟨Int.natCast_nonneg _, Int.ofNat_lt.2 (by assumption)⟩ | decide); clear hF a; intro a hF) | ((with_reducible apply s_load hF hM); exact rfl; exact rfl; (repeat (first | exact List.mem_cons_self | refine List.mem_cons_of_mem _ ?_)); exact rfl; exact rfl; clear hF a; intro a hF) | ((with_reducible apply s_loadB hF hM); exact rfl; exact rfl; (repeat (first | exact List.mem_cons_self | refine List.mem_cons_of_mem _ ?_)); exact rfl; exact rfl; clear hF a; intro a hF) | (with_reducible refine w_skip ?_) | (with_reducible refine r_succ ?_) | (with_reducible refine w_block ?_) | (with_reducible refine q_blk_n ?_) | ((with_reducible apply c_true2 hF); exact rfl; (first | with_reducible rfl | (refine congrArg Value.bool ?_; focus (simp; done))))))
  cases g3 : rdInts y2 with
  | error e =>
    have hde : dec8 xs = .error e := by unfold dec8; simp only [g1, g2, g3]
    rw [hde]
    (((with_reducible apply s_call (f := 72) hF hM); exact rfl; exact rfl; exact rfl; exact rfl; exact rfl; exact (Ints_err y2 hb2 hy2 r2 d2 hc2 _ _ hM.lt (hM.facts (RdF (Value.int .u8) r2 y2) (by (repeat (first | with_reducible exact List.mem_cons_self | refine List.mem_cons_of_mem _ ?_)))) g3); clear hF hM a; rintro v w a ⟨rfl, hne⟩ - hM hF))
    (repeat' (first | (with_reducible refine w_seq ?_) | (with_reducible refine c_region ?_) | (with_reducible refine s_nil ?_) | ((with_reducible apply s_callE (f := 71) hF hM); exact rfl; exact rfl; exact rfl; exact rfl; exact (right_f _ _ hM.lt hne); clear hF hM a; intro w a hM hF) | (with_reducible refine q_then_p ?_) | (with_reducible refine q_blk_p ?_) | (with_reducible refine q_then_n ?_) | ((with_reducible apply s_pure hF); exact rfl; exact rfl; exact rfl; (first | exact trivial | omega | exact ⟨Int.natCast_nonneg _, Int.ofNat_lt.2 (by assumption)⟩ | decide); clear hF a; intro a hF) | ((with_reducible apply s_load hF hM); exact rfl; exact rfl; (repeat (first | exact List.mem_cons_self | refine List.mem_cons_of_mem _ ?_)); exact rfl; exact rfl; clear hF a; intro a hF) | ((with_reducible apply s_store hF hM); exact rfl; exact rfl; exact rfl; exact rfl; (repeat (first | exact Upd.z | apply Upd.s)); exact rfl; exact rfl; exact rfl; clear hM; intro w hM)))
    refine f_panic hF ?_
    exact ⟨rfl, _, _, _, ⟨_, _, rfl⟩, hM.sub (.cons _ (.cons _ (.refl _))) (.refl _) (fun _ h => h)⟩
  | ok pr =>
  obtain ⟨l3, y3⟩ := pr
  (((with_reducible apply s_call (f := 72) hF hM); exact rfl; exact rfl; exact rfl; exact rfl; exact rfl; exact (Ints_ok y2 hb2 hy2 r2 d2 hc2 _ _ hM.lt (hM.facts (RdF (Value.int .u8) r2 y2) (by (repeat (first | with_reducible exact List.mem_cons_self | refine List.mem_cons_of_mem _ ?_)))) g3); clear hF hM a; rintro v w a ⟨p3, q3, r3, d3, rfl, f3, f3', k3, hc3, m3, hb3, hl3⟩ - hM hF; replace hM := (hM.addFact f3).addFact f3'))
  (repeat (first | (with_reducible refine w_seq ?_) | (with_reducible refine c_region ?_) | (with_reducible refine s_nil ?_) | ((with_reducible apply s_call (f := 71) hF hM); exact rfl; exact rfl; exact rfl; exact rfl; exact rfl; exact (right_t _ _ hM.lt rfl); clear hF hM a; rintro v w a - - hM hF) | (with_reducible refine q_then_n ?_) | ((with_reducible apply s_pure hF); exact rfl; exact rfl; exact rfl; (first | exact trivial | omega | exact ⟨Int.natCast_nonneg _, Int.ofNat_lt.2 (by assumption)⟩ | decide); clear hF a; intro a hF) | ((with_reducible apply s_load hF hM); exact rfl; exact rfl; (repeat (first | exact List.mem_cons_self | refine List.mem_cons_of_mem _ ?_)); exact rfl; exact rfl; clear hF a; intro a hF) | ((with_reducible apply s_store hF hM); exact rfl; exact rfl; exact rfl; exact rfl; (repeat (first | exact Upd.z | apply Upd.s)); exact rfl; exact rfl; exact rfl; clear hM; intro w hM)))
  have hy3 : y3.length ≤ 1000000 := by omega
  cases g4 : rdI y3 with
  | error e =>
    have hde : dec8 xs = .error e := by unfold dec8; simp only [g1, g2, g3, g4]
    rw [hde]
    refine s_callcB hF rfl rfl rfl rfl rfl rfl rfl (num3_err y3 hb3 hy3 r3 d3 hc3 be bc bb _ _ _ _ _ _ _ _ _ _ _ g4 hM) ?_ (fun _ _ _ h => h.elim)
    clear hF hM a
    rintro p w a ⟨rfl, cs1, cs2, hM⟩ hF
    (repeat' (first | (with_reducible refine q_then_p ?_) | (with_reducible refine q_blk_p ?_)))
    refine f_panic hF ?_
    exact ⟨rfl, _, _, _, ⟨_, _, rfl⟩, hM⟩
  | ok pr =>
  obtain ⟨n4, y4⟩ := pr
  refine s_callcM hF rfl rfl rfl rfl rfl rfl rfl (num3_ok y3 hb3 hy3 r3 d3 hc3 be bc bb _ _ _ _ _ _ _ _ _ _ _ g4 hM) ?_
  clear hF hM a
  rintro v w a ⟨r4, d4, hc4, hM⟩ hF
  obtain ⟨hb4, hz4, hn4, hn4'⟩ := rdI_ok hb3 g4
  have hy4 : y4.length ≤ 1000000 := by omega
  (repeat (first | (with_reducible refine w_seq ?_) | (with_reducible refine c_region ?_) | (with_reducible refine s_nil ?_) | (with_reducible refine q_then_n ?_) | ((with_reducible apply s_pure hF); exact rfl; exact rfl; exact rfl; (first | exact trivial | omega | exact ⟨Int.natCast_nonneg _, Int.ofNat_lt.2 (by assumption)⟩ | decide); clear hF a; intro a hF) | ((with_reducible apply s_lit hF hM); exact rfl; exact rfl; exact rfl; exact rfl; clear hF hM a; intro bl w a hM hF) | (with_reducible refine r_succ ?_) | (with_reducible refine w_block ?_) | (with_reducible refine w_exit ?_) | (with_reducible refine q_then_x ?_) | (with_reducible refine q_blk_n ?_) | (with_reducible refine q_blk_x ?_) | ((with_reducible apply c_false2 hF); exact rfl; (first | with_reducible rfl | (refine congrArg Value.bool ?_; focus (simp; done))))))
  refine c_roll 5 ?_
  (repeat (first | (with_reducible refine w_seq ?_) | (with_reducible refine c_region ?_) | (with_reducible refine s_nil ?_) | (with_reducible refine q_then_n ?_) | ((with_reducible apply s_pure hF); exact rfl; exact rfl; exact rfl; (first | exact trivial | omega | exact ⟨Int.natCast_nonneg _, Int.ofNat_lt.2 (by assumption)⟩ | decide); clear hF a; intro a hF) | ((with_reducible apply s_loadB hF hM); exact rfl; exact rfl; (repeat (first | exact List.mem_cons_self | refine List.mem_cons_of_mem _ ?_)); exact rfl; exact rfl; clear hF a; intro a hF) | (with_reducible refine w_skip ?_) | (with_reducible refine r_succ ?_) | (with_reducible refine w_block ?_) | ((with_reducible apply c_true2 hF); exact rfl; (first | with_reducible rfl | (refine congrArg Value.bool ?_; focus (simp; done))))))
  generalize bl = b2 at *
  cases g5 : rdI y4 with
  | error e =>
    have hde : dec8 xs = .error e := by unfold dec8; simp only [g1, g2, g3, g4, g5]
    rw [hde]
    refine s_callcB hF rfl rfl rfl rfl rfl rfl rfl (num4_err y4 hb4 hy4 r4 d4 hc4 be bc bb _ _ _ _ _ _ _ _ _ _ _ _ g5 hM) ?_ (fun _ _ _ h => h.elim)
    clear hF hM a
    rintro p w a ⟨rfl, cs1, cs2, hM⟩ hF
    (repeat' (first | (with_reducible refine q_then_p ?_) | (with_reducible refine q_blk_p ?_)))
    refine f_panic hF ?_
    exact ⟨rfl, _, _, _, ⟨_, _, rfl⟩, hM⟩
  | ok pr =>
  obtain ⟨n5, y5⟩ := pr
  refine s_callcM hF rfl rfl rfl rfl rfl rfl rfl (num4_ok y4 hb4 hy4 r4 d4 hc4 be bc bb _ _ _ _ _ _ _ _ _ _ _ _ g5 hM) ?_
  clear hF hM a
  rintro v w a ⟨r5, d5, hc5, hM⟩ hF
  obtain ⟨hb5, hz5, hn5, hn5'⟩ := rdI_ok hb4 g5
  have hy5 : y5.length ≤ 1000000 := by omega
  (repeat (first | (with_reducible refine w_seq ?_) | (with_reducible refine c_region ?_) | (with_reducible refine s_nil ?_) | (with_reducible refine q_then_n ?_) | ((with_reducible apply s_pure hF); exact rfl; exact rfl; exact rfl; (first | exact trivial | omega | exact ⟨Int.natCast_nonneg _, Int.ofNat_lt.2 (by assumption)⟩ | decide); clear hF a; intro a hF) | ((with_reducible apply s_loadB hF hM); exact rfl; exact rfl; (repeat (first | exact List.mem_cons_self | refine List.mem_cons_of_mem _ ?_)); exact rfl; exact rfl; clear hF a; intro a hF) | (with_reducible refine w_skip ?_) | (with_reducible refine r_succ ?_) | (with_reducible refine w_block ?_) | (with_reducible refine q_blk_n ?_) | ((with_reducible apply c_true2 hF); exact rfl; (first | with_reducible rfl | (refine congrArg Value.bool ?_; focus (simp; done))))))
  cases g6 : rdI y5 with
  | error e =>
    have hde : dec8 xs = .error e := by unfold dec8; simp only [g1, g2, g3, g4, g5, g6]
    rw [hde]
    refine s_callcB hF rfl rfl rfl rfl rfl rfl rfl (num5_err y5 hb5 hy5 r5 d5 hc5 be bc bb _ _ _ _ _ _ _ _ _ _ _ _ g6 hM) ?_ (fun _ _ _ h => h.elim)
    clear hF hM a
    rintro p w a ⟨rfl, cs1, cs2, hM⟩ hF
    (repeat' (first | (with_reducible refine q_then_p ?_) | (with_reducible refine q_blk_p ?_)))
    refine f_panic hF ?_
    exact ⟨rfl, _, _, _, ⟨_, _, rfl⟩, hM⟩
  | ok pr =>
  obtain ⟨n6, y6⟩ := pr
  refine s_callcM hF rfl rfl rfl rfl rfl rfl rfl (num5_ok y5 hb5 hy5 r5 d5 hc5 be bc bb _ _ _ _ _ _ _ _ _ _ _ _ g6 hM) ?_
  clear hF hM a
  rintro v w a ⟨r6, d6, hc6, hM⟩ hF
  obtain ⟨hb6, hz6, hn6, hn6'⟩ := rdI_ok hb5 g6
  have hy6 : y6.length ≤ 1000000 := by omega
  (repeat (first | (with_reducible refine w_seq ?_) | (with_reducible refine c_region ?_) | (with_reducible refine s_nil ?_) | (with_reducible refine q_then_n ?_) | ((with_reducible apply s_pure hF); exact rfl; exact rfl; exact rfl; (first | exact trivial | omega | exact ⟨Int.natCast_nonneg _, Int.ofNat_lt.2 (by assumption)⟩ | decide); clear hF a; intro a hF) | ((with_reducible apply s_loadB hF hM); exact rfl; exact rfl; (repeat (first | exact List.mem_cons_self | refine List.mem_cons_of_mem _ ?_)); exact rfl; exact rfl; clear hF a; intro a hF) | (with_reducible refine w_skip ?_) | (with_reducible refine r_succ ?_) | (with_reducible refine w_block ?_) | (with_reducible refine q_blk_n ?_) | ((with_reducible apply c_true2 hF); exact rfl; (first | with_reducible rfl | (refine congrArg Value.bool ?_; focus (simp; done))))))
  cases g7 : rdI y6 with
  | error e =>
    have hde : dec8 xs = .error e := by unfold dec8; simp only [g1, g2, g3, g4, g5, g6, g7]
    rw [hde]
    refine s_callcB hF rfl rfl rfl rfl rfl rfl rfl (num6_err y6 hb6 hy6 r6 d6 hc6 be bc bb _ _ _ _ _ _ _ _ _ _ _ _ g7 hM) ?_ (fun _ _ _ h => h.elim)
    clear hF hM a
    rintro p w a ⟨rfl, cs1, cs2, hM⟩ hF
    (repeat' (first | (with_reducible refine q_then_p ?_) | (with_reducible refine q_blk_p ?_)))
    refine f_panic hF ?_
    exact ⟨rfl, _, _, _, ⟨_, _, rfl⟩, hM⟩
  | ok pr =>
  obtain ⟨n7, y7⟩ := pr
  refine s_callcM hF rfl rfl rfl rfl rfl rfl rfl (num6_ok y6 hb6 hy6 r6 d6 hc6 be bc bb _ _ _ _ _ _ _ _ _ _ _ _ g7 hM) ?_
  clear hF hM a
  rintro v w a ⟨r7, d7, hc7, hM⟩ hF
  obtain ⟨hb7, hz7, hn7, hn7'⟩ := rdI_ok hb6 g7
  have hy7 : y7.length ≤ 1000000 := by omega
  (repeat (first | (with_reducible refine w_seq ?_) | (with_reducible refine c_region ?_) | (with_reducible refine s_nil ?_) | (with_reducible refine q_then_n ?_) | ((with_reducible apply s_pure hF); exact rfl; exact rfl; exact rfl; (first | exact trivial | omega | exact ⟨Int.natCast_nonneg _, Int.ofNat_lt.2 (by assumption)⟩ | decide); clear hF a; intro a hF) | ((with_reducible apply s_loadB hF hM); exact rfl; exact rfl; (repeat (first | exact List.mem_cons_self | refine List.mem_cons_of_mem _ ?_)); exact rfl; exact rfl; clear hF a; intro a hF) | (with_reducible refine w_skip ?_) | (with_reducible refine r_succ ?_) | (with_reducible refine w_block ?_) | (with_reducible refine q_blk_n ?_) | ((with_reducible apply c_true2 hF); exact rfl; (first | with_reducible rfl | (refine congrArg Value.bool ?_; focus (simp; done))))))
  cases g8 : rdI y7 with
  | error e =>
    have hde : dec8 xs = .error e := by unfold dec8; simp only [g1, g2, g3, g4, g5, g6, g7, g8]
    rw [hde]
    refine s_callcB hF rfl rfl rfl rfl rfl rfl rfl (num7_err y7 hb7 hy7 r7 d7 hc7 be bc bb _ _ _ _ _ _ _ _ _ _ _ _ g8 hM) ?_ (fun _ _ _ h => h.elim)
    clear hF hM a
    rintro p w a ⟨rfl, cs1, cs2, hM⟩ hF
    (repeat' (first | (with_reducible refine q_then_p ?_) | (with_reducible refine q_blk_p ?_)))
    refine f_panic hF ?_
    exact ⟨rfl, _, _, _, ⟨_, _, rfl⟩, hM⟩
  | ok pr =>
  obtain ⟨n8, y8⟩ := pr
  refine s_callcM hF rfl rfl rfl rfl rfl rfl rfl (num7_ok y7 hb7 hy7 r7 d7 hc7 be bc bb _ _ _ _ _ _ _ _ _ _ _ _ g8 hM) ?_
  clear hF hM a
  rintro v w a ⟨r8, d8, hc8, hM⟩ hF
  obtain ⟨hb8, hz8, hn8, hn8'⟩ := rdI_ok hb7 g8
  have hy8 : y8.length ≤ 1000000 := by omega
  (repeat (first | (with_reducible refine w_seq ?_) | (with_reducible refine c_region ?_) | (with_reducible refine s_nil ?_) | (with_reducible refine q_then_n ?_) | ((with_reducible apply s_pure hF); exact rfl; exact rfl; exact rfl; (first | exact trivial | omega | exact ⟨Int.natCast_nonneg _, Int.ofNat_lt.2 (by assumption)⟩ | decide); clear hF a; intro a hF) | ((with_reducible apply s_load hF hM); exact rfl; exact rfl; (repeat (first | exact List.mem_cons_self | refine List.mem_cons_of_mem _ ?_)); exact rfl; exact rfl; clear hF a; intro a hF) | (with_reducible refine r_succ ?_) | (with_reducible refine w_exit ?_) | (with_reducible refine q_then_x ?_) | (with_reducible refine q_blk_n ?_) | (with_reducible refine q_blk_x ?_) | ((with_reducible apply c_false2 hF); exact rfl; (first | with_reducible rfl | (refine congrArg Value.bool ?_; focus (simp; done))))))
  obtain ⟨c, hc⟩ : ∃ c : Ce, c = ⟨⟨l1, n2⟩, ⟨l3, n4⟩, n5, n6, n7, n8⟩ := ⟨_, rfl⟩
  have hde : dec8 xs = .ok (c, y8) := by unfold dec8; simp only [g1, g2, g3, g4, g5, g6, g7, g8, hc]
  rw [hde]
  by_cases h0 : y8.length = 0
  case neg =>
    simp only [if_pos h0]
    (repeat' (first | ((with_reducible apply s_callE (f := 58) hF hM); exact rfl; exact rfl; exact rfl; exact rfl; exact (demand_f _ _ _ hM.lt (decide_eq_false (by omega))); clear hF hM a; intro w a hM hF) | (with_reducible refine q_then_p ?_)))
    refine f_panic hF ?_
    exact ⟨rfl, _, _, _, ⟨_, _, rfl⟩, hM.sub (.cons _ (.cons _ (.cons _ (.refl _)))) (.refl _) (fun _ h => h)⟩
  have h0' : ¬ y8.length ≠ 0 := by omega
  simp only [if_neg h0']
  have hl1 : c.A.V = l1 := by rw [hc]
  have hl3 : c.S.V = l3 := by rw [hc]
  by_cases hk : chkE c = 0
  · have hk' : ¬ chkE c ≠ 0 := by omega
    simp only [if_neg hk']
    subst hc
    (repeat' (first | (with_reducible refine c_region ?_) | (with_reducible refine s_nil ?_) | ((with_reducible apply s_call (f := 58) hF hM); exact rfl; exact rfl; exact rfl; exact rfl; exact rfl; exact (demand_t _ _ _ hM.lt (decide_eq_true (by omega))); clear hF hM a; rintro v w a - - hM hF) | ((with_reducible apply s_call (f := 56) hF hM); exact rfl; exact rfl; exact rfl; exact rfl; exact rfl; exact (RetP.ok (ceChk_c ⟨⟨l1, n2⟩, ⟨l3, n4⟩, n5, n6, n7, n8⟩ p1 p3 q1 q3 (show l1.length ≤ _ by omega) k1 (show l3.length ≤ _ by omega) k3 _ _ hM.lt (hM.facts (RdF (Value.int .i64) p1 l1) (by (repeat (first | with_reducible exact List.mem_cons_self | refine List.mem_cons_of_mem _ ?_)))) (hM.facts (RdF (Value.int .i64) p3 l3) (by (repeat (first | with_reducible exact List.mem_cons_self | refine List.mem_cons_of_mem _ ?_))))) hk); clear hF hM a; rintro v w a - - hM hF) | (with_reducible refine q_then_n ?_) | ((with_reducible apply s_load hF hM); exact rfl; exact rfl; (repeat (first | exact List.mem_cons_self | refine List.mem_cons_of_mem _ ?_)); exact rfl; exact rfl; clear hF a; intro a hF)))
    (apply f_end Try.results68 hF hM; (repeat (first | exact RL.nil | (apply RL.tmp; exact rfl) | (apply RL.cell; exact rfl; (repeat (first | exact List.mem_cons_self | refine List.mem_cons_of_mem _ ?_)); exact rfl))); try dsimp only [resV])
    exact ⟨_, _, _, ⟨p1, q1, p3, q3, _, [], rfl, rfl, k1, k3⟩, hM.sub (.cons _ (.cons _ (.cons _ (.refl _)))) (.refl _) (by intro f hf; simp only [List.mem_cons, List.not_mem_nil, or_false] at hf; (repeat (rcases hf with rfl | hf; · (repeat (first | exact List.mem_cons_self | refine List.mem_cons_of_mem _ ?_)))); first | (subst hf; (repeat (first | exact List.mem_cons_self | refine List.mem_cons_of_mem _ ?_)); done) | (repeat (first | exact hf | refine List.mem_cons_of_mem _ ?_)))⟩
  · simp only [if_pos hk]
    subst hc
    (repeat' (first | (with_reducible refine c_region ?_) | (with_reducible refine s_nil ?_) | ((with_reducible apply s_call (f := 58) hF hM); exact rfl; exact rfl; exact rfl; exact rfl; exact rfl; exact (demand_t _ _ _ hM.lt (decide_eq_true (by omega))); clear hF hM a; rintro v w a - - hM hF) | ((with_reducible apply s_callE (f := 56) hF hM); exact rfl; exact rfl; exact rfl; exact rfl; exact (RetP.err (ceChk_c ⟨⟨l1, n2⟩, ⟨l3, n4⟩, n5, n6, n7, n8⟩ p1 p3 q1 q3 (show l1.length ≤ _ by omega) k1 (show l3.length ≤ _ by omega) k3 _ _ hM.lt (hM.facts (RdF (Value.int .i64) p1 l1) (by (repeat (first | with_reducible exact List.mem_cons_self | refine List.mem_cons_of_mem _ ?_)))) (hM.facts (RdF (Value.int .i64) p3 l3) (by (repeat (first | with_reducible exact List.mem_cons_self | refine List.mem_cons_of_mem _ ?_))))) hk); clear hF hM a; intro w a hM hF) | (with_reducible refine q_then_n ?_) | ((with_reducible apply s_load hF hM); exact rfl; exact rfl; (repeat (first | exact List.mem_cons_self | refine List.mem_cons_of_mem _ ?_)); exact rfl; exact rfl; clear hF a; intro a hF)))
    refine f_panic hF ?_
    exact ⟨rfl, _, _, _, ⟨_, _, rfl⟩, hM.sub (.cons _ (.cons _ (.cons _ (.refl _)))) (.refl _) (fun _ h => h)⟩
end Go.Proofs.Ytabfhoipclbeeaa


/- certificate: Decode; what is read and put. -/
namespace Go.Proofs.Ytabfhoipclbeeaa
open Go.RowKit Go.Shelf C55 K57
theorem rdList_ne : ∀ {k : Nat} {xs : List Int} {e : Int}, rdList k xs = .error e → e ≠ 0
  | 0, _, _, h => by cases h
  | k + 1, xs, e, h => by
    rw [rdList] at h
    split at h
    · rename_i he
      injection h with h
      rw [← h]; exact he
    · split at h
      · rename_i e' h2
        injection h with h
        rw [← h]; exact rdList_ne h2
      · cases h
theorem rdInts_ne {xs : List Int} {e : Int} (h : rdInts xs = .error e) : e ≠ 0 := by
  unfold rdInts at h
  split at h
  · rename_i he
    injection h with h
    rw [← h]; exact he
  · split at h
    · injection h with h
      rw [← h]; decide
    · exact rdList_ne h
theorem dec8_ne {xs : List Int} {e : Int} (h : dec8 xs = .error e) : e ≠ 0 := by
  unfold dec8 at h
  repeat' split at h
  all_goals first | (injection h with h; subst h; first | exact rdInts_ne (by assumption) | exact rdI_err (by assumption)) | cases h
theorem decC_ne {xs : List Int} {e : Int} (h : decC xs = .error e) : e ≠ 0 := by
  unfold decC at h
  split at h
  · injection h with h; rw [← h]; decide
  · split at h
    · rename_i h2
      injection h with h
      rw [← h]; exact dec8_ne h2
    · split at h
      · injection h with h; rw [← h]; decide
      · split at h
        · rename_i h2
          injection h with h
          rw [← h]; exact h2
        · cases h
/-- What Decode answers. -/
def DcR (own : Nat → Prop) (r : Except Int Ce) (v : Value) (w' : World) : Prop := match r with
  | .error e => v = .tuple #[.agg ⟨ceZ⟩, .int .i64 e]
  | .ok c => ∃ a1 c1 a2 c2, v = .tuple #[.agg ⟨ceL c a1 c1 a2 c2⟩, .int .i64 0] ∧ Has own w' (RdF (Value.int .i64) a1 c.A.V) ∧ Has own w' (RdF (Value.int .i64) a2 c.S.V) ∧ c.A.V.length ≤ c1 ∧ c.S.V.length ≤ c2
set_option maxHeartbeats 1000000 in
theorem ceDecode_c (xs : List Int) (hxb : ∀ x ∈ xs, 0 ≤ x ∧ x < 256) (hlen : xs.length ≤ 1000000) (a0 : Option Addr) (c0 : Nat) (hc0 : xs.length ≤ c0) (own : Nat → Prop) (W : World) (hl : ∀ b, own b → b < W.heap.size) (hv : Has own W (RdF (Value.int .u8) a0 xs)) :
    Calls Try.prog 30 ⟨[.slice a0 xs.length c0]⟩ W (Ret W (DcR own (decC xs))) := by
  have hM := (Mm.start hl).known hv
  refine f_start Try.func30 rfl Try.ntmps30 rfl rfl ?_; intro a hF
  (repeat (first | (with_reducible refine w_seq ?_) | (with_reducible refine c_region ?_) | (with_reducible refine s_nil ?_) | (with_reducible refine q_then_n ?_) | ((with_reducible apply s_pure hF); exact rfl; exact rfl; exact rfl; (first | exact trivial | omega | exact ⟨Int.natCast_nonneg _, Int.ofNat_lt.2 (by assumption)⟩ | decide); clear hF a; intro a hF) | ((with_reducible apply s_alloc hF hM); exact rfl; exact rfl; exact rfl; clear hF hM a; intro b w a hM hF) | ((with_reducible apply s_box hF hM); exact rfl; exact rfl; exact rfl; exact rfl; clear hF hM a; intro b w a hM hF)))
  rename_i bb _ br _
  generalize b = bc at *
  have hD := fun bg W' h => dec1_c xs hxb hlen a0 c0 hc0 (own := own) (w0 := W) (W := W') (L := []) (Fs := []) bg bc br bb h
  cases hd : decC xs with
  | error e =>
    rw [hd] at hD
    have he := decC_ne hd
    (repeat' (first | (with_reducible refine w_seq ?_) | (with_reducible refine c_region ?_) | (with_reducible refine s_nil ?_) | ((with_reducible apply s_callM (f := 46) hF); exact rfl; exact rfl; exact rfl; exact rfl; exact rfl; exact (guarded_err (fun bs' L' Fs' => ∃ cs1 cs2, bs' = [⟨bc, cs1, 29⟩, ⟨br, ⟨ceZ⟩, 29⟩, ⟨bb, cs2, 57⟩]) _ _ e rfl hM hD); clear hF hM a; rintro v w a ⟨rfl, bs', L', Fs', ⟨cs1, cs2, rfl⟩, hM⟩ hF) | (with_reducible refine q_then_n ?_) | ((with_reducible apply s_pure hF); exact rfl; exact rfl; exact rfl; (first | exact trivial | omega | exact ⟨Int.natCast_nonneg _, Int.ofNat_lt.2 (by assumption)⟩ | decide); clear hF a; intro a hF) | ((with_reducible apply s_store hF hM); exact rfl; exact rfl; exact rfl; exact rfl; (repeat (first | exact Upd.z | apply Upd.s)); exact rfl; exact rfl; exact rfl; clear hM; intro w hM) | (with_reducible refine w_ret ?_) | (with_reducible refine q_then_r ?_) | ((with_reducible apply c_dec hF); exact rfl; all_goals intro hc; all_goals (try (exfalso; omega)))))
    (apply f_ret Try.results30 hF hM; (repeat (first | exact RL.nil | (apply RL.tmp; exact rfl) | (apply RL.cell; exact rfl; (repeat (first | exact List.mem_cons_self | refine List.mem_cons_of_mem _ ?_)); exact rfl))); refine Ret.mk hM.since ?_; dsimp only [resV])
    exact rfl
  | ok c =>
    rw [hd] at hD
    (repeat' (first | (with_reducible refine w_seq ?_) | (with_reducible refine c_region ?_) | (with_reducible refine s_nil ?_) | ((with_reducible apply s_callM (f := 46) hF); exact rfl; exact rfl; exact rfl; exact rfl; exact rfl; exact (guarded_ok (fun bs' L' Fs' => ∃ a1 c1 a2 c2 cs2 Fs2, bs' = [⟨bc, ⟨ceL c a1 c1 a2 c2⟩, 29⟩, ⟨br, ⟨ceZ⟩, 29⟩, ⟨bb, cs2, 57⟩] ∧ Fs' = RdF (Value.int .i64) a1 c.A.V :: RdF (Value.int .i64) a2 c.S.V :: Fs2 ∧ c.A.V.length ≤ c1 ∧ c.S.V.length ≤ c2) _ _ rfl hM hD); clear hF hM a; rintro v w a ⟨rfl, bs', L', Fs', ⟨a1, c1, a2, c2, cs2, Fs2, rfl, rfl, k1, k2⟩, hM⟩ hF) | (with_reducible refine q_then_n ?_) | ((with_reducible apply s_pure hF); exact rfl; exact rfl; exact rfl; (first | exact trivial | omega | exact ⟨Int.natCast_nonneg _, Int.ofNat_lt.2 (by assumption)⟩ | decide); clear hF a; intro a hF) | ((with_reducible apply s_load hF hM); exact rfl; exact rfl; (repeat (first | exact List.mem_cons_self | refine List.mem_cons_of_mem _ ?_)); exact rfl; exact rfl; clear hF a; intro a hF) | ((with_reducible apply s_store hF hM); exact rfl; exact rfl; exact rfl; exact rfl; (repeat (first | exact Upd.z | apply Upd.s)); exact rfl; exact rfl; exact rfl; clear hM; intro w hM) | (with_reducible refine w_skip ?_) | (with_reducible refine w_ret ?_) | ((with_reducible apply c_false2 hF); exact rfl; (first | with_reducible rfl | (refine congrArg Value.bool ?_; focus (simp; done))))))
    (apply f_ret Try.results30 hF hM; (repeat (first | exact RL.nil | (apply RL.tmp; exact rfl) | (apply RL.cell; exact rfl; (repeat (first | exact List.mem_cons_self | refine List.mem_cons_of_mem _ ?_)); exact rfl))); refine Ret.mk hM.since ?_; dsimp only [resV])
    exact ⟨a1, c1, a2, c2, rfl, hM.factOut (f := RdF (Value.int .i64) a1 c.A.V) (by (repeat (first | with_reducible exact List.mem_cons_self | refine List.mem_cons_of_mem _ ?_))), hM.factOut (f := RdF (Value.int .i64) a2 c.S.V) (by (repeat (first | with_reducible exact List.mem_cons_self | refine List.mem_cons_of_mem _ ?_))), k1, k2⟩
end Go.Proofs.Ytabfhoipclbeeaa


/- The reference's Additive, Gentle, Ticks, copied. -/
namespace Go.Proofs.Ytabfhoipclbeeaa
open Go.RowKit Go.Shelf C55 K57
namespace K57
def addN (sub : Bool) (c : Cu) : Bool := (List.range c.V.length).all fun s => (List.range c.V.length).all fun t => addAt sub c (s + 1) (t + 1)
theorem addB_eq (sub : Bool) (c : Cu) : addB sub c = (decide (c.V.getD 0 0 = 0) && addN sub c) := rfl
theorem addN_of {sub : Bool} {c : Cu} (h : ∀ s t : Nat, 1 ≤ s → s ≤ c.V.length → 1 ≤ t → t ≤ c.V.length → addAt sub c s t = true) : addN sub c = true := by
  unfold addN
  rw [List.all_eq_true]
  intro s hs
  rw [List.all_eq_true]
  intro t ht
  exact h (s + 1) (t + 1) (by omega) (by have := List.mem_range.1 hs; omega) (by omega) (by have := List.mem_range.1 ht; omega)
theorem addN_bad {sub : Bool} {c : Cu} {s t : Nat} (h1 : 1 ≤ s) (h2 : s ≤ c.V.length) (h3 : 1 ≤ t) (h4 : t ≤ c.V.length) (h : addAt sub c s t = false) : addN sub c = false := by
  cases hb : addN sub c with
  | false => rfl
  | true =>
    unfold addN at hb
    rw [List.all_eq_true] at hb
    have := List.all_eq_true.1 (hb (s - 1) (List.mem_range.2 (by omega))) (t - 1) (List.mem_range.2 (by omega))
    rw [Nat.sub_add_cancel h1, Nat.sub_add_cancel h3, h] at this
    cases this
theorem gen_last {c : Cu} (ok : Ok c) : vl c (c.V.length - 1 + 1) - vl c (c.V.length - 1) = c.S := by
  have h := vl_line (c := c) (k := c.V.length - 1) ok.l0 (by have := ok.l0; omega) 1
  rw [h]
  omega
theorem genB_iff' {c : Cu} (ok : Ok c) : genB c = true ↔ ∀ t : Nat, t < c.V.length → vl c (t + 1) - vl c t ≤ 4096 := by
  have h0 := ok.l0
  rw [genB_iff]
  constructor
  · rintro ⟨h1, h2⟩ t ht
    by_cases e : t + 1 < c.V.length
    · exact h1 t e
    · obtain rfl : t = c.V.length - 1 := by omega
      rw [gen_last ok]; exact h2
  · intro h
    refine ⟨fun t ht => h t (by omega), ?_⟩
    have := h (c.V.length - 1) (by omega)
    rwa [gen_last ok] at this
end K57
set_option maxHeartbeats 2000000 in
theorem refAdd1_c (c : Cu) (ok : Ok c) (v : Value) (own : Nat → Prop) (W : World) (hl : ∀ b, own b → b < W.heap.size) (hv : Has own W (IsCu · v c)) :
    Calls Try.prog 49 ⟨[v, .bool true]⟩ W (Ret W fun v _ => v = .bool (addN true c)) := by
  obtain ⟨a0, c0, rfl, hV, l1, l2⟩ := isCu_open hv
  have hM := (Mm.start hl).known hV
  have k0 := ok.l0
  have k1 := ok.l1
  refine f_start Try.func49 rfl Try.ntmps49 rfl rfl ?_; intro a hF
  (repeat' (first | (with_reducible refine w_seq ?_) | (with_reducible refine c_region ?_) | (with_reducible refine s_nil ?_) | (with_reducible refine q_then_n ?_) | ((with_reducible apply s_pure hF); exact rfl; exact rfl; exact rfl; (first | exact trivial | omega | exact ⟨Int.natCast_nonneg _, Int.ofNat_lt.2 (by assumption)⟩ | decide); clear hF a; intro a hF) | ((with_reducible apply s_load hF hM); exact rfl; exact rfl; (repeat (first | exact List.mem_cons_self | refine List.mem_cons_of_mem _ ?_)); exact rfl; exact rfl; clear hF a; intro a hF) | ((with_reducible apply s_box hF hM); exact rfl; exact rfl; exact rfl; exact rfl; clear hF hM a; intro b w a hM hF) | (with_reducible refine w_block ?_)))
  generalize b = b2 at *
  refine c_loop (m := c.V.length) (fun m a w' => ∃ (s : Nat), m + s = c.V.length + 1 ∧ 1 ≤ s ∧ (∀ i j : Nat, 1 ≤ i → i < s → 1 ≤ j → j ≤ c.V.length → addAt true c i j = true) ∧
    Fr 50 [] [(6, .int .i64 s), (5, .int .i64 c.V.length), (2, .pointer (some ⟨b2, 0, none⟩)), (1, .bool true)] a ∧
    Mm own W [⟨b2, ⟨[.slice a0 c.V.length c0, .int .i64 c.S]⟩, 24⟩] [] [RdF (Value.int .i64) a0 c.V] w')
    ⟨1, by omega, Nat.le_refl _, (fun i j h1 h2 => absurd h1 (by omega)), hF.sub (by repeat (first | exact Sub.nil | refine Sub.cons rfl (by first | with_reducible rfl | (refine congrArg (Value.int _) ?_; omega) | exact rfl) ?_)), hM⟩ ?_
  clear hF hM a
  rintro m a w' ⟨s, hm, hs1, hall, hF, hM⟩
  by_cases hsn : s ≤ c.V.length
  · (repeat' (first | (with_reducible refine w_seq ?_) | (with_reducible refine c_region ?_) | (with_reducible refine s_nil ?_) | (with_reducible refine q_then_n ?_) | ((with_reducible apply s_pure hF); exact rfl; exact rfl; exact rfl; (first | exact trivial | omega | exact ⟨Int.natCast_nonneg _, Int.ofNat_lt.2 (by assumption)⟩ | decide); clear hF a; intro a hF) | (with_reducible refine w_skip ?_) | (with_reducible refine w_block ?_) | ((with_reducible apply c_dec hF); exact rfl; all_goals intro hc; all_goals (try (exfalso; omega)))))
    refine c_loop (m := c.V.length) (fun z a w' => ∃ (t : Nat), z + t = c.V.length + 1 ∧ 1 ≤ t ∧ (∀ j : Nat, 1 ≤ j → j < t → addAt true c s j = true) ∧
      Fr 50 [] [(7, .int .i64 t), (6, .int .i64 s), (5, .int .i64 c.V.length), (2, .pointer (some ⟨b2, 0, none⟩)), (1, .bool true)] a ∧
      Mm own W [⟨b2, ⟨[.slice a0 c.V.length c0, .int .i64 c.S]⟩, 24⟩] [] [RdF (Value.int .i64) a0 c.V] w')
      ⟨1, by omega, Nat.le_refl _, (fun j h1 h2 => absurd h1 (by omega)), hF.sub (by repeat (first | exact Sub.nil | refine Sub.cons rfl (by first | with_reducible rfl | (refine congrArg (Value.int _) ?_; omega) | exact rfl) ?_)), hM⟩ ?_
    clear hF hM a
    rintro z a w' ⟨t, hz, ht1, hin, hF, hM⟩
    by_cases htn : t ≤ c.V.length
    · have e1 : atT c ((s : Int) + (t : Int)) = vl c (s + t) := by rw [show (s : Int) + (t : Int) = ((s + t : Nat) : Int) by omega]; exact at_vl ok (by omega)
      have e2 : atT c (s : Int) = vl c s := at_vl ok (by omega)
      have e3 : atT c (t : Int) = vl c t := at_vl ok (by omega)
      have r1 := vl_rg ok (k := s + t) (by omega)
      have r2 := vl_rg ok (k := s) (by omega)
      have r3 := vl_rg ok (k := t) (by omega)
      have hadd : addAt true c s t = hold true (vl c (s + t)) (vl c s + vl c t) := rfl
      obtain ⟨X1, hX1⟩ : ∃ x, vl c (s + t) = x := ⟨_, rfl⟩
      obtain ⟨X2, hX2⟩ : ∃ x, vl c s = x := ⟨_, rfl⟩
      obtain ⟨X3, hX3⟩ : ∃ x, vl c t = x := ⟨_, rfl⟩
      rw [hX1] at e1 r1 hadd
      rw [hX2] at e2 r2 hadd
      rw [hX3] at e3 r3 hadd
      (repeat' (first | (with_reducible refine w_seq ?_) | (with_reducible refine c_region ?_) | (with_reducible refine s_nil ?_) | (with_reducible refine q_then_n ?_) | ((with_reducible apply s_pure hF); exact rfl; exact rfl; exact rfl; (first | exact trivial | omega | exact ⟨Int.natCast_nonneg _, Int.ofNat_lt.2 (by assumption)⟩ | decide); clear hF a; intro a hF) | (with_reducible refine w_skip ?_) | (with_reducible refine w_block ?_) | ((with_reducible apply c_dec hF); exact rfl; all_goals intro hc; all_goals (try (exfalso; omega)))))
      refine c_draw (fun i => Nat.ble 14 i) hM ?_; clear hM; intro w hM
      (first | (apply t_load (i := 0) hF rfl rfl rfl; (repeat (first | exact List.mem_cons_self | refine List.mem_cons_of_mem _ ?_)); exact rfl; exact rfl; kernel_rfl; exact hM.sm; exact (fun _ _ _ h => h); clear hF a; intro a hF))
      (first | (refine t_pure (i := 1) hF rfl rfl rfl rfl (by kernel_rfl) hM.sm (fun _ _ _ h => h) ?_ ?_; (first | exact trivial | omega | decide); clear hF a; intro a hF))
      (first | (refine t_pure (i := 2) hF rfl rfl rfl rfl (by kernel_rfl) hM.sm (fun _ _ _ h => h) ?_ ?_; (first | exact trivial | omega | decide); clear hF a; intro a hF))
      (first | (refine t_pure (i := 3) hF rfl rfl rfl rfl (by kernel_rfl) hM.sm (fun _ _ _ h => h) ?_ ?_; (first | exact trivial | omega | decide); clear hF a; intro a hF))
      (first | (apply t_load (i := 5) hF rfl rfl rfl; (repeat (first | exact List.mem_cons_self | refine List.mem_cons_of_mem _ ?_)); exact rfl; exact rfl; kernel_rfl; exact hM.sm; exact (fun _ _ _ h => h); clear hF a; intro a hF))
      (first | (refine t_pure (i := 6) hF rfl rfl rfl rfl (by kernel_rfl) hM.sm (fun _ _ _ h => h) ?_ ?_; (first | exact trivial | omega | decide); clear hF a; intro a hF))
      (first | (apply t_load (i := 8) hF rfl rfl rfl; (repeat (first | exact List.mem_cons_self | refine List.mem_cons_of_mem _ ?_)); exact rfl; exact rfl; kernel_rfl; exact hM.sm; exact (fun _ _ _ h => h); clear hF a; intro a hF))
      (first | (refine t_pure (i := 9) hF rfl rfl rfl rfl (by kernel_rfl) hM.sm (fun _ _ _ h => h) ?_ ?_; (first | exact trivial | omega | decide); clear hF a; intro a hF))
      refine t_one (i := 4) hF rfl (by kernel_rfl) rfl ?_
      intro K hK
      (apply x_call hF hM; exact rfl; exact rfl; exact rfl; exact rfl; exact (refAt_c c ((s : Int) + (t : Int)) _ _ _ hM.lt (isCu_mk (hM.facts (RdF (Value.int .i64) a0 c.V) (by (repeat (first | exact List.mem_cons_self | refine List.mem_cons_of_mem _ ?_)))) l1 l2)); clear hF hM a; rintro v w a rfl - hM hF)
      rw [e1] at hF
      refine hK _ _ (fun _ => (hM.sm.sub (fun x hx => by repeat (first | exact hx | refine List.mem_cons_of_mem _ ?_)) (fun _ h => by repeat (first | exact h | refine List.mem_cons_of_mem _ ?_)))) ?_; clear hK
      refine t_one (i := 7) hF rfl (by kernel_rfl) rfl ?_
      intro K hK
      (apply x_call hF hM; exact rfl; exact rfl; exact rfl; exact rfl; exact (refAt_c c s _ _ _ hM.lt (isCu_mk (hM.facts (RdF (Value.int .i64) a0 c.V) (by (repeat (first | exact List.mem_cons_self | refine List.mem_cons_of_mem _ ?_)))) l1 l2)); clear hF hM a; rintro v w a rfl - hM hF)
      rw [e2] at hF
      refine hK _ _ (fun _ => (hM.sm.sub (fun x hx => by repeat (first | exact hx | refine List.mem_cons_of_mem _ ?_)) (fun _ h => by repeat (first | exact h | refine List.mem_cons_of_mem _ ?_)))) ?_; clear hK
      refine t_one (i := 10) hF rfl (by kernel_rfl) rfl ?_
      intro K hK
      (apply x_call hF hM; exact rfl; exact rfl; exact rfl; exact rfl; exact (refAt_c c t _ _ _ hM.lt (isCu_mk (hM.facts (RdF (Value.int .i64) a0 c.V) (by (repeat (first | exact List.mem_cons_self | refine List.mem_cons_of_mem _ ?_)))) l1 l2)); clear hF hM a; rintro v w a rfl - hM hF)
      rw [e3] at hF
      refine hK _ _ (fun _ => (hM.sm.sub (fun x hx => by repeat (first | exact hx | refine List.mem_cons_of_mem _ ?_)) (fun _ h => by repeat (first | exact h | refine List.mem_cons_of_mem _ ?_)))) ?_; clear hK
      (first | (refine t_pure (i := 11) hF rfl rfl rfl rfl (by kernel_rfl) (hM.sm.sub (fun x hx => by repeat (first | exact hx | refine List.mem_cons_of_mem _ ?_)) (fun _ h => by repeat (first | exact h | refine List.mem_cons_of_mem _ ?_))) (fun _ _ _ h => h) ?_ ?_; (first | exact trivial | omega | decide); clear hF a; intro a hF))
      (first | (refine t_pure (i := 12) hF rfl rfl rfl rfl (by kernel_rfl) (hM.sm.sub (fun x hx => by repeat (first | exact hx | refine List.mem_cons_of_mem _ ?_)) (fun _ h => by repeat (first | exact h | refine List.mem_cons_of_mem _ ?_))) (fun _ _ _ h => h) ?_ ?_; (first | exact trivial | omega | decide); clear hF a; intro a hF))
      (first | (refine t_pure (i := 13) hF rfl rfl rfl rfl (by kernel_rfl) (hM.sm.sub (fun x hx => by repeat (first | exact hx | refine List.mem_cons_of_mem _ ?_)) (fun _ h => by repeat (first | exact h | refine List.mem_cons_of_mem _ ?_))) (fun _ _ _ h => h) ?_ ?_; (first | exact trivial | omega | decide); clear hF a; intro a hF))
      refine t_done (by kernel_rfl) ?_
      by_cases hb : (X1 ≤ X2 + X3)
      · (repeat' (first | (with_reducible refine w_seq ?_) | (with_reducible refine c_region ?_) | (with_reducible refine s_nil ?_) | (with_reducible refine q_then_n ?_) | ((with_reducible apply s_pure hF); exact rfl; exact rfl; exact rfl; (first | exact trivial | omega | exact ⟨Int.natCast_nonneg _, Int.ofNat_lt.2 (by assumption)⟩ | decide); clear hF a; intro a hF) | (with_reducible refine w_skip ?_) | (with_reducible refine q_blk_n ?_) | ((with_reducible apply c_false2 hF); exact rfl; (first | with_reducible rfl | (refine congrArg Value.bool ?_; focus (simp; done)))) | ((with_reducible apply s_skip hF); exact rfl; exact rfl; clear hF a; intro a hF) | ((fail_if_success ((with_reducible refine g_known true hF ?_ ?_); focus exact rfl)); (fail_if_success ((with_reducible refine g_known false hF ?_ ?_); focus exact rfl)); (with_reducible apply g_dec hF); exact rfl; exact rfl; all_goals (clear hF; intro hc hF); all_goals (try (exfalso; omega)))))
        refine ⟨z - 1, by omega, t + 1, by omega, by omega, fun j h1 h2 => ?_, hF.sub (by repeat (first | exact Sub.nil | refine Sub.cons rfl (by first | with_reducible rfl | (refine congrArg (Value.int _) ?_; omega) | exact rfl) ?_)), hM⟩
        by_cases e : j = t
        · rw [e, hadd]; simp [hold, hb]
        · exact hin j h1 (by omega)
      · (repeat' (first | (with_reducible refine w_seq ?_) | (with_reducible refine c_region ?_) | (with_reducible refine s_nil ?_) | (with_reducible refine q_then_n ?_) | ((with_reducible apply s_pure hF); exact rfl; exact rfl; exact rfl; (first | exact trivial | omega | exact ⟨Int.natCast_nonneg _, Int.ofNat_lt.2 (by assumption)⟩ | decide); clear hF a; intro a hF) | (with_reducible refine w_ret ?_) | (with_reducible refine q_then_r ?_) | (with_reducible refine q_blk_r ?_) | ((with_reducible apply c_true2 hF); exact rfl; (first | with_reducible rfl | (refine congrArg Value.bool ?_; focus (simp; done)))) | ((with_reducible apply s_skip hF); exact rfl; exact rfl; clear hF a; intro a hF) | ((fail_if_success ((with_reducible refine g_known true hF ?_ ?_); focus exact rfl)); (fail_if_success ((with_reducible refine g_known false hF ?_ ?_); focus exact rfl)); (with_reducible apply g_dec hF); exact rfl; exact rfl; all_goals (clear hF; intro hc hF); all_goals (try (exfalso; omega)))))
        (apply f_ret Try.results49 hF hM; (repeat (first | exact RL.nil | (apply RL.tmp; exact rfl) | (apply RL.cell; exact rfl; (repeat (first | exact List.mem_cons_self | refine List.mem_cons_of_mem _ ?_)); exact rfl))); refine Ret.mk hM.since ?_; dsimp only [resV])
        have hq : addAt true c s t = false := by rw [hadd]; simp [hold]; omega
        rw [addN_bad hs1 hsn ht1 htn hq]
    · obtain rfl : t = c.V.length + 1 := by omega
      (repeat' (first | (with_reducible refine w_seq ?_) | (with_reducible refine c_region ?_) | (with_reducible refine s_nil ?_) | (with_reducible refine q_then_n ?_) | ((with_reducible apply s_pure hF); exact rfl; exact rfl; exact rfl; (first | exact trivial | omega | exact ⟨Int.natCast_nonneg _, Int.ofNat_lt.2 (by assumption)⟩ | decide); clear hF a; intro a hF) | (with_reducible refine w_exit ?_) | (with_reducible refine q_then_x ?_) | (with_reducible refine q_blk_n ?_) | (with_reducible refine q_blk_x ?_) | ((with_reducible apply c_dec hF); exact rfl; all_goals intro hc; all_goals (try (exfalso; omega)))))
      refine ⟨m - 1, by omega, s + 1, by omega, by omega, fun i j h1 h2 h3 h4 => ?_, hF.sub (by repeat (first | exact Sub.nil | refine Sub.cons rfl (by first | with_reducible rfl | (refine congrArg (Value.int _) ?_; omega) | exact rfl) ?_)), hM⟩
      by_cases e : i = s
      · rw [e]; exact hin j h3 (by omega)
      · exact hall i j h1 (by omega) h3 h4
  · obtain rfl : s = c.V.length + 1 := by omega
    (repeat' (first | (with_reducible refine w_seq ?_) | (with_reducible refine c_region ?_) | (with_reducible refine s_nil ?_) | (with_reducible refine q_then_n ?_) | ((with_reducible apply s_pure hF); exact rfl; exact rfl; exact rfl; (first | exact trivial | omega | exact ⟨Int.natCast_nonneg _, Int.ofNat_lt.2 (by assumption)⟩ | decide); clear hF a; intro a hF) | (with_reducible refine w_exit ?_) | (with_reducible refine w_ret ?_) | (with_reducible refine q_then_x ?_) | (with_reducible refine q_blk_x ?_) | ((with_reducible apply c_dec hF); exact rfl; all_goals intro hc; all_goals (try (exfalso; omega)))))
    (apply f_ret Try.results49 hF hM; (repeat (first | exact RL.nil | (apply RL.tmp; exact rfl) | (apply RL.cell; exact rfl; (repeat (first | exact List.mem_cons_self | refine List.mem_cons_of_mem _ ?_)); exact rfl))); refine Ret.mk hM.since ?_; dsimp only [resV])
    rw [addN_of fun i j h1 h2 h3 h4 => hall i j h1 (by omega) h3 h4]
set_option maxHeartbeats 2000000 in
theorem refAdd2_c (c : Cu) (ok : Ok c) (v : Value) (own : Nat → Prop) (W : World) (hl : ∀ b, own b → b < W.heap.size) (hv : Has own W (IsCu · v c)) :
    Calls Try.prog 49 ⟨[v, .bool false]⟩ W (Ret W fun v _ => v = .bool (addN false c)) := by
  obtain ⟨a0, c0, rfl, hV, l1, l2⟩ := isCu_open hv
  have hM := (Mm.start hl).known hV
  have k0 := ok.l0
  have k1 := ok.l1
  refine f_start Try.func49 rfl Try.ntmps49 rfl rfl ?_; intro a hF
  (repeat' (first | (with_reducible refine w_seq ?_) | (with_reducible refine c_region ?_) | (with_reducible refine s_nil ?_) | (with_reducible refine q_then_n ?_) | ((with_reducible apply s_pure hF); exact rfl; exact rfl; exact rfl; (first | exact trivial | omega | exact ⟨Int.natCast_nonneg _, Int.ofNat_lt.2 (by assumption)⟩ | decide); clear hF a; intro a hF) | ((with_reducible apply s_load hF hM); exact rfl; exact rfl; (repeat (first | exact List.mem_cons_self | refine List.mem_cons_of_mem _ ?_)); exact rfl; exact rfl; clear hF a; intro a hF) | ((with_reducible apply s_box hF hM); exact rfl; exact rfl; exact rfl; exact rfl; clear hF hM a; intro b w a hM hF) | (with_reducible refine w_block ?_)))
  generalize b = b2 at *
  refine c_loop (m := c.V.length) (fun m a w' => ∃ (s : Nat), m + s = c.V.length + 1 ∧ 1 ≤ s ∧ (∀ i j : Nat, 1 ≤ i → i < s → 1 ≤ j → j ≤ c.V.length → addAt false c i j = true) ∧
    Fr 50 [] [(6, .int .i64 s), (5, .int .i64 c.V.length), (2, .pointer (some ⟨b2, 0, none⟩)), (1, .bool false)] a ∧
    Mm own W [⟨b2, ⟨[.slice a0 c.V.length c0, .int .i64 c.S]⟩, 24⟩] [] [RdF (Value.int .i64) a0 c.V] w')
    ⟨1, by omega, Nat.le_refl _, (fun i j h1 h2 => absurd h1 (by omega)), hF.sub (by repeat (first | exact Sub.nil | refine Sub.cons rfl (by first | with_reducible rfl | (refine congrArg (Value.int _) ?_; omega) | exact rfl) ?_)), hM⟩ ?_
  clear hF hM a
  rintro m a w' ⟨s, hm, hs1, hall, hF, hM⟩
  by_cases hsn : s ≤ c.V.length
  · (repeat' (first | (with_reducible refine w_seq ?_) | (with_reducible refine c_region ?_) | (with_reducible refine s_nil ?_) | (with_reducible refine q_then_n ?_) | ((with_reducible apply s_pure hF); exact rfl; exact rfl; exact rfl; (first | exact trivial | omega | exact ⟨Int.natCast_nonneg _, Int.ofNat_lt.2 (by assumption)⟩ | decide); clear hF a; intro a hF) | (with_reducible refine w_skip ?_) | (with_reducible refine w_block ?_) | ((with_reducible apply c_dec hF); exact rfl; all_goals intro hc; all_goals (try (exfalso; omega)))))
    refine c_loop (m := c.V.length) (fun z a w' => ∃ (t : Nat), z + t = c.V.length + 1 ∧ 1 ≤ t ∧ (∀ j : Nat, 1 ≤ j → j < t → addAt false c s j = true) ∧
      Fr 50 [] [(7, .int .i64 t), (6, .int .i64 s), (5, .int .i64 c.V.length), (2, .pointer (some ⟨b2, 0, none⟩)), (1, .bool false)] a ∧
      Mm own W [⟨b2, ⟨[.slice a0 c.V.length c0, .int .i64 c.S]⟩, 24⟩] [] [RdF (Value.int .i64) a0 c.V] w')
      ⟨1, by omega, Nat.le_refl _, (fun j h1 h2 => absurd h1 (by omega)), hF.sub (by repeat (first | exact Sub.nil | refine Sub.cons rfl (by first | with_reducible rfl | (refine congrArg (Value.int _) ?_; omega) | exact rfl) ?_)), hM⟩ ?_
    clear hF hM a
    rintro z a w' ⟨t, hz, ht1, hin, hF, hM⟩
    by_cases htn : t ≤ c.V.length
    · have e1 : atT c ((s : Int) + (t : Int)) = vl c (s + t) := by rw [show (s : Int) + (t : Int) = ((s + t : Nat) : Int) by omega]; exact at_vl ok (by omega)
      have e2 : atT c (s : Int) = vl c s := at_vl ok (by omega)
      have e3 : atT c (t : Int) = vl c t := at_vl ok (by omega)
      have r1 := vl_rg ok (k := s + t) (by omega)
      have r2 := vl_rg ok (k := s) (by omega)
      have r3 := vl_rg ok (k := t) (by omega)
      have hadd : addAt false c s t = hold false (vl c (s + t)) (vl c s + vl c t) := rfl
      obtain ⟨X1, hX1⟩ : ∃ x, vl c (s + t) = x := ⟨_, rfl⟩
      obtain ⟨X2, hX2⟩ : ∃ x, vl c s = x := ⟨_, rfl⟩
      obtain ⟨X3, hX3⟩ : ∃ x, vl c t = x := ⟨_, rfl⟩
      rw [hX1] at e1 r1 hadd
      rw [hX2] at e2 r2 hadd
      rw [hX3] at e3 r3 hadd
      (repeat' (first | (with_reducible refine w_seq ?_) | (with_reducible refine c_region ?_) | (with_reducible refine s_nil ?_) | (with_reducible refine q_then_n ?_) | ((with_reducible apply s_pure hF); exact rfl; exact rfl; exact rfl; (first | exact trivial | omega | exact ⟨Int.natCast_nonneg _, Int.ofNat_lt.2 (by assumption)⟩ | decide); clear hF a; intro a hF) | (with_reducible refine w_skip ?_) | (with_reducible refine w_block ?_) | ((with_reducible apply c_dec hF); exact rfl; all_goals intro hc; all_goals (try (exfalso; omega)))))
      refine c_draw (fun i => Nat.ble 14 i) hM ?_; clear hM; intro w hM
      (first | (apply t_load (i := 0) hF rfl rfl rfl; (repeat (first | exact List.mem_cons_self | refine List.mem_cons_of_mem _ ?_)); exact rfl; exact rfl; kernel_rfl; exact hM.sm; exact (fun _ _ _ h => h); clear hF a; intro a hF))
      (first | (refine t_pure (i := 1) hF rfl rfl rfl rfl (by kernel_rfl) hM.sm (fun _ _ _ h => h) ?_ ?_; (first | exact trivial | omega | decide); clear hF a; intro a hF))
      (first | (refine t_pure (i := 2) hF rfl rfl rfl rfl (by kernel_rfl) hM.sm (fun _ _ _ h => h) ?_ ?_; (first | exact trivial | omega | decide); clear hF a; intro a hF))
      (first | (refine t_pure (i := 3) hF rfl rfl rfl rfl (by kernel_rfl) hM.sm (fun _ _ _ h => h) ?_ ?_; (first | exact trivial | omega | decide); clear hF a; intro a hF))
      (first | (apply t_load (i := 5) hF rfl rfl rfl; (repeat (first | exact List.mem_cons_self | refine List.mem_cons_of_mem _ ?_)); exact rfl; exact rfl; kernel_rfl; exact hM.sm; exact (fun _ _ _ h => h); clear hF a; intro a hF))
      (first | (refine t_pure (i := 6) hF rfl rfl rfl rfl (by kernel_rfl) hM.sm (fun _ _ _ h => h) ?_ ?_; (first | exact trivial | omega | decide); clear hF a; intro a hF))
      (first | (apply t_load (i := 8) hF rfl rfl rfl; (repeat (first | exact List.mem_cons_self | refine List.mem_cons_of_mem _ ?_)); exact rfl; exact rfl; kernel_rfl; exact hM.sm; exact (fun _ _ _ h => h); clear hF a; intro a hF))
      (first | (refine t_pure (i := 9) hF rfl rfl rfl rfl (by kernel_rfl) hM.sm (fun _ _ _ h => h) ?_ ?_; (first | exact trivial | omega | decide); clear hF a; intro a hF))
      refine t_one (i := 4) hF rfl (by kernel_rfl) rfl ?_
      intro K hK
      (apply x_call hF hM; exact rfl; exact rfl; exact rfl; exact rfl; exact (refAt_c c ((s : Int) + (t : Int)) _ _ _ hM.lt (isCu_mk (hM.facts (RdF (Value.int .i64) a0 c.V) (by (repeat (first | exact List.mem_cons_self | refine List.mem_cons_of_mem _ ?_)))) l1 l2)); clear hF hM a; rintro v w a rfl - hM hF)
      rw [e1] at hF
      refine hK _ _ (fun _ => (hM.sm.sub (fun x hx => by repeat (first | exact hx | refine List.mem_cons_of_mem _ ?_)) (fun _ h => by repeat (first | exact h | refine List.mem_cons_of_mem _ ?_)))) ?_; clear hK
      refine t_one (i := 7) hF rfl (by kernel_rfl) rfl ?_
      intro K hK
      (apply x_call hF hM; exact rfl; exact rfl; exact rfl; exact rfl; exact (refAt_c c s _ _ _ hM.lt (isCu_mk (hM.facts (RdF (Value.int .i64) a0 c.V) (by (repeat (first | exact List.mem_cons_self | refine List.mem_cons_of_mem _ ?_)))) l1 l2)); clear hF hM a; rintro v w a rfl - hM hF)
      rw [e2] at hF
      refine hK _ _ (fun _ => (hM.sm.sub (fun x hx => by repeat (first | exact hx | refine List.mem_cons_of_mem _ ?_)) (fun _ h => by repeat (first | exact h | refine List.mem_cons_of_mem _ ?_)))) ?_; clear hK
      refine t_one (i := 10) hF rfl (by kernel_rfl) rfl ?_
      intro K hK
      (apply x_call hF hM; exact rfl; exact rfl; exact rfl; exact rfl; exact (refAt_c c t _ _ _ hM.lt (isCu_mk (hM.facts (RdF (Value.int .i64) a0 c.V) (by (repeat (first | exact List.mem_cons_self | refine List.mem_cons_of_mem _ ?_)))) l1 l2)); clear hF hM a; rintro v w a rfl - hM hF)
      rw [e3] at hF
      refine hK _ _ (fun _ => (hM.sm.sub (fun x hx => by repeat (first | exact hx | refine List.mem_cons_of_mem _ ?_)) (fun _ h => by repeat (first | exact h | refine List.mem_cons_of_mem _ ?_)))) ?_; clear hK
      (first | (refine t_pure (i := 11) hF rfl rfl rfl rfl (by kernel_rfl) (hM.sm.sub (fun x hx => by repeat (first | exact hx | refine List.mem_cons_of_mem _ ?_)) (fun _ h => by repeat (first | exact h | refine List.mem_cons_of_mem _ ?_))) (fun _ _ _ h => h) ?_ ?_; (first | exact trivial | omega | decide); clear hF a; intro a hF))
      (first | (refine t_pure (i := 12) hF rfl rfl rfl rfl (by kernel_rfl) (hM.sm.sub (fun x hx => by repeat (first | exact hx | refine List.mem_cons_of_mem _ ?_)) (fun _ h => by repeat (first | exact h | refine List.mem_cons_of_mem _ ?_))) (fun _ _ _ h => h) ?_ ?_; (first | exact trivial | omega | decide); clear hF a; intro a hF))
      (first | (refine t_pure (i := 13) hF rfl rfl rfl rfl (by kernel_rfl) (hM.sm.sub (fun x hx => by repeat (first | exact hx | refine List.mem_cons_of_mem _ ?_)) (fun _ h => by repeat (first | exact h | refine List.mem_cons_of_mem _ ?_))) (fun _ _ _ h => h) ?_ ?_; (first | exact trivial | omega | decide); clear hF a; intro a hF))
      refine t_done (by kernel_rfl) ?_
      by_cases hb : (X2 + X3 ≤ X1)
      · (repeat' (first | (with_reducible refine w_seq ?_) | (with_reducible refine c_region ?_) | (with_reducible refine s_nil ?_) | (with_reducible refine q_then_n ?_) | ((with_reducible apply s_pure hF); exact rfl; exact rfl; exact rfl; (first | exact trivial | omega | exact ⟨Int.natCast_nonneg _, Int.ofNat_lt.2 (by assumption)⟩ | decide); clear hF a; intro a hF) | (with_reducible refine w_skip ?_) | (with_reducible refine q_blk_n ?_) | ((with_reducible apply s_skip hF); exact rfl; exact rfl; clear hF a; intro a hF) | ((with_reducible apply c_dec hF); exact rfl; all_goals intro hc; all_goals (try (exfalso; omega)))))
        refine ⟨z - 1, by omega, t + 1, by omega, by omega, fun j h1 h2 => ?_, hF.sub (by repeat (first | exact Sub.nil | refine Sub.cons rfl (by first | with_reducible rfl | (refine congrArg (Value.int _) ?_; omega) | exact rfl) ?_)), hM⟩
        by_cases e : j = t
        · rw [e, hadd]; simp [hold, hb]
        · exact hin j h1 (by omega)
      · (repeat' (first | (with_reducible refine w_seq ?_) | (with_reducible refine c_region ?_) | (with_reducible refine s_nil ?_) | (with_reducible refine q_then_n ?_) | ((with_reducible apply s_pure hF); exact rfl; exact rfl; exact rfl; (first | exact trivial | omega | exact ⟨Int.natCast_nonneg _, Int.ofNat_lt.2 (by assumption)⟩ | decide); clear hF a; intro a hF) | (with_reducible refine w_ret ?_) | (with_reducible refine q_then_r ?_) | (with_reducible refine q_blk_r ?_) | ((with_reducible apply s_skip hF); exact rfl; exact rfl; clear hF a; intro a hF) | ((with_reducible apply c_dec hF); exact rfl; all_goals intro hc; all_goals (try (exfalso; omega)))))
        (apply f_ret Try.results49 hF hM; (repeat (first | exact RL.nil | (apply RL.tmp; exact rfl) | (apply RL.cell; exact rfl; (repeat (first | exact List.mem_cons_self | refine List.mem_cons_of_mem _ ?_)); exact rfl))); refine Ret.mk hM.since ?_; dsimp only [resV])
        have hq : addAt false c s t = false := by rw [hadd]; simp [hold]; omega
        rw [addN_bad hs1 hsn ht1 htn hq]
    · obtain rfl : t = c.V.length + 1 := by omega
      (repeat' (first | (with_reducible refine w_seq ?_) | (with_reducible refine c_region ?_) | (with_reducible refine s_nil ?_) | (with_reducible refine q_then_n ?_) | ((with_reducible apply s_pure hF); exact rfl; exact rfl; exact rfl; (first | exact trivial | omega | exact ⟨Int.natCast_nonneg _, Int.ofNat_lt.2 (by assumption)⟩ | decide); clear hF a; intro a hF) | (with_reducible refine w_exit ?_) | (with_reducible refine q_then_x ?_) | (with_reducible refine q_blk_n ?_) | (with_reducible refine q_blk_x ?_) | ((with_reducible apply c_dec hF); exact rfl; all_goals intro hc; all_goals (try (exfalso; omega)))))
      refine ⟨m - 1, by omega, s + 1, by omega, by omega, fun i j h1 h2 h3 h4 => ?_, hF.sub (by repeat (first | exact Sub.nil | refine Sub.cons rfl (by first | with_reducible rfl | (refine congrArg (Value.int _) ?_; omega) | exact rfl) ?_)), hM⟩
      by_cases e : i = s
      · rw [e]; exact hin j h3 (by omega)
      · exact hall i j h1 (by omega) h3 h4
  · obtain rfl : s = c.V.length + 1 := by omega
    (repeat' (first | (with_reducible refine w_seq ?_) | (with_reducible refine c_region ?_) | (with_reducible refine s_nil ?_) | (with_reducible refine q_then_n ?_) | ((with_reducible apply s_pure hF); exact rfl; exact rfl; exact rfl; (first | exact trivial | omega | exact ⟨Int.natCast_nonneg _, Int.ofNat_lt.2 (by assumption)⟩ | decide); clear hF a; intro a hF) | (with_reducible refine w_exit ?_) | (with_reducible refine w_ret ?_) | (with_reducible refine q_then_x ?_) | (with_reducible refine q_blk_x ?_) | ((with_reducible apply c_dec hF); exact rfl; all_goals intro hc; all_goals (try (exfalso; omega)))))
    (apply f_ret Try.results49 hF hM; (repeat (first | exact RL.nil | (apply RL.tmp; exact rfl) | (apply RL.cell; exact rfl; (repeat (first | exact List.mem_cons_self | refine List.mem_cons_of_mem _ ?_)); exact rfl))); refine Ret.mk hM.since ?_; dsimp only [resV])
    rw [addN_of fun i j h1 h2 h3 h4 => hall i j h1 (by omega) h3 h4]
set_option maxHeartbeats 1000000 in
theorem refGentle_c (c : Cu) (ok : Ok c) (v : Value) (own : Nat → Prop) (W : World) (hl : ∀ b, own b → b < W.heap.size) (hv : Has own W (IsCu · v c)) :
    Calls Try.prog 50 ⟨[v]⟩ W (Ret W fun v _ => v = .bool (genB c)) := by
  obtain ⟨a0, c0, rfl, hV, l1, l2⟩ := isCu_open hv
  have hM := (Mm.start hl).known hV
  have k0 := ok.l0
  have k1 := ok.l1
  refine f_start Try.func50 rfl Try.ntmps50 rfl rfl ?_; intro a hF
  (repeat' (first | (with_reducible refine w_seq ?_) | (with_reducible refine c_region ?_) | (with_reducible refine s_nil ?_) | (with_reducible refine q_then_n ?_) | ((with_reducible apply s_pure hF); exact rfl; exact rfl; exact rfl; (first | exact trivial | omega | exact ⟨Int.natCast_nonneg _, Int.ofNat_lt.2 (by assumption)⟩ | decide); clear hF a; intro a hF) | ((with_reducible apply s_box hF hM); exact rfl; exact rfl; exact rfl; exact rfl; clear hF hM a; intro b w a hM hF) | (with_reducible refine w_block ?_)))
  generalize b = b1 at *
  refine c_loop (m := c.V.length) (fun m a w' => ∃ (k : Nat), m + k = c.V.length ∧ (∀ t : Nat, t < k → vl c (t + 1) - vl c t ≤ 4096) ∧
    Fr 20 [] [(3, .int .i64 k), (1, .pointer (some ⟨b1, 0, none⟩))] a ∧
    Mm own W [⟨b1, ⟨[.slice a0 c.V.length c0, .int .i64 c.S]⟩, 24⟩] [] [RdF (Value.int .i64) a0 c.V] w')
    ⟨0, by omega, (fun t h => absurd h (by omega)), hF.sub (by repeat (first | exact Sub.nil | refine Sub.cons rfl (by first | with_reducible rfl | (refine congrArg (Value.int _) ?_; omega) | exact rfl) ?_)), hM⟩ ?_
  clear hF hM a
  rintro m a w' ⟨k, hm, hall, hF, hM⟩
  by_cases hk : k < c.V.length
  · have e1 : atT c ((k : Int) + 1) = vl c (k + 1) := by rw [show (k : Int) + 1 = ((k + 1 : Nat) : Int) by omega]; exact at_vl ok (by omega)
    have e2 : atT c (k : Int) = vl c k := at_vl ok (by omega)
    have r1 := vl_rg ok (k := k + 1) (by omega)
    have r2 := vl_rg ok (k := k) (by omega)
    by_cases hb : vl c (k + 1) - vl c k ≤ 4096
    · (repeat' (first | (with_reducible refine w_seq ?_) | (with_reducible refine c_region ?_) | (with_reducible refine s_nil ?_) | (with_reducible refine q_then_n ?_) | ((with_reducible apply s_pure hF); exact rfl; exact rfl; exact rfl; (first | exact trivial | omega | exact ⟨Int.natCast_nonneg _, Int.ofNat_lt.2 (by assumption)⟩ | decide); clear hF a; intro a hF) | ((with_reducible apply s_load hF hM); exact rfl; exact rfl; (repeat (first | exact List.mem_cons_self | refine List.mem_cons_of_mem _ ?_)); exact rfl; exact rfl; clear hF a; intro a hF) | (with_reducible refine w_skip ?_) | (with_reducible refine w_block ?_) | ((with_reducible apply c_dec hF); exact rfl; all_goals intro hc; all_goals (try (exfalso; omega)))))
      refine c_draw (fun i => Nat.ble 9 i) hM ?_; clear hM; intro w hM
      (first | (apply t_load (i := 0) hF rfl rfl rfl; (repeat (first | exact List.mem_cons_self | refine List.mem_cons_of_mem _ ?_)); exact rfl; exact rfl; kernel_rfl; exact hM.sm; exact (fun _ _ _ h => h); clear hF a; intro a hF))
      (first | (refine t_pure (i := 1) hF rfl rfl rfl rfl (by kernel_rfl) hM.sm (fun _ _ _ h => h) ?_ ?_; (first | exact trivial | omega | decide); clear hF a; intro a hF))
      (first | (refine t_pure (i := 2) hF rfl rfl rfl rfl (by kernel_rfl) hM.sm (fun _ _ _ h => h) ?_ ?_; (first | exact trivial | omega | decide); clear hF a; intro a hF))
      (first | (apply t_load (i := 4) hF rfl rfl rfl; (repeat (first | exact List.mem_cons_self | refine List.mem_cons_of_mem _ ?_)); exact rfl; exact rfl; kernel_rfl; exact hM.sm; exact (fun _ _ _ h => h); clear hF a; intro a hF))
      (first | (refine t_pure (i := 5) hF rfl rfl rfl rfl (by kernel_rfl) hM.sm (fun _ _ _ h => h) ?_ ?_; (first | exact trivial | omega | decide); clear hF a; intro a hF))
      refine t_one (i := 3) hF rfl (by kernel_rfl) rfl ?_
      intro K hK
      (apply x_call hF hM; exact rfl; exact rfl; exact rfl; exact rfl; exact (refAt_c c ((k : Int) + 1) _ _ _ hM.lt (isCu_mk (hM.facts (RdF (Value.int .i64) a0 c.V) (by (repeat (first | exact List.mem_cons_self | refine List.mem_cons_of_mem _ ?_)))) l1 l2)); clear hF hM a; rintro v w a rfl - hM hF)
      rw [e1] at hF
      refine hK _ _ (fun _ => (hM.sm.sub (fun x hx => by repeat (first | exact hx | refine List.mem_cons_of_mem _ ?_)) (fun _ h => by repeat (first | exact h | refine List.mem_cons_of_mem _ ?_)))) ?_; clear hK
      refine t_one (i := 6) hF rfl (by kernel_rfl) rfl ?_
      intro K hK
      (apply x_call hF hM; exact rfl; exact rfl; exact rfl; exact rfl; exact (refAt_c c k _ _ _ hM.lt (isCu_mk (hM.facts (RdF (Value.int .i64) a0 c.V) (by (repeat (first | exact List.mem_cons_self | refine List.mem_cons_of_mem _ ?_)))) l1 l2)); clear hF hM a; rintro v w a rfl - hM hF)
      rw [e2] at hF
      refine hK _ _ (fun _ => (hM.sm.sub (fun x hx => by repeat (first | exact hx | refine List.mem_cons_of_mem _ ?_)) (fun _ h => by repeat (first | exact h | refine List.mem_cons_of_mem _ ?_)))) ?_; clear hK
      (first | (refine t_pure (i := 7) hF rfl rfl rfl rfl (by kernel_rfl) (hM.sm.sub (fun x hx => by repeat (first | exact hx | refine List.mem_cons_of_mem _ ?_)) (fun _ h => by repeat (first | exact h | refine List.mem_cons_of_mem _ ?_))) (fun _ _ _ h => h) ?_ ?_; (first | exact trivial | omega | decide); clear hF a; intro a hF))
      (first | (refine t_pure (i := 8) hF rfl rfl rfl rfl (by kernel_rfl) (hM.sm.sub (fun x hx => by repeat (first | exact hx | refine List.mem_cons_of_mem _ ?_)) (fun _ h => by repeat (first | exact h | refine List.mem_cons_of_mem _ ?_))) (fun _ _ _ h => h) ?_ ?_; (first | exact trivial | omega | decide); clear hF a; intro a hF))
      refine t_done (by kernel_rfl) ?_
      (repeat' (first | (with_reducible refine c_region ?_) | (with_reducible refine s_nil ?_) | (with_reducible refine q_then_n ?_) | ((with_reducible apply s_pure hF); exact rfl; exact rfl; exact rfl; (first | exact trivial | omega | exact ⟨Int.natCast_nonneg _, Int.ofNat_lt.2 (by assumption)⟩ | decide); clear hF a; intro a hF) | (with_reducible refine w_skip ?_) | (with_reducible refine q_blk_n ?_) | ((with_reducible apply c_dec hF); exact rfl; all_goals intro hc; all_goals (try (exfalso; omega)))))
      refine ⟨m - 1, by omega, k + 1, by omega, fun t ht => ?_, hF.sub (by repeat (first | exact Sub.nil | refine Sub.cons rfl (by first | with_reducible rfl | (refine congrArg (Value.int _) ?_; omega) | exact rfl) ?_)), hM⟩
      by_cases e : t = k
      · rw [e]; exact hb
      · exact hall t (by omega)
    · (repeat' (first | (with_reducible refine w_seq ?_) | (with_reducible refine c_region ?_) | (with_reducible refine s_nil ?_) | (with_reducible refine q_then_n ?_) | ((with_reducible apply s_pure hF); exact rfl; exact rfl; exact rfl; (first | exact trivial | omega | exact ⟨Int.natCast_nonneg _, Int.ofNat_lt.2 (by assumption)⟩ | decide); clear hF a; intro a hF) | ((with_reducible apply s_load hF hM); exact rfl; exact rfl; (repeat (first | exact List.mem_cons_self | refine List.mem_cons_of_mem _ ?_)); exact rfl; exact rfl; clear hF a; intro a hF) | (with_reducible refine w_skip ?_) | (with_reducible refine w_block ?_) | ((with_reducible apply c_dec hF); exact rfl; all_goals intro hc; all_goals (try (exfalso; omega)))))
      refine c_draw (fun i => Nat.ble 9 i) hM ?_; clear hM; intro w hM
      (first | (apply t_load (i := 0) hF rfl rfl rfl; (repeat (first | exact List.mem_cons_self | refine List.mem_cons_of_mem _ ?_)); exact rfl; exact rfl; kernel_rfl; exact hM.sm; exact (fun _ _ _ h => h); clear hF a; intro a hF))
      (first | (refine t_pure (i := 1) hF rfl rfl rfl rfl (by kernel_rfl) hM.sm (fun _ _ _ h => h) ?_ ?_; (first | exact trivial | omega | decide); clear hF a; intro a hF))
      (first | (refine t_pure (i := 2) hF rfl rfl rfl rfl (by kernel_rfl) hM.sm (fun _ _ _ h => h) ?_ ?_; (first | exact trivial | omega | decide); clear hF a; intro a hF))
      (first | (apply t_load (i := 4) hF rfl rfl rfl; (repeat (first | exact List.mem_cons_self | refine List.mem_cons_of_mem _ ?_)); exact rfl; exact rfl; kernel_rfl; exact hM.sm; exact (fun _ _ _ h => h); clear hF a; intro a hF))
      (first | (refine t_pure (i := 5) hF rfl rfl rfl rfl (by kernel_rfl) hM.sm (fun _ _ _ h => h) ?_ ?_; (first | exact trivial | omega | decide); clear hF a; intro a hF))
      refine t_one (i := 3) hF rfl (by kernel_rfl) rfl ?_
      intro K hK
      (apply x_call hF hM; exact rfl; exact rfl; exact rfl; exact rfl; exact (refAt_c c ((k : Int) + 1) _ _ _ hM.lt (isCu_mk (hM.facts (RdF (Value.int .i64) a0 c.V) (by (repeat (first | exact List.mem_cons_self | refine List.mem_cons_of_mem _ ?_)))) l1 l2)); clear hF hM a; rintro v w a rfl - hM hF)
      rw [e1] at hF
      refine hK _ _ (fun _ => (hM.sm.sub (fun x hx => by repeat (first | exact hx | refine List.mem_cons_of_mem _ ?_)) (fun _ h => by repeat (first | exact h | refine List.mem_cons_of_mem _ ?_)))) ?_; clear hK
      refine t_one (i := 6) hF rfl (by kernel_rfl) rfl ?_
      intro K hK
      (apply x_call hF hM; exact rfl; exact rfl; exact rfl; exact rfl; exact (refAt_c c k _ _ _ hM.lt (isCu_mk (hM.facts (RdF (Value.int .i64) a0 c.V) (by (repeat (first | exact List.mem_cons_self | refine List.mem_cons_of_mem _ ?_)))) l1 l2)); clear hF hM a; rintro v w a rfl - hM hF)
      rw [e2] at hF
      refine hK _ _ (fun _ => (hM.sm.sub (fun x hx => by repeat (first | exact hx | refine List.mem_cons_of_mem _ ?_)) (fun _ h => by repeat (first | exact h | refine List.mem_cons_of_mem _ ?_)))) ?_; clear hK
      (first | (refine t_pure (i := 7) hF rfl rfl rfl rfl (by kernel_rfl) (hM.sm.sub (fun x hx => by repeat (first | exact hx | refine List.mem_cons_of_mem _ ?_)) (fun _ h => by repeat (first | exact h | refine List.mem_cons_of_mem _ ?_))) (fun _ _ _ h => h) ?_ ?_; (first | exact trivial | omega | decide); clear hF a; intro a hF))
      (first | (refine t_pure (i := 8) hF rfl rfl rfl rfl (by kernel_rfl) (hM.sm.sub (fun x hx => by repeat (first | exact hx | refine List.mem_cons_of_mem _ ?_)) (fun _ h => by repeat (first | exact h | refine List.mem_cons_of_mem _ ?_))) (fun _ _ _ h => h) ?_ ?_; (first | exact trivial | omega | decide); clear hF a; intro a hF))
      refine t_done (by kernel_rfl) ?_
      (repeat' (first | (with_reducible refine w_seq ?_) | (with_reducible refine c_region ?_) | (with_reducible refine s_nil ?_) | (with_reducible refine q_then_n ?_) | ((with_reducible apply s_pure hF); exact rfl; exact rfl; exact rfl; (first | exact trivial | omega | exact ⟨Int.natCast_nonneg _, Int.ofNat_lt.2 (by assumption)⟩ | decide); clear hF a; intro a hF) | (with_reducible refine w_ret ?_) | (with_reducible refine q_then_r ?_) | (with_reducible refine q_blk_r ?_) | ((with_reducible apply c_dec hF); exact rfl; all_goals intro hc; all_goals (try (exfalso; omega)))))
      (apply f_ret Try.results50 hF hM; (repeat (first | exact RL.nil | (apply RL.tmp; exact rfl) | (apply RL.cell; exact rfl; (repeat (first | exact List.mem_cons_self | refine List.mem_cons_of_mem _ ?_)); exact rfl))); refine Ret.mk hM.since ?_; dsimp only [resV])
      have hq : genB c = false := by
        cases hg : genB c with
        | false => rfl
        | true => exact absurd ((genB_iff' ok).1 hg k hk) hb
      rw [hq]
  · (repeat' (first | (with_reducible refine w_seq ?_) | (with_reducible refine c_region ?_) | (with_reducible refine s_nil ?_) | (with_reducible refine q_then_n ?_) | ((with_reducible apply s_pure hF); exact rfl; exact rfl; exact rfl; (first | exact trivial | omega | exact ⟨Int.natCast_nonneg _, Int.ofNat_lt.2 (by assumption)⟩ | decide); clear hF a; intro a hF) | ((with_reducible apply s_load hF hM); exact rfl; exact rfl; (repeat (first | exact List.mem_cons_self | refine List.mem_cons_of_mem _ ?_)); exact rfl; exact rfl; clear hF a; intro a hF) | (with_reducible refine w_exit ?_) | (with_reducible refine w_ret ?_) | (with_reducible refine q_then_x ?_) | (with_reducible refine q_blk_x ?_) | ((with_reducible apply c_dec hF); exact rfl; all_goals intro hc; all_goals (try (exfalso; omega)))))
    (apply f_ret Try.results50 hF hM; (repeat (first | exact RL.nil | (apply RL.tmp; exact rfl) | (apply RL.cell; exact rfl; (repeat (first | exact List.mem_cons_self | refine List.mem_cons_of_mem _ ?_)); exact rfl))); refine Ret.mk hM.since ?_; dsimp only [resV])
    rw [(genB_iff' ok).2 fun t ht => hall t (by omega)]
set_option maxHeartbeats 1000000 in
theorem refTicks_c (c : Cu) (ok : Ok c) (x : Int) (hx : 0 ≤ x ∧ x ≤ 2000000000000000000) (v : Value) (own : Nat → Prop) (W : World) (hl : ∀ b, own b → b < W.heap.size) (hv : Has own W (IsCu · v c)) :
    Calls Try.prog 51 ⟨[v, .int .i64 x]⟩ W (Ret W fun v _ => v = .tuple #[.int .i64 (if never c x then 0 else rch c x), .bool (!never c x)]) := by
  obtain ⟨a0, c0, rfl, hV, l1, l2⟩ := isCu_open hv
  have hM := (Mm.start hl).known hV
  have k0 := ok.l0
  have k1 := ok.l1
  have ks := ok.s
  refine f_start Try.func51 rfl Try.ntmps51 rfl rfl ?_; intro a hF
  (repeat' (first | (with_reducible refine w_seq ?_) | (with_reducible refine c_region ?_) | (with_reducible refine s_nil ?_) | (with_reducible refine q_then_n ?_) | ((with_reducible apply s_pure hF); exact rfl; exact rfl; exact rfl; (first | exact trivial | omega | exact ⟨Int.natCast_nonneg _, Int.ofNat_lt.2 (by assumption)⟩ | decide); clear hF a; intro a hF) | ((with_reducible apply s_box hF hM); exact rfl; exact rfl; exact rfl; exact rfl; clear hF hM a; intro b w a hM hF) | (with_reducible refine w_block ?_)))
  generalize b = b2 at *
  refine c_loop (m := c.V.length) (fun m a w' => ∃ (k : Nat), m + k = c.V.length ∧ (∀ (j : Nat) y, j < k → c.V[j]? = some y → y < x) ∧
    Fr 47 [] [(6, .int .i64 k), (1, .int .i64 x), (2, .pointer (some ⟨b2, 0, none⟩))] a ∧
    Mm own W [⟨b2, ⟨[.slice a0 c.V.length c0, .int .i64 c.S]⟩, 24⟩] [] [RdF (Value.int .i64) a0 c.V] w')
    ⟨0, by omega, (fun j y h => absurd h (by omega)), hF.sub (by repeat (first | exact Sub.nil | refine Sub.cons rfl (by first | with_reducible rfl | (refine congrArg (Value.int _) ?_; omega) | exact rfl) ?_)), hM⟩ ?_
  clear hF hM a
  rintro m a w' ⟨k, hm, hall, hF, hM⟩
  by_cases hk : k < c.V.length
  · obtain ⟨y, hy⟩ := get_of_lt hk
    obtain ⟨ad, rfl⟩ := rd_some hM (by (repeat (first | exact List.mem_cons_self | refine List.mem_cons_of_mem _ ?_))) hy
    by_cases hb : x ≤ y
    · have hf : fpos c.V x = k := fpos_eq (by omega) hall (fun z hz => by rw [hy] at hz; injection hz with hz; omega)
      have hn : never c x = false := by unfold never; rw [decide_eq_false (by omega)]; rfl
      have hr : rch c x = k := by unfold rch; rw [if_pos (by omega), hf]
      (repeat' (first | (with_reducible refine w_seq ?_) | (with_reducible refine c_region ?_) | (with_reducible refine s_nil ?_) | (with_reducible refine q_then_n ?_) | ((with_reducible apply s_pure hF); exact rfl; exact rfl; exact rfl; (first | exact trivial | omega | exact ⟨Int.natCast_nonneg _, Int.ofNat_lt.2 (by assumption)⟩ | decide); clear hF a; intro a hF) | ((with_reducible apply s_load hF hM); exact rfl; exact rfl; (repeat (first | exact List.mem_cons_self | refine List.mem_cons_of_mem _ ?_)); exact rfl; exact rfl; clear hF a; intro a hF) | ((with_reducible apply s_loadF hF hM); exact rfl; exact rfl; (repeat (first | exact List.mem_cons_self | refine List.mem_cons_of_mem _ ?_)); exact rfl; exact rfl; (first | with_reducible assumption | (simp only [Int.toNat_natCast]; with_reducible assumption)); clear hF a; intro a hF) | (with_reducible refine w_skip ?_) | (with_reducible refine w_block ?_) | (with_reducible refine w_ret ?_) | (with_reducible refine q_then_r ?_) | (with_reducible refine q_blk_r ?_) | ((with_reducible apply c_dec hF); exact rfl; all_goals intro hc; all_goals (try (exfalso; omega)))))
      (apply f_ret Try.results51 hF hM; (repeat (first | exact RL.nil | (apply RL.tmp; exact rfl) | (apply RL.cell; exact rfl; (repeat (first | exact List.mem_cons_self | refine List.mem_cons_of_mem _ ?_)); exact rfl))); refine Ret.mk hM.since ?_; dsimp only [resV])
      rw [hn, hr]
      rfl
    · (repeat' (first | (with_reducible refine w_seq ?_) | (with_reducible refine c_region ?_) | (with_reducible refine s_nil ?_) | (with_reducible refine q_then_n ?_) | ((with_reducible apply s_pure hF); exact rfl; exact rfl; exact rfl; (first | exact trivial | omega | exact ⟨Int.natCast_nonneg _, Int.ofNat_lt.2 (by assumption)⟩ | decide); clear hF a; intro a hF) | ((with_reducible apply s_load hF hM); exact rfl; exact rfl; (repeat (first | exact List.mem_cons_self | refine List.mem_cons_of_mem _ ?_)); exact rfl; exact rfl; clear hF a; intro a hF) | ((with_reducible apply s_loadF hF hM); exact rfl; exact rfl; (repeat (first | exact List.mem_cons_self | refine List.mem_cons_of_mem _ ?_)); exact rfl; exact rfl; (first | with_reducible assumption | (simp only [Int.toNat_natCast]; with_reducible assumption)); clear hF a; intro a hF) | (with_reducible refine w_skip ?_) | (with_reducible refine w_block ?_) | (with_reducible refine q_blk_n ?_) | ((with_reducible apply c_dec hF); exact rfl; all_goals intro hc; all_goals (try (exfalso; omega)))))
      refine ⟨m - 1, by omega, k + 1, by omega, fun j z hj hz => ?_, hF.sub (by repeat (first | exact Sub.nil | refine Sub.cons rfl (by first | with_reducible rfl | (refine congrArg (Value.int _) ?_; omega) | exact rfl) ?_)), hM⟩
      by_cases e : j = k
      · rw [e, hy] at hz; injection hz with hz; omega
      · exact hall j z (by omega) hz
  · obtain rfl : k = c.V.length := by omega
    have hfe : fpos c.V x = c.V.length := fpos_eq (Nat.le_refl _) hall (fun z hz => by rw [List.getElem?_eq_none (Nat.le_refl _)] at hz; cases hz)
    by_cases hS : c.S = 0
    · have hn : never c x = true := by unfold never; rw [decide_eq_true hfe, decide_eq_true hS]; rfl
      (repeat' (first | (with_reducible refine w_seq ?_) | (with_reducible refine c_region ?_) | (with_reducible refine s_nil ?_) | (with_reducible refine q_then_n ?_) | ((with_reducible apply s_pure hF); exact rfl; exact rfl; exact rfl; (first | exact trivial | omega | exact ⟨Int.natCast_nonneg _, Int.ofNat_lt.2 (by assumption)⟩ | decide); clear hF a; intro a hF) | ((with_reducible apply s_load hF hM); exact rfl; exact rfl; (repeat (first | exact List.mem_cons_self | refine List.mem_cons_of_mem _ ?_)); exact rfl; exact rfl; clear hF a; intro a hF) | (with_reducible refine w_exit ?_) | (with_reducible refine w_ret ?_) | (with_reducible refine q_then_x ?_) | (with_reducible refine q_then_r ?_) | (with_reducible refine q_blk_x ?_) | ((with_reducible apply c_false2 hF); exact rfl; (first | with_reducible rfl | (refine congrArg Value.bool ?_; focus (simp; done)))) | ((with_reducible apply c_dec hF); exact rfl; all_goals intro hc; all_goals (try (exfalso; omega)))))
      (apply f_ret Try.results51 hF hM; (repeat (first | exact RL.nil | (apply RL.tmp; exact rfl) | (apply RL.cell; exact rfl; (repeat (first | exact List.mem_cons_self | refine List.mem_cons_of_mem _ ?_)); exact rfl))); refine Ret.mk hM.since ?_; dsimp only [resV])
      rw [hn]
      rfl
    · obtain ⟨y, hy⟩ := get_of_lt (l := c.V) (i := c.V.length - 1) (by omega)
      obtain ⟨ad, rfl⟩ := rd_some hM (by (repeat (first | exact List.mem_cons_self | refine List.mem_cons_of_mem _ ?_))) hy
      have hyb := ok.v y (List.mem_of_getElem? hy)
      have hyd : c.V.getD (c.V.length - 1) 0 = y := by rw [List.getD_eq_getElem?_getD, hy]; rfl
      have hlast : y < x := hall _ _ (by omega) hy
      rw [show c.V.length - 1 = ((c.V.length : Int) - 1).toNat by omega] at hy
      have hn : never c x = false := by unfold never; rw [decide_eq_false hS, Bool.and_false]
      have hr : rch c x = c.V.length - 1 + (x - y + c.S - 1) / c.S := by unfold rch; rw [if_neg (by omega), hyd]
      have hb := rch_bd ok hx.2 (fun e => absurd e hS)
      rw [hr] at hb
      have hq : 0 ≤ (x - y + c.S - 1) / c.S := Int.ediv_nonneg (by omega) (by omega)
      (repeat' (first | (with_reducible refine w_seq ?_) | (with_reducible refine c_region ?_) | (with_reducible refine s_nil ?_) | (with_reducible refine q_then_n ?_) | ((with_reducible apply s_pure hF); exact rfl; exact rfl; exact rfl; (first | exact trivial | omega | exact ⟨Int.natCast_nonneg _, Int.ofNat_lt.2 (by assumption)⟩ | decide); clear hF a; intro a hF) | ((with_reducible apply s_load hF hM); exact rfl; exact rfl; (repeat (first | exact List.mem_cons_self | refine List.mem_cons_of_mem _ ?_)); exact rfl; exact rfl; clear hF a; intro a hF) | (with_reducible refine w_skip ?_) | (with_reducible refine w_exit ?_) | (with_reducible refine q_then_x ?_) | (with_reducible refine q_blk_x ?_) | ((with_reducible apply c_false2 hF); exact rfl; (first | with_reducible rfl | (refine congrArg Value.bool ?_; focus (simp; done)))) | ((with_reducible apply c_dec hF); exact rfl; all_goals intro hc; all_goals (try (exfalso; omega)))))
      refine c_draw (fun i => Nat.ble 20 i) hM ?_; clear hM; intro w hM
      (first | (refine t_pure (i := 0) hF rfl rfl rfl rfl (by kernel_rfl) hM.sm (fun _ _ _ h => h) ?_ ?_; (first | exact trivial | omega | decide); clear hF a; intro a hF))
      (first | (refine t_pure (i := 1) hF rfl rfl rfl rfl (by kernel_rfl) hM.sm (fun _ _ _ h => h) ?_ ?_; (first | exact trivial | omega | decide); clear hF a; intro a hF))
      (first | (refine t_pure (i := 2) hF rfl rfl rfl rfl (by kernel_rfl) hM.sm (fun _ _ _ h => h) ?_ ?_; (first | exact trivial | omega | decide); clear hF a; intro a hF))
      (first | (refine t_pure (i := 3) hF rfl rfl rfl rfl (by kernel_rfl) hM.sm (fun _ _ _ h => h) ?_ ?_; (first | exact trivial | omega | decide); clear hF a; intro a hF))
      (first | (apply t_load (i := 4) hF rfl rfl rfl; (repeat (first | exact List.mem_cons_self | refine List.mem_cons_of_mem _ ?_)); exact rfl; exact rfl; kernel_rfl; exact hM.sm; exact (fun _ _ _ h => h); clear hF a; intro a hF))
      (first | (refine t_pure (i := 5) hF rfl rfl rfl rfl (by kernel_rfl) hM.sm (fun _ _ _ h => h) ?_ ?_; (first | exact trivial | omega | decide); clear hF a; intro a hF))
      (first | (refine t_pure (i := 6) hF rfl rfl rfl rfl (by kernel_rfl) hM.sm (fun _ _ _ h => h) ?_ ?_; (first | exact trivial | omega | decide); clear hF a; intro a hF))
      (first | (refine t_pure (i := 7) hF rfl rfl rfl rfl (by kernel_rfl) hM.sm (fun _ _ _ h => h) ?_ ?_; (first | exact trivial | omega | decide); clear hF a; intro a hF))
      (first | (apply t_loadF (i := 8) hF rfl rfl rfl; (repeat (first | exact List.mem_cons_self | refine List.mem_cons_of_mem _ ?_)); (first | with_reducible assumption | (simp only [Int.toNat_natCast]; with_reducible assumption)); exact rfl; exact rfl; kernel_rfl; exact hM.sm; exact (fun _ _ _ h => h); clear hF a; intro a hF))
      (first | (refine t_pure (i := 9) hF rfl rfl rfl rfl (by kernel_rfl) hM.sm (fun _ _ _ h => h) ?_ ?_; (first | exact trivial | omega | decide); clear hF a; intro a hF))
      (first | (refine t_pure (i := 10) hF rfl rfl rfl rfl (by kernel_rfl) hM.sm (fun _ _ _ h => h) ?_ ?_; (first | exact trivial | omega | decide); clear hF a; intro a hF))
      (first | (apply t_load (i := 11) hF rfl rfl rfl; (repeat (first | exact List.mem_cons_self | refine List.mem_cons_of_mem _ ?_)); exact rfl; exact rfl; kernel_rfl; exact hM.sm; exact (fun _ _ _ h => h); clear hF a; intro a hF))
      (first | (refine t_pure (i := 12) hF rfl rfl rfl rfl (by kernel_rfl) hM.sm (fun _ _ _ h => h) ?_ ?_; (first | exact trivial | omega | decide); clear hF a; intro a hF))
      (first | (refine t_pure (i := 13) hF rfl rfl rfl rfl (by kernel_rfl) hM.sm (fun _ _ _ h => h) ?_ ?_; (first | exact trivial | omega | decide); clear hF a; intro a hF))
      (first | (refine t_pure (i := 14) hF rfl rfl rfl rfl (by kernel_rfl) hM.sm (fun _ _ _ h => h) ?_ ?_; (first | exact trivial | omega | decide); clear hF a; intro a hF))
      (first | (apply t_load (i := 15) hF rfl rfl rfl; (repeat (first | exact List.mem_cons_self | refine List.mem_cons_of_mem _ ?_)); exact rfl; exact rfl; kernel_rfl; exact hM.sm; exact (fun _ _ _ h => h); clear hF a; intro a hF))
      (first | (refine t_pure (i := 16) hF rfl rfl rfl rfl (by kernel_rfl) hM.sm (fun _ _ _ h => h) ?_ ?_; (first | exact trivial | omega | decide); clear hF a; intro a hF))
      (first | (refine t_pure (i := 17) hF rfl rfl rfl rfl (by kernel_rfl) hM.sm (fun _ _ _ h => h) ?_ ?_; (first | exact trivial | omega | decide); clear hF a; intro a hF))
      (first | (refine t_pure (i := 18) hF rfl rfl rfl rfl (by kernel_rfl) hM.sm (fun _ _ _ h => h) ?_ ?_; (first | exact trivial | omega | decide); clear hF a; intro a hF))
      (first | (refine t_pure (i := 19) hF rfl rfl rfl rfl (by kernel_rfl) hM.sm (fun _ _ _ h => h) ?_ ?_; (first | exact trivial | omega | decide); clear hF a; intro a hF))
      refine t_done (by kernel_rfl) ?_
      (repeat' (first | (with_reducible refine q_then_n ?_) | (with_reducible refine w_ret ?_)))
      (apply f_ret Try.results51 hF hM; (repeat (first | exact RL.nil | (apply RL.tmp; exact rfl) | (apply RL.cell; exact rfl; (repeat (first | exact List.mem_cons_self | refine List.mem_cons_of_mem _ ?_)); exact rfl))); refine Ret.mk hM.since ?_; dsimp only [resV])
      rw [hn, hr]
      rfl
set_option maxHeartbeats 1000000 in
theorem refCopied_c (c : Cu) (h0 : 1 ≤ c.V.length) (hb : c.V.length ≤ 1000000) (v : Value) (own : Nat → Prop) (W : World) (hl : ∀ b, own b → b < W.heap.size) (hv : Has own W (IsCu · v c)) :
    Calls Try.prog 53 ⟨[v]⟩ W (Ret W fun v w' => ∃ a' c', v = .agg #[.slice a' c.V.length c', .int .i64 c.S] ∧ Has own w' (RdF (Value.int .i64) a' c.V) ∧ c.V.length ≤ c') := by
  obtain ⟨a0, c0, rfl, hV, l1, l2⟩ := isCu_open hv
  have hM := ((Mm.start hl).known hV).nilRow 3 1
  obtain ⟨y, hy⟩ := get_of_lt (l := c.V) (i := 0) (by omega)
  obtain ⟨ad, rfl⟩ := rd_some hM (by (repeat (first | exact List.mem_cons_self | refine List.mem_cons_of_mem _ ?_))) hy
  have hone : ∀ u ∈ c.V.map (Value.int .i64), u.oneCell' = true := by
    intro u hu
    obtain ⟨y, _, rfl⟩ := List.mem_map.1 hu
    rfl
  refine f_start Try.func53 rfl Try.ntmps53 rfl rfl ?_; intro a hF
  (repeat' (first | (with_reducible refine w_seq ?_) | (with_reducible refine c_region ?_) | (with_reducible refine s_nil ?_) | (with_reducible refine q_then_n ?_) | ((with_reducible apply s_pure hF); exact rfl; exact rfl; exact rfl; (first | exact trivial | omega | exact ⟨Int.natCast_nonneg _, Int.ofNat_lt.2 (by assumption)⟩ | decide); clear hF a; intro a hF) | ((with_reducible apply s_alloc hF hM); exact rfl; exact rfl; exact rfl; clear hF hM a; intro b w a hM hF) | ((with_reducible apply s_box hF hM); exact rfl; exact rfl; exact rfl; exact rfl; clear hF hM a; intro b w a hM hF)))
  refine c_draw (fun i => Nat.ble 7 i) hM ?_; clear hM; intro w hM
  (first | (refine t_pure (i := 0) hF rfl rfl rfl rfl (by kernel_rfl) hM.sm (fun _ _ _ h => h) ?_ ?_; (first | exact trivial | omega | decide); clear hF a; intro a hF))
  (first | (refine t_pure (i := 1) hF rfl rfl rfl rfl (by kernel_rfl) hM.sm (fun _ _ _ h => h) ?_ ?_; (first | exact trivial | omega | decide); clear hF a; intro a hF))
  (first | (apply t_load (i := 2) hF rfl rfl rfl; (repeat (first | exact List.mem_cons_self | refine List.mem_cons_of_mem _ ?_)); exact rfl; exact rfl; kernel_rfl; exact hM.sm; exact (fun _ _ _ h => h); clear hF a; intro a hF))
  (first | (refine t_pure (i := 4) hF rfl rfl rfl rfl (by kernel_rfl) hM.sm (fun _ _ _ h => h) ?_ ?_; (first | exact trivial | omega | decide); clear hF a; intro a hF))
  (first | (apply t_load (i := 5) hF rfl rfl rfl; (repeat (first | exact List.mem_cons_self | refine List.mem_cons_of_mem _ ?_)); exact rfl; exact rfl; kernel_rfl; exact hM.sm; exact (fun _ _ _ h => h); clear hF a; intro a hF))
  refine t_one (i := 3) hF rfl (by kernel_rfl) rfl ?_
  intro K hK
  (refine e_app (k := 0) (ys := c.V.map (Value.int .i64)) hF hM rfl rfl rfl .z (by simp) ((hM.fact (f := RdF (Value.int .i64) (some ad) c.V) (by (repeat (first | with_reducible exact List.mem_cons_self | refine List.mem_cons_of_mem _ ?_)))).cells) hone (by omega) ⟨by omega, by omega⟩ ?_; clear hM; intro gA cap w hM; dsimp only [List.set] at hM; rw [Nat.zero_add, List.nil_append] at hM; replace hF := hF.put (d := 7) rfl (.slice (some ⟨gA, 0, none⟩) c.V.length cap); rw [Nat.zero_add]; generalize a.put (some 7) _ = a at *)
  refine hK _ _ (fun _ => (hM.sm.sub (fun x hx => by repeat (first | exact hx | refine List.mem_cons_of_mem _ ?_)) (fun _ h => by repeat (first | exact h | refine List.mem_cons_of_mem _ ?_)))) ?_; clear hK
  (first | (refine t_pure (i := 6) hF rfl rfl rfl rfl (by kernel_rfl) (hM.sm.sub (fun x hx => by repeat (first | exact hx | refine List.mem_cons_of_mem _ ?_)) (fun _ h => by repeat (first | exact h | refine List.mem_cons_of_mem _ ?_))) (fun _ _ _ h => h) ?_ ?_; (first | exact trivial | omega | decide); clear hF a; intro a hF))
  refine t_one (i := 7) hF rfl (by kernel_rfl) rfl ?_
  intro K hK
  (apply x_store hF hM rfl rfl rfl; (repeat (first | exact Upd.z | apply Upd.s)); exact rfl; exact rfl; exact rfl; clear hF hM a; intro w a hM hF)
  refine hK _ _ (fun h => by cases h) ?_; clear hK
  refine t_done (by kernel_rfl) ?_
  (repeat' (first | (with_reducible refine q_then_n ?_) | (with_reducible refine w_ret ?_)))
  (apply f_end Try.results53 hF hM; (repeat (first | exact RL.nil | (apply RL.tmp; exact rfl) | (apply RL.cell; exact rfl; (repeat (first | exact List.mem_cons_self | refine List.mem_cons_of_mem _ ?_)); exact rfl))); refine Ret.mk hM.since ?_; dsimp only [resV])
  exact ⟨_, _, rfl, hM.rowFact List.mem_cons_self, row_capC hM (i := 0) rfl⟩
end Go.Proofs.Ytabfhoipclbeeaa


/- curve: the reference's Delay and Backlog; Same, Few. -/
namespace Go.Proofs.Ytabfhoipclbeeaa
open Go.RowKit Go.Shelf C55
/-- Whether two curves are the same. -/
theorem same_c (A B : Cu) (v u : Value) (own : Nat → Prop) (W : World) (hl : ∀ b, own b → b < W.heap.size) (hv : Has own W (IsCu · v A)) (hu : Has own W (IsCu · u B)) (hAB : A = B) :
    Calls Try.prog 54 ⟨[v, u]⟩ W (Ret W fun r _ => r = .bool true) := by
  subst hAB
  obtain ⟨a0, c0, rfl, hV, l1, l2⟩ := isCu_open hv
  obtain ⟨a1, c1, rfl, hU, m1, m2⟩ := isCu_open hu
  have hM := (((Mm.start hl).known hV).known hU)
  refine f_start Try.func54 rfl Try.ntmps54 rfl rfl ?_; intro a hF
  (repeat (first | (with_reducible refine w_seq ?_) | (with_reducible refine c_region ?_) | (with_reducible refine s_nil ?_) | (with_reducible refine q_then_n ?_) | ((with_reducible apply s_pure hF); exact rfl; exact rfl; exact rfl; (first | exact trivial | omega | exact ⟨Int.natCast_nonneg _, Int.ofNat_lt.2 (by assumption)⟩ | decide); clear hF a; intro a hF) | ((with_reducible apply s_load hF hM); exact rfl; exact rfl; (repeat (first | exact List.mem_cons_self | refine List.mem_cons_of_mem _ ?_)); exact rfl; exact rfl; clear hF a; intro a hF) | ((with_reducible apply s_box hF hM); exact rfl; exact rfl; exact rfl; exact rfl; clear hF hM a; intro b w a hM hF)))
  rename_i b2 _
  (repeat' (first | (with_reducible refine w_seq ?_) | (with_reducible refine c_region ?_) | (with_reducible refine s_nil ?_) | (with_reducible refine q_then_n ?_) | ((with_reducible apply s_pure hF); exact rfl; exact rfl; exact rfl; (first | exact trivial | omega | exact ⟨Int.natCast_nonneg _, Int.ofNat_lt.2 (by assumption)⟩ | decide); clear hF a; intro a hF) | ((with_reducible apply s_load hF hM); exact rfl; exact rfl; (repeat (first | exact List.mem_cons_self | refine List.mem_cons_of_mem _ ?_)); exact rfl; exact rfl; clear hF a; intro a hF) | (with_reducible refine w_skip ?_) | (with_reducible refine w_block ?_) | ((with_reducible apply c_false2 hF); exact rfl; (first | with_reducible rfl | (refine congrArg Value.bool ?_; focus (simp; done)))) | ((fail_if_success ((with_reducible refine g_known true hF ?_ ?_); focus exact rfl)); (fail_if_success ((with_reducible refine g_known false hF ?_ ?_); focus exact rfl)); (with_reducible apply g_dec hF); exact rfl; exact rfl; all_goals (clear hF; intro hc hF); all_goals (try (exfalso; omega)))))
  refine c_loop (m := A.V.length) (fun m a w' => ∃ (k : Nat), m + k = A.V.length ∧
    Fr _ [] [(5, .int .i64 k), (2, .pointer (some ⟨b2, 0, none⟩)), (3, .pointer (some ⟨b, 0, none⟩))] a ∧
    Mm own W [⟨b, ⟨[.slice a1 A.V.length c1, .int .i64 A.S]⟩, 24⟩, ⟨b2, ⟨[.slice a0 A.V.length c0, .int .i64 A.S]⟩, 24⟩] []
      [RdF (Value.int .i64) a1 A.V, RdF (Value.int .i64) a0 A.V] w') ⟨0, by omega, hF.sub (by repeat (first | exact Sub.nil | refine Sub.cons rfl (by first | with_reducible rfl | (refine congrArg (Value.int _) ?_; omega) | exact rfl) ?_)), hM⟩ ?_
  clear hF hM a
  rintro m a w' ⟨k, hk, hF, hM⟩
  by_cases hlt : k < A.V.length
  · obtain ⟨z, hz⟩ := get_of_lt hlt
    obtain ⟨ad, rfl⟩ := rd_some hM (a := a0) (by (repeat (first | exact List.mem_cons_self | refine List.mem_cons_of_mem _ ?_))) hz
    obtain ⟨ae, rfl⟩ := rd_some hM (a := a1) (by (repeat (first | exact List.mem_cons_self | refine List.mem_cons_of_mem _ ?_))) hz
    (repeat' (first | (with_reducible refine w_seq ?_) | (with_reducible refine c_region ?_) | (with_reducible refine s_nil ?_) | (with_reducible refine q_then_n ?_) | ((with_reducible apply s_pure hF); exact rfl; exact rfl; exact rfl; (first | exact trivial | omega | exact ⟨Int.natCast_nonneg _, Int.ofNat_lt.2 (by assumption)⟩ | decide); clear hF a; intro a hF) | ((with_reducible apply s_load hF hM); exact rfl; exact rfl; (repeat (first | exact List.mem_cons_self | refine List.mem_cons_of_mem _ ?_)); exact rfl; exact rfl; clear hF a; intro a hF) | (with_reducible refine w_skip ?_) | (with_reducible refine w_block ?_) | ((with_reducible apply c_dec hF); exact rfl; all_goals intro hc; all_goals (try (exfalso; omega)))))
    refine c_draw (fun i => Nat.ble 11 i) hM ?_; clear hM; intro w hM
    (first | (refine t_pure (i := 0) hF rfl rfl rfl rfl (by kernel_rfl) hM.sm (fun _ _ _ h => h) ?_ ?_; (first | exact trivial | omega | decide); clear hF a; intro a hF))
    (first | (apply t_load (i := 1) hF rfl rfl rfl; (repeat (first | exact List.mem_cons_self | refine List.mem_cons_of_mem _ ?_)); exact rfl; exact rfl; kernel_rfl; exact hM.sm; exact (fun _ _ _ h => h); clear hF a; intro a hF))
    (first | (refine t_pure (i := 2) hF rfl rfl rfl rfl (by kernel_rfl) hM.sm (fun _ _ _ h => h) ?_ ?_; (first | exact trivial | omega | decide); clear hF a; intro a hF))
    (first | (refine t_pure (i := 3) hF rfl rfl rfl rfl (by kernel_rfl) hM.sm (fun _ _ _ h => h) ?_ ?_; (first | exact trivial | omega | decide); clear hF a; intro a hF))
    (first | (apply t_loadF (i := 4) hF rfl rfl rfl; (repeat (first | exact List.mem_cons_self | refine List.mem_cons_of_mem _ ?_)); (first | with_reducible assumption | (simp only [Int.toNat_natCast]; with_reducible assumption)); exact rfl; exact rfl; kernel_rfl; exact hM.sm; exact (fun _ _ _ h => h); clear hF a; intro a hF))
    (first | (refine t_pure (i := 5) hF rfl rfl rfl rfl (by kernel_rfl) hM.sm (fun _ _ _ h => h) ?_ ?_; (first | exact trivial | omega | decide); clear hF a; intro a hF))
    (first | (apply t_load (i := 6) hF rfl rfl rfl; (repeat (first | exact List.mem_cons_self | refine List.mem_cons_of_mem _ ?_)); exact rfl; exact rfl; kernel_rfl; exact hM.sm; exact (fun _ _ _ h => h); clear hF a; intro a hF))
    (first | (refine t_pure (i := 7) hF rfl rfl rfl rfl (by kernel_rfl) hM.sm (fun _ _ _ h => h) ?_ ?_; (first | exact trivial | omega | decide); clear hF a; intro a hF))
    (first | (refine t_pure (i := 8) hF rfl rfl rfl rfl (by kernel_rfl) hM.sm (fun _ _ _ h => h) ?_ ?_; (first | exact trivial | omega | decide); clear hF a; intro a hF))
    (first | (apply t_loadF (i := 9) hF rfl rfl rfl; (repeat (first | exact List.mem_cons_self | refine List.mem_cons_of_mem _ ?_)); (first | with_reducible assumption | (simp only [Int.toNat_natCast]; with_reducible assumption)); exact rfl; exact rfl; kernel_rfl; exact hM.sm; exact (fun _ _ _ h => h); clear hF a; intro a hF))
    (first | (refine t_pure (i := 10) hF rfl rfl rfl rfl (by kernel_rfl) hM.sm (fun _ _ _ h => h) ?_ ?_; (first | exact trivial | omega | decide); clear hF a; intro a hF))
    refine t_done (by kernel_rfl) ?_
    (repeat' (first | (with_reducible refine c_region ?_) | (with_reducible refine s_nil ?_) | (with_reducible refine q_then_n ?_) | ((with_reducible apply s_pure hF); exact rfl; exact rfl; exact rfl; (first | exact trivial | omega | exact ⟨Int.natCast_nonneg _, Int.ofNat_lt.2 (by assumption)⟩ | decide); clear hF a; intro a hF) | (with_reducible refine w_skip ?_) | (with_reducible refine q_blk_n ?_) | ((with_reducible apply c_false2 hF); exact rfl; (first | with_reducible rfl | (refine congrArg Value.bool ?_; focus (simp; done))))))
    exact ⟨m - 1, by omega, k + 1, by omega, hF.sub (by repeat (first | exact Sub.nil | refine Sub.cons rfl (by first | with_reducible rfl | (refine congrArg (Value.int _) ?_; omega) | exact rfl) ?_)), hM⟩
  · obtain rfl : k = A.V.length := by omega
    (repeat' (first | (with_reducible refine w_seq ?_) | (with_reducible refine c_region ?_) | (with_reducible refine s_nil ?_) | (with_reducible refine q_then_n ?_) | ((with_reducible apply s_pure hF); exact rfl; exact rfl; exact rfl; (first | exact trivial | omega | exact ⟨Int.natCast_nonneg _, Int.ofNat_lt.2 (by assumption)⟩ | decide); clear hF a; intro a hF) | ((with_reducible apply s_load hF hM); exact rfl; exact rfl; (repeat (first | exact List.mem_cons_self | refine List.mem_cons_of_mem _ ?_)); exact rfl; exact rfl; clear hF a; intro a hF) | (with_reducible refine w_exit ?_) | (with_reducible refine w_ret ?_) | (with_reducible refine q_then_x ?_) | (with_reducible refine q_blk_x ?_) | ((with_reducible apply c_false2 hF); exact rfl; (first | with_reducible rfl | (refine congrArg Value.bool ?_; focus (simp; done))))))
    (apply f_ret Try.results54 hF hM; (repeat (first | exact RL.nil | (apply RL.tmp; exact rfl) | (apply RL.cell; exact rfl; (repeat (first | exact List.mem_cons_self | refine List.mem_cons_of_mem _ ?_)); exact rfl))); refine Ret.mk hM.since ?_; dsimp only [resV])
end Go.Proofs.Ytabfhoipclbeeaa


/- The reference's Make, Check, Same, Few, FewTrace. -/
namespace Go.Proofs.Ytabfhoipclbeeaa
open Go.RowKit Go.Shelf C55 K57
theorem chk_1 {c : Ce} (h : bndE c ≠ 0) : chkE c = bndE c := by unfold chkE; rw [if_pos h]
theorem chk_2 {c : Ce} (h : bndE c = 0) (h2 : bndV c = c.B) : chkE c = 0 := by unfold chkE; rw [if_neg (by omega), if_pos h2]
theorem chk_3 {c : Ce} (h : bndE c = 0) (h2 : bndV c ≠ c.B) : chkE c = 22 := by unfold chkE; rw [if_neg (by omega), if_neg h2]
set_option maxHeartbeats 4000000 in
theorem refMake_c (c : Ce) (v u : Value) (own : Nat → Prop) (W : World) (hl : ∀ b, own b → b < W.heap.size) (hv : Has own W (IsCu · v c.A)) (hu : Has own W (IsCu · u c.S)) :
    Calls Try.prog 17 ⟨[v, u, .int .i64 c.P, .int .i64 c.L, .int .i64 c.D]⟩ W (Ret W (MkR own c)) := by
  obtain ⟨a1, c1, rfl, hV, l1, m1⟩ := isCu_open hv
  obtain ⟨a2, c2, rfl, hU, l2, m2⟩ := isCu_open hu
  have hM := ((Mm.start hl).known hV).known hU
  refine f_start Try.func17 rfl Try.ntmps17 rfl rfl ?_; intro a hF
  by_cases hc1 : check c.A = 0
  case neg =>
    (repeat (first | (with_reducible refine w_seq ?_) | (with_reducible refine c_region ?_) | (with_reducible refine s_nil ?_) | (with_reducible refine q_then_n ?_) | ((with_reducible apply s_pure hF); exact rfl; exact rfl; exact rfl; (first | exact trivial | omega | exact ⟨Int.natCast_nonneg _, Int.ofNat_lt.2 (by assumption)⟩ | decide); clear hF a; intro a hF) | ((with_reducible apply s_load hF hM); exact rfl; exact rfl; (repeat (first | exact List.mem_cons_self | refine List.mem_cons_of_mem _ ?_)); exact rfl; exact rfl; clear hF a; intro a hF) | ((with_reducible apply s_alloc hF hM); exact rfl; exact rfl; exact rfl; clear hF hM a; intro b w a hM hF) | ((with_reducible apply s_box hF hM); exact rfl; exact rfl; exact rfl; exact rfl; clear hF hM a; intro b w a hM hF)))
    (((with_reducible apply s_call (f := 26) hF hM); exact rfl; exact rfl; exact rfl; exact rfl; exact rfl; exact (refCheck_c c.A _ _ _ hM.lt (isCu_mk (hM.facts (RdF (Value.int .i64) a1 c.A.V) (by (repeat (first | exact List.mem_cons_self | refine List.mem_cons_of_mem _ ?_)))) l1 m1)); clear hF hM a; rintro v w a rfl - hM hF))
    (repeat' (first | (with_reducible refine w_seq ?_) | (with_reducible refine c_region ?_) | (with_reducible refine s_nil ?_) | (with_reducible refine q_then_n ?_) | ((with_reducible apply s_pure hF); exact rfl; exact rfl; exact rfl; (first | exact trivial | omega | exact ⟨Int.natCast_nonneg _, Int.ofNat_lt.2 (by assumption)⟩ | decide); clear hF a; intro a hF) | ((with_reducible apply s_store hF hM); exact rfl; exact rfl; exact rfl; exact rfl; (repeat (first | exact Upd.z | apply Upd.s)); exact rfl; exact rfl; exact rfl; clear hM; intro w hM) | (with_reducible refine w_ret ?_) | (with_reducible refine q_then_r ?_) | ((with_reducible apply c_dec hF); exact rfl; all_goals intro hc; all_goals (try (exfalso; omega)))))
    (apply f_ret Try.results17 hF hM; (repeat (first | exact RL.nil | (apply RL.tmp; exact rfl) | (apply RL.cell; exact rfl; (repeat (first | exact List.mem_cons_self | refine List.mem_cons_of_mem _ ?_)); exact rfl))); refine Ret.mk hM.since ?_; dsimp only [resV])
    have hb := bndE_A hc1
    exact .inl ⟨by rw [hb]; exact hc1, by rw [hb]⟩
  have okA := check_ok.1 hc1
  by_cases hc2 : check c.S = 0
  case neg =>
    (repeat (first | (with_reducible refine w_seq ?_) | (with_reducible refine c_region ?_) | (with_reducible refine s_nil ?_) | (with_reducible refine q_then_n ?_) | ((with_reducible apply s_pure hF); exact rfl; exact rfl; exact rfl; (first | exact trivial | omega | exact ⟨Int.natCast_nonneg _, Int.ofNat_lt.2 (by assumption)⟩ | decide); clear hF a; intro a hF) | ((with_reducible apply s_load hF hM); exact rfl; exact rfl; (repeat (first | exact List.mem_cons_self | refine List.mem_cons_of_mem _ ?_)); exact rfl; exact rfl; clear hF a; intro a hF) | ((with_reducible apply s_alloc hF hM); exact rfl; exact rfl; exact rfl; clear hF hM a; intro b w a hM hF) | ((with_reducible apply s_box hF hM); exact rfl; exact rfl; exact rfl; exact rfl; clear hF hM a; intro b w a hM hF)))
    (((with_reducible apply s_call (f := 26) hF hM); exact rfl; exact rfl; exact rfl; exact rfl; exact rfl; exact (refCheck_c c.A _ _ _ hM.lt (isCu_mk (hM.facts (RdF (Value.int .i64) a1 c.A.V) (by (repeat (first | exact List.mem_cons_self | refine List.mem_cons_of_mem _ ?_)))) l1 m1)); clear hF hM a; rintro v w a rfl - hM hF))
    (repeat' (first | (with_reducible refine w_seq ?_) | (with_reducible refine c_region ?_) | (with_reducible refine s_nil ?_) | (with_reducible refine q_then_n ?_) | ((with_reducible apply s_pure hF); exact rfl; exact rfl; exact rfl; (first | exact trivial | omega | exact ⟨Int.natCast_nonneg _, Int.ofNat_lt.2 (by assumption)⟩ | decide); clear hF a; intro a hF) | ((with_reducible apply s_load hF hM); exact rfl; exact rfl; (repeat (first | exact List.mem_cons_self | refine List.mem_cons_of_mem _ ?_)); exact rfl; exact rfl; clear hF a; intro a hF) | (with_reducible refine w_skip ?_) | ((with_reducible apply c_dec hF); exact rfl; all_goals intro hc; all_goals (try (exfalso; omega)))))
    (((with_reducible apply s_call (f := 26) hF hM); exact rfl; exact rfl; exact rfl; exact rfl; exact rfl; exact (refCheck_c c.S _ _ _ hM.lt (isCu_mk (hM.facts (RdF (Value.int .i64) a2 c.S.V) (by (repeat (first | exact List.mem_cons_self | refine List.mem_cons_of_mem _ ?_)))) l2 m2)); clear hF hM a; rintro v w a rfl - hM hF))
    (repeat' (first | (with_reducible refine w_seq ?_) | (with_reducible refine c_region ?_) | (with_reducible refine s_nil ?_) | (with_reducible refine q_then_n ?_) | ((with_reducible apply s_pure hF); exact rfl; exact rfl; exact rfl; (first | exact trivial | omega | exact ⟨Int.natCast_nonneg _, Int.ofNat_lt.2 (by assumption)⟩ | decide); clear hF a; intro a hF) | ((with_reducible apply s_store hF hM); exact rfl; exact rfl; exact rfl; exact rfl; (repeat (first | exact Upd.z | apply Upd.s)); exact rfl; exact rfl; exact rfl; clear hM; intro w hM) | (with_reducible refine w_ret ?_) | (with_reducible refine q_then_r ?_) | ((with_reducible apply c_dec hF); exact rfl; all_goals intro hc; all_goals (try (exfalso; omega)))))
    (apply f_ret Try.results17 hF hM; (repeat (first | exact RL.nil | (apply RL.tmp; exact rfl) | (apply RL.cell; exact rfl; (repeat (first | exact List.mem_cons_self | refine List.mem_cons_of_mem _ ?_)); exact rfl))); refine Ret.mk hM.since ?_; dsimp only [resV])
    have hb := bndE_S hc1 hc2
    exact .inl ⟨by rw [hb]; exact hc2, by rw [hb]⟩
  have okS := check_ok.1 hc2
  have kA := okA.l0
  have kS := okS.l0
  obtain ⟨x0, hx0⟩ := get_of_lt (l := c.A.V) (i := 0) (by omega)
  obtain ⟨y0, hy0⟩ := get_of_lt (l := c.S.V) (i := 0) (by omega)
  have hxd : c.A.V.getD 0 0 = x0 := by rw [List.getD_eq_getElem?_getD, hx0]; rfl
  have hyd : c.S.V.getD 0 0 = y0 := by rw [List.getD_eq_getElem?_getD, hy0]; rfl
  obtain ⟨ad1, rfl⟩ := rd_some hM (a := a1) (by (repeat (first | exact List.mem_cons_self | refine List.mem_cons_of_mem _ ?_))) hx0
  obtain ⟨ad2, rfl⟩ := rd_some hM (a := a2) (by (repeat (first | exact List.mem_cons_self | refine List.mem_cons_of_mem _ ?_))) hy0
  have hx0' : c.A.V[(0 : Int).toNat]? = some x0 := hx0
  have hy0' : c.S.V[(0 : Int).toNat]? = some y0 := hy0
  have sA : addB true c.A = (decide (x0 = 0) && addN true c.A) := by rw [addB_eq, hxd]
  have sS : addB false c.S = (decide (y0 = 0) && addN false c.S) := by rw [addB_eq, hyd]
  by_cases z1 : x0 = 0
  case neg =>
    have h3 : (addB true c.A && addB false c.S) = false := by rw [sA, decide_eq_false z1]; rfl
    (repeat (first | (with_reducible refine w_seq ?_) | (with_reducible refine c_region ?_) | (with_reducible refine s_nil ?_) | (with_reducible refine q_then_n ?_) | ((with_reducible apply s_pure hF); exact rfl; exact rfl; exact rfl; (first | exact trivial | omega | exact ⟨Int.natCast_nonneg _, Int.ofNat_lt.2 (by assumption)⟩ | decide); clear hF a; intro a hF) | ((with_reducible apply s_load hF hM); exact rfl; exact rfl; (repeat (first | exact List.mem_cons_self | refine List.mem_cons_of_mem _ ?_)); exact rfl; exact rfl; clear hF a; intro a hF) | ((with_reducible apply s_alloc hF hM); exact rfl; exact rfl; exact rfl; clear hF hM a; intro b w a hM hF) | ((with_reducible apply s_box hF hM); exact rfl; exact rfl; exact rfl; exact rfl; clear hF hM a; intro b w a hM hF)))
    (((with_reducible apply s_call (f := 26) hF hM); exact rfl; exact rfl; exact rfl; exact rfl; exact rfl; exact (refCheck_c c.A _ _ _ hM.lt (isCu_mk (hM.facts (RdF (Value.int .i64) (some ad1) c.A.V) (by (repeat (first | exact List.mem_cons_self | refine List.mem_cons_of_mem _ ?_)))) l1 m1)); clear hF hM a; rintro v w a rfl - hM hF))
    (repeat' (first | (with_reducible refine w_seq ?_) | (with_reducible refine c_region ?_) | (with_reducible refine s_nil ?_) | (with_reducible refine q_then_n ?_) | ((with_reducible apply s_pure hF); exact rfl; exact rfl; exact rfl; (first | exact trivial | omega | exact ⟨Int.natCast_nonneg _, Int.ofNat_lt.2 (by assumption)⟩ | decide); clear hF a; intro a hF) | ((with_reducible apply s_load hF hM); exact rfl; exact rfl; (repeat (first | exact List.mem_cons_self | refine List.mem_cons_of_mem _ ?_)); exact rfl; exact rfl; clear hF a; intro a hF) | (with_reducible refine w_skip ?_) | ((with_reducible apply c_dec hF); exact rfl; all_goals intro hc; all_goals (try (exfalso; omega)))))
    (((with_reducible apply s_call (f := 26) hF hM); exact rfl; exact rfl; exact rfl; exact rfl; exact rfl; exact (refCheck_c c.S _ _ _ hM.lt (isCu_mk (hM.facts (RdF (Value.int .i64) (some ad2) c.S.V) (by (repeat (first | exact List.mem_cons_self | refine List.mem_cons_of_mem _ ?_)))) l2 m2)); clear hF hM a; rintro v w a rfl - hM hF))
    (repeat' (first | (with_reducible refine w_seq ?_) | (with_reducible refine c_region ?_) | (with_reducible refine s_nil ?_) | (with_reducible refine q_then_n ?_) | ((with_reducible apply s_pure hF); exact rfl; exact rfl; exact rfl; (first | exact trivial | omega | exact ⟨Int.natCast_nonneg _, Int.ofNat_lt.2 (by assumption)⟩ | decide); clear hF a; intro a hF) | ((with_reducible apply s_load hF hM); exact rfl; exact rfl; (repeat (first | exact List.mem_cons_self | refine List.mem_cons_of_mem _ ?_)); exact rfl; exact rfl; clear hF a; intro a hF) | ((with_reducible apply s_loadF hF hM); exact rfl; exact rfl; (repeat (first | exact List.mem_cons_self | refine List.mem_cons_of_mem _ ?_)); exact rfl; exact rfl; (first | with_reducible assumption | (simp only [Int.toNat_natCast]; with_reducible assumption)); clear hF a; intro a hF) | ((with_reducible apply s_store hF hM); exact rfl; exact rfl; exact rfl; exact rfl; (repeat (first | exact Upd.z | apply Upd.s)); exact rfl; exact rfl; exact rfl; clear hM; intro w hM) | (with_reducible refine w_skip ?_) | (with_reducible refine w_ret ?_) | (with_reducible refine q_then_r ?_) | ((with_reducible apply c_true2 hF); exact rfl; (first | with_reducible rfl | (refine congrArg Value.bool ?_; focus (simp; done)))) | ((with_reducible apply s_skip hF); exact rfl; exact rfl; clear hF a; intro a hF) | ((fail_if_success ((with_reducible refine g_known true hF ?_ ?_); focus exact rfl)); (fail_if_success ((with_reducible refine g_known false hF ?_ ?_); focus exact rfl)); (with_reducible apply g_dec hF); exact rfl; exact rfl; all_goals (clear hF; intro hc hF); all_goals (try (exfalso; omega))) | ((with_reducible apply c_dec hF); exact rfl; all_goals intro hc; all_goals (try (exfalso; omega)))))
    (apply f_ret Try.results17 hF hM; (repeat (first | exact RL.nil | (apply RL.tmp; exact rfl) | (apply RL.cell; exact rfl; (repeat (first | exact List.mem_cons_self | refine List.mem_cons_of_mem _ ?_)); exact rfl))); refine Ret.mk hM.since ?_; dsimp only [resV])
    have hb := bndE_3 hc1 hc2 h3
    exact .inl ⟨by rw [hb]; decide, by rw [hb]⟩
  by_cases z2 : y0 = 0
  case neg =>
    have h3 : (addB true c.A && addB false c.S) = false := by rw [sS, decide_eq_false z2, Bool.false_and, Bool.and_false]
    (repeat (first | (with_reducible refine w_seq ?_) | (with_reducible refine c_region ?_) | (with_reducible refine s_nil ?_) | (with_reducible refine q_then_n ?_) | ((with_reducible apply s_pure hF); exact rfl; exact rfl; exact rfl; (first | exact trivial | omega | exact ⟨Int.natCast_nonneg _, Int.ofNat_lt.2 (by assumption)⟩ | decide); clear hF a; intro a hF) | ((with_reducible apply s_load hF hM); exact rfl; exact rfl; (repeat (first | exact List.mem_cons_self | refine List.mem_cons_of_mem _ ?_)); exact rfl; exact rfl; clear hF a; intro a hF) | ((with_reducible apply s_alloc hF hM); exact rfl; exact rfl; exact rfl; clear hF hM a; intro b w a hM hF) | ((with_reducible apply s_box hF hM); exact rfl; exact rfl; exact rfl; exact rfl; clear hF hM a; intro b w a hM hF)))
    (((with_reducible apply s_call (f := 26) hF hM); exact rfl; exact rfl; exact rfl; exact rfl; exact rfl; exact (refCheck_c c.A _ _ _ hM.lt (isCu_mk (hM.facts (RdF (Value.int .i64) (some ad1) c.A.V) (by (repeat (first | exact List.mem_cons_self | refine List.mem_cons_of_mem _ ?_)))) l1 m1)); clear hF hM a; rintro v w a rfl - hM hF))
    (repeat' (first | (with_reducible refine w_seq ?_) | (with_reducible refine c_region ?_) | (with_reducible refine s_nil ?_) | (with_reducible refine q_then_n ?_) | ((with_reducible apply s_pure hF); exact rfl; exact rfl; exact rfl; (first | exact trivial | omega | exact ⟨Int.natCast_nonneg _, Int.ofNat_lt.2 (by assumption)⟩ | decide); clear hF a; intro a hF) | ((with_reducible apply s_load hF hM); exact rfl; exact rfl; (repeat (first | exact List.mem_cons_self | refine List.mem_cons_of_mem _ ?_)); exact rfl; exact rfl; clear hF a; intro a hF) | (with_reducible refine w_skip ?_) | ((with_reducible apply c_dec hF); exact rfl; all_goals intro hc; all_goals (try (exfalso; omega)))))
    (((with_reducible apply s_call (f := 26) hF hM); exact rfl; exact rfl; exact rfl; exact rfl; exact rfl; exact (refCheck_c c.S _ _ _ hM.lt (isCu_mk (hM.facts (RdF (Value.int .i64) (some ad2) c.S.V) (by (repeat (first | exact List.mem_cons_self | refine List.mem_cons_of_mem _ ?_)))) l2 m2)); clear hF hM a; rintro v w a rfl - hM hF))
    (repeat' (first | (with_reducible refine w_seq ?_) | (with_reducible refine c_region ?_) | (with_reducible refine s_nil ?_) | (with_reducible refine q_then_n ?_) | ((with_reducible apply s_pure hF); exact rfl; exact rfl; exact rfl; (first | exact trivial | omega | exact ⟨Int.natCast_nonneg _, Int.ofNat_lt.2 (by assumption)⟩ | decide); clear hF a; intro a hF) | ((with_reducible apply s_load hF hM); exact rfl; exact rfl; (repeat (first | exact List.mem_cons_self | refine List.mem_cons_of_mem _ ?_)); exact rfl; exact rfl; clear hF a; intro a hF) | ((with_reducible apply s_loadF hF hM); exact rfl; exact rfl; (repeat (first | exact List.mem_cons_self | refine List.mem_cons_of_mem _ ?_)); exact rfl; exact rfl; (first | with_reducible assumption | (simp only [Int.toNat_natCast]; with_reducible assumption)); clear hF a; intro a hF) | ((with_reducible apply s_store hF hM); exact rfl; exact rfl; exact rfl; exact rfl; (repeat (first | exact Upd.z | apply Upd.s)); exact rfl; exact rfl; exact rfl; clear hM; intro w hM) | (with_reducible refine w_skip ?_) | (with_reducible refine w_ret ?_) | (with_reducible refine q_then_r ?_) | ((with_reducible apply c_true2 hF); exact rfl; (first | with_reducible rfl | (refine congrArg Value.bool ?_; focus (simp; done)))) | ((with_reducible apply s_skip hF); exact rfl; exact rfl; clear hF a; intro a hF) | ((fail_if_success ((with_reducible refine g_known true hF ?_ ?_); focus exact rfl)); (fail_if_success ((with_reducible refine g_known false hF ?_ ?_); focus exact rfl)); (with_reducible apply g_dec hF); exact rfl; exact rfl; all_goals (clear hF; intro hc hF); all_goals (try (exfalso; omega))) | ((with_reducible apply c_dec hF); exact rfl; all_goals intro hc; all_goals (try (exfalso; omega)))))
    (apply f_ret Try.results17 hF hM; (repeat (first | exact RL.nil | (apply RL.tmp; exact rfl) | (apply RL.cell; exact rfl; (repeat (first | exact List.mem_cons_self | refine List.mem_cons_of_mem _ ?_)); exact rfl))); refine Ret.mk hM.since ?_; dsimp only [resV])
    have hb := bndE_3 hc1 hc2 h3
    exact .inl ⟨by rw [hb]; decide, by rw [hb]⟩
  cases hs1 : addN true c.A with
  | false =>
    have h3 : (addB true c.A && addB false c.S) = false := by rw [sA, hs1, Bool.and_false, Bool.false_and]
    (repeat (first | (with_reducible refine w_seq ?_) | (with_reducible refine c_region ?_) | (with_reducible refine s_nil ?_) | (with_reducible refine q_then_n ?_) | ((with_reducible apply s_pure hF); exact rfl; exact rfl; exact rfl; (first | exact trivial | omega | exact ⟨Int.natCast_nonneg _, Int.ofNat_lt.2 (by assumption)⟩ | decide); clear hF a; intro a hF) | ((with_reducible apply s_load hF hM); exact rfl; exact rfl; (repeat (first | exact List.mem_cons_self | refine List.mem_cons_of_mem _ ?_)); exact rfl; exact rfl; clear hF a; intro a hF) | ((with_reducible apply s_alloc hF hM); exact rfl; exact rfl; exact rfl; clear hF hM a; intro b w a hM hF) | ((with_reducible apply s_box hF hM); exact rfl; exact rfl; exact rfl; exact rfl; clear hF hM a; intro b w a hM hF)))
    (((with_reducible apply s_call (f := 26) hF hM); exact rfl; exact rfl; exact rfl; exact rfl; exact rfl; exact (refCheck_c c.A _ _ _ hM.lt (isCu_mk (hM.facts (RdF (Value.int .i64) (some ad1) c.A.V) (by (repeat (first | exact List.mem_cons_self | refine List.mem_cons_of_mem _ ?_)))) l1 m1)); clear hF hM a; rintro v w a rfl - hM hF))
    (repeat' (first | (with_reducible refine w_seq ?_) | (with_reducible refine c_region ?_) | (with_reducible refine s_nil ?_) | (with_reducible refine q_then_n ?_) | ((with_reducible apply s_pure hF); exact rfl; exact rfl; exact rfl; (first | exact trivial | omega | exact ⟨Int.natCast_nonneg _, Int.ofNat_lt.2 (by assumption)⟩ | decide); clear hF a; intro a hF) | ((with_reducible apply s_load hF hM); exact rfl; exact rfl; (repeat (first | exact List.mem_cons_self | refine List.mem_cons_of_mem _ ?_)); exact rfl; exact rfl; clear hF a; intro a hF) | (with_reducible refine w_skip ?_) | ((with_reducible apply c_dec hF); exact rfl; all_goals intro hc; all_goals (try (exfalso; omega)))))
    (((with_reducible apply s_call (f := 26) hF hM); exact rfl; exact rfl; exact rfl; exact rfl; exact rfl; exact (refCheck_c c.S _ _ _ hM.lt (isCu_mk (hM.facts (RdF (Value.int .i64) (some ad2) c.S.V) (by (repeat (first | exact List.mem_cons_self | refine List.mem_cons_of_mem _ ?_)))) l2 m2)); clear hF hM a; rintro v w a rfl - hM hF))
    (repeat' (first | (with_reducible refine w_seq ?_) | (with_reducible refine c_region ?_) | (with_reducible refine s_nil ?_) | (with_reducible refine q_then_n ?_) | ((with_reducible apply s_pure hF); exact rfl; exact rfl; exact rfl; (first | exact trivial | omega | exact ⟨Int.natCast_nonneg _, Int.ofNat_lt.2 (by assumption)⟩ | decide); clear hF a; intro a hF) | ((with_reducible apply s_load hF hM); exact rfl; exact rfl; (repeat (first | exact List.mem_cons_self | refine List.mem_cons_of_mem _ ?_)); exact rfl; exact rfl; clear hF a; intro a hF) | ((with_reducible apply s_loadF hF hM); exact rfl; exact rfl; (repeat (first | exact List.mem_cons_self | refine List.mem_cons_of_mem _ ?_)); exact rfl; exact rfl; (first | with_reducible assumption | (simp only [Int.toNat_natCast]; with_reducible assumption)); clear hF a; intro a hF) | (with_reducible refine w_skip ?_) | ((fail_if_success ((with_reducible refine g_known true hF ?_ ?_); focus exact rfl)); (fail_if_success ((with_reducible refine g_known false hF ?_ ?_); focus exact rfl)); (with_reducible apply g_dec hF); exact rfl; exact rfl; all_goals (clear hF; intro hc hF); all_goals (try (exfalso; omega))) | ((with_reducible apply c_dec hF); exact rfl; all_goals intro hc; all_goals (try (exfalso; omega)))))
    (((with_reducible apply s_call (f := 49) hF hM); exact rfl; exact rfl; exact rfl; exact rfl; exact rfl; exact (refAdd1_c c.A okA _ _ _ hM.lt (isCu_mk (hM.facts (RdF (Value.int .i64) (some ad1) c.A.V) (by (repeat (first | exact List.mem_cons_self | refine List.mem_cons_of_mem _ ?_)))) l1 m1)); clear hF hM a; rintro v w a rfl - hM hF))
    rw [hs1] at hF
    (repeat' (first | (with_reducible refine w_seq ?_) | (with_reducible refine c_region ?_) | (with_reducible refine s_nil ?_) | (with_reducible refine q_then_n ?_) | ((with_reducible apply s_pure hF); exact rfl; exact rfl; exact rfl; (first | exact trivial | omega | exact ⟨Int.natCast_nonneg _, Int.ofNat_lt.2 (by assumption)⟩ | decide); clear hF a; intro a hF) | ((with_reducible apply s_store hF hM); exact rfl; exact rfl; exact rfl; exact rfl; (repeat (first | exact Upd.z | apply Upd.s)); exact rfl; exact rfl; exact rfl; clear hM; intro w hM) | (with_reducible refine w_ret ?_) | (with_reducible refine q_then_r ?_) | ((with_reducible apply c_true2 hF); exact rfl; (first | with_reducible rfl | (refine congrArg Value.bool ?_; focus (simp; done)))) | ((with_reducible apply s_skip hF); exact rfl; exact rfl; clear hF a; intro a hF)))
    (apply f_ret Try.results17 hF hM; (repeat (first | exact RL.nil | (apply RL.tmp; exact rfl) | (apply RL.cell; exact rfl; (repeat (first | exact List.mem_cons_self | refine List.mem_cons_of_mem _ ?_)); exact rfl))); refine Ret.mk hM.since ?_; dsimp only [resV])
    have hb := bndE_3 hc1 hc2 h3
    exact .inl ⟨by rw [hb]; decide, by rw [hb]⟩
  | true =>
  (repeat (first | (with_reducible refine w_seq ?_) | (with_reducible refine c_region ?_) | (with_reducible refine s_nil ?_) | (with_reducible refine q_then_n ?_) | ((with_reducible apply s_pure hF); exact rfl; exact rfl; exact rfl; (first | exact trivial | omega | exact ⟨Int.natCast_nonneg _, Int.ofNat_lt.2 (by assumption)⟩ | decide); clear hF a; intro a hF) | ((with_reducible apply s_load hF hM); exact rfl; exact rfl; (repeat (first | exact List.mem_cons_self | refine List.mem_cons_of_mem _ ?_)); exact rfl; exact rfl; clear hF a; intro a hF) | ((with_reducible apply s_alloc hF hM); exact rfl; exact rfl; exact rfl; clear hF hM a; intro b w a hM hF) | ((with_reducible apply s_box hF hM); exact rfl; exact rfl; exact rfl; exact rfl; clear hF hM a; intro b w a hM hF)))
  (((with_reducible apply s_call (f := 26) hF hM); exact rfl; exact rfl; exact rfl; exact rfl; exact rfl; exact (refCheck_c c.A _ _ _ hM.lt (isCu_mk (hM.facts (RdF (Value.int .i64) (some ad1) c.A.V) (by (repeat (first | exact List.mem_cons_self | refine List.mem_cons_of_mem _ ?_)))) l1 m1)); clear hF hM a; rintro v w a rfl - hM hF))
  (repeat' (first | (with_reducible refine w_seq ?_) | (with_reducible refine c_region ?_) | (with_reducible refine s_nil ?_) | (with_reducible refine q_then_n ?_) | ((with_reducible apply s_pure hF); exact rfl; exact rfl; exact rfl; (first | exact trivial | omega | exact ⟨Int.natCast_nonneg _, Int.ofNat_lt.2 (by assumption)⟩ | decide); clear hF a; intro a hF) | ((with_reducible apply s_load hF hM); exact rfl; exact rfl; (repeat (first | exact List.mem_cons_self | refine List.mem_cons_of_mem _ ?_)); exact rfl; exact rfl; clear hF a; intro a hF) | (with_reducible refine w_skip ?_) | ((with_reducible apply c_dec hF); exact rfl; all_goals intro hc; all_goals (try (exfalso; omega)))))
  (((with_reducible apply s_call (f := 26) hF hM); exact rfl; exact rfl; exact rfl; exact rfl; exact rfl; exact (refCheck_c c.S _ _ _ hM.lt (isCu_mk (hM.facts (RdF (Value.int .i64) (some ad2) c.S.V) (by (repeat (first | exact List.mem_cons_self | refine List.mem_cons_of_mem _ ?_)))) l2 m2)); clear hF hM a; rintro v w a rfl - hM hF))
  (repeat' (first | (with_reducible refine w_seq ?_) | (with_reducible refine c_region ?_) | (with_reducible refine s_nil ?_) | (with_reducible refine q_then_n ?_) | ((with_reducible apply s_pure hF); exact rfl; exact rfl; exact rfl; (first | exact trivial | omega | exact ⟨Int.natCast_nonneg _, Int.ofNat_lt.2 (by assumption)⟩ | decide); clear hF a; intro a hF) | ((with_reducible apply s_load hF hM); exact rfl; exact rfl; (repeat (first | exact List.mem_cons_self | refine List.mem_cons_of_mem _ ?_)); exact rfl; exact rfl; clear hF a; intro a hF) | ((with_reducible apply s_loadF hF hM); exact rfl; exact rfl; (repeat (first | exact List.mem_cons_self | refine List.mem_cons_of_mem _ ?_)); exact rfl; exact rfl; (first | with_reducible assumption | (simp only [Int.toNat_natCast]; with_reducible assumption)); clear hF a; intro a hF) | (with_reducible refine w_skip ?_) | ((fail_if_success ((with_reducible refine g_known true hF ?_ ?_); focus exact rfl)); (fail_if_success ((with_reducible refine g_known false hF ?_ ?_); focus exact rfl)); (with_reducible apply g_dec hF); exact rfl; exact rfl; all_goals (clear hF; intro hc hF); all_goals (try (exfalso; omega))) | ((with_reducible apply c_dec hF); exact rfl; all_goals intro hc; all_goals (try (exfalso; omega)))))
  (((with_reducible apply s_call (f := 49) hF hM); exact rfl; exact rfl; exact rfl; exact rfl; exact rfl; exact (refAdd1_c c.A okA _ _ _ hM.lt (isCu_mk (hM.facts (RdF (Value.int .i64) (some ad1) c.A.V) (by (repeat (first | exact List.mem_cons_self | refine List.mem_cons_of_mem _ ?_)))) l1 m1)); clear hF hM a; rintro v w a rfl - hM hF))
  rw [hs1] at hF
  (repeat' (first | ((with_reducible apply s_pure hF); exact rfl; exact rfl; exact rfl; (first | exact trivial | omega | exact ⟨Int.natCast_nonneg _, Int.ofNat_lt.2 (by assumption)⟩ | decide); clear hF a; intro a hF) | ((with_reducible apply s_load hF hM); exact rfl; exact rfl; (repeat (first | exact List.mem_cons_self | refine List.mem_cons_of_mem _ ?_)); exact rfl; exact rfl; clear hF a; intro a hF)))
  (((with_reducible apply s_call (f := 49) hF hM); exact rfl; exact rfl; exact rfl; exact rfl; exact rfl; exact (refAdd2_c c.S okS _ _ _ hM.lt (isCu_mk (hM.facts (RdF (Value.int .i64) (some ad2) c.S.V) (by (repeat (first | exact List.mem_cons_self | refine List.mem_cons_of_mem _ ?_)))) l2 m2)); clear hF hM a; rintro v w a rfl - hM hF))
  cases hs2 : addN false c.S with
  | false =>
    have h3 : (addB true c.A && addB false c.S) = false := by rw [sS, hs2, Bool.and_false, Bool.and_false]
    rw [hs2] at hF
    (repeat' (first | (with_reducible refine w_seq ?_) | (with_reducible refine c_region ?_) | (with_reducible refine s_nil ?_) | (with_reducible refine q_then_n ?_) | ((with_reducible apply s_pure hF); exact rfl; exact rfl; exact rfl; (first | exact trivial | omega | exact ⟨Int.natCast_nonneg _, Int.ofNat_lt.2 (by assumption)⟩ | decide); clear hF a; intro a hF) | ((with_reducible apply s_store hF hM); exact rfl; exact rfl; exact rfl; exact rfl; (repeat (first | exact Upd.z | apply Upd.s)); exact rfl; exact rfl; exact rfl; clear hM; intro w hM) | (with_reducible refine w_ret ?_) | (with_reducible refine q_then_r ?_) | ((with_reducible apply c_true2 hF); exact rfl; (first | with_reducible rfl | (refine congrArg Value.bool ?_; focus (simp; done))))))
    (apply f_ret Try.results17 hF hM; (repeat (first | exact RL.nil | (apply RL.tmp; exact rfl) | (apply RL.cell; exact rfl; (repeat (first | exact List.mem_cons_self | refine List.mem_cons_of_mem _ ?_)); exact rfl))); refine Ret.mk hM.since ?_; dsimp only [resV])
    have hb := bndE_3 hc1 hc2 h3
    exact .inl ⟨by rw [hb]; decide, by rw [hb]⟩
  | true =>
  rw [hs2] at hF
  have h3 : (addB true c.A && addB false c.S) = true := by rw [sA, sS, hs1, hs2, decide_eq_true z1, decide_eq_true z2]; rfl
  (repeat' (first | (with_reducible refine w_seq ?_) | (with_reducible refine c_region ?_) | (with_reducible refine s_nil ?_) | (with_reducible refine q_then_n ?_) | ((with_reducible apply s_pure hF); exact rfl; exact rfl; exact rfl; (first | exact trivial | omega | exact ⟨Int.natCast_nonneg _, Int.ofNat_lt.2 (by assumption)⟩ | decide); clear hF a; intro a hF) | ((with_reducible apply s_load hF hM); exact rfl; exact rfl; (repeat (first | exact List.mem_cons_self | refine List.mem_cons_of_mem _ ?_)); exact rfl; exact rfl; clear hF a; intro a hF) | (with_reducible refine w_skip ?_) | ((with_reducible apply c_false2 hF); exact rfl; (first | with_reducible rfl | (refine congrArg Value.bool ?_; focus (simp; done))))))
  (((with_reducible apply s_call (f := 50) hF hM); exact rfl; exact rfl; exact rfl; exact rfl; exact rfl; exact (refGentle_c c.A okA _ _ _ hM.lt (isCu_mk (hM.facts (RdF (Value.int .i64) (some ad1) c.A.V) (by (repeat (first | exact List.mem_cons_self | refine List.mem_cons_of_mem _ ?_)))) l1 m1)); clear hF hM a; rintro v w a rfl - hM hF))
  cases hg1 : genB c.A with
  | false =>
    have h4 : (genB c.A && genB c.S && numB c) = false := by rw [hg1]; rfl
    rw [hg1] at hF
    (repeat' (first | (with_reducible refine w_seq ?_) | (with_reducible refine c_region ?_) | (with_reducible refine s_nil ?_) | (with_reducible refine q_then_n ?_) | ((with_reducible apply s_pure hF); exact rfl; exact rfl; exact rfl; (first | exact trivial | omega | exact ⟨Int.natCast_nonneg _, Int.ofNat_lt.2 (by assumption)⟩ | decide); clear hF a; intro a hF) | ((with_reducible apply s_store hF hM); exact rfl; exact rfl; exact rfl; exact rfl; (repeat (first | exact Upd.z | apply Upd.s)); exact rfl; exact rfl; exact rfl; clear hM; intro w hM) | (with_reducible refine w_ret ?_) | (with_reducible refine q_then_r ?_) | ((with_reducible apply c_true2 hF); exact rfl; (first | with_reducible rfl | (refine congrArg Value.bool ?_; focus (simp; done)))) | ((with_reducible apply s_skip hF); exact rfl; exact rfl; clear hF a; intro a hF)))
    all_goals (apply f_ret Try.results17 hF hM; (repeat (first | exact RL.nil | (apply RL.tmp; exact rfl) | (apply RL.cell; exact rfl; (repeat (first | exact List.mem_cons_self | refine List.mem_cons_of_mem _ ?_)); exact rfl))); refine Ret.mk hM.since ?_; dsimp only [resV])
    all_goals
      have hb := bndE_2 hc1 hc2 h3 h4
      exact .inl ⟨by rw [hb]; decide, by rw [hb]⟩
  | true =>
  rw [hg1] at hF
  (repeat' (first | ((with_reducible apply s_pure hF); exact rfl; exact rfl; exact rfl; (first | exact trivial | omega | exact ⟨Int.natCast_nonneg _, Int.ofNat_lt.2 (by assumption)⟩ | decide); clear hF a; intro a hF) | ((with_reducible apply s_load hF hM); exact rfl; exact rfl; (repeat (first | exact List.mem_cons_self | refine List.mem_cons_of_mem _ ?_)); exact rfl; exact rfl; clear hF a; intro a hF)))
  (((with_reducible apply s_call (f := 50) hF hM); exact rfl; exact rfl; exact rfl; exact rfl; exact rfl; exact (refGentle_c c.S okS _ _ _ hM.lt (isCu_mk (hM.facts (RdF (Value.int .i64) (some ad2) c.S.V) (by (repeat (first | exact List.mem_cons_self | refine List.mem_cons_of_mem _ ?_)))) l2 m2)); clear hF hM a; rintro v w a rfl - hM hF))
  cases hg2 : genB c.S with
  | false =>
    have h4 : (genB c.A && genB c.S && numB c) = false := by rw [hg2, Bool.and_false, Bool.false_and]
    rw [hg2] at hF
    (repeat' (first | (with_reducible refine w_seq ?_) | (with_reducible refine c_region ?_) | (with_reducible refine s_nil ?_) | (with_reducible refine q_then_n ?_) | ((with_reducible apply s_pure hF); exact rfl; exact rfl; exact rfl; (first | exact trivial | omega | exact ⟨Int.natCast_nonneg _, Int.ofNat_lt.2 (by assumption)⟩ | decide); clear hF a; intro a hF) | ((with_reducible apply s_store hF hM); exact rfl; exact rfl; exact rfl; exact rfl; (repeat (first | exact Upd.z | apply Upd.s)); exact rfl; exact rfl; exact rfl; clear hM; intro w hM) | (with_reducible refine w_ret ?_) | (with_reducible refine q_then_r ?_) | ((with_reducible apply c_true2 hF); exact rfl; (first | with_reducible rfl | (refine congrArg Value.bool ?_; focus (simp; done)))) | ((with_reducible apply s_skip hF); exact rfl; exact rfl; clear hF a; intro a hF)))
    all_goals (apply f_ret Try.results17 hF hM; (repeat (first | exact RL.nil | (apply RL.tmp; exact rfl) | (apply RL.cell; exact rfl; (repeat (first | exact List.mem_cons_self | refine List.mem_cons_of_mem _ ?_)); exact rfl))); refine Ret.mk hM.since ?_; dsimp only [resV])
    all_goals
      have hb := bndE_2 hc1 hc2 h3 h4
      exact .inl ⟨by rw [hb]; decide, by rw [hb]⟩
  | true =>
  rw [hg2] at hF
  by_cases hnum : 1 ≤ c.P ∧ c.P ≤ 4096 ∧ 0 ≤ c.L ∧ 0 ≤ c.D ∧ c.L ≤ 1073741824 ∧ c.D ≤ 1073741824
  case neg =>
    have h4 : (genB c.A && genB c.S && numB c) = false := by unfold numB; rw [decide_eq_false hnum, Bool.and_false]
    (repeat' (first | (with_reducible refine w_seq ?_) | (with_reducible refine c_region ?_) | (with_reducible refine s_nil ?_) | (with_reducible refine q_then_n ?_) | ((with_reducible apply s_pure hF); exact rfl; exact rfl; exact rfl; (first | exact trivial | omega | exact ⟨Int.natCast_nonneg _, Int.ofNat_lt.2 (by assumption)⟩ | decide); clear hF a; intro a hF) | ((with_reducible apply s_store hF hM); exact rfl; exact rfl; exact rfl; exact rfl; (repeat (first | exact Upd.z | apply Upd.s)); exact rfl; exact rfl; exact rfl; clear hM; intro w hM) | (with_reducible refine w_ret ?_) | (with_reducible refine q_then_r ?_) | ((with_reducible apply c_true2 hF); exact rfl; (first | with_reducible rfl | (refine congrArg Value.bool ?_; focus (simp; done)))) | ((with_reducible apply s_skip hF); exact rfl; exact rfl; clear hF a; intro a hF) | ((fail_if_success ((with_reducible refine g_known true hF ?_ ?_); focus exact rfl)); (fail_if_success ((with_reducible refine g_known false hF ?_ ?_); focus exact rfl)); (with_reducible apply g_dec hF); exact rfl; exact rfl; all_goals (clear hF; intro hc hF); all_goals (try (exfalso; omega))) | ((with_reducible apply c_dec hF); exact rfl; all_goals intro hc; all_goals (try (exfalso; omega)))))
    all_goals (apply f_ret Try.results17 hF hM; (repeat (first | exact RL.nil | (apply RL.tmp; exact rfl) | (apply RL.cell; exact rfl; (repeat (first | exact List.mem_cons_self | refine List.mem_cons_of_mem _ ?_)); exact rfl))); refine Ret.mk hM.since ?_; dsimp only [resV])
    all_goals
      have hb := bndE_2 hc1 hc2 h3 h4
      exact .inl ⟨by rw [hb]; decide, by rw [hb]⟩
  have h4 : (genB c.A && genB c.S && numB c) = true := by unfold numB; rw [decide_eq_true hnum, hg1, hg2]; rfl
  have hat := most_at hc1 ⟨hnum.1, hnum.2.1⟩
  have hmr := most_rg okA ⟨hnum.1, hnum.2.1⟩
  (repeat' (first | (with_reducible refine w_seq ?_) | (with_reducible refine s_nil ?_) | (with_reducible refine q_then_n ?_) | ((with_reducible apply s_pure hF); exact rfl; exact rfl; exact rfl; (first | exact trivial | omega | exact ⟨Int.natCast_nonneg _, Int.ofNat_lt.2 (by assumption)⟩ | decide); clear hF a; intro a hF) | (with_reducible refine w_skip ?_) | ((fail_if_success ((with_reducible refine g_known true hF ?_ ?_); focus exact rfl)); (fail_if_success ((with_reducible refine g_known false hF ?_ ?_); focus exact rfl)); (with_reducible apply g_dec hF); exact rfl; exact rfl; all_goals (clear hF; intro hc hF); all_goals (try (exfalso; omega))) | ((with_reducible apply c_dec hF); exact rfl; all_goals intro hc; all_goals (try (exfalso; omega)))))
  have htr : rch c.S (most c) = tr c := rfl
  cases hnv : never c.S (most c) with
  | true =>
    have h5 : late c = true := by unfold late; rw [hnv]; rfl
    refine c_draw (fun i => Nat.ble 10 i) hM ?_; clear hM; intro w hM
    (first | (apply t_load (i := 0) hF rfl rfl rfl; (repeat (first | exact List.mem_cons_self | refine List.mem_cons_of_mem _ ?_)); exact rfl; exact rfl; kernel_rfl; exact hM.sm; exact (fun _ _ _ h => h); clear hF a; intro a hF))
    (first | (apply t_load (i := 1) hF rfl rfl rfl; (repeat (first | exact List.mem_cons_self | refine List.mem_cons_of_mem _ ?_)); exact rfl; exact rfl; kernel_rfl; exact hM.sm; exact (fun _ _ _ h => h); clear hF a; intro a hF))
    (first | (refine t_pure (i := 2) hF rfl rfl rfl rfl (by kernel_rfl) hM.sm (fun _ _ _ h => h) ?_ ?_; (first | exact trivial | omega | decide); clear hF a; intro a hF))
    refine t_one (i := 3) hF rfl (by kernel_rfl) rfl ?_
    intro K hK
    (apply x_call hF hM; exact rfl; exact rfl; exact rfl; exact rfl; exact (refAt_c c.A c.P _ _ _ hM.lt (isCu_mk (hM.facts (RdF (Value.int .i64) (some ad1) c.A.V) (by (repeat (first | exact List.mem_cons_self | refine List.mem_cons_of_mem _ ?_)))) l1 m1)); clear hF hM a; rintro v w a rfl - hM hF)
    rw [hat] at hF
    refine hK _ _ (fun _ => (hM.sm.sub (fun x hx => by repeat (first | exact hx | refine List.mem_cons_of_mem _ ?_)) (fun _ h => by repeat (first | exact h | refine List.mem_cons_of_mem _ ?_)))) ?_; clear hK
    refine t_one (i := 4) hF rfl (by kernel_rfl) rfl ?_
    intro K hK
    (apply x_call hF hM; exact rfl; exact rfl; exact rfl; exact rfl; exact (refTicks_c c.S okS (most c) ⟨by omega, by omega⟩ _ _ _ hM.lt (isCu_mk (hM.facts (RdF (Value.int .i64) (some ad2) c.S.V) (by (repeat (first | exact List.mem_cons_self | refine List.mem_cons_of_mem _ ?_)))) l2 m2)); clear hF hM a; rintro v w a rfl - hM hF)
    simp only [hnv, if_true, Bool.not_true] at hF
    refine hK _ _ (fun _ => (hM.sm.sub (fun x hx => by repeat (first | exact hx | refine List.mem_cons_of_mem _ ?_)) (fun _ h => by repeat (first | exact h | refine List.mem_cons_of_mem _ ?_)))) ?_; clear hK
    (first | (refine t_pure (i := 5) hF rfl rfl rfl rfl (by kernel_rfl) (hM.sm.sub (fun x hx => by repeat (first | exact hx | refine List.mem_cons_of_mem _ ?_)) (fun _ h => by repeat (first | exact h | refine List.mem_cons_of_mem _ ?_))) (fun _ _ _ h => h) ?_ ?_; (first | exact trivial | omega | decide); clear hF a; intro a hF))
    (first | (refine t_pure (i := 6) hF rfl rfl rfl rfl (by kernel_rfl) (hM.sm.sub (fun x hx => by repeat (first | exact hx | refine List.mem_cons_of_mem _ ?_)) (fun _ h => by repeat (first | exact h | refine List.mem_cons_of_mem _ ?_))) (fun _ _ _ h => h) ?_ ?_; (first | exact trivial | omega | decide); clear hF a; intro a hF))
    (first | (refine t_pure (i := 7) hF rfl rfl rfl rfl (by kernel_rfl) (hM.sm.sub (fun x hx => by repeat (first | exact hx | refine List.mem_cons_of_mem _ ?_)) (fun _ h => by repeat (first | exact h | refine List.mem_cons_of_mem _ ?_))) (fun _ _ _ h => h) ?_ ?_; (first | exact trivial | omega | decide); clear hF a; intro a hF))
    (first | (refine t_pure (i := 8) hF rfl rfl rfl rfl (by kernel_rfl) (hM.sm.sub (fun x hx => by repeat (first | exact hx | refine List.mem_cons_of_mem _ ?_)) (fun _ h => by repeat (first | exact h | refine List.mem_cons_of_mem _ ?_))) (fun _ _ _ h => h) ?_ ?_; (first | exact trivial | omega | decide); clear hF a; intro a hF))
    (first | (refine t_pure (i := 9) hF rfl rfl rfl rfl (by kernel_rfl) (hM.sm.sub (fun x hx => by repeat (first | exact hx | refine List.mem_cons_of_mem _ ?_)) (fun _ h => by repeat (first | exact h | refine List.mem_cons_of_mem _ ?_))) (fun _ _ _ h => h) ?_ ?_; (first | exact trivial | omega | decide); clear hF a; intro a hF))
    refine t_done (by kernel_rfl) ?_
    (repeat' (first | (with_reducible refine w_seq ?_) | (with_reducible refine c_region ?_) | (with_reducible refine s_nil ?_) | (with_reducible refine q_then_n ?_) | ((with_reducible apply s_pure hF); exact rfl; exact rfl; exact rfl; (first | exact trivial | omega | exact ⟨Int.natCast_nonneg _, Int.ofNat_lt.2 (by assumption)⟩ | decide); clear hF a; intro a hF) | ((with_reducible apply s_store hF hM); exact rfl; exact rfl; exact rfl; exact rfl; (repeat (first | exact Upd.z | apply Upd.s)); exact rfl; exact rfl; exact rfl; clear hM; intro w hM) | (with_reducible refine w_ret ?_) | (with_reducible refine q_then_r ?_) | ((with_reducible apply c_true2 hF); exact rfl; (first | with_reducible rfl | (refine congrArg Value.bool ?_; focus (simp; done)))) | ((with_reducible apply s_skip hF); exact rfl; exact rfl; clear hF a; intro a hF)))
    (apply f_ret Try.results17 hF hM; (repeat (first | exact RL.nil | (apply RL.tmp; exact rfl) | (apply RL.cell; exact rfl; (repeat (first | exact List.mem_cons_self | refine List.mem_cons_of_mem _ ?_)); exact rfl))); refine Ret.mk hM.since ?_; dsimp only [resV])
    have hb := bndE_21 hc1 hc2 h3 h4 h5
    exact .inl ⟨by rw [hb]; decide, by rw [hb]⟩
  | false =>
  have htb : 0 ≤ tr c ∧ tr c ≤ 2000000001000000000 := (rch_bd okS (x := most c) (by omega) (fun e => by
    have := fpos_le c.S.V (most c)
    rcases Nat.lt_or_ge (fpos c.S.V (most c)) c.S.V.length with h | h
    · exact h
    · unfold never at hnv
      rw [decide_eq_true (by omega), decide_eq_true e] at hnv
      cases hnv))
  refine c_draw (fun i => Nat.ble 10 i) hM ?_; clear hM; intro w hM
  (first | (apply t_load (i := 0) hF rfl rfl rfl; (repeat (first | exact List.mem_cons_self | refine List.mem_cons_of_mem _ ?_)); exact rfl; exact rfl; kernel_rfl; exact hM.sm; exact (fun _ _ _ h => h); clear hF a; intro a hF))
  (first | (apply t_load (i := 1) hF rfl rfl rfl; (repeat (first | exact List.mem_cons_self | refine List.mem_cons_of_mem _ ?_)); exact rfl; exact rfl; kernel_rfl; exact hM.sm; exact (fun _ _ _ h => h); clear hF a; intro a hF))
  (first | (refine t_pure (i := 2) hF rfl rfl rfl rfl (by kernel_rfl) hM.sm (fun _ _ _ h => h) ?_ ?_; (first | exact trivial | omega | decide); clear hF a; intro a hF))
  refine t_one (i := 3) hF rfl (by kernel_rfl) rfl ?_
  intro K hK
  (apply x_call hF hM; exact rfl; exact rfl; exact rfl; exact rfl; exact (refAt_c c.A c.P _ _ _ hM.lt (isCu_mk (hM.facts (RdF (Value.int .i64) (some ad1) c.A.V) (by (repeat (first | exact List.mem_cons_self | refine List.mem_cons_of_mem _ ?_)))) l1 m1)); clear hF hM a; rintro v w a rfl - hM hF)
  rw [hat] at hF
  refine hK _ _ (fun _ => (hM.sm.sub (fun x hx => by repeat (first | exact hx | refine List.mem_cons_of_mem _ ?_)) (fun _ h => by repeat (first | exact h | refine List.mem_cons_of_mem _ ?_)))) ?_; clear hK
  refine t_one (i := 4) hF rfl (by kernel_rfl) rfl ?_
  intro K hK
  (apply x_call hF hM; exact rfl; exact rfl; exact rfl; exact rfl; exact (refTicks_c c.S okS (most c) ⟨by omega, by omega⟩ _ _ _ hM.lt (isCu_mk (hM.facts (RdF (Value.int .i64) (some ad2) c.S.V) (by (repeat (first | exact List.mem_cons_self | refine List.mem_cons_of_mem _ ?_)))) l2 m2)); clear hF hM a; rintro v w a rfl - hM hF)
  simp only [hnv, Bool.false_eq_true, if_false, Bool.not_false, htr] at hF
  refine hK _ _ (fun _ => (hM.sm.sub (fun x hx => by repeat (first | exact hx | refine List.mem_cons_of_mem _ ?_)) (fun _ h => by repeat (first | exact h | refine List.mem_cons_of_mem _ ?_)))) ?_; clear hK
  (first | (refine t_pure (i := 5) hF rfl rfl rfl rfl (by kernel_rfl) (hM.sm.sub (fun x hx => by repeat (first | exact hx | refine List.mem_cons_of_mem _ ?_)) (fun _ h => by repeat (first | exact h | refine List.mem_cons_of_mem _ ?_))) (fun _ _ _ h => h) ?_ ?_; (first | exact trivial | omega | decide); clear hF a; intro a hF))
  (first | (refine t_pure (i := 6) hF rfl rfl rfl rfl (by kernel_rfl) (hM.sm.sub (fun x hx => by repeat (first | exact hx | refine List.mem_cons_of_mem _ ?_)) (fun _ h => by repeat (first | exact h | refine List.mem_cons_of_mem _ ?_))) (fun _ _ _ h => h) ?_ ?_; (first | exact trivial | omega | decide); clear hF a; intro a hF))
  (first | (refine t_pure (i := 7) hF rfl rfl rfl rfl (by kernel_rfl) (hM.sm.sub (fun x hx => by repeat (first | exact hx | refine List.mem_cons_of_mem _ ?_)) (fun _ h => by repeat (first | exact h | refine List.mem_cons_of_mem _ ?_))) (fun _ _ _ h => h) ?_ ?_; (first | exact trivial | omega | decide); clear hF a; intro a hF))
  (first | (refine t_pure (i := 8) hF rfl rfl rfl rfl (by kernel_rfl) (hM.sm.sub (fun x hx => by repeat (first | exact hx | refine List.mem_cons_of_mem _ ?_)) (fun _ h => by repeat (first | exact h | refine List.mem_cons_of_mem _ ?_))) (fun _ _ _ h => h) ?_ ?_; (first | exact trivial | omega | decide); clear hF a; intro a hF))
  (first | (refine t_pure (i := 9) hF rfl rfl rfl rfl (by kernel_rfl) (hM.sm.sub (fun x hx => by repeat (first | exact hx | refine List.mem_cons_of_mem _ ?_)) (fun _ h => by repeat (first | exact h | refine List.mem_cons_of_mem _ ?_))) (fun _ _ _ h => h) ?_ ?_; (first | exact trivial | omega | decide); clear hF a; intro a hF))
  refine t_done (by kernel_rfl) ?_
  by_cases hle : tr c ≤ c.P
  case neg =>
    have h5 : late c = true := by unfold late; rw [hnv, decide_eq_true (by omega)]; rfl
    (repeat' (first | (with_reducible refine w_seq ?_) | (with_reducible refine c_region ?_) | (with_reducible refine s_nil ?_) | (with_reducible refine q_then_n ?_) | ((with_reducible apply s_pure hF); exact rfl; exact rfl; exact rfl; (first | exact trivial | omega | exact ⟨Int.natCast_nonneg _, Int.ofNat_lt.2 (by assumption)⟩ | decide); clear hF a; intro a hF) | ((with_reducible apply s_store hF hM); exact rfl; exact rfl; exact rfl; exact rfl; (repeat (first | exact Upd.z | apply Upd.s)); exact rfl; exact rfl; exact rfl; clear hM; intro w hM) | (with_reducible refine w_ret ?_) | (with_reducible refine q_then_r ?_) | ((with_reducible apply c_dec hF); exact rfl; all_goals intro hc; all_goals (try (exfalso; omega)))))
    (apply f_ret Try.results17 hF hM; (repeat (first | exact RL.nil | (apply RL.tmp; exact rfl) | (apply RL.cell; exact rfl; (repeat (first | exact List.mem_cons_self | refine List.mem_cons_of_mem _ ?_)); exact rfl))); refine Ret.mk hM.since ?_; dsimp only [resV])
    have hb := bndE_21 hc1 hc2 h3 h4 h5
    exact .inl ⟨by rw [hb]; decide, by rw [hb]⟩
  have h5 : late c = false := by unfold late; rw [hnv, decide_eq_false (by omega)]; rfl
  have hb := bndE_0 hc1 hc2 h3 h4 h5
  have hbA := okA.l1
  have hbS := okS.l1
  (repeat' (first | (with_reducible refine w_seq ?_) | (with_reducible refine c_region ?_) | (with_reducible refine s_nil ?_) | (with_reducible refine q_then_n ?_) | ((with_reducible apply s_pure hF); exact rfl; exact rfl; exact rfl; (first | exact trivial | omega | exact ⟨Int.natCast_nonneg _, Int.ofNat_lt.2 (by assumption)⟩ | decide); clear hF a; intro a hF) | (with_reducible refine w_skip ?_) | ((with_reducible apply c_dec hF); exact rfl; all_goals intro hc; all_goals (try (exfalso; omega)))))
  refine c_draw (fun i => Nat.ble 16 i) hM ?_; clear hM; intro w hM
  (first | (apply t_load (i := 0) hF rfl rfl rfl; (repeat (first | exact List.mem_cons_self | refine List.mem_cons_of_mem _ ?_)); exact rfl; exact rfl; kernel_rfl; exact hM.sm; exact (fun _ _ _ h => h); clear hF a; intro a hF))
  (first | (apply t_load (i := 2) hF rfl rfl rfl; (repeat (first | exact List.mem_cons_self | refine List.mem_cons_of_mem _ ?_)); exact rfl; exact rfl; kernel_rfl; exact hM.sm; exact (fun _ _ _ h => h); clear hF a; intro a hF))
  (first | (refine t_pure (i := 4) hF rfl rfl rfl rfl (by kernel_rfl) hM.sm (fun _ _ _ h => h) ?_ ?_; (first | exact trivial | omega | decide); clear hF a; intro a hF))
  (first | (refine t_pure (i := 5) hF rfl rfl rfl rfl (by kernel_rfl) hM.sm (fun _ _ _ h => h) ?_ ?_; (first | exact trivial | omega | decide); clear hF a; intro a hF))
  (first | (refine t_pure (i := 6) hF rfl rfl rfl rfl (by kernel_rfl) hM.sm (fun _ _ _ h => h) ?_ ?_; (first | exact trivial | omega | decide); clear hF a; intro a hF))
  (first | (refine t_pure (i := 7) hF rfl rfl rfl rfl (by kernel_rfl) hM.sm (fun _ _ _ h => h) ?_ ?_; (first | exact trivial | omega | decide); clear hF a; intro a hF))
  (first | (refine t_pure (i := 8) hF rfl rfl rfl rfl (by kernel_rfl) hM.sm (fun _ _ _ h => h) ?_ ?_; (first | exact trivial | omega | decide); clear hF a; intro a hF))
  (first | (refine t_pure (i := 9) hF rfl rfl rfl rfl (by kernel_rfl) hM.sm (fun _ _ _ h => h) ?_ ?_; (first | exact trivial | omega | decide); clear hF a; intro a hF))
  (first | (refine t_pure (i := 10) hF rfl rfl rfl rfl (by kernel_rfl) hM.sm (fun _ _ _ h => h) ?_ ?_; (first | exact trivial | omega | decide); clear hF a; intro a hF))
  (first | (refine t_pure (i := 11) hF rfl rfl rfl rfl (by kernel_rfl) hM.sm (fun _ _ _ h => h) ?_ ?_; (first | exact trivial | omega | decide); clear hF a; intro a hF))
  (first | (refine t_pure (i := 12) hF rfl rfl rfl rfl (by kernel_rfl) hM.sm (fun _ _ _ h => h) ?_ ?_; (first | exact trivial | omega | decide); clear hF a; intro a hF))
  (first | (refine t_pure (i := 13) hF rfl rfl rfl rfl (by kernel_rfl) hM.sm (fun _ _ _ h => h) ?_ ?_; (first | exact trivial | omega | decide); clear hF a; intro a hF))
  (first | (refine t_pure (i := 14) hF rfl rfl rfl rfl (by kernel_rfl) hM.sm (fun _ _ _ h => h) ?_ ?_; (first | exact trivial | omega | decide); clear hF a; intro a hF))
  refine t_one (i := 1) hF rfl (by kernel_rfl) rfl ?_
  intro K hK
  (apply x_call hF hM; exact rfl; exact rfl; exact rfl; exact rfl; exact (refCopied_c c.A kA (by omega) _ _ _ hM.lt (isCu_mk (hM.facts (RdF (Value.int .i64) (some ad1) c.A.V) (by (repeat (first | exact List.mem_cons_self | refine List.mem_cons_of_mem _ ?_)))) l1 m1)); clear hF hM a; rintro v w a ⟨a3, c3, rfl, h3', k3⟩ - hM hF)
  replace hM := hM.addFact h3'
  refine hK _ _ (fun _ => (hM.sm.sub (fun x hx => by repeat (first | exact hx | refine List.mem_cons_of_mem _ ?_)) (fun _ h => by repeat (first | exact h | refine List.mem_cons_of_mem _ ?_)))) ?_; clear hK
  refine t_one (i := 3) hF rfl (by kernel_rfl) rfl ?_
  intro K hK
  (apply x_call hF hM; exact rfl; exact rfl; exact rfl; exact rfl; exact (refCopied_c c.S kS (by omega) _ _ _ hM.lt (isCu_mk (hM.facts (RdF (Value.int .i64) (some ad2) c.S.V) (by (repeat (first | exact List.mem_cons_self | refine List.mem_cons_of_mem _ ?_)))) l2 m2)); clear hF hM a; rintro v w a ⟨a4, c4, rfl, h4', k4⟩ - hM hF)
  replace hM := hM.addFact h4'
  refine hK _ _ (fun _ => (hM.sm.sub (fun x hx => by repeat (first | exact hx | refine List.mem_cons_of_mem _ ?_)) (fun _ h => by repeat (first | exact h | refine List.mem_cons_of_mem _ ?_)))) ?_; clear hK
  (first | (refine t_pure (i := 15) hF rfl rfl rfl rfl (by kernel_rfl) (hM.sm.sub (fun x hx => by repeat (first | exact hx | refine List.mem_cons_of_mem _ ?_)) (fun _ h => by repeat (first | exact h | refine List.mem_cons_of_mem _ ?_))) (fun _ _ _ h => h) ?_ ?_; (first | exact trivial | omega | decide); clear hF a; intro a hF))
  refine t_one (i := 16) hF rfl (by kernel_rfl) rfl ?_
  intro K hK
  (apply x_store hF hM rfl rfl rfl; (repeat (first | exact Upd.z | apply Upd.s)); exact rfl; exact rfl; exact rfl; clear hF hM a; intro w a hM hF)
  refine hK _ _ (fun h => by cases h) ?_; clear hK
  refine t_one (i := 17) hF rfl (by kernel_rfl) rfl ?_
  intro K hK
  (first | (refine x_pure hF hM rfl rfl ?_ ?_; (first | exact trivial | omega | decide); clear hF a; intro a hF) | (apply x_load hF hM rfl; (repeat (first | exact List.mem_cons_self | refine List.mem_cons_of_mem _ ?_)); exact rfl; exact rfl; clear hF a; intro a hF))
  refine hK _ _ (fun h => by cases h) ?_; clear hK
  refine t_done (by kernel_rfl) ?_
  (repeat' (first | (with_reducible refine q_then_n ?_) | (with_reducible refine w_ret ?_)))
  (apply f_ret Try.results17 hF hM; (repeat (first | exact RL.nil | (apply RL.tmp; exact rfl) | (apply RL.cell; exact rfl; (repeat (first | exact List.mem_cons_self | refine List.mem_cons_of_mem _ ?_)); exact rfl))); refine Ret.mk hM.since ?_; dsimp only [resV])
  exact .inr ⟨hb, a3, c3, a4, c4, rfl, hM.factOut (f := RdF (Value.int .i64) a3 c.A.V) (by (repeat (first | exact List.mem_cons_self | refine List.mem_cons_of_mem _ ?_))), hM.factOut (f := RdF (Value.int .i64) a4 c.S.V) (by (repeat (first | exact List.mem_cons_self | refine List.mem_cons_of_mem _ ?_))), k3, k4⟩
end Go.Proofs.Ytabfhoipclbeeaa


/- The reference's Check, SameInts, Same, Few: what each call returns. -/
namespace Go.Proofs.Ytabfhoipclbeeaa
open Go.RowKit Go.Shelf

set_option maxHeartbeats 1000000 in
theorem refCheck_any (t : P56.Tr) (v : Value) (w : World) (ht : IsTr w v t) :
    Calls Try.prog 79 #[v] w fun e w' => e = .returned (.int .i64 (P56.check t)) ∧ Since w w' := by
  obtain ⟨a, a', c, c', rfl, hr, hr', hW, hC, -⟩ := ht
  go_enter Try.func79, Try.ntmps79
  go_wp2
  · go_ret; exact ⟨ret_int (P56.check_6 (by omega)), by (repeat (first | with_reducible exact Since.refl _ | with_reducible assumption | with_reducible refine Since.alloc ?_ _ | with_reducible refine Since.drew ?_ | with_reducible refine Since.drewN ?_ _ | (with_reducible refine Since.setCell ?_ ?_ _; rotate_left; (first | (dsimp only; omega) | (simp; done) | (simp; omega))) | with_reducible refine Since.trans ?_ (by with_reducible assumption)))⟩
  · go_ret; exact ⟨ret_int (P56.check_6 (by omega)), by (repeat (first | with_reducible exact Since.refl _ | with_reducible assumption | with_reducible refine Since.alloc ?_ _ | with_reducible refine Since.drew ?_ | with_reducible refine Since.drewN ?_ _ | (with_reducible refine Since.setCell ?_ ?_ _; rotate_left; (first | (dsimp only; omega) | (simp; done) | (simp; omega))) | with_reducible refine Since.trans ?_ (by with_reducible assumption)))⟩
  · go_ret; exact ⟨ret_int (P56.check_6 (by omega)), by (repeat (first | with_reducible exact Since.refl _ | with_reducible assumption | with_reducible refine Since.alloc ?_ _ | with_reducible refine Since.drew ?_ | with_reducible refine Since.drewN ?_ _ | (with_reducible refine Since.setCell ?_ ?_ _; rotate_left; (first | (dsimp only; omega) | (simp; done) | (simp; omega))) | with_reducible refine Since.trans ?_ (by with_reducible assumption)))⟩
  go_loop [3] (fun i => ∃ k : Nat, k ≤ t.W.length ∧ i = .int .i64 k ∧ Aside (∀ (j : Nat) y, j < k → t.W[j]? = some y → P56.bad y = false)) (fun i => t.W.length - (intOf i).toNat)
  case atStart => exact ⟨0, Nat.zero_le _, rfl, fun j y h => absurd h (Nat.not_lt_zero _)⟩
  case round =>
    obtain ⟨k, hk, rfl, A⟩ := hrel
    by_cases hlt : k < t.W.length
    · obtain ⟨x, hx⟩ := get_of_lt hlt
      obtain ⟨b, off, rfl, hb, hc⟩ := hr k x hx
      have HX := Lib.hid hx
      clear hx
      go_wp2
      · go_ret; exact ⟨ret_int (P56.check_2 (by omega) (.inl (P56.any_bad_of HX.out (by simp [P56.bad]; omega)))), by (repeat (first | with_reducible exact Since.refl _ | with_reducible assumption | with_reducible refine Since.alloc ?_ _ | with_reducible refine Since.drew ?_ | with_reducible refine Since.drewN ?_ _ | (with_reducible refine Since.setCell ?_ ?_ _; rotate_left; (first | (dsimp only; omega) | (simp; done) | (simp; omega))) | with_reducible refine Since.trans ?_ (by with_reducible assumption)))⟩
      · go_ret; exact ⟨ret_int (P56.check_2 (by omega) (.inl (P56.any_bad_of HX.out (by simp [P56.bad]; omega)))), by (repeat (first | with_reducible exact Since.refl _ | with_reducible assumption | with_reducible refine Since.alloc ?_ _ | with_reducible refine Since.drew ?_ | with_reducible refine Since.drewN ?_ _ | (with_reducible refine Since.setCell ?_ ?_ _; rotate_left; (first | (dsimp only; omega) | (simp; done) | (simp; omega))) | with_reducible refine Since.trans ?_ (by with_reducible assumption)))⟩
      · go_round
        case rel => exact ⟨k + 1, by omega, by go_num, (show Aside _ from P56.bad_upto A.out HX.out (by simp [P56.bad]; omega))⟩
        case measure => simp [intOf]; omega
    · have hkl : k = t.W.length := by omega
      have HW : Hid (t.W.any P56.bad = false) := P56.any_of_upto (by omega) A.out
      clear hr A
      go_wp2
      go_loop [4] (fun i => ∃ k : Nat, k ≤ t.C.length ∧ i = .int .i64 k ∧ Aside (∀ (j : Nat) y, j < k → t.C[j]? = some y → P56.bad y = false)) (fun i => t.C.length - (intOf i).toNat)
      case atStart => exact ⟨0, Nat.zero_le _, rfl, fun j y h => absurd h (Nat.not_lt_zero _)⟩
      case round =>
        obtain ⟨n, hn, rfl, A⟩ := hrel
        by_cases hlt : n < t.C.length
        · obtain ⟨x, hx⟩ := get_of_lt hlt
          obtain ⟨b, off, rfl, hb, hc⟩ := hr' n x hx
          have HX := Lib.hid hx
          clear hx
          go_wp2
          · go_ret; exact ⟨ret_int (P56.check_2 (by omega) (.inr (.inl (P56.any_bad_of HX.out (by simp [P56.bad]; omega))))), by (repeat (first | with_reducible exact Since.refl _ | with_reducible assumption | with_reducible refine Since.alloc ?_ _ | with_reducible refine Since.drew ?_ | with_reducible refine Since.drewN ?_ _ | (with_reducible refine Since.setCell ?_ ?_ _; rotate_left; (first | (dsimp only; omega) | (simp; done) | (simp; omega))) | with_reducible refine Since.trans ?_ (by with_reducible assumption)))⟩
          · go_ret; exact ⟨ret_int (P56.check_2 (by omega) (.inr (.inl (P56.any_bad_of HX.out (by simp [P56.bad]; omega))))), by (repeat (first | with_reducible exact Since.refl _ | with_reducible assumption | with_reducible refine Since.alloc ?_ _ | with_reducible refine Since.drew ?_ | with_reducible refine Since.drewN ?_ _ | (with_reducible refine Since.setCell ?_ ?_ _; rotate_left; (first | (dsimp only; omega) | (simp; done) | (simp; omega))) | with_reducible refine Since.trans ?_ (by with_reducible assumption)))⟩
          · go_round
            case rel => exact ⟨n + 1, by omega, by go_num, (show Aside _ from P56.bad_upto A.out HX.out (by simp [P56.bad]; omega))⟩
            case measure => simp [intOf]; omega
        · have hkl : n = t.C.length := by omega
          have HC : Hid (t.C.any P56.bad = false) := P56.any_of_upto (by omega) A.out
          clear hr' A
          go_wp2
          all_goals
            go_ret
            refine ⟨ret_int ?_, by (repeat (first | with_reducible exact Since.refl _ | with_reducible assumption | with_reducible refine Since.alloc ?_ _ | with_reducible refine Since.drew ?_ | with_reducible refine Since.drewN ?_ _ | (with_reducible refine Since.setCell ?_ ?_ _; rotate_left; (first | (dsimp only; omega) | (simp; done) | (simp; omega))) | with_reducible refine Since.trans ?_ (by with_reducible assumption)))⟩
            first
              | exact P56.check_2 (by omega) (by omega)
              | exact P56.check_0 (by omega) HW.out HC.out (by omega)

end Go.Proofs.Ytabfhoipclbeeaa


/- The reference's Check, Same, SameTrace, Few, FewTrace. -/
namespace Go.Proofs.Ytabfhoipclbeeaa
open Go.RowKit Go.Shelf C55 K57
theorem mkOk {f : FuncId} {args : Array Value} {W : World} {own : Nat → Prop} {c : Ce} (hb : bndE c = 0) (h : Calls Try.prog f args W (Ret W (MkR own c))) : Calls Try.prog f args W (Ret W fun v w' => ∃ a1 c1 a2 c2, v = .tuple #[.agg ⟨ceL { c with B := bndV c } a1 c1 a2 c2⟩, .int .i64 0] ∧ Has own w' (RdF (Value.int .i64) a1 c.A.V) ∧ Has own w' (RdF (Value.int .i64) a2 c.S.V) ∧ c.A.V.length ≤ c1 ∧ c.S.V.length ≤ c2) := by
  refine h.mono ?_
  rintro e w' ⟨v, rfl, hs, h | h⟩
  · exact absurd hb h.1
  · exact ⟨v, rfl, hs, h.2⟩
theorem mkErr {f : FuncId} {args : Array Value} {W : World} {own : Nat → Prop} {c : Ce} (hb : bndE c ≠ 0) (h : Calls Try.prog f args W (Ret W (MkR own c))) : Calls Try.prog f args W (Ret W fun v _ => v = .tuple #[.agg ⟨ceZ⟩, .int .i64 (bndE c)]) := by
  refine h.mono ?_
  rintro e w' ⟨v, rfl, hs, h | h⟩
  · exact ⟨v, rfl, hs, h.2⟩
  · exact absurd h.1 hb
section
variable (c : Ce) (a1 a2 : Option Addr) (c1 c2 : Nat) (l1 : c.A.V.length ≤ 9223372036854775807) (m1 : c.A.V.length ≤ c1) (l2 : c.S.V.length ≤ 9223372036854775807) (m2 : c.S.V.length ≤ c2) (own : Nat → Prop) (W : World) (hl : ∀ b, own b → b < W.heap.size) (hA : Has own W (RdF (Value.int .i64) a1 c.A.V)) (hS : Has own W (RdF (Value.int .i64) a2 c.S.V))
include l1 m1 l2 m2 hl hA hS
set_option maxHeartbeats 1000000 in
theorem refCheck57_c : Calls Try.prog 20 ⟨[.agg ⟨ceL c a1 c1 a2 c2⟩]⟩ W (Ret W fun v _ => v = .int .i64 (chkE c)) := by
  have hM := ((Mm.start hl).known hA).known hS
  refine f_start Try.func20 rfl Try.ntmps20 rfl rfl ?_; intro a hF
  by_cases hb : bndE c = 0
  case neg =>
    rw [chk_1 hb]
    (repeat' (first | (with_reducible refine w_seq ?_) | (with_reducible refine c_region ?_) | (with_reducible refine s_nil ?_) | ((with_reducible apply s_call (f := 17) hF hM); exact rfl; exact rfl; exact rfl; exact rfl; exact rfl; exact (mkErr hb (refMake_c c _ _ _ _ hM.lt (isCu_mk (hM.facts (RdF (Value.int .i64) a1 c.A.V) (by (repeat (first | exact List.mem_cons_self | refine List.mem_cons_of_mem _ ?_)))) l1 m1) (isCu_mk (hM.facts (RdF (Value.int .i64) a2 c.S.V) (by (repeat (first | exact List.mem_cons_self | refine List.mem_cons_of_mem _ ?_)))) l2 m2))); clear hF hM a; rintro v w a rfl - hM hF) | (with_reducible refine q_then_n ?_) | ((with_reducible apply s_pure hF); exact rfl; exact rfl; exact rfl; (first | exact trivial | omega | exact ⟨Int.natCast_nonneg _, Int.ofNat_lt.2 (by assumption)⟩ | decide); clear hF a; intro a hF) | ((with_reducible apply s_load hF hM); exact rfl; exact rfl; (repeat (first | exact List.mem_cons_self | refine List.mem_cons_of_mem _ ?_)); exact rfl; exact rfl; clear hF a; intro a hF) | ((with_reducible apply s_store hF hM); exact rfl; exact rfl; exact rfl; exact rfl; (repeat (first | exact Upd.z | apply Upd.s)); exact rfl; exact rfl; exact rfl; clear hM; intro w hM) | ((with_reducible apply s_alloc hF hM); exact rfl; exact rfl; exact rfl; clear hF hM a; intro b w a hM hF) | ((with_reducible apply s_box hF hM); exact rfl; exact rfl; exact rfl; exact rfl; clear hF hM a; intro b w a hM hF) | (with_reducible refine w_ret ?_) | (with_reducible refine q_then_r ?_) | ((with_reducible apply c_dec hF); exact rfl; all_goals intro hc; all_goals (try (exfalso; omega)))))
    (apply f_ret Try.results20 hF hM; (repeat (first | exact RL.nil | (apply RL.tmp; exact rfl) | (apply RL.cell; exact rfl; (repeat (first | exact List.mem_cons_self | refine List.mem_cons_of_mem _ ?_)); exact rfl))); refine Ret.mk hM.since ?_; dsimp only [resV])
  by_cases hB : bndV c = c.B
  · rw [chk_2 hb hB]
    (repeat' (first | (with_reducible refine w_seq ?_) | (with_reducible refine c_region ?_) | (with_reducible refine s_nil ?_) | ((with_reducible apply s_call (f := 17) hF hM); exact rfl; exact rfl; exact rfl; exact rfl; exact rfl; exact (mkOk hb (refMake_c c _ _ _ _ hM.lt (isCu_mk (hM.facts (RdF (Value.int .i64) a1 c.A.V) (by (repeat (first | exact List.mem_cons_self | refine List.mem_cons_of_mem _ ?_)))) l1 m1) (isCu_mk (hM.facts (RdF (Value.int .i64) a2 c.S.V) (by (repeat (first | exact List.mem_cons_self | refine List.mem_cons_of_mem _ ?_)))) l2 m2))); clear hF hM a; rintro v w a ⟨a3, c3, a4, c4, rfl, h3, h4, k3, k4⟩ - hM hF) | (with_reducible refine q_then_n ?_) | ((with_reducible apply s_pure hF); exact rfl; exact rfl; exact rfl; (first | exact trivial | omega | exact ⟨Int.natCast_nonneg _, Int.ofNat_lt.2 (by assumption)⟩ | decide); clear hF a; intro a hF) | ((with_reducible apply s_load hF hM); exact rfl; exact rfl; (repeat (first | exact List.mem_cons_self | refine List.mem_cons_of_mem _ ?_)); exact rfl; exact rfl; clear hF a; intro a hF) | ((with_reducible apply s_store hF hM); exact rfl; exact rfl; exact rfl; exact rfl; (repeat (first | exact Upd.z | apply Upd.s)); exact rfl; exact rfl; exact rfl; clear hM; intro w hM) | ((with_reducible apply s_alloc hF hM); exact rfl; exact rfl; exact rfl; clear hF hM a; intro b w a hM hF) | ((with_reducible apply s_box hF hM); exact rfl; exact rfl; exact rfl; exact rfl; clear hF hM a; intro b w a hM hF) | (with_reducible refine w_skip ?_) | (with_reducible refine w_ret ?_) | (with_reducible refine q_then_r ?_) | ((with_reducible apply c_false2 hF); exact rfl; (first | with_reducible rfl | (refine congrArg Value.bool ?_; focus (simp; done)))) | ((with_reducible apply c_dec hF); exact rfl; all_goals intro hc; all_goals (try (exfalso; omega)))))
    all_goals first | (exfalso; first | exact hc hB | exact hB hc) | (apply f_ret Try.results20 hF hM; (repeat (first | exact RL.nil | (apply RL.tmp; exact rfl) | (apply RL.cell; exact rfl; (repeat (first | exact List.mem_cons_self | refine List.mem_cons_of_mem _ ?_)); exact rfl))); refine Ret.mk hM.since ?_; dsimp only [resV])
  · rw [chk_3 hb hB]
    (repeat' (first | (with_reducible refine w_seq ?_) | (with_reducible refine c_region ?_) | (with_reducible refine s_nil ?_) | ((with_reducible apply s_call (f := 17) hF hM); exact rfl; exact rfl; exact rfl; exact rfl; exact rfl; exact (mkOk hb (refMake_c c _ _ _ _ hM.lt (isCu_mk (hM.facts (RdF (Value.int .i64) a1 c.A.V) (by (repeat (first | exact List.mem_cons_self | refine List.mem_cons_of_mem _ ?_)))) l1 m1) (isCu_mk (hM.facts (RdF (Value.int .i64) a2 c.S.V) (by (repeat (first | exact List.mem_cons_self | refine List.mem_cons_of_mem _ ?_)))) l2 m2))); clear hF hM a; rintro v w a ⟨a3, c3, a4, c4, rfl, h3, h4, k3, k4⟩ - hM hF) | (with_reducible refine q_then_n ?_) | ((with_reducible apply s_pure hF); exact rfl; exact rfl; exact rfl; (first | exact trivial | omega | exact ⟨Int.natCast_nonneg _, Int.ofNat_lt.2 (by assumption)⟩ | decide); clear hF a; intro a hF) | ((with_reducible apply s_load hF hM); exact rfl; exact rfl; (repeat (first | exact List.mem_cons_self | refine List.mem_cons_of_mem _ ?_)); exact rfl; exact rfl; clear hF a; intro a hF) | ((with_reducible apply s_store hF hM); exact rfl; exact rfl; exact rfl; exact rfl; (repeat (first | exact Upd.z | apply Upd.s)); exact rfl; exact rfl; exact rfl; clear hM; intro w hM) | ((with_reducible apply s_alloc hF hM); exact rfl; exact rfl; exact rfl; clear hF hM a; intro b w a hM hF) | ((with_reducible apply s_box hF hM); exact rfl; exact rfl; exact rfl; exact rfl; clear hF hM a; intro b w a hM hF) | (with_reducible refine w_skip ?_) | (with_reducible refine w_ret ?_) | (with_reducible refine q_then_r ?_) | ((with_reducible apply c_false2 hF); exact rfl; (first | with_reducible rfl | (refine congrArg Value.bool ?_; focus (simp; done)))) | ((with_reducible apply c_dec hF); exact rfl; all_goals intro hc; all_goals (try (exfalso; omega)))))
    all_goals first | (exfalso; first | exact hc hB | exact hB hc) | (apply f_ret Try.results20 hF hM; (repeat (first | exact RL.nil | (apply RL.tmp; exact rfl) | (apply RL.cell; exact rfl; (repeat (first | exact List.mem_cons_self | refine List.mem_cons_of_mem _ ?_)); exact rfl))); refine Ret.mk hM.since ?_; dsimp only [resV])
theorem refFew57_c : Calls Try.prog 14 ⟨[.agg ⟨ceL c a1 c1 a2 c2⟩]⟩ W (Ret W fun v _ => v = .bool (decide (c.A.V.length ≤ 40 ∧ c.S.V.length ≤ 40))) := by
  have hM := ((Mm.start hl).known hA).known hS
  refine f_start Try.func14 rfl Try.ntmps14 rfl rfl ?_; intro a hF
  (repeat' (first | (with_reducible refine w_seq ?_) | (with_reducible refine c_region ?_) | (with_reducible refine s_nil ?_) | (with_reducible refine q_then_n ?_) | ((with_reducible apply s_pure hF); exact rfl; exact rfl; exact rfl; (first | exact trivial | omega | exact ⟨Int.natCast_nonneg _, Int.ofNat_lt.2 (by assumption)⟩ | decide); clear hF a; intro a hF) | ((with_reducible apply s_load hF hM); exact rfl; exact rfl; (repeat (first | exact List.mem_cons_self | refine List.mem_cons_of_mem _ ?_)); exact rfl; exact rfl; clear hF a; intro a hF) | ((with_reducible apply s_box hF hM); exact rfl; exact rfl; exact rfl; exact rfl; clear hF hM a; intro b w a hM hF) | (with_reducible refine w_ret ?_) | ((with_reducible apply s_skip hF); exact rfl; exact rfl; clear hF a; intro a hF) | ((fail_if_success ((with_reducible refine g_known true hF ?_ ?_); focus exact rfl)); (fail_if_success ((with_reducible refine g_known false hF ?_ ?_); focus exact rfl)); (with_reducible apply g_dec hF); exact rfl; exact rfl; all_goals (clear hF; intro hc hF); all_goals (try (exfalso; omega)))))
  all_goals (apply f_ret Try.results14 hF hM; (repeat (first | exact RL.nil | (apply RL.tmp; exact rfl) | (apply RL.cell; exact rfl; (repeat (first | exact List.mem_cons_self | refine List.mem_cons_of_mem _ ?_)); exact rfl))); refine Ret.mk hM.since ?_; dsimp only [resV])
  all_goals first | (rw [decide_eq_false (by omega)]; done) | (congr 1; rw [decide_eq_decide]; omega)
end
set_option maxHeartbeats 1000000 in
theorem refSame57_c (c : Ce) (a1 a2 a3 a4 : Option Addr) (c1 c2 c3 c4 : Nat) (l1 : c.A.V.length ≤ 9223372036854775807) (m1 : c.A.V.length ≤ c1) (l2 : c.S.V.length ≤ 9223372036854775807) (m2 : c.S.V.length ≤ c2) (m3 : c.A.V.length ≤ c3) (m4 : c.S.V.length ≤ c4) (own : Nat → Prop) (W : World) (hl : ∀ b, own b → b < W.heap.size) (hA : Has own W (RdF (Value.int .i64) a1 c.A.V)) (hS : Has own W (RdF (Value.int .i64) a2 c.S.V)) (hA' : Has own W (RdF (Value.int .i64) a3 c.A.V)) (hS' : Has own W (RdF (Value.int .i64) a4 c.S.V)) :
    Calls Try.prog 18 ⟨[.agg ⟨ceL c a1 c1 a2 c2⟩, .agg ⟨ceL c a3 c3 a4 c4⟩]⟩ W (Ret W fun v _ => v = .bool true) := by
  have hM := ((((Mm.start hl).known hA).known hS).known hA').known hS'
  refine f_start Try.func18 rfl Try.ntmps18 rfl rfl ?_; intro a hF
  (repeat (first | (with_reducible refine w_seq ?_) | (with_reducible refine c_region ?_) | (with_reducible refine s_nil ?_) | (with_reducible refine q_then_n ?_) | ((with_reducible apply s_pure hF); exact rfl; exact rfl; exact rfl; (first | exact trivial | omega | exact ⟨Int.natCast_nonneg _, Int.ofNat_lt.2 (by assumption)⟩ | decide); clear hF a; intro a hF) | ((with_reducible apply s_load hF hM); exact rfl; exact rfl; (repeat (first | exact List.mem_cons_self | refine List.mem_cons_of_mem _ ?_)); exact rfl; exact rfl; clear hF a; intro a hF) | ((with_reducible apply s_box hF hM); exact rfl; exact rfl; exact rfl; exact rfl; clear hF hM a; intro b w a hM hF)))
  (((with_reducible apply s_call (f := 54) hF hM); exact rfl; exact rfl; exact rfl; exact rfl; exact rfl; exact (same_c c.A c.A _ _ _ _ hM.lt (isCu_mk (hM.facts (RdF (Value.int .i64) a1 c.A.V) (by (repeat (first | with_reducible exact List.mem_cons_self | refine List.mem_cons_of_mem _ ?_)))) l1 m1) (isCu_mk (hM.facts (RdF (Value.int .i64) a3 c.A.V) (by (repeat (first | with_reducible exact List.mem_cons_self | refine List.mem_cons_of_mem _ ?_)))) l1 m3) rfl); clear hF hM a; rintro v w a rfl - hM hF))
  (repeat (first | ((with_reducible apply s_pure hF); exact rfl; exact rfl; exact rfl; (first | exact trivial | omega | exact ⟨Int.natCast_nonneg _, Int.ofNat_lt.2 (by assumption)⟩ | decide); clear hF a; intro a hF) | ((with_reducible apply s_load hF hM); exact rfl; exact rfl; (repeat (first | exact List.mem_cons_self | refine List.mem_cons_of_mem _ ?_)); exact rfl; exact rfl; clear hF a; intro a hF)))
  (((with_reducible apply s_call (f := 54) hF hM); exact rfl; exact rfl; exact rfl; exact rfl; exact rfl; exact (same_c c.S c.S _ _ _ _ hM.lt (isCu_mk (hM.facts (RdF (Value.int .i64) a2 c.S.V) (by (repeat (first | with_reducible exact List.mem_cons_self | refine List.mem_cons_of_mem _ ?_)))) l2 m2) (isCu_mk (hM.facts (RdF (Value.int .i64) a4 c.S.V) (by (repeat (first | with_reducible exact List.mem_cons_self | refine List.mem_cons_of_mem _ ?_)))) l2 m4) rfl); clear hF hM a; rintro v w a rfl - hM hF))
  (repeat' (first | (with_reducible refine s_nil ?_) | (with_reducible refine q_then_n ?_) | ((with_reducible apply s_pure hF); exact rfl; exact rfl; exact rfl; (first | exact trivial | omega | exact ⟨Int.natCast_nonneg _, Int.ofNat_lt.2 (by assumption)⟩ | decide); clear hF a; intro a hF) | ((with_reducible apply s_load hF hM); exact rfl; exact rfl; (repeat (first | exact List.mem_cons_self | refine List.mem_cons_of_mem _ ?_)); exact rfl; exact rfl; clear hF a; intro a hF) | (with_reducible refine w_ret ?_) | ((fail_if_success ((with_reducible refine g_known true hF ?_ ?_); focus exact rfl)); (fail_if_success ((with_reducible refine g_known false hF ?_ ?_); focus exact rfl)); (with_reducible apply g_dec hF); exact rfl; exact rfl; all_goals (clear hF; intro hc hF); all_goals (try (exfalso; omega)))))
  all_goals (apply f_ret Try.results18 hF hM; (repeat (first | exact RL.nil | (apply RL.tmp; exact rfl) | (apply RL.cell; exact rfl; (repeat (first | exact List.mem_cons_self | refine List.mem_cons_of_mem _ ?_)); exact rfl))); refine Ret.mk hM.since ?_; dsimp only [resV])
  all_goals simp
end Go.Proofs.Ytabfhoipclbeeaa


/- curve: the reference's windows. -/
namespace Go.Proofs.Ytabfhoipclbeeaa
open Go.RowKit Go.Shelf C55
theorem Window_c (l : List Int) (S : Int) (ok : SOk l S) (a0 : Option Addr) (c0 : Nat) (own : Nat → Prop) (W : World) (hl : ∀ b, own b → b < W.heap.size) (hv : Has own W (RdF (Value.int .i64) a0 l)) (s k : Nat) (hs : s ≤ 10000) (hk : k ≤ 10000) :
    Calls Try.prog 80 ⟨[.slice a0 l.length c0, .int .i64 S, .int .i64 s, .int .i64 k]⟩ W (Ret W fun v _ => v = .int .i64 (win l S s k)) := by
  have hM := (Mm.start hl).known hv
  refine f_start Try.func80 rfl Try.ntmps80 rfl rfl ?_; intro a hF
  (repeat' (first | (with_reducible refine w_seq ?_) | (with_reducible refine c_region ?_) | (with_reducible refine s_nil ?_) | (with_reducible refine q_then_n ?_) | ((with_reducible apply s_pure hF); exact rfl; exact rfl; exact rfl; (first | exact trivial | omega | exact ⟨Int.natCast_nonneg _, Int.ofNat_lt.2 (by assumption)⟩ | decide); clear hF a; intro a hF) | (with_reducible refine w_block ?_)))
  refine c_loop (m := k) (fun m a w' => ∃ (i : Nat), m + i = k ∧ Fr _ [] [(10, .int .i64 ((s + i : Nat) : Int)), (9, .int .i64 (win l S s i)), (0, .slice a0 l.length c0), (1, .int .i64 S), (2, .int .i64 s), (3, .int .i64 k)] a ∧ Mm own W [] [] [RdF (Value.int .i64) a0 l] w') ⟨0, by omega, hF.sub (by repeat (first | exact Sub.nil | refine Sub.cons rfl (by first | with_reducible rfl | (refine congrArg (Value.int _) ?_; omega) | ((refine congrArg (Value.int _) ?_; simp [win])) | exact rfl) ?_)), hM⟩ ?_
  clear hF hM a
  rintro m a w' ⟨i, hi, hF, hM⟩
  by_cases hlt : i < k
  · have hb := ok.win_bd (s := s) (k := i) (by omega) (by omega)
    have hS := ok.s
    by_cases hin : s + i < l.length
    · obtain ⟨x, hx⟩ := get_of_lt hin
      obtain ⟨ad, rfl⟩ := rd_some hM (by (repeat (first | exact List.mem_cons_self | refine List.mem_cons_of_mem _ ?_))) hx
      have hxb := ok.v x (List.mem_of_getElem? hx)
      have hst := up_step (S := S) hx
      (repeat' (first | (with_reducible refine w_seq ?_) | (with_reducible refine c_region ?_) | (with_reducible refine s_nil ?_) | (with_reducible refine q_then_n ?_) | ((with_reducible apply s_pure hF); exact rfl; exact rfl; exact rfl; (first | exact trivial | omega | exact ⟨Int.natCast_nonneg _, Int.ofNat_lt.2 (by assumption)⟩ | decide); clear hF a; intro a hF) | ((with_reducible apply s_loadF hF hM); exact rfl; exact rfl; (repeat (first | exact List.mem_cons_self | refine List.mem_cons_of_mem _ ?_)); exact rfl; exact rfl; (first | with_reducible assumption | (simp only [Int.toNat_natCast]; with_reducible assumption)); clear hF a; intro a hF) | (with_reducible refine w_skip ?_) | (with_reducible refine w_block ?_) | (with_reducible refine q_blk_n ?_) | ((with_reducible apply c_dec hF); exact rfl; all_goals intro hc; all_goals (try (exfalso; omega)))))
      refine ⟨m - 1, by omega, i + 1, by omega, hF.sub (by repeat (first | exact Sub.nil | refine Sub.cons rfl (by first | with_reducible rfl | (refine congrArg (Value.int _) ?_; omega) | ((refine congrArg (Value.int _) ?_; unfold win; rw [← Nat.add_assoc, hst]; omega)) | exact rfl) ?_)), hM⟩
    · have hst := up_over (S := S) (show l.length ≤ s + i by omega)
      (repeat' (first | (with_reducible refine w_seq ?_) | (with_reducible refine c_region ?_) | (with_reducible refine s_nil ?_) | (with_reducible refine q_then_n ?_) | ((with_reducible apply s_pure hF); exact rfl; exact rfl; exact rfl; (first | exact trivial | omega | exact ⟨Int.natCast_nonneg _, Int.ofNat_lt.2 (by assumption)⟩ | decide); clear hF a; intro a hF) | (with_reducible refine w_skip ?_) | (with_reducible refine w_block ?_) | (with_reducible refine q_blk_n ?_) | ((with_reducible apply c_dec hF); exact rfl; all_goals intro hc; all_goals (try (exfalso; omega)))))
      refine ⟨m - 1, by omega, i + 1, by omega, hF.sub (by repeat (first | exact Sub.nil | refine Sub.cons rfl (by first | with_reducible rfl | (refine congrArg (Value.int _) ?_; omega) | ((refine congrArg (Value.int _) ?_; unfold win; rw [← Nat.add_assoc, hst]; omega)) | exact rfl) ?_)), hM⟩
  · obtain rfl : i = k := by omega
    (repeat' (first | (with_reducible refine w_seq ?_) | (with_reducible refine c_region ?_) | (with_reducible refine s_nil ?_) | (with_reducible refine q_then_n ?_) | ((with_reducible apply s_pure hF); exact rfl; exact rfl; exact rfl; (first | exact trivial | omega | exact ⟨Int.natCast_nonneg _, Int.ofNat_lt.2 (by assumption)⟩ | decide); clear hF a; intro a hF) | (with_reducible refine w_exit ?_) | (with_reducible refine w_ret ?_) | (with_reducible refine q_then_x ?_) | (with_reducible refine q_blk_x ?_) | ((with_reducible apply c_false2 hF); exact rfl; (first | with_reducible rfl | (refine congrArg Value.bool ?_; focus (simp; done))))))
    (apply f_ret Try.results80 hF hM; (repeat (first | exact RL.nil | (apply RL.tmp; exact rfl) | (apply RL.cell; exact rfl; (repeat (first | exact List.mem_cons_self | refine List.mem_cons_of_mem _ ?_)); exact rfl))); refine Ret.mk hM.since ?_; dsimp only [resV])
end Go.Proofs.Ytabfhoipclbeeaa


/- The reference's Covers. -/
namespace Go.Proofs.Ytabfhoipclbeeaa
open Go.RowKit Go.Shelf C55 K57
section
variable {n : Nat} {ds : List Deferred} {l : List (Nat × Value)} {a : Act} {w w0 : World} {own : Nat → Prop} {bs : List BoxE} {L : List Ent} {Fs : List (World → Prop)}
variable {os rest : List Oper} {Q : Exit → Act → World → Prop} {K : Act → World → Prop}
variable {d : Nat} {op : Op} {ty : TypeId} {pos : String} {af : Array Edge} {g : Option (Nat × Bool)}
/-- The greatest of three numbers. -/
theorem s_max3 {X Y Z : Operand} {ts : Array TypeId} {x y z : Int} (hF : Fr n ds l a) (hg : wantO os l g = some true) (hX : evL l [X, Y, Z] = some [.int .i64 x, .int .i64 y, .int .i64 z]) (hd : Nat.blt d n = true)
    (kk : ∀ a, Fr n ds ((d, .int .i64 (max (max x y) z)) :: l) a → wl ⟨os⟩ Q rest a w) : wl ⟨os⟩ Q (⟨some d, .call ⟨.builtin .max, ⟨[X, Y, Z]⟩, ts⟩, ty, pos, af, g⟩ :: rest) a w := by
  refine s_op hF hg fun _ hK => upon_value (v := .int .i64 (max (max x y) z)) ?_ (hK _ _ (kk _ (hF.put hd _)))
  have := hF.evalL hX
  simp only [execOp, resolve, invoke, builtin, Builtin.max_, List.map_toArray, this]
  simp [Sem.run_bind, Builtin.max2, Result.andThen]
  omega
end
theorem sok_of {l : List Int} {S : Int} (hl : l.length ≤ 60) (hb : ∀ x ∈ l, 0 ≤ x ∧ x ≤ 4096) (hS : 0 ≤ S ∧ S ≤ 4096) : SOk l S := by
  have h := P56.sum_bd hb
  rw [← seq_ok]
  unfold seqE
  rw [if_neg (by omega), if_neg]
  have h1 : (l.any fun n => !tm n) = false := any_tm.2 fun x hx => by have := hb x hx; omega
  have h2 : tm l.sum = true := tm_iff.2 (by omega)
  have h3 : tm S = true := tm_iff.2 (by omega)
  rw [h1, h2, h3]
  decide
set_option maxHeartbeats 4000000 in
theorem refCovers_c (c : Ce) (a1 a2 : Option Addr) (c1 c2 : Nat) (l1 : c.A.V.length ≤ 9223372036854775807) (m1 : c.A.V.length ≤ c1) (l2 : c.S.V.length ≤ 9223372036854775807) (m2 : c.S.V.length ≤ c2)
    (t : P56.Tr) (aw ac : Option Addr) (cw cc : Nat) (fw : t.W.length ≤ 40) (mw : t.W.length ≤ cw) (fc : t.C.length ≤ 60) (mc : t.C.length ≤ cc)
    (own : Nat → Prop) (W : World) (hl : ∀ b, own b → b < W.heap.size) (hA : Has own W (RdF (Value.int .i64) a1 c.A.V)) (hS : Has own W (RdF (Value.int .i64) a2 c.S.V)) (hW : Has own W (RdF (Value.int .i64) aw t.W)) (hC : Has own W (RdF (Value.int .i64) ac t.C)) :
    Calls Try.prog 35 ⟨[.agg ⟨ceL c a1 c1 a2 c2⟩, .agg ⟨trL t aw cw ac cc⟩]⟩ W (Ret W fun v _ => v = .tuple #[.bool (covV c t), .int .i64 (covE c t)]) := by
  have hM := ((((Mm.start hl).known hA).known hS).known hW).known hC
  refine f_start Try.func35 rfl Try.ntmps35 rfl rfl ?_; intro a hF
  (repeat (first | (with_reducible refine w_seq ?_) | (with_reducible refine c_region ?_) | (with_reducible refine s_nil ?_) | (with_reducible refine q_then_n ?_) | ((with_reducible apply s_pure hF); exact rfl; exact rfl; exact rfl; (first | exact trivial | omega | exact ⟨Int.natCast_nonneg _, Int.ofNat_lt.2 (by assumption)⟩ | decide); clear hF a; intro a hF) | ((with_reducible apply s_load hF hM); exact rfl; exact rfl; (repeat (first | exact List.mem_cons_self | refine List.mem_cons_of_mem _ ?_)); exact rfl; exact rfl; clear hF a; intro a hF) | ((with_reducible apply s_box hF hM); exact rfl; exact rfl; exact rfl; exact rfl; clear hF hM a; intro b w a hM hF)))
  rename_i bce _
  by_cases hc : chkE c = 0
  case neg =>
    have he : covE c t = chkE c := by unfold covE; rw [if_pos hc]
    have hv : covV c t = false := by unfold covV; rw [decide_eq_false (fun h => hc (he ▸ h.1))]; rfl
    rw [he, hv]
    (repeat' (first | (with_reducible refine w_seq ?_) | (with_reducible refine c_region ?_) | (with_reducible refine s_nil ?_) | ((with_reducible apply s_call (f := 20) hF hM); exact rfl; exact rfl; exact rfl; exact rfl; exact rfl; exact (refCheck57_c c a1 a2 c1 c2 l1 m1 l2 m2 _ _ hM.lt (hM.facts (RdF (Value.int .i64) a1 c.A.V) (by (repeat (first | with_reducible exact List.mem_cons_self | refine List.mem_cons_of_mem _ ?_)))) (hM.facts (RdF (Value.int .i64) a2 c.S.V) (by (repeat (first | with_reducible exact List.mem_cons_self | refine List.mem_cons_of_mem _ ?_))))); clear hF hM a; rintro v w a rfl - hM hF) | (with_reducible refine q_then_n ?_) | ((with_reducible apply s_pure hF); exact rfl; exact rfl; exact rfl; (first | exact trivial | omega | exact ⟨Int.natCast_nonneg _, Int.ofNat_lt.2 (by assumption)⟩ | decide); clear hF a; intro a hF) | (with_reducible refine w_ret ?_) | (with_reducible refine q_then_r ?_) | ((with_reducible apply c_dec hF); exact rfl; all_goals intro hc; all_goals (try (exfalso; omega)))))
    (apply f_ret Try.results35 hF hM; (repeat (first | exact RL.nil | (apply RL.tmp; exact rfl) | (apply RL.cell; exact rfl; (repeat (first | exact List.mem_cons_self | refine List.mem_cons_of_mem _ ?_)); exact rfl))); refine Ret.mk hM.since ?_; dsimp only [resV])
  by_cases ht : P56.check t = 0
  case neg =>
    have he : covE c t = P56.check t := by unfold covE; rw [if_neg (by omega)]
    have hv : covV c t = false := by unfold covV; rw [decide_eq_false (fun h => ht (he ▸ h.1))]; rfl
    rw [he, hv]
    (repeat' (first | (with_reducible refine w_seq ?_) | (with_reducible refine c_region ?_) | (with_reducible refine s_nil ?_) | ((with_reducible apply s_call (f := 20) hF hM); exact rfl; exact rfl; exact rfl; exact rfl; exact rfl; exact (refCheck57_c c a1 a2 c1 c2 l1 m1 l2 m2 _ _ hM.lt (hM.facts (RdF (Value.int .i64) a1 c.A.V) (by (repeat (first | with_reducible exact List.mem_cons_self | refine List.mem_cons_of_mem _ ?_)))) (hM.facts (RdF (Value.int .i64) a2 c.S.V) (by (repeat (first | with_reducible exact List.mem_cons_self | refine List.mem_cons_of_mem _ ?_))))); clear hF hM a; rintro v w a rfl - hM hF; rw [hc] at hF) | ((with_reducible apply s_call (f := 79) hF hM); exact rfl; exact rfl; exact rfl; exact rfl; exact rfl; exact (Ret.of (refCheck_any t _ _ ⟨aw, ac, cw, cc, rfl, hM.fact (f := RdF (Value.int .i64) aw t.W) (by (repeat (first | with_reducible exact List.mem_cons_self | refine List.mem_cons_of_mem _ ?_))), hM.fact (f := RdF (Value.int .i64) ac t.C) (by (repeat (first | with_reducible exact List.mem_cons_self | refine List.mem_cons_of_mem _ ?_))), by omega, by omega, mw, mc⟩)); clear hF hM a; rintro v w a rfl - hM hF) | (with_reducible refine q_then_n ?_) | ((with_reducible apply s_pure hF); exact rfl; exact rfl; exact rfl; (first | exact trivial | omega | exact ⟨Int.natCast_nonneg _, Int.ofNat_lt.2 (by assumption)⟩ | decide); clear hF a; intro a hF) | ((with_reducible apply s_load hF hM); exact rfl; exact rfl; (repeat (first | exact List.mem_cons_self | refine List.mem_cons_of_mem _ ?_)); exact rfl; exact rfl; clear hF a; intro a hF) | (with_reducible refine w_skip ?_) | (with_reducible refine w_ret ?_) | (with_reducible refine q_then_r ?_) | ((with_reducible apply c_false2 hF); exact rfl; (first | with_reducible rfl | (refine congrArg Value.bool ?_; focus (simp; done)))) | ((with_reducible apply c_dec hF); exact rfl; all_goals intro hc; all_goals (try (exfalso; omega)))))
    (apply f_ret Try.results35 hF hM; (repeat (first | exact RL.nil | (apply RL.tmp; exact rfl) | (apply RL.cell; exact rfl; (repeat (first | exact List.mem_cons_self | refine List.mem_cons_of_mem _ ?_)); exact rfl))); refine Ret.mk hM.since ?_; dsimp only [resV])
  have he : covE c t = 0 := by unfold covE; rw [if_neg (by omega)]; exact ht
  rw [he]
  obtain ⟨hbok, _⟩ := chk_bok hc
  have htk := P56.check_ok.1 ht
  by_cases hnum : t.P = c.P ∧ t.L ≤ c.L ∧ t.A ≤ c.D
  case neg =>
    have hv : covV c t = false := by unfold covV; rw [decide_eq_false (fun h => hnum ⟨h.2.1, h.2.2.1, h.2.2.2.1⟩)]; rfl
    rw [hv]
    (repeat' (first | (with_reducible refine w_seq ?_) | (with_reducible refine c_region ?_) | (with_reducible refine s_nil ?_) | ((with_reducible apply s_call (f := 20) hF hM); exact rfl; exact rfl; exact rfl; exact rfl; exact rfl; exact (refCheck57_c c a1 a2 c1 c2 l1 m1 l2 m2 _ _ hM.lt (hM.facts (RdF (Value.int .i64) a1 c.A.V) (by (repeat (first | with_reducible exact List.mem_cons_self | refine List.mem_cons_of_mem _ ?_)))) (hM.facts (RdF (Value.int .i64) a2 c.S.V) (by (repeat (first | with_reducible exact List.mem_cons_self | refine List.mem_cons_of_mem _ ?_))))); clear hF hM a; rintro v w a rfl - hM hF; rw [hc] at hF) | ((with_reducible apply s_call (f := 79) hF hM); exact rfl; exact rfl; exact rfl; exact rfl; exact rfl; exact (Ret.of (refCheck_any t _ _ ⟨aw, ac, cw, cc, rfl, hM.fact (f := RdF (Value.int .i64) aw t.W) (by (repeat (first | with_reducible exact List.mem_cons_self | refine List.mem_cons_of_mem _ ?_))), hM.fact (f := RdF (Value.int .i64) ac t.C) (by (repeat (first | with_reducible exact List.mem_cons_self | refine List.mem_cons_of_mem _ ?_))), by omega, by omega, mw, mc⟩)); clear hF hM a; rintro v w a rfl - hM hF; rw [ht] at hF) | (with_reducible refine q_then_n ?_) | ((with_reducible apply s_pure hF); exact rfl; exact rfl; exact rfl; (first | exact trivial | omega | exact ⟨Int.natCast_nonneg _, Int.ofNat_lt.2 (by assumption)⟩ | decide); clear hF a; intro a hF) | ((with_reducible apply s_load hF hM); exact rfl; exact rfl; (repeat (first | exact List.mem_cons_self | refine List.mem_cons_of_mem _ ?_)); exact rfl; exact rfl; clear hF a; intro a hF) | (with_reducible refine w_skip ?_) | (with_reducible refine w_ret ?_) | (with_reducible refine q_then_r ?_) | ((with_reducible apply c_true2 hF); exact rfl; (first | with_reducible rfl | (refine congrArg Value.bool ?_; focus (simp; done)))) | ((with_reducible apply c_false2 hF); exact rfl; (first | with_reducible rfl | (refine congrArg Value.bool ?_; focus (simp; done)))) | ((with_reducible apply s_skip hF); exact rfl; exact rfl; clear hF a; intro a hF) | ((fail_if_success ((with_reducible refine g_known true hF ?_ ?_); focus exact rfl)); (fail_if_success ((with_reducible refine g_known false hF ?_ ?_); focus exact rfl)); (with_reducible apply g_dec hF); exact rfl; exact rfl; all_goals (clear hF; intro hc hF); all_goals (try (exfalso; omega))) | ((with_reducible apply c_dec hF); exact rfl; all_goals intro hc; all_goals (try (exfalso; omega)))))
    all_goals (apply f_ret Try.results35 hF hM; (repeat (first | exact RL.nil | (apply RL.tmp; exact rfl) | (apply RL.cell; exact rfl; (repeat (first | exact List.mem_cons_self | refine List.mem_cons_of_mem _ ?_)); exact rfl))); refine Ret.mk hM.since ?_; dsimp only [resV])
  obtain ⟨hn1, hn2, hn3⟩ := hnum
  have hcl := htk.clen0
  have hsu := hbok.S.l1
  have hlast : t.C[((t.C.length : Int) - 1).toNat]? = some (P56.last t.C) := by
    rw [show ((t.C.length : Int) - 1).toNat = t.C.length - 1 by omega]
    unfold P56.last
    rw [← List.getLast?_eq_getElem?]
    cases hC : t.C with
    | nil => rw [hC] at hcl; simp at hcl
    | cons x r => rw [List.getLast?_eq_some_getLast (by simp), List.getLastD_eq_getLast?, List.getLast?_eq_some_getLast (by simp)]; rfl
  have hlr := P56.last_nonneg htk.c
  obtain ⟨adc, rfl⟩ := rd_some hM (a := ac) (by (repeat (first | exact List.mem_cons_self | refine List.mem_cons_of_mem _ ?_))) hlast
  by_cases hsl : c.S.S ≤ P56.last t.C
  case neg =>
    have hv : covV c t = false := by unfold covV; rw [decide_eq_false (fun h => hsl h.2.2.2.2)]; rfl
    rw [hv]
    (repeat' (first | (with_reducible refine w_seq ?_) | (with_reducible refine c_region ?_) | (with_reducible refine s_nil ?_) | ((with_reducible apply s_call (f := 20) hF hM); exact rfl; exact rfl; exact rfl; exact rfl; exact rfl; exact (refCheck57_c c a1 a2 c1 c2 l1 m1 l2 m2 _ _ hM.lt (hM.facts (RdF (Value.int .i64) a1 c.A.V) (by (repeat (first | with_reducible exact List.mem_cons_self | refine List.mem_cons_of_mem _ ?_)))) (hM.facts (RdF (Value.int .i64) a2 c.S.V) (by (repeat (first | with_reducible exact List.mem_cons_self | refine List.mem_cons_of_mem _ ?_))))); clear hF hM a; rintro v w a rfl - hM hF; rw [hc] at hF) | ((with_reducible apply s_call (f := 79) hF hM); exact rfl; exact rfl; exact rfl; exact rfl; exact rfl; exact (Ret.of (refCheck_any t _ _ ⟨aw, _, cw, cc, rfl, hM.fact (f := RdF (Value.int .i64) aw t.W) (by (repeat (first | with_reducible exact List.mem_cons_self | refine List.mem_cons_of_mem _ ?_))), hM.fact (f := RdF (Value.int .i64) (some adc) t.C) (by (repeat (first | with_reducible exact List.mem_cons_self | refine List.mem_cons_of_mem _ ?_))), by omega, by omega, mw, mc⟩)); clear hF hM a; rintro v w a rfl - hM hF; rw [ht] at hF) | (with_reducible refine q_then_n ?_) | ((with_reducible apply s_pure hF); exact rfl; exact rfl; exact rfl; (first | exact trivial | omega | exact ⟨Int.natCast_nonneg _, Int.ofNat_lt.2 (by assumption)⟩ | decide); clear hF a; intro a hF) | ((with_reducible apply s_load hF hM); exact rfl; exact rfl; (repeat (first | exact List.mem_cons_self | refine List.mem_cons_of_mem _ ?_)); exact rfl; exact rfl; clear hF a; intro a hF) | ((with_reducible apply s_loadF hF hM); exact rfl; exact rfl; (repeat (first | exact List.mem_cons_self | refine List.mem_cons_of_mem _ ?_)); exact rfl; exact rfl; (first | with_reducible assumption | (simp only [Int.toNat_natCast]; with_reducible assumption)); clear hF a; intro a hF) | (with_reducible refine w_skip ?_) | (with_reducible refine w_ret ?_) | (with_reducible refine q_then_r ?_) | ((with_reducible apply c_false2 hF); exact rfl; (first | with_reducible rfl | (refine congrArg Value.bool ?_; focus (simp; done)))) | ((fail_if_success ((with_reducible refine g_known true hF ?_ ?_); focus exact rfl)); (fail_if_success ((with_reducible refine g_known false hF ?_ ?_); focus exact rfl)); (with_reducible apply g_dec hF); exact rfl; exact rfl; all_goals (clear hF; intro hc hF); all_goals (try (exfalso; omega))) | ((with_reducible apply c_dec hF); exact rfl; all_goals intro hc; all_goals (try (exfalso; omega)))))
    all_goals (apply f_ret Try.results35 hF hM; (repeat (first | exact RL.nil | (apply RL.tmp; exact rfl) | (apply RL.cell; exact rfl; (repeat (first | exact List.mem_cons_self | refine List.mem_cons_of_mem _ ?_)); exact rfl))); refine Ret.mk hM.since ?_; dsimp only [resV])
  have hcv : covV c t = covAll c t := by unfold covV; rw [decide_eq_true ⟨he, hn1, hn2, hn3, hsl⟩]; rfl
  rw [hcv]
  (repeat' (first | (with_reducible refine w_seq ?_) | (with_reducible refine c_region ?_) | (with_reducible refine s_nil ?_) | ((with_reducible apply s_call (f := 20) hF hM); exact rfl; exact rfl; exact rfl; exact rfl; exact rfl; exact (refCheck57_c c a1 a2 c1 c2 l1 m1 l2 m2 _ _ hM.lt (hM.facts (RdF (Value.int .i64) a1 c.A.V) (by (repeat (first | with_reducible exact List.mem_cons_self | refine List.mem_cons_of_mem _ ?_)))) (hM.facts (RdF (Value.int .i64) a2 c.S.V) (by (repeat (first | with_reducible exact List.mem_cons_self | refine List.mem_cons_of_mem _ ?_))))); clear hF hM a; rintro v w a rfl - hM hF; rw [hc] at hF) | ((with_reducible apply s_call (f := 79) hF hM); exact rfl; exact rfl; exact rfl; exact rfl; exact rfl; exact (Ret.of (refCheck_any t _ _ ⟨aw, _, cw, cc, rfl, hM.fact (f := RdF (Value.int .i64) aw t.W) (by (repeat (first | with_reducible exact List.mem_cons_self | refine List.mem_cons_of_mem _ ?_))), hM.fact (f := RdF (Value.int .i64) (some adc) t.C) (by (repeat (first | with_reducible exact List.mem_cons_self | refine List.mem_cons_of_mem _ ?_))), by omega, by omega, mw, mc⟩)); clear hF hM a; rintro v w a rfl - hM hF; rw [ht] at hF) | (with_reducible refine q_then_n ?_) | ((with_reducible apply s_pure hF); exact rfl; exact rfl; exact rfl; (first | exact trivial | omega | exact ⟨Int.natCast_nonneg _, Int.ofNat_lt.2 (by assumption)⟩ | decide); clear hF a; intro a hF) | ((with_reducible apply s_load hF hM); exact rfl; exact rfl; (repeat (first | exact List.mem_cons_self | refine List.mem_cons_of_mem _ ?_)); exact rfl; exact rfl; clear hF a; intro a hF) | ((with_reducible apply s_loadF hF hM); exact rfl; exact rfl; (repeat (first | exact List.mem_cons_self | refine List.mem_cons_of_mem _ ?_)); exact rfl; exact rfl; (first | with_reducible assumption | (simp only [Int.toNat_natCast]; with_reducible assumption)); clear hF a; intro a hF) | (with_reducible refine w_skip ?_) | (with_reducible refine w_block ?_) | ((with_reducible apply c_false2 hF); exact rfl; (first | with_reducible rfl | (refine congrArg Value.bool ?_; focus (simp; done)))) | ((fail_if_success ((with_reducible refine g_known true hF ?_ ?_); focus exact rfl)); (fail_if_success ((with_reducible refine g_known false hF ?_ ?_); focus exact rfl)); (with_reducible apply g_dec hF); exact rfl; exact rfl; all_goals (clear hF; intro hc hF); all_goals (try (exfalso; omega))) | ((with_reducible apply c_dec hF); exact rfl; all_goals intro hc; all_goals (try (exfalso; omega)))))
  generalize b = btr at *
  obtain ⟨M, hMM⟩ : ∃ M : Nat, mostT t = M := ⟨_, rfl⟩
  obtain ⟨N, hNN⟩ : ∃ N : Nat, max M c.S.V.length = N := ⟨_, rfl⟩
  have hM4 : M ≤ 60 := by unfold mostT at hMM; omega
  have hMW : max t.W.length t.C.length = M := hMM
  have hN4 : N ≤ 4096 := by omega
  have okW := sok_of (l := t.W) (S := 0) (by omega) htk.w (by omega)
  have okC := sok_of (l := t.C) (S := P56.last t.C) (by omega) htk.c hlr
  refine c_loop (m := N + 1) (fun m a w' => ∃ (k : Nat), m + k = N + 1 ∧ (∀ k' s' : Nat, k' < k → s' ≤ M → covAt c t k' s' = true) ∧
    Fr 102 [] [(9, .int .i64 k), (8, .int .i64 (P56.last t.C)), (2, .pointer (some ⟨bce, 0, none⟩)), (3, .pointer (some ⟨btr, 0, none⟩))] a ∧
    Mm own W [⟨btr, ⟨trL t aw cw (some adc) cc⟩, 42⟩, ⟨bce, ⟨ceL c a1 c1 a2 c2⟩, 29⟩] [] [RdF (Value.int .i64) (some adc) t.C, RdF (Value.int .i64) aw t.W, RdF (Value.int .i64) a2 c.S.V, RdF (Value.int .i64) a1 c.A.V] w')
    ⟨0, by omega, (fun k' s' h => absurd h (by omega)), hF.sub (by repeat (first | exact Sub.nil | refine Sub.cons rfl (by first | with_reducible rfl | (refine congrArg (Value.int _) ?_; omega) | exact rfl) ?_)), hM⟩ ?_
  clear hF hM a
  rintro m a w' ⟨k, hm, hall, hF, hM⟩
  by_cases hk : k < N + 1
  · have hka := at_vl hbok.A (k := k) (by omega)
    have hks := at_vl hbok.S (k := k) (by omega)
    have hra := vl_rg hbok.A (k := k) (by omega)
    have hrs := vl_rg hbok.S (k := k) (by omega)
    (repeat' (first | (with_reducible refine w_seq ?_) | (with_reducible refine c_region ?_) | (with_reducible refine s_nil ?_) | ((with_reducible apply s_max3 hF); exact rfl; exact rfl; exact rfl; clear hF a; intro a hF) | (with_reducible refine q_then_n ?_) | ((with_reducible apply s_pure hF); exact rfl; exact rfl; exact rfl; (first | exact trivial | omega | exact ⟨Int.natCast_nonneg _, Int.ofNat_lt.2 (by assumption)⟩ | decide); clear hF a; intro a hF) | ((with_reducible apply s_load hF hM); exact rfl; exact rfl; (repeat (first | exact List.mem_cons_self | refine List.mem_cons_of_mem _ ?_)); exact rfl; exact rfl; clear hF a; intro a hF) | (with_reducible refine w_skip ?_) | (with_reducible refine w_block ?_) | ((with_reducible apply c_dec hF); exact rfl; all_goals intro hc; all_goals (try (exfalso; omega)))))
    refine c_loop (m := M + 1) (fun z a w' => ∃ (s : Nat), z + s = M + 1 ∧ (∀ s' : Nat, s' < s → covAt c t k s' = true) ∧
      Fr 102 [] [(10, .int .i64 s), (9, .int .i64 k), (8, .int .i64 (P56.last t.C)), (2, .pointer (some ⟨bce, 0, none⟩)), (3, .pointer (some ⟨btr, 0, none⟩))] a ∧
      Mm own W [⟨btr, ⟨trL t aw cw (some adc) cc⟩, 42⟩, ⟨bce, ⟨ceL c a1 c1 a2 c2⟩, 29⟩] [] [RdF (Value.int .i64) (some adc) t.C, RdF (Value.int .i64) aw t.W, RdF (Value.int .i64) a2 c.S.V, RdF (Value.int .i64) a1 c.A.V] w')
      ⟨0, by omega, (fun s' h => absurd h (by omega)), hF.sub (by repeat (first | exact Sub.nil | refine Sub.cons rfl (by first | with_reducible rfl | (refine congrArg (Value.int _) ?_; omega) | exact rfl) ?_)), hM⟩ ?_
    clear hF hM a
    rintro z a w' ⟨s, hz, hin, hF, hM⟩
    by_cases hs : s < M + 1
    · obtain ⟨U1, hU1⟩ : ∃ x, win t.W 0 s k = x := ⟨_, rfl⟩
      obtain ⟨U3, hU3⟩ : ∃ x, win t.C (P56.last t.C) s k = x := ⟨_, rfl⟩
      obtain ⟨VA, hVA⟩ : ∃ x, vl c.A k = x := ⟨_, rfl⟩
      obtain ⟨VS, hVS⟩ : ∃ x, vl c.S k = x := ⟨_, rfl⟩
      by_cases hb1 : U1 ≤ VA
      case neg =>
        have hd : decide (VA < U1) = true := decide_eq_true (by omega)
        have q3 : covAt c t k s = false := by
          unfold covAt
          rw [decide_eq_false (show ¬ win t.W 0 s k ≤ vl c.A k by rw [hU1, hVA]; exact hb1)]
          rfl
        (repeat' (first | (with_reducible refine w_seq ?_) | (with_reducible refine c_region ?_) | (with_reducible refine s_nil ?_) | (with_reducible refine q_then_n ?_) | ((with_reducible apply s_pure hF); exact rfl; exact rfl; exact rfl; (first | exact trivial | omega | exact ⟨Int.natCast_nonneg _, Int.ofNat_lt.2 (by assumption)⟩ | decide); clear hF a; intro a hF) | ((with_reducible apply s_load hF hM); exact rfl; exact rfl; (repeat (first | exact List.mem_cons_self | refine List.mem_cons_of_mem _ ?_)); exact rfl; exact rfl; clear hF a; intro a hF) | (with_reducible refine w_skip ?_) | (with_reducible refine w_block ?_) | ((with_reducible apply c_dec hF); exact rfl; all_goals intro hc; all_goals (try (exfalso; omega)))))
        refine c_draw (fun i => Nat.ble 23 i) hM ?_; clear hM; intro w hM
        (first | (refine t_pure (i := 0) hF rfl rfl rfl rfl (by kernel_rfl) hM.sm (fun _ _ _ h => h) ?_ ?_; (first | exact trivial | omega | decide); clear hF a; intro a hF))
        (first | (apply t_load (i := 1) hF rfl rfl rfl; (repeat (first | exact List.mem_cons_self | refine List.mem_cons_of_mem _ ?_)); exact rfl; exact rfl; kernel_rfl; exact hM.sm; exact (fun _ _ _ h => h); clear hF a; intro a hF))
        (first | (refine t_pure (i := 2) hF rfl rfl rfl rfl (by kernel_rfl) hM.sm (fun _ _ _ h => h) ?_ ?_; (first | exact trivial | omega | decide); clear hF a; intro a hF))
        (first | (refine t_pure (i := 3) hF rfl rfl rfl rfl (by kernel_rfl) hM.sm (fun _ _ _ h => h) ?_ ?_; (first | exact trivial | omega | decide); clear hF a; intro a hF))
        (first | (refine t_pure (i := 5) hF rfl rfl rfl rfl (by kernel_rfl) hM.sm (fun _ _ _ h => h) ?_ ?_; (first | exact trivial | omega | decide); clear hF a; intro a hF))
        (first | (apply t_load (i := 6) hF rfl rfl rfl; (repeat (first | exact List.mem_cons_self | refine List.mem_cons_of_mem _ ?_)); exact rfl; exact rfl; kernel_rfl; exact hM.sm; exact (fun _ _ _ h => h); clear hF a; intro a hF))
        (first | (refine t_pure (i := 7) hF rfl rfl rfl rfl (by kernel_rfl) hM.sm (fun _ _ _ h => h) ?_ ?_; (first | exact trivial | omega | decide); clear hF a; intro a hF))
        refine t_one (i := 4) hF rfl (by kernel_rfl) rfl ?_
        intro K hK
        (apply x_call hF hM; exact rfl; exact rfl; exact rfl; exact rfl; exact (Window_c t.W 0 okW aw cw _ _ hM.lt (hM.facts (RdF (Value.int .i64) aw t.W) (by (repeat (first | with_reducible exact List.mem_cons_self | refine List.mem_cons_of_mem _ ?_)))) s k (by omega) (by omega)); clear hF hM a; rintro v w a rfl - hM hF)
        rw [hU1] at hF
        refine hK _ _ (fun _ => (hM.sm.sub (fun x hx => by repeat (first | exact hx | refine List.mem_cons_of_mem _ ?_)) (fun _ h => by repeat (first | exact h | refine List.mem_cons_of_mem _ ?_)))) ?_; clear hK
        refine t_one (i := 8) hF rfl (by kernel_rfl) rfl ?_
        intro K hK
        (apply x_call hF hM; exact rfl; exact rfl; exact rfl; exact rfl; exact (refAt_c c.A k _ _ _ hM.lt (isCu_mk (hM.facts (RdF (Value.int .i64) a1 c.A.V) (by (repeat (first | with_reducible exact List.mem_cons_self | refine List.mem_cons_of_mem _ ?_)))) l1 m1)); clear hF hM a; rintro v w a rfl - hM hF)
        rw [hka, hVA] at hF
        refine hK _ _ (fun _ => (hM.sm.sub (fun x hx => by repeat (first | exact hx | refine List.mem_cons_of_mem _ ?_)) (fun _ h => by repeat (first | exact h | refine List.mem_cons_of_mem _ ?_)))) ?_; clear hK
        (first | (refine t_pure (i := 9) hF rfl rfl rfl rfl (by kernel_rfl) (hM.sm.sub (fun x hx => by repeat (first | exact hx | refine List.mem_cons_of_mem _ ?_)) (fun _ h => by repeat (first | exact h | refine List.mem_cons_of_mem _ ?_))) (fun _ _ _ h => h) ?_ ?_; (first | exact trivial | omega | decide); clear hF a; intro a hF))
        rw [hd] at hF
        (first | (refine t_pure (i := 10) hF rfl rfl rfl rfl (by kernel_rfl) (hM.sm.sub (fun x hx => by repeat (first | exact hx | refine List.mem_cons_of_mem _ ?_)) (fun _ h => by repeat (first | exact h | refine List.mem_cons_of_mem _ ?_))) (fun _ _ _ h => h) ?_ ?_; (first | exact trivial | omega | decide); clear hF a; intro a hF))
        (first | (refine t_skip (i := 11) hF rfl rfl rfl (by kernel_rfl) (hM.sm.sub (fun x hx => by repeat (first | exact hx | refine List.mem_cons_of_mem _ ?_)) (fun _ h => by repeat (first | exact h | refine List.mem_cons_of_mem _ ?_))) (fun _ _ _ h => h) ?_; clear hF a; intro a hF))
        (first | (refine t_skip (i := 12) hF rfl rfl rfl (by kernel_rfl) (hM.sm.sub (fun x hx => by repeat (first | exact hx | refine List.mem_cons_of_mem _ ?_)) (fun _ h => by repeat (first | exact h | refine List.mem_cons_of_mem _ ?_))) (fun _ _ _ h => h) ?_; clear hF a; intro a hF))
        (first | (refine t_skip (i := 13) hF rfl rfl rfl (by kernel_rfl) (hM.sm.sub (fun x hx => by repeat (first | exact hx | refine List.mem_cons_of_mem _ ?_)) (fun _ h => by repeat (first | exact h | refine List.mem_cons_of_mem _ ?_))) (fun _ _ _ h => h) ?_; clear hF a; intro a hF))
        (first | (refine t_skip (i := 14) hF rfl rfl rfl (by kernel_rfl) (hM.sm.sub (fun x hx => by repeat (first | exact hx | refine List.mem_cons_of_mem _ ?_)) (fun _ h => by repeat (first | exact h | refine List.mem_cons_of_mem _ ?_))) (fun _ _ _ h => h) ?_; clear hF a; intro a hF))
        (first | (refine t_skip (i := 15) hF rfl rfl rfl (by kernel_rfl) (hM.sm.sub (fun x hx => by repeat (first | exact hx | refine List.mem_cons_of_mem _ ?_)) (fun _ h => by repeat (first | exact h | refine List.mem_cons_of_mem _ ?_))) (fun _ _ _ h => h) ?_; clear hF a; intro a hF))
        (refine t_skip (i := 16) hF rfl rfl rfl (by kernel_rfl) (hM.sm.sub (fun x hx => by repeat (first | exact hx | refine List.mem_cons_of_mem _ ?_)) (fun _ h => by repeat (first | exact h | refine List.mem_cons_of_mem _ ?_))) (fun _ _ _ h => h) ?_; clear hF a; intro a hF)
        (first | (refine t_skip (i := 17) hF rfl rfl rfl (by kernel_rfl) (hM.sm.sub (fun x hx => by repeat (first | exact hx | refine List.mem_cons_of_mem _ ?_)) (fun _ h => by repeat (first | exact h | refine List.mem_cons_of_mem _ ?_))) (fun _ _ _ h => h) ?_; clear hF a; intro a hF))
        (first | (refine t_skip (i := 18) hF rfl rfl rfl (by kernel_rfl) (hM.sm.sub (fun x hx => by repeat (first | exact hx | refine List.mem_cons_of_mem _ ?_)) (fun _ h => by repeat (first | exact h | refine List.mem_cons_of_mem _ ?_))) (fun _ _ _ h => h) ?_; clear hF a; intro a hF))
        (first | (refine t_skip (i := 19) hF rfl rfl rfl (by kernel_rfl) (hM.sm.sub (fun x hx => by repeat (first | exact hx | refine List.mem_cons_of_mem _ ?_)) (fun _ h => by repeat (first | exact h | refine List.mem_cons_of_mem _ ?_))) (fun _ _ _ h => h) ?_; clear hF a; intro a hF))
        (refine t_skip (i := 20) hF rfl rfl rfl (by kernel_rfl) (hM.sm.sub (fun x hx => by repeat (first | exact hx | refine List.mem_cons_of_mem _ ?_)) (fun _ h => by repeat (first | exact h | refine List.mem_cons_of_mem _ ?_))) (fun _ _ _ h => h) ?_; clear hF a; intro a hF)
        (first | (refine t_skip (i := 21) hF rfl rfl rfl (by kernel_rfl) (hM.sm.sub (fun x hx => by repeat (first | exact hx | refine List.mem_cons_of_mem _ ?_)) (fun _ h => by repeat (first | exact h | refine List.mem_cons_of_mem _ ?_))) (fun _ _ _ h => h) ?_; clear hF a; intro a hF))
        (first | (refine t_pure (i := 22) hF rfl rfl rfl rfl (by kernel_rfl) (hM.sm.sub (fun x hx => by repeat (first | exact hx | refine List.mem_cons_of_mem _ ?_)) (fun _ h => by repeat (first | exact h | refine List.mem_cons_of_mem _ ?_))) (fun _ _ _ h => h) ?_ ?_; (first | exact trivial | omega | decide); clear hF a; intro a hF))
        refine t_done (by kernel_rfl) ?_
        (repeat' (first | (with_reducible refine w_seq ?_) | (with_reducible refine c_region ?_) | (with_reducible refine s_nil ?_) | (with_reducible refine q_then_n ?_) | ((with_reducible apply s_pure hF); exact rfl; exact rfl; exact rfl; (first | exact trivial | omega | exact ⟨Int.natCast_nonneg _, Int.ofNat_lt.2 (by assumption)⟩ | decide); clear hF a; intro a hF) | (with_reducible refine w_ret ?_) | (with_reducible refine q_then_r ?_) | (with_reducible refine q_blk_r ?_) | ((with_reducible apply c_true2 hF); exact rfl; (first | with_reducible rfl | (refine congrArg Value.bool ?_; focus (simp; done))))))
        (apply f_ret Try.results35 hF hM; (repeat (first | exact RL.nil | (apply RL.tmp; exact rfl) | (apply RL.cell; exact rfl; (repeat (first | exact List.mem_cons_self | refine List.mem_cons_of_mem _ ?_)); exact rfl))); refine Ret.mk hM.since ?_; dsimp only [resV])
        rw [covAll_bad (show k ≤ max (mostT t) c.S.V.length by omega) (show s ≤ mostT t by omega) q3]
      have hd : decide (VA < U1) = false := decide_eq_false (by omega)
      (repeat' (first | (with_reducible refine w_seq ?_) | (with_reducible refine c_region ?_) | (with_reducible refine s_nil ?_) | (with_reducible refine q_then_n ?_) | ((with_reducible apply s_pure hF); exact rfl; exact rfl; exact rfl; (first | exact trivial | omega | exact ⟨Int.natCast_nonneg _, Int.ofNat_lt.2 (by assumption)⟩ | decide); clear hF a; intro a hF) | ((with_reducible apply s_load hF hM); exact rfl; exact rfl; (repeat (first | exact List.mem_cons_self | refine List.mem_cons_of_mem _ ?_)); exact rfl; exact rfl; clear hF a; intro a hF) | (with_reducible refine w_skip ?_) | (with_reducible refine w_block ?_) | ((with_reducible apply c_dec hF); exact rfl; all_goals intro hc; all_goals (try (exfalso; omega)))))
      refine c_draw (fun i => Nat.ble 23 i) hM ?_; clear hM; intro w hM
      (first | (refine t_pure (i := 0) hF rfl rfl rfl rfl (by kernel_rfl) hM.sm (fun _ _ _ h => h) ?_ ?_; (first | exact trivial | omega | decide); clear hF a; intro a hF))
      (first | (apply t_load (i := 1) hF rfl rfl rfl; (repeat (first | exact List.mem_cons_self | refine List.mem_cons_of_mem _ ?_)); exact rfl; exact rfl; kernel_rfl; exact hM.sm; exact (fun _ _ _ h => h); clear hF a; intro a hF))
      (first | (refine t_pure (i := 2) hF rfl rfl rfl rfl (by kernel_rfl) hM.sm (fun _ _ _ h => h) ?_ ?_; (first | exact trivial | omega | decide); clear hF a; intro a hF))
      (first | (refine t_pure (i := 3) hF rfl rfl rfl rfl (by kernel_rfl) hM.sm (fun _ _ _ h => h) ?_ ?_; (first | exact trivial | omega | decide); clear hF a; intro a hF))
      (first | (refine t_pure (i := 5) hF rfl rfl rfl rfl (by kernel_rfl) hM.sm (fun _ _ _ h => h) ?_ ?_; (first | exact trivial | omega | decide); clear hF a; intro a hF))
      (first | (apply t_load (i := 6) hF rfl rfl rfl; (repeat (first | exact List.mem_cons_self | refine List.mem_cons_of_mem _ ?_)); exact rfl; exact rfl; kernel_rfl; exact hM.sm; exact (fun _ _ _ h => h); clear hF a; intro a hF))
      (first | (refine t_pure (i := 7) hF rfl rfl rfl rfl (by kernel_rfl) hM.sm (fun _ _ _ h => h) ?_ ?_; (first | exact trivial | omega | decide); clear hF a; intro a hF))
      refine t_one (i := 4) hF rfl (by kernel_rfl) rfl ?_
      intro K hK
      (apply x_call hF hM; exact rfl; exact rfl; exact rfl; exact rfl; exact (Window_c t.W 0 okW aw cw _ _ hM.lt (hM.facts (RdF (Value.int .i64) aw t.W) (by (repeat (first | with_reducible exact List.mem_cons_self | refine List.mem_cons_of_mem _ ?_)))) s k (by omega) (by omega)); clear hF hM a; rintro v w a rfl - hM hF)
      rw [hU1] at hF
      refine hK _ _ (fun _ => (hM.sm.sub (fun x hx => by repeat (first | exact hx | refine List.mem_cons_of_mem _ ?_)) (fun _ h => by repeat (first | exact h | refine List.mem_cons_of_mem _ ?_)))) ?_; clear hK
      refine t_one (i := 8) hF rfl (by kernel_rfl) rfl ?_
      intro K hK
      (apply x_call hF hM; exact rfl; exact rfl; exact rfl; exact rfl; exact (refAt_c c.A k _ _ _ hM.lt (isCu_mk (hM.facts (RdF (Value.int .i64) a1 c.A.V) (by (repeat (first | with_reducible exact List.mem_cons_self | refine List.mem_cons_of_mem _ ?_)))) l1 m1)); clear hF hM a; rintro v w a rfl - hM hF)
      rw [hka, hVA] at hF
      refine hK _ _ (fun _ => (hM.sm.sub (fun x hx => by repeat (first | exact hx | refine List.mem_cons_of_mem _ ?_)) (fun _ h => by repeat (first | exact h | refine List.mem_cons_of_mem _ ?_)))) ?_; clear hK
      (first | (refine t_pure (i := 9) hF rfl rfl rfl rfl (by kernel_rfl) (hM.sm.sub (fun x hx => by repeat (first | exact hx | refine List.mem_cons_of_mem _ ?_)) (fun _ h => by repeat (first | exact h | refine List.mem_cons_of_mem _ ?_))) (fun _ _ _ h => h) ?_ ?_; (first | exact trivial | omega | decide); clear hF a; intro a hF))
      rw [hd] at hF
      (first | (refine t_pure (i := 10) hF rfl rfl rfl rfl (by kernel_rfl) (hM.sm.sub (fun x hx => by repeat (first | exact hx | refine List.mem_cons_of_mem _ ?_)) (fun _ h => by repeat (first | exact h | refine List.mem_cons_of_mem _ ?_))) (fun _ _ _ h => h) ?_ ?_; (first | exact trivial | omega | decide); clear hF a; intro a hF))
      (first | (refine t_pure (i := 11) hF rfl rfl rfl rfl (by kernel_rfl) (hM.sm.sub (fun x hx => by repeat (first | exact hx | refine List.mem_cons_of_mem _ ?_)) (fun _ h => by repeat (first | exact h | refine List.mem_cons_of_mem _ ?_))) (fun _ _ _ h => h) ?_ ?_; (first | exact trivial | omega | decide); clear hF a; intro a hF))
      (first | (apply t_load (i := 12) hF rfl rfl rfl; (repeat (first | exact List.mem_cons_self | refine List.mem_cons_of_mem _ ?_)); exact rfl; exact rfl; kernel_rfl; exact (hM.sm.sub (fun x hx => by repeat (first | exact hx | refine List.mem_cons_of_mem _ ?_)) (fun _ h => by repeat (first | exact h | refine List.mem_cons_of_mem _ ?_))); exact (fun _ _ _ h => h); clear hF a; intro a hF))
      (first | (refine t_pure (i := 13) hF rfl rfl rfl rfl (by kernel_rfl) (hM.sm.sub (fun x hx => by repeat (first | exact hx | refine List.mem_cons_of_mem _ ?_)) (fun _ h => by repeat (first | exact h | refine List.mem_cons_of_mem _ ?_))) (fun _ _ _ h => h) ?_ ?_; (first | exact trivial | omega | decide); clear hF a; intro a hF))
      (first | (refine t_pure (i := 14) hF rfl rfl rfl rfl (by kernel_rfl) (hM.sm.sub (fun x hx => by repeat (first | exact hx | refine List.mem_cons_of_mem _ ?_)) (fun _ h => by repeat (first | exact h | refine List.mem_cons_of_mem _ ?_))) (fun _ _ _ h => h) ?_ ?_; (first | exact trivial | omega | decide); clear hF a; intro a hF))
      (first | (refine t_pure (i := 15) hF rfl rfl rfl rfl (by kernel_rfl) (hM.sm.sub (fun x hx => by repeat (first | exact hx | refine List.mem_cons_of_mem _ ?_)) (fun _ h => by repeat (first | exact h | refine List.mem_cons_of_mem _ ?_))) (fun _ _ _ h => h) ?_ ?_; (first | exact trivial | omega | decide); clear hF a; intro a hF))
      (first | (refine t_pure (i := 17) hF rfl rfl rfl rfl (by kernel_rfl) (hM.sm.sub (fun x hx => by repeat (first | exact hx | refine List.mem_cons_of_mem _ ?_)) (fun _ h => by repeat (first | exact h | refine List.mem_cons_of_mem _ ?_))) (fun _ _ _ h => h) ?_ ?_; (first | exact trivial | omega | decide); clear hF a; intro a hF))
      (first | (apply t_load (i := 18) hF rfl rfl rfl; (repeat (first | exact List.mem_cons_self | refine List.mem_cons_of_mem _ ?_)); exact rfl; exact rfl; kernel_rfl; exact (hM.sm.sub (fun x hx => by repeat (first | exact hx | refine List.mem_cons_of_mem _ ?_)) (fun _ h => by repeat (first | exact h | refine List.mem_cons_of_mem _ ?_))); exact (fun _ _ _ h => h); clear hF a; intro a hF))
      (first | (refine t_pure (i := 19) hF rfl rfl rfl rfl (by kernel_rfl) (hM.sm.sub (fun x hx => by repeat (first | exact hx | refine List.mem_cons_of_mem _ ?_)) (fun _ h => by repeat (first | exact h | refine List.mem_cons_of_mem _ ?_))) (fun _ _ _ h => h) ?_ ?_; (first | exact trivial | omega | decide); clear hF a; intro a hF))
      refine t_one (i := 16) hF rfl (by kernel_rfl) rfl ?_
      intro K hK
      (apply x_call hF hM; exact rfl; exact rfl; exact rfl; exact rfl; exact (Window_c t.C (P56.last t.C) okC (some adc) cc _ _ hM.lt (hM.facts (RdF (Value.int .i64) (some adc) t.C) (by (repeat (first | with_reducible exact List.mem_cons_self | refine List.mem_cons_of_mem _ ?_)))) s k (by omega) (by omega)); clear hF hM a; rintro v w a rfl - hM hF)
      rw [hU3] at hF
      refine hK _ _ (fun _ => (hM.sm.sub (fun x hx => by repeat (first | exact hx | refine List.mem_cons_of_mem _ ?_)) (fun _ h => by repeat (first | exact h | refine List.mem_cons_of_mem _ ?_)))) ?_; clear hK
      refine t_one (i := 20) hF rfl (by kernel_rfl) rfl ?_
      intro K hK
      (apply x_call hF hM; exact rfl; exact rfl; exact rfl; exact rfl; exact (refAt_c c.S k _ _ _ hM.lt (isCu_mk (hM.facts (RdF (Value.int .i64) a2 c.S.V) (by (repeat (first | with_reducible exact List.mem_cons_self | refine List.mem_cons_of_mem _ ?_)))) l2 m2)); clear hF hM a; rintro v w a rfl - hM hF)
      rw [hks, hVS] at hF
      refine hK _ _ (fun _ => (hM.sm.sub (fun x hx => by repeat (first | exact hx | refine List.mem_cons_of_mem _ ?_)) (fun _ h => by repeat (first | exact h | refine List.mem_cons_of_mem _ ?_)))) ?_; clear hK
      (first | (refine t_pure (i := 21) hF rfl rfl rfl rfl (by kernel_rfl) (hM.sm.sub (fun x hx => by repeat (first | exact hx | refine List.mem_cons_of_mem _ ?_)) (fun _ h => by repeat (first | exact h | refine List.mem_cons_of_mem _ ?_))) (fun _ _ _ h => h) ?_ ?_; (first | exact trivial | omega | decide); clear hF a; intro a hF))
      (first | (refine t_pure (i := 22) hF rfl rfl rfl rfl (by kernel_rfl) (hM.sm.sub (fun x hx => by repeat (first | exact hx | refine List.mem_cons_of_mem _ ?_)) (fun _ h => by repeat (first | exact h | refine List.mem_cons_of_mem _ ?_))) (fun _ _ _ h => h) ?_ ?_; (first | exact trivial | omega | decide); clear hF a; intro a hF))
      refine t_done (by kernel_rfl) ?_
      by_cases hb2 : VS ≤ U3
      case neg =>
        (repeat' (first | (with_reducible refine w_seq ?_) | (with_reducible refine c_region ?_) | (with_reducible refine s_nil ?_) | (with_reducible refine q_then_n ?_) | ((with_reducible apply s_pure hF); exact rfl; exact rfl; exact rfl; (first | exact trivial | omega | exact ⟨Int.natCast_nonneg _, Int.ofNat_lt.2 (by assumption)⟩ | decide); clear hF a; intro a hF) | (with_reducible refine w_ret ?_) | (with_reducible refine q_then_r ?_) | (with_reducible refine q_blk_r ?_) | ((with_reducible apply c_dec hF); exact rfl; all_goals intro hc; all_goals (try (exfalso; omega)))))
        (apply f_ret Try.results35 hF hM; (repeat (first | exact RL.nil | (apply RL.tmp; exact rfl) | (apply RL.cell; exact rfl; (repeat (first | exact List.mem_cons_self | refine List.mem_cons_of_mem _ ?_)); exact rfl))); refine Ret.mk hM.since ?_; dsimp only [resV])
        have q3 : covAt c t k s = false := by
          unfold covAt
          rw [decide_eq_false (show ¬ vl c.S k ≤ win t.C (P56.last t.C) s k by rw [hU3, hVS]; exact hb2), Bool.and_false]
        rw [covAll_bad (show k ≤ max (mostT t) c.S.V.length by omega) (show s ≤ mostT t by omega) q3]
      (repeat' (first | (with_reducible refine c_region ?_) | (with_reducible refine s_nil ?_) | (with_reducible refine q_then_n ?_) | ((with_reducible apply s_pure hF); exact rfl; exact rfl; exact rfl; (first | exact trivial | omega | exact ⟨Int.natCast_nonneg _, Int.ofNat_lt.2 (by assumption)⟩ | decide); clear hF a; intro a hF) | (with_reducible refine w_skip ?_) | (with_reducible refine q_blk_n ?_) | ((with_reducible apply c_dec hF); exact rfl; all_goals intro hc; all_goals (try (exfalso; omega)))))
      refine ⟨z - 1, by omega, s + 1, by omega, fun s' h => ?_, hF.sub (by repeat (first | exact Sub.nil | refine Sub.cons rfl (by first | with_reducible rfl | (refine congrArg (Value.int _) ?_; omega) | exact rfl) ?_)), hM⟩
      by_cases e : s' = s
      · rw [e]
        unfold covAt
        rw [decide_eq_true (show win t.W 0 s k ≤ vl c.A k by rw [hU1, hVA]; exact hb1), decide_eq_true (show vl c.S k ≤ win t.C (P56.last t.C) s k by rw [hU3, hVS]; exact hb2)]
        rfl
      · exact hin s' (by omega)
    · obtain rfl : s = M + 1 := by omega
      (repeat' (first | (with_reducible refine w_seq ?_) | (with_reducible refine c_region ?_) | (with_reducible refine s_nil ?_) | (with_reducible refine q_then_n ?_) | ((with_reducible apply s_pure hF); exact rfl; exact rfl; exact rfl; (first | exact trivial | omega | exact ⟨Int.natCast_nonneg _, Int.ofNat_lt.2 (by assumption)⟩ | decide); clear hF a; intro a hF) | ((with_reducible apply s_load hF hM); exact rfl; exact rfl; (repeat (first | exact List.mem_cons_self | refine List.mem_cons_of_mem _ ?_)); exact rfl; exact rfl; clear hF a; intro a hF) | (with_reducible refine w_exit ?_) | (with_reducible refine q_then_x ?_) | (with_reducible refine q_blk_n ?_) | (with_reducible refine q_blk_x ?_) | ((with_reducible apply c_dec hF); exact rfl; all_goals intro hc; all_goals (try (exfalso; omega)))))
      refine ⟨m - 1, by omega, k + 1, by omega, fun k' s' h1 h2 => ?_, hF.sub (by repeat (first | exact Sub.nil | refine Sub.cons rfl (by first | with_reducible rfl | (refine congrArg (Value.int _) ?_; omega) | exact rfl) ?_)), hM⟩
      by_cases e : k' = k
      · rw [e]; exact hin s' (by omega)
      · exact hall k' s' (by omega) h2
  · obtain rfl : k = N + 1 := by omega
    (repeat' (first | (with_reducible refine w_seq ?_) | (with_reducible refine c_region ?_) | (with_reducible refine s_nil ?_) | ((with_reducible apply s_max3 hF); exact rfl; exact rfl; exact rfl; clear hF a; intro a hF) | (with_reducible refine q_then_n ?_) | ((with_reducible apply s_pure hF); exact rfl; exact rfl; exact rfl; (first | exact trivial | omega | exact ⟨Int.natCast_nonneg _, Int.ofNat_lt.2 (by assumption)⟩ | decide); clear hF a; intro a hF) | ((with_reducible apply s_load hF hM); exact rfl; exact rfl; (repeat (first | exact List.mem_cons_self | refine List.mem_cons_of_mem _ ?_)); exact rfl; exact rfl; clear hF a; intro a hF) | (with_reducible refine w_exit ?_) | (with_reducible refine w_ret ?_) | (with_reducible refine q_then_x ?_) | (with_reducible refine q_blk_x ?_) | ((with_reducible apply c_dec hF); exact rfl; all_goals intro hc; all_goals (try (exfalso; omega)))))
    (apply f_ret Try.results35 hF hM; (repeat (first | exact RL.nil | (apply RL.tmp; exact rfl) | (apply RL.cell; exact rfl; (repeat (first | exact List.mem_cons_self | refine List.mem_cons_of_mem _ ?_)); exact rfl))); refine Ret.mk hM.since ?_; dsimp only [resV])
    rw [covAll_iff.2 fun k' s' h1 h2 => hall k' s' (by omega) (by omega)]
end Go.Proofs.Ytabfhoipclbeeaa

