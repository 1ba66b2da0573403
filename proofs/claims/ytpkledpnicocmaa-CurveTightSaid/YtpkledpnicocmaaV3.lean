/- curve: windows. -/
import Derived.Test.YtpkledpnicocmaaV2
import Derived.Test.YtpkledpnicocmaaC5b
set_option linter.unusedSimpArgs false
set_option linter.unusedVariables false
namespace Go.Proofs.Ytpkledpnicocmaa
open Go.RowKit Go.Shelf C55
def sms (l : List Int) (n : Nat) : List Int := tab (fun i => (l.take i).sum) n
theorem tab_get {F : Nat → Int} {n k : Nat} (h : k < n) : (tab F n)[k]? = some (F k) := by simp [tab, h]
theorem isCu_mkn {own : Nat → Prop} {w : World} {c : Cu} {n : Nat} {a : Option Addr} {cap : Nat} (h : Has own w (RdF (Value.int .i64) a c.V)) (hn : c.V.length = n) (h1 : n ≤ 9223372036854775807) (h2 : n ≤ cap) : Has own w (IsCu · (.agg #[.slice a n cap, .int .i64 c.S]) c) := by
  subst hn
  exact isCu_mk h h1 h2
theorem isCu_zc {own : Nat → Prop} {w : World} : Has own w (IsCu · (.agg #[.slice none 0 0, .int .i64 0]) zc) := isCu_mk (c := zc) RdF.nil (by simp [zc]) (by simp [zc])
/-- A curve and an error. -/
def CvR (own : Nat → Prop) (r : Cu × Int) (v : Value) (w : World) : Prop := ∃ cv, v = .tuple #[cv, .int .i64 r.2] ∧ Has own w (IsCu · cv r.1)
theorem cvR_z {own : Nat → Prop} {w : World} {r : Cu × Int} {e : Int} (h : r = (zc, e)) : CvR own r (.tuple #[.agg #[.slice none 0 0, .int .i64 0], .int .i64 e]) w := by
  subst h
  exact ⟨_, rfl, isCu_zc⟩
theorem row_capA {α : Type} {enc : α → Value} {own : Nat → Prop} {w w0 : World} {bs : List BoxE} {L : List Ent} {Fs : List (World → Prop)} (hM : Mm own w0 bs L Fs w) {e : TypeId} {a : Option Addr} {m c : Nat} {xs : List α} (h : (⟨e, 1, .slice a m c, m, xs.map enc⟩ : Ent) ∈ L) : m ≤ c := by
  rcases (hM.mem.own.own _ h).2 with ⟨h', h2⟩ | ⟨g, cap, cur, h', _, _, h3, _⟩
  · simp only at h2
    omega
  · simp only [Value.slice.injEq] at h' h3
    omega
theorem row_someA {α : Type} {enc : α → Value} {own : Nat → Prop} {w w0 : World} {bs : List BoxE} {L : List Ent} {Fs : List (World → Prop)} (hM : Mm own w0 bs L Fs w) {e : TypeId} {a : Option Addr} {m c : Nat} {xs : List α} (h : (⟨e, 1, .slice a m c, m, xs.map enc⟩ : Ent) ∈ L) {k : Nat} {x : α} (hx : xs[k]? = some x) : ∃ ad, a = some ad := by
  obtain ⟨b, off, e1, _⟩ := own_reads (hM.mem.own.own _ h) k x hx
  exact ⟨_, e1⟩
theorem upTo_c (l : List Int) (S : Int) (ok : SOk l S) (t : Int) (tn : Nat) (ht : t = tn) (hb : tn ≤ 10000) (b8 b3 b4 : Nat) (sa a0 : Option Addr) (sc c0 : Nat) (own : Nat → Prop) (W : World) (hl : ∀ b, own b → b < W.heap.size)
    (h8 : Has own W (BxF b8 [.slice sa (l.length + 1) sc] 22)) (h3 : Has own W (BxF b3 [.slice a0 l.length c0] 22)) (h4 : Has own W (BxF b4 [.int .i64 S] 3)) (hs : Has own W (RdF (Value.int .i64) sa (sms l (l.length + 1)))) :
    Calls Try.prog 63 ⟨[.int .i64 t, .pointer (some ⟨b8, 0, none⟩), .pointer (some ⟨b3, 0, none⟩), .pointer (some ⟨b4, 0, none⟩)]⟩ W (Ret W fun v _ => v = .int .i64 (up l S tn)) := by
  subst ht
  have hM := ((((Mm.start hl).known h8).known h3).known h4).known hs
  have k1 := ok.l1
  have k2 := ok.m
  have hlen : (sms l (l.length + 1))[(l.length : Int).toNat]? = some l.sum := by
    have := tab_get (F := fun i => (l.take i).sum) (n := l.length + 1) (k := l.length) (by omega)
    simpa [sms] using this
  obtain ⟨ad, rfl⟩ := rd_some hM (by (repeat (first | exact List.mem_cons_self | refine List.mem_cons_of_mem _ ?_))) hlen
  refine f_start Try.func63 rfl Try.ntmps63 rfl rfl ?_; intro a hF
  by_cases hlt : tn < l.length + 1
  · have hx : (sms l (l.length + 1))[tn]? = some (l.take tn).sum := tab_get hlt
    (repeat' (first | (with_reducible refine w_seq ?_) | (with_reducible refine c_region ?_) | (with_reducible refine s_nil ?_) | (with_reducible refine q_then_n ?_) | ((with_reducible apply s_pure hF); exact rfl; exact rfl; exact rfl; (first | exact trivial | omega | decide); clear hF a; intro a hF) | ((with_reducible apply s_loadF hF hM); exact rfl; exact rfl; (repeat (first | exact List.mem_cons_self | refine List.mem_cons_of_mem _ ?_)); exact rfl; exact rfl; (first | with_reducible assumption | (simp only [Int.toNat_natCast]; with_reducible assumption)); clear hF a; intro a hF) | ((with_reducible apply s_loadK hF hM); exact rfl; exact rfl; (repeat (first | exact List.mem_cons_self | refine List.mem_cons_of_mem _ ?_)); exact rfl; exact rfl; clear hF a; intro a hF) | (with_reducible refine w_ret ?_) | (with_reducible refine q_then_r ?_) | ((with_reducible apply c_dec hF); exact rfl; all_goals intro hc; all_goals (try (exfalso; omega)))))
    (apply f_ret Try.results63 hF hM; (repeat (first | exact RL.nil | (apply RL.tmp; exact rfl) | (apply RL.cell; exact rfl; (repeat (first | exact List.mem_cons_self | refine List.mem_cons_of_mem _ ?_)); exact rfl))); refine Ret.mk hM.since ?_; dsimp only [resV])
    rw [up_le (by omega)]
  · have hbd := mul_bd (x := (tn : Int) - l.length) (a := 10000) (y := S) (b := 1073741824) (by omega) ok.s
    (repeat' (first | (with_reducible refine w_seq ?_) | (with_reducible refine c_region ?_) | (with_reducible refine s_nil ?_) | (with_reducible refine q_then_n ?_) | ((with_reducible apply s_pure hF); exact rfl; exact rfl; exact rfl; (first | exact trivial | omega | decide); clear hF a; intro a hF) | ((with_reducible apply s_loadK hF hM); exact rfl; exact rfl; (repeat (first | exact List.mem_cons_self | refine List.mem_cons_of_mem _ ?_)); exact rfl; exact rfl; clear hF a; intro a hF) | (with_reducible refine w_skip ?_) | ((with_reducible apply c_dec hF); exact rfl; all_goals intro hc; all_goals (try (exfalso; omega)))))
    refine c_draw (fun i => Nat.ble 13 i) hM ?_; clear hM; intro w hM
    (first | (apply t_loadK (i := 0) hF rfl rfl rfl; (repeat (first | exact List.mem_cons_self | refine List.mem_cons_of_mem _ ?_)); exact rfl; exact rfl; kernel_rfl; exact hM.sm; exact (fun _ _ _ h => h); clear hF a; intro a hF))
    (first | (apply t_loadK (i := 1) hF rfl rfl rfl; (repeat (first | exact List.mem_cons_self | refine List.mem_cons_of_mem _ ?_)); exact rfl; exact rfl; kernel_rfl; exact hM.sm; exact (fun _ _ _ h => h); clear hF a; intro a hF))
    (first | (refine t_pure (i := 2) hF rfl rfl rfl rfl (by kernel_rfl) hM.sm (fun _ _ _ h => h) ?_ ?_; (first | exact trivial | omega | decide); clear hF a; intro a hF))
    (first | (refine t_pure (i := 3) hF rfl rfl rfl rfl (by kernel_rfl) hM.sm (fun _ _ _ h => h) ?_ ?_; (first | exact trivial | omega | decide); clear hF a; intro a hF))
    (first | (apply t_loadF (i := 4) hF rfl rfl rfl; (repeat (first | exact List.mem_cons_self | refine List.mem_cons_of_mem _ ?_)); (first | with_reducible assumption | (simp only [Int.toNat_natCast]; with_reducible assumption)); exact rfl; exact rfl; kernel_rfl; exact hM.sm; exact (fun _ _ _ h => h); clear hF a; intro a hF))
    (first | (apply t_loadK (i := 5) hF rfl rfl rfl; (repeat (first | exact List.mem_cons_self | refine List.mem_cons_of_mem _ ?_)); exact rfl; exact rfl; kernel_rfl; exact hM.sm; exact (fun _ _ _ h => h); clear hF a; intro a hF))
    (first | (refine t_pure (i := 6) hF rfl rfl rfl rfl (by kernel_rfl) hM.sm (fun _ _ _ h => h) ?_ ?_; (first | exact trivial | omega | decide); clear hF a; intro a hF))
    (first | (refine t_pure (i := 7) hF rfl rfl rfl rfl (by kernel_rfl) hM.sm (fun _ _ _ h => h) ?_ ?_; (first | exact trivial | omega | decide); clear hF a; intro a hF))
    (first | (apply t_loadK (i := 8) hF rfl rfl rfl; (repeat (first | exact List.mem_cons_self | refine List.mem_cons_of_mem _ ?_)); exact rfl; exact rfl; kernel_rfl; exact hM.sm; exact (fun _ _ _ h => h); clear hF a; intro a hF))
    (first | (refine t_pure (i := 9) hF rfl rfl rfl rfl (by kernel_rfl) hM.sm (fun _ _ _ h => h) ?_ ?_; (first | exact trivial | omega | decide); clear hF a; intro a hF))
    (first | (refine t_pure (i := 10) hF rfl rfl rfl rfl (by kernel_rfl) hM.sm (fun _ _ _ h => h) ?_ ?_; (first | exact trivial | omega | decide); clear hF a; intro a hF))
    refine t_one (i := 11) hF rfl (by kernel_rfl) rfl ?_
    intro K hK
    (apply x_call hF hM; exact rfl; exact rfl; exact rfl; exact rfl; exact (line_c _ _ _ _ (by omega) (by omega)); clear hF hM a; rintro v w a rfl - hM hF)
    refine hK _ _ (fun _ => hM.sm) ?_; clear hK
    (first | (refine t_pure (i := 12) hF rfl rfl rfl rfl (by kernel_rfl) hM.sm (fun _ _ _ h => h) ?_ ?_; (first | exact trivial | omega | decide); clear hF a; intro a hF))
    refine t_done (by kernel_rfl) ?_
    (repeat (first | (with_reducible refine q_then_n ?_) | (with_reducible refine w_ret ?_)))
    (apply f_ret Try.results63 hF hM; (repeat (first | exact RL.nil | (apply RL.tmp; exact rfl) | (apply RL.cell; exact rfl; (repeat (first | exact List.mem_cons_self | refine List.mem_cons_of_mem _ ?_)); exact rfl))); refine Ret.mk hM.since ?_; dsimp only [resV])
    rw [up_ge (by omega)]
theorem take_bd {l : List Int} : ∀ k, k ≤ l.length → (∀ (j : Nat) x, j < k → l[j]? = some x → tm x = true) → 0 ≤ (l.take k).sum ∧ (l.take k).sum ≤ (k : Int) * 1073741824
  | 0, _, _ => by simp
  | k + 1, hk, h => by
    have ih := take_bd k (by omega) fun j x hj => h j x (by omega)
    have hx := List.getElem?_eq_getElem (l := l) (i := k) (by omega)
    have h1 := tm_iff.1 (h k _ (by omega) hx)
    rw [take_snoc hx, sum_snoc]
    omega
theorem wins_err {g : Bool} {l : List Int} {S e : Int} (h : seqE l S = e) (he : e ≠ 0) : wins g l S = (zc, e) := by
  unfold wins
  rw [h, if_pos he]
theorem seq2 {l : List Int} {S : Int} (h : ¬ 4096 ≤ l.length) (h2 : ((l.any fun n => !tm n) || !tm l.sum || !tm S) = true) : seqE l S = 2 := by
  unfold seqE
  rw [if_neg h, if_pos h2]
theorem wins_big {g : Bool} {l : List Int} {S : Int} (ok : SOk l S) {k : Nat} (hk : k < l.length + 1) (h : 1073741824 < bw g l S k l.length) : wins g l S = (zc, 2) := by
  unfold wins
  rw [if_neg (by rw [seq_ok.2 ok]; decide), if_pos]
  rw [List.any_eq_true]
  exact ⟨bw g l S k l.length, List.mem_map.2 ⟨k, List.mem_range.2 hk, rfl⟩, by simpa using h⟩
theorem wins_ok {g : Bool} {l : List Int} {S : Int} (ok : SOk l S) (h : ∀ k, k < l.length + 1 → bw g l S k l.length ≤ 1073741824) : wins g l S = (⟨ws g l S (l.length + 1), S⟩, 0) := by
  unfold wins
  rw [if_neg (by rw [seq_ok.2 ok]; decide), if_neg]
  rw [Bool.not_eq_true, List.any_eq_false]
  intro x hx
  obtain ⟨k, hk, rfl⟩ := List.mem_map.1 hx
  have := h k (List.mem_range.1 hk)
  simp only [decide_eq_true_eq]
  omega
theorem windows_c (bt : Bool) (fb : Nat) (hfb : ∀ x y w, Calls Try.prog fb ⟨[.int .i64 x, .int .i64 y]⟩ w (Ret w fun v _ => v = .int .i64 (bet bt x y))) (hent : memB entL fb = true)
    (l : List Int) (S : Int) (a0 : Option Addr) (c0 : Nat) (own : Nat → Prop) (W : World) (hl : ∀ b, own b → b < W.heap.size) (hlen : l.length ≤ 9223372036854775807) (hv : Has own W (RdF (Value.int .i64) a0 l)) :
    Calls Try.prog 35 ⟨[.slice a0 l.length c0, .int .i64 S, .func (.func fb) #[] #[]]⟩ W (Ret W (CvR own (wins bt l S))) := by
  have hM := (Mm.start hl).known hv
  refine f_start Try.func35 rfl Try.ntmps35 rfl rfl ?_; intro a hF
  by_cases hlong : 4096 ≤ l.length
  · (repeat' (first | (with_reducible refine w_seq ?_) | (with_reducible refine c_region ?_) | (with_reducible refine s_nil ?_) | (with_reducible refine q_then_n ?_) | ((with_reducible apply s_pure hF); exact rfl; exact rfl; exact rfl; (first | exact trivial | omega | decide); clear hF a; intro a hF) | ((with_reducible apply s_load hF hM); exact rfl; exact rfl; (repeat (first | exact List.mem_cons_self | refine List.mem_cons_of_mem _ ?_)); exact rfl; exact rfl; clear hF a; intro a hF) | ((with_reducible apply s_store hF hM); exact rfl; exact rfl; exact rfl; exact rfl; (repeat (first | exact Upd.z | apply Upd.s)); exact rfl; exact rfl; exact rfl; clear hM; intro w hM) | ((with_reducible apply s_alloc hF hM); exact rfl; exact rfl; exact rfl; clear hF hM a; intro b w a hM hF) | ((with_reducible apply s_box hF hM); exact rfl; exact rfl; exact rfl; exact rfl; clear hF hM a; intro b w a hM hF) | (with_reducible refine w_ret ?_) | (with_reducible refine q_then_r ?_) | ((with_reducible apply c_dec hF); exact rfl; all_goals intro hc; all_goals (try (exfalso; omega)))))
    (apply f_ret Try.results35 hF hM; (repeat (first | exact RL.nil | (apply RL.tmp; exact rfl) | (apply RL.cell; exact rfl; (repeat (first | exact List.mem_cons_self | refine List.mem_cons_of_mem _ ?_)); exact rfl))); refine Ret.mk hM.since ?_; dsimp only [resV])
    exact cvR_z (wins_err (by unfold seqE; rw [if_pos hlong]) (by decide))
  (repeat' (first | (with_reducible refine w_seq ?_) | (with_reducible refine c_region ?_) | (with_reducible refine s_nil ?_) | (with_reducible refine q_then_n ?_) | ((with_reducible apply s_pure hF); exact rfl; exact rfl; exact rfl; (first | exact trivial | omega | decide); clear hF a; intro a hF) | ((with_reducible apply s_load hF hM); exact rfl; exact rfl; (repeat (first | exact List.mem_cons_self | refine List.mem_cons_of_mem _ ?_)); exact rfl; exact rfl; clear hF a; intro a hF) | ((with_reducible apply s_store hF hM); exact rfl; exact rfl; exact rfl; exact rfl; (repeat (first | exact Upd.z | apply Upd.s)); exact rfl; exact rfl; exact rfl; clear hM; intro w hM) | ((with_reducible apply s_alloc hF hM); exact rfl; exact rfl; exact rfl; clear hF hM a; intro b w a hM hF) | ((with_reducible apply s_box hF hM); exact rfl; exact rfl; exact rfl; exact rfl; clear hF hM a; intro b w a hM hF) | ((with_reducible apply s_lit hF hM); exact rfl; exact rfl; exact rfl; exact rfl; clear hF hM a; intro bl w a hM hF) | (with_reducible refine w_skip ?_) | (with_reducible refine w_block ?_) | ((with_reducible apply c_dec hF); exact rfl; all_goals intro hc; all_goals (try (exfalso; omega)))))
  rename_i b3 _ b4 _ b6 _ _ _
  replace hM := (hM.perm (List.Perm.swap _ _ _)).boxRow 1 1 rfl (by decide)
  have hs0 : (sms l (0 + 1)).map (Value.int .i64) = [Value.int .i64 0] := by simp [sms, tab]
  refine c_loop (m := l.length) (fun m a w' => ∃ (k : Nat) (sa : Option Addr) (sc : Nat), m + k = l.length ∧ (∀ (j : Nat) x, j < k → l[j]? = some x → tm x = true) ∧
    Fr _ [] [(23, .int .i64 k), (22, .int .i64 l.length), (21, .slice a0 l.length c0), (3, .pointer (some ⟨b3, 0, none⟩)), (4, .pointer (some ⟨b4, 0, none⟩)), (6, .pointer (some ⟨b6, 0, none⟩)), (8, .pointer (some ⟨b, 0, none⟩)), (7, .int .i64 0), (2, .func (.func fb) #[] #[])] a ∧
    Mm own W [⟨b, ⟨[.slice sa (k + 1) sc]⟩, 22⟩, ⟨b6, ⟨[.slice none 0 0, .int .i64 0]⟩, 24⟩, ⟨b4, ⟨[.int .i64 S]⟩, 3⟩, ⟨b3, ⟨[.slice a0 l.length c0]⟩, 22⟩] [⟨3, 1, .slice sa (k + 1) sc, k + 1, (sms l (k + 1)).map (Value.int .i64)⟩] [RdF (Value.int .i64) a0 l] w') ⟨0, _, _, by omega, fun j x h => by omega, hF.sub (by repeat (first | exact Sub.nil | refine Sub.cons rfl (by first | with_reducible rfl | (refine congrArg (Value.int _) ?_; omega) | exact rfl) ?_)), by rw [hs0]; exact hM⟩ ?_
  clear hF hM a
  rintro m a w' ⟨k, sa, sc, hk, hall, hF, hM⟩
  have hk1 : (sms l (k + 1))[(((k + 1 : Nat) : Int) - 1).toNat]? = some (l.take k).sum := by
    rw [show (((k + 1 : Nat) : Int) - 1).toNat = k by omega]
    exact tab_get (by omega)
  obtain ⟨sad, rfl⟩ := row_someA (a := sa) (enc := Value.int .i64) hM (by (repeat (first | exact List.mem_cons_self | refine List.mem_cons_of_mem _ ?_))) hk1
  by_cases hlt : k < l.length
  · obtain ⟨x, hx⟩ := get_of_lt hlt
    obtain ⟨ad, rfl⟩ := rd_some hM (by (repeat (first | exact List.mem_cons_self | refine List.mem_cons_of_mem _ ?_))) hx
    have hsb := take_bd (l := l) k (by omega) hall
    cases ht : tm x with
    | false =>
      (repeat' (first | (with_reducible refine w_seq ?_) | (with_reducible refine c_region ?_) | (with_reducible refine s_nil ?_) | ((with_reducible apply s_call (f := 41) hF hM); exact rfl; exact rfl; exact rfl; exact rfl; exact rfl; exact ((ht ▸ time_c x _ : Calls Try.prog _ _ _ (Ret _ fun v _ => v = .bool false))); clear hF hM a; rintro v w a rfl - hM hF) | (with_reducible refine q_then_n ?_) | ((with_reducible apply s_pure hF); exact rfl; exact rfl; exact rfl; (first | exact trivial | omega | decide); clear hF a; intro a hF) | ((with_reducible apply s_loadF hF hM); exact rfl; exact rfl; (repeat (first | exact List.mem_cons_self | refine List.mem_cons_of_mem _ ?_)); exact rfl; exact rfl; (first | with_reducible assumption | (simp only [Int.toNat_natCast]; with_reducible assumption)); clear hF a; intro a hF) | ((with_reducible apply s_store hF hM); exact rfl; exact rfl; exact rfl; exact rfl; (repeat (first | exact Upd.z | apply Upd.s)); exact rfl; exact rfl; exact rfl; clear hM; intro w hM) | (with_reducible refine w_skip ?_) | (with_reducible refine w_block ?_) | (with_reducible refine w_ret ?_) | (with_reducible refine q_then_r ?_) | (with_reducible refine q_blk_r ?_) | ((with_reducible apply c_true hF); exact rfl) | ((with_reducible apply c_dec hF); exact rfl; all_goals intro hc; all_goals (try (exfalso; omega)))))
      (apply f_ret Try.results35 hF hM; (repeat (first | exact RL.nil | (apply RL.tmp; exact rfl) | (apply RL.cell; exact rfl; (repeat (first | exact List.mem_cons_self | refine List.mem_cons_of_mem _ ?_)); exact rfl))); refine Ret.mk hM.since ?_; dsimp only [resV])
      exact cvR_z (wins_err (seq2 hlong (by rw [any_hit hx ht]; rfl)) (by decide))
    | true =>
      (repeat' (first | (with_reducible refine w_seq ?_) | (with_reducible refine c_region ?_) | (with_reducible refine s_nil ?_) | ((with_reducible apply s_call (f := 41) hF hM); exact rfl; exact rfl; exact rfl; exact rfl; exact rfl; exact ((ht ▸ time_c x _ : Calls Try.prog _ _ _ (Ret _ fun v _ => v = .bool true))); clear hF hM a; rintro v w a rfl - hM hF) | (with_reducible refine q_then_n ?_) | ((with_reducible apply s_pure hF); exact rfl; exact rfl; exact rfl; (first | exact trivial | omega | decide); clear hF a; intro a hF) | ((with_reducible apply s_loadF hF hM); exact rfl; exact rfl; (repeat (first | exact List.mem_cons_self | refine List.mem_cons_of_mem _ ?_)); exact rfl; exact rfl; (first | with_reducible assumption | (simp only [Int.toNat_natCast]; with_reducible assumption)); clear hF a; intro a hF) | (with_reducible refine w_skip ?_) | (with_reducible refine w_block ?_) | ((with_reducible apply c_false hF); exact rfl) | ((with_reducible apply c_dec hF); exact rfl; all_goals intro hc; all_goals (try (exfalso; omega)))))
      have htb := tm_iff.1 ht
      refine c_draw (fun i => Nat.ble 11 i) hM ?_; clear hM; intro w hM
      (first | (apply t_load (i := 0) hF rfl rfl rfl; (repeat (first | exact List.mem_cons_self | refine List.mem_cons_of_mem _ ?_)); exact rfl; exact rfl; kernel_rfl; exact hM.sm; exact (fun _ _ _ h => h); clear hF a; intro a hF))
      (first | (apply t_load (i := 1) hF rfl rfl rfl; (repeat (first | exact List.mem_cons_self | refine List.mem_cons_of_mem _ ?_)); exact rfl; exact rfl; kernel_rfl; exact hM.sm; exact (fun _ _ _ h => h); clear hF a; intro a hF))
      (first | (apply t_load (i := 2) hF rfl rfl rfl; (repeat (first | exact List.mem_cons_self | refine List.mem_cons_of_mem _ ?_)); exact rfl; exact rfl; kernel_rfl; exact hM.sm; exact (fun _ _ _ h => h); clear hF a; intro a hF))
      (first | (refine t_pure (i := 3) hF rfl rfl rfl rfl (by kernel_rfl) hM.sm (fun _ _ _ h => h) ?_ ?_; (first | exact trivial | omega | decide); clear hF a; intro a hF))
      (first | (refine t_pure (i := 4) hF rfl rfl rfl rfl (by kernel_rfl) hM.sm (fun _ _ _ h => h) ?_ ?_; (first | exact trivial | omega | decide); clear hF a; intro a hF))
      (first | (refine t_pure (i := 5) hF rfl rfl rfl rfl (by kernel_rfl) hM.sm (fun _ _ _ h => h) ?_ ?_; (first | exact trivial | omega | decide); clear hF a; intro a hF))
      (first | (refine t_pure (i := 7) hF rfl rfl rfl rfl (by kernel_rfl) hM.sm (fun _ _ _ h => h) ?_ ?_; (first | exact trivial | omega | decide); clear hF a; intro a hF))
      refine t_one (i := 6) hF rfl (by kernel_rfl) rfl ?_
      intro K hK
      ((apply x_loadR hF hM); exact rfl; (repeat (first | exact List.mem_cons_self | refine List.mem_cons_of_mem _ ?_)); exact rfl; exact rfl; (first | with_reducible assumption | (simp only [Int.toNat_natCast]; with_reducible assumption)); clear hF a; intro a hF)
      refine hK _ _ (fun _ => (hM.sm.sub (fun x hx => by repeat (first | exact hx | refine List.mem_cons_of_mem _ ?_)) (fun _ h => by repeat (first | exact h | refine List.mem_cons_of_mem _ ?_)))) ?_; clear hK
      (first | (refine t_pure (i := 8) hF rfl rfl rfl rfl (by kernel_rfl) (hM.sm.sub (fun x hx => by repeat (first | exact hx | refine List.mem_cons_of_mem _ ?_)) (fun _ h => by repeat (first | exact h | refine List.mem_cons_of_mem _ ?_))) (fun _ _ _ h => h) ?_ ?_; (first | exact trivial | omega | decide); clear hF a; intro a hF))
      refine t_one (i := 9) hF rfl (by kernel_rfl) rfl ?_
      intro K hK
      (refine x_lit hF hM rfl rfl rfl ?_; clear hF hM a; intro bl w a hM hF)
      refine hK _ _ (fun _ => (hM.sm.sub (fun x hx => by repeat (first | exact hx | refine List.mem_cons_of_mem _ ?_)) (fun _ h => by repeat (first | exact h | refine List.mem_cons_of_mem _ ?_)))) ?_; clear hK
      refine t_one (i := 10) hF rfl (by kernel_rfl) rfl ?_
      intro K hK
      (apply x_app hF hM rfl rfl rfl; (repeat (first | exact List.mem_cons_self | refine List.mem_cons_of_mem _ ?_)); (repeat (first | exact Kth.z | apply Kth.s)); exact rfl; exact rfl; exact rfl; exact rfl; omega; clear hF hM a; intro g cap w a hM hF; dsimp only [List.set] at hM)
      refine hK _ _ (fun _ => (hM.sm.sub (fun x hx => by repeat (first | exact hx | refine List.mem_cons_of_mem _ ?_)) (fun _ h => by repeat (first | exact h | refine List.mem_cons_of_mem _ ?_)))) ?_; clear hK
      refine t_one (i := 11) hF rfl (by kernel_rfl) rfl ?_
      intro K hK
      (apply x_store hF hM rfl rfl rfl; (repeat (first | exact Upd.z | apply Upd.s)); exact rfl; exact rfl; exact rfl; clear hF hM a; intro w a hM hF)
      refine hK _ _ (fun h => by cases h) ?_; clear hK
      refine t_done (by kernel_rfl) ?_
      (repeat (first | (with_reducible refine c_region ?_) | (with_reducible refine s_nil ?_) | (with_reducible refine q_then_n ?_) | ((with_reducible apply s_pure hF); exact rfl; exact rfl; exact rfl; (first | exact trivial | omega | decide); clear hF a; intro a hF) | (with_reducible refine q_blk_n ?_)))
      refine ⟨m - 1, by omega, k + 1, some ⟨g, 0, none⟩, cap, by omega, fun j y hj hy => ?_, hF.sub (by repeat (first | exact Sub.nil | refine Sub.cons rfl (by first | with_reducible rfl | (refine congrArg (Value.int _) ?_; omega) | exact rfl) ?_)), ?_⟩
      · by_cases e : j = k
        · subst e; rw [hx] at hy; injection hy with hy; rw [← hy]; exact ht
        · exact hall j y (by omega) hy
      · have e : (sms l (k + 1 + 1)).map (Value.int .i64) = (sms l (k + 1)).map (Value.int .i64) ++ [Value.int .i64 ((l.take k).sum + x)] := by
          unfold sms
          rw [tab_succ _ (k + 1), List.map_append, take_snoc hx, sum_snoc]
          rfl
        rw [e]
        exact hM.sub (.cons _ (.refl _)) (.refl _) (fun _ h => h)
  · obtain rfl : k = l.length := by omega
    have hany := any_miss (l := l) fun j x hx => hall j x (List.getElem?_eq_some_iff.1 hx).1 hx
    have hlast : (sms l (l.length + 1))[(l.length : Int).toNat]? = some l.sum := by
      have := tab_get (F := fun i => (l.take i).sum) (n := l.length + 1) (k := l.length) (by omega)
      simpa [sms] using this
    clear hk1 hall
    have hT : ∀ n w b, tm n = b → Calls Try.prog 41 ⟨[.int .i64 n]⟩ w (Ret w fun v _ => v = .bool b) := fun n w b h => h ▸ time_c n w
    cases h1 : tm l.sum with
    | false =>
      (repeat' (first | (with_reducible refine w_seq ?_) | (with_reducible refine c_region ?_) | (with_reducible refine s_nil ?_) | ((with_reducible apply s_call (f := 41) hF hM); exact rfl; exact rfl; exact rfl; exact rfl; exact rfl; exact (hT _ _ _ (by assumption)); clear hF hM a; rintro v w a rfl - hM hF) | (with_reducible refine q_then_n ?_) | ((with_reducible apply s_pure hF); exact rfl; exact rfl; exact rfl; (first | exact trivial | omega | decide); clear hF a; intro a hF) | ((with_reducible apply s_load hF hM); exact rfl; exact rfl; (repeat (first | exact List.mem_cons_self | refine List.mem_cons_of_mem _ ?_)); exact rfl; exact rfl; clear hF a; intro a hF) | ((with_reducible apply s_loadR hF hM); exact rfl; exact rfl; (repeat (first | exact List.mem_cons_self | refine List.mem_cons_of_mem _ ?_)); exact rfl; exact rfl; (first | with_reducible assumption | (simp only [Int.toNat_natCast]; with_reducible assumption)); clear hF a; intro a hF) | ((with_reducible apply s_store hF hM); exact rfl; exact rfl; exact rfl; exact rfl; (repeat (first | exact Upd.z | apply Upd.s)); exact rfl; exact rfl; exact rfl; clear hM; intro w hM) | (with_reducible refine w_exit ?_) | (with_reducible refine w_ret ?_) | (with_reducible refine q_then_x ?_) | (with_reducible refine q_then_r ?_) | (with_reducible refine q_blk_x ?_) | ((with_reducible apply c_true hF); exact rfl) | ((with_reducible apply s_skip hF); exact rfl; exact rfl; clear hF a; intro a hF) | ((with_reducible apply c_dec hF); exact rfl; all_goals intro hc; all_goals (try (exfalso; omega)))))
      (apply f_ret Try.results35 hF hM; (repeat (first | exact RL.nil | (apply RL.tmp; exact rfl) | (apply RL.cell; exact rfl; (repeat (first | exact List.mem_cons_self | refine List.mem_cons_of_mem _ ?_)); exact rfl))); refine Ret.mk hM.since ?_; dsimp only [resV])
      exact cvR_z (wins_err (seq2 hlong (by rw [h1]; simp)) (by decide))
    | true =>
    cases h2 : tm S with
    | false =>
      (repeat' (first | (with_reducible refine w_seq ?_) | (with_reducible refine c_region ?_) | (with_reducible refine s_nil ?_) | ((with_reducible apply s_call (f := 41) hF hM); exact rfl; exact rfl; exact rfl; exact rfl; exact rfl; exact (hT _ _ _ (by assumption)); clear hF hM a; rintro v w a rfl - hM hF) | (with_reducible refine q_then_n ?_) | ((with_reducible apply s_pure hF); exact rfl; exact rfl; exact rfl; (first | exact trivial | omega | decide); clear hF a; intro a hF) | ((with_reducible apply s_load hF hM); exact rfl; exact rfl; (repeat (first | exact List.mem_cons_self | refine List.mem_cons_of_mem _ ?_)); exact rfl; exact rfl; clear hF a; intro a hF) | ((with_reducible apply s_loadR hF hM); exact rfl; exact rfl; (repeat (first | exact List.mem_cons_self | refine List.mem_cons_of_mem _ ?_)); exact rfl; exact rfl; (first | with_reducible assumption | (simp only [Int.toNat_natCast]; with_reducible assumption)); clear hF a; intro a hF) | ((with_reducible apply s_store hF hM); exact rfl; exact rfl; exact rfl; exact rfl; (repeat (first | exact Upd.z | apply Upd.s)); exact rfl; exact rfl; exact rfl; clear hM; intro w hM) | (with_reducible refine w_exit ?_) | (with_reducible refine w_ret ?_) | (with_reducible refine q_then_x ?_) | (with_reducible refine q_then_r ?_) | (with_reducible refine q_blk_x ?_) | ((with_reducible apply c_true hF); exact rfl) | ((with_reducible apply c_dec hF); exact rfl; all_goals intro hc; all_goals (try (exfalso; omega)))))
      (apply f_ret Try.results35 hF hM; (repeat (first | exact RL.nil | (apply RL.tmp; exact rfl) | (apply RL.cell; exact rfl; (repeat (first | exact List.mem_cons_self | refine List.mem_cons_of_mem _ ?_)); exact rfl))); refine Ret.mk hM.since ?_; dsimp only [resV])
      exact cvR_z (wins_err (seq2 hlong (by rw [h2]; simp)) (by decide))
    | true =>
    have ok : SOk l S := seq_ok.1 (by unfold seqE; rw [if_neg hlong, if_neg (by simp [hany, h1, h2])])
    (repeat' (first | (with_reducible refine w_seq ?_) | (with_reducible refine c_region ?_) | (with_reducible refine s_nil ?_) | ((with_reducible apply s_call (f := 41) hF hM); exact rfl; exact rfl; exact rfl; exact rfl; exact rfl; exact (hT _ _ _ (by assumption)); clear hF hM a; rintro v w a rfl - hM hF) | (with_reducible refine q_then_n ?_) | ((with_reducible apply s_pure hF); exact rfl; exact rfl; exact rfl; (first | exact trivial | omega | decide); clear hF a; intro a hF) | ((with_reducible apply s_load hF hM); exact rfl; exact rfl; (repeat (first | exact List.mem_cons_self | refine List.mem_cons_of_mem _ ?_)); exact rfl; exact rfl; clear hF a; intro a hF) | ((with_reducible apply s_loadR hF hM); exact rfl; exact rfl; (repeat (first | exact List.mem_cons_self | refine List.mem_cons_of_mem _ ?_)); exact rfl; exact rfl; (first | with_reducible assumption | (simp only [Int.toNat_natCast]; with_reducible assumption)); clear hF a; intro a hF) | ((with_reducible apply s_store hF hM); exact rfl; exact rfl; exact rfl; exact rfl; (repeat (first | exact Upd.z | apply Upd.s)); exact rfl; exact rfl; exact rfl; clear hM; intro w hM) | ((with_reducible apply s_alloc hF hM); exact rfl; exact rfl; exact rfl; clear hF hM a; intro b w a hM hF) | (with_reducible refine w_skip ?_) | (with_reducible refine w_block ?_) | (with_reducible refine w_exit ?_) | (with_reducible refine q_then_x ?_) | (with_reducible refine q_blk_x ?_) | ((with_reducible apply c_false hF); exact rfl) | ((with_reducible apply c_dec hF); exact rfl; all_goals intro hc; all_goals (try (exfalso; omega)))))
    rename_i b8 _ _ _ _ _
    replace hM := hM.nilRow 3 1
    have hws0 : (ws bt l S 0).map (Value.int .i64) = [] := by simp [ws]
    have hl2 := ok.l1
    refine c_loop (m := l.length + 1) (fun m a w' => ∃ (k : Nat) (ga : Option Addr) (gc : Nat), m + k = l.length + 1 ∧ (∀ (j : Nat), j < k → bw bt l S j l.length ≤ 1073741824) ∧
      Fr _ [] [(62, .int .i64 k), (61, .int .i64 (l.length + 1)), (12, .pointer (some ⟨b, 0, none⟩)), (11, .func (.func 63) #[] #[.pointer (some ⟨b8, 0, none⟩), .pointer (some ⟨b3, 0, none⟩), .pointer (some ⟨b4, 0, none⟩)]), (3, .pointer (some ⟨b3, 0, none⟩)), (6, .pointer (some ⟨b6, 0, none⟩)), (7, .int .i64 0), (2, .func (.func fb) #[] #[])] a ∧
      Mm own W [⟨b, ⟨[.slice ga k gc, .int .i64 S]⟩, 24⟩, ⟨b8, ⟨[.slice (some sad) (l.length + 1) sc]⟩, 22⟩, ⟨b6, ⟨[.slice none 0 0, .int .i64 0]⟩, 24⟩, ⟨b4, ⟨[.int .i64 S]⟩, 3⟩, ⟨b3, ⟨[.slice a0 l.length c0]⟩, 22⟩]
        [⟨3, 1, .slice ga k gc, k, (ws bt l S k).map (Value.int .i64)⟩, ⟨3, 1, .slice (some sad) (l.length + 1) sc, l.length + 1, (sms l (l.length + 1)).map (Value.int .i64)⟩] [RdF (Value.int .i64) a0 l] w') ⟨0, none, 0, by omega, fun j h => by omega, hF.sub (by repeat (first | exact Sub.nil | refine Sub.cons rfl (by first | with_reducible rfl | (refine congrArg (Value.int _) ?_; omega) | exact rfl) ?_)), by rw [hws0]; exact hM⟩ ?_
    clear hF hM a
    rintro m a w' ⟨k, ga, gc, hk, hall, hF, hM⟩
    by_cases hlt : k < l.length + 1
    · (repeat' (first | (with_reducible refine w_seq ?_) | (with_reducible refine c_region ?_) | (with_reducible refine s_nil ?_) | ((with_reducible apply s_callc (f := 63) hF hM); exact rfl; exact rfl; exact rfl; exact rfl; exact rfl; exact rfl; exact rfl; exact (upTo_c l S ok _ k rfl (by omega) _ _ _ _ _ _ _ _ _ (fun b h => hM.lt b (.inl h)) (hM.boxFact (by (repeat (first | exact List.mem_cons_self | refine List.mem_cons_of_mem _ ?_)))) (hM.boxFact (by (repeat (first | exact List.mem_cons_self | refine List.mem_cons_of_mem _ ?_)))) (hM.boxFact (by (repeat (first | exact List.mem_cons_self | refine List.mem_cons_of_mem _ ?_)))) (hM.rowFact (by (repeat (first | exact List.mem_cons_self | refine List.mem_cons_of_mem _ ?_))))); clear hF hM a; rintro v w a rfl - hM hF) | (with_reducible refine q_then_n ?_) | ((with_reducible apply s_pure hF); exact rfl; exact rfl; exact rfl; (first | exact trivial | omega | decide); clear hF a; intro a hF) | ((with_reducible apply s_load hF hM); exact rfl; exact rfl; (repeat (first | exact List.mem_cons_self | refine List.mem_cons_of_mem _ ?_)); exact rfl; exact rfl; clear hF a; intro a hF) | (with_reducible refine w_skip ?_) | (with_reducible refine w_block ?_) | ((with_reducible apply c_dec hF); exact rfl; all_goals intro hc; all_goals (try (exfalso; omega)))))
      refine c_loop (m := l.length) (fun m a w' => ∃ (s : Nat), m + s = l.length ∧
        Fr _ [] [(70, .int .i64 s), (69, .int .i64 l.length), (14, .int .i64 (bw bt l S k s)), (13, .int .i64 k), (62, .int .i64 k), (61, .int .i64 (l.length + 1)), (12, .pointer (some ⟨b, 0, none⟩)), (11, .func (.func 63) #[] #[.pointer (some ⟨b8, 0, none⟩), .pointer (some ⟨b3, 0, none⟩), .pointer (some ⟨b4, 0, none⟩)]), (3, .pointer (some ⟨b3, 0, none⟩)), (6, .pointer (some ⟨b6, 0, none⟩)), (7, .int .i64 0), (2, .func (.func fb) #[] #[])] a ∧
        Mm own W [⟨b, ⟨[.slice ga k gc, .int .i64 S]⟩, 24⟩, ⟨b8, ⟨[.slice (some sad) (l.length + 1) sc]⟩, 22⟩, ⟨b6, ⟨[.slice none 0 0, .int .i64 0]⟩, 24⟩, ⟨b4, ⟨[.int .i64 S]⟩, 3⟩, ⟨b3, ⟨[.slice a0 l.length c0]⟩, 22⟩]
        [⟨3, 1, .slice ga k gc, k, (ws bt l S k).map (Value.int .i64)⟩, ⟨3, 1, .slice (some sad) (l.length + 1) sc, l.length + 1, (sms l (l.length + 1)).map (Value.int .i64)⟩] [RdF (Value.int .i64) a0 l] w') ⟨0, by omega, hF.sub (by repeat (first | exact Sub.nil | refine Sub.cons rfl (by first | with_reducible rfl | (refine congrArg (Value.int _) ?_; omega) | ((refine congrArg (Value.int _) ?_; simp [bw, win, up_zero])) | exact rfl) ?_)), hM⟩ ?_
      clear hF hM a
      rintro mi a w' ⟨s, hs, hF, hM⟩
      by_cases hls : s < l.length
      · have u1 := ok.up_bd (t := s + 1 + k) (by omega)
        have u2 := ok.up_bd (t := s + 1) (by omega)
        (repeat' (first | (with_reducible refine w_seq ?_) | (with_reducible refine c_region ?_) | (with_reducible refine s_nil ?_) | (with_reducible refine q_then_n ?_) | ((with_reducible apply s_pure hF); exact rfl; exact rfl; exact rfl; (first | exact trivial | omega | decide); clear hF a; intro a hF) | (with_reducible refine w_skip ?_) | (with_reducible refine w_block ?_) | ((with_reducible apply c_dec hF); exact rfl; all_goals intro hc; all_goals (try (exfalso; omega)))))
        (((with_reducible apply s_callc (f := 63) hF hM); exact rfl; exact rfl; exact rfl; exact rfl; exact rfl; exact rfl; exact rfl; exact (upTo_c l S ok _ (s + 1 + k) (by omega) (by omega) _ _ _ _ _ _ _ _ _ (fun b h => hM.lt b (.inl h)) (hM.boxFact (by (repeat (first | exact List.mem_cons_self | refine List.mem_cons_of_mem _ ?_)))) (hM.boxFact (by (repeat (first | exact List.mem_cons_self | refine List.mem_cons_of_mem _ ?_)))) (hM.boxFact (by (repeat (first | exact List.mem_cons_self | refine List.mem_cons_of_mem _ ?_)))) (hM.rowFact (by (repeat (first | exact List.mem_cons_self | refine List.mem_cons_of_mem _ ?_))))); clear hF hM a; rintro v w a rfl - hM hF))
        (repeat' (first | ((with_reducible apply s_pure hF); exact rfl; exact rfl; exact rfl; (first | exact trivial | omega | decide); clear hF a; intro a hF)))
        (((with_reducible apply s_callc (f := 63) hF hM); exact rfl; exact rfl; exact rfl; exact rfl; exact rfl; exact rfl; exact rfl; exact (upTo_c l S ok _ (s + 1) (by omega) (by omega) _ _ _ _ _ _ _ _ _ (fun b h => hM.lt b (.inl h)) (hM.boxFact (by (repeat (first | exact List.mem_cons_self | refine List.mem_cons_of_mem _ ?_)))) (hM.boxFact (by (repeat (first | exact List.mem_cons_self | refine List.mem_cons_of_mem _ ?_)))) (hM.boxFact (by (repeat (first | exact List.mem_cons_self | refine List.mem_cons_of_mem _ ?_)))) (hM.rowFact (by (repeat (first | exact List.mem_cons_self | refine List.mem_cons_of_mem _ ?_))))); clear hF hM a; rintro v w a rfl - hM hF))
        (repeat' (first | (with_reducible refine c_region ?_) | (with_reducible refine s_nil ?_) | ((with_reducible apply s_call (f := fb) hF hM); exact rfl; exact rfl; exact rfl; (with_reducible assumption); exact rfl; exact (hfb _ _ _); clear hF hM a; rintro v w a rfl - hM hF) | (with_reducible refine q_then_n ?_) | ((with_reducible apply s_pure hF); exact rfl; exact rfl; exact rfl; (first | exact trivial | omega | decide); clear hF a; intro a hF) | (with_reducible refine q_blk_n ?_)))
        exact ⟨mi - 1, by omega, s + 1, by omega, hF.sub (by repeat (first | exact Sub.nil | refine Sub.cons rfl (by first | with_reducible rfl | (refine congrArg (Value.int _) ?_; omega) | exact rfl) ?_)), hM⟩
      · obtain rfl : s = l.length := by omega
        have hbb := ok.bw_bd bt (k := k) (n := l.length) (by omega) (by omega)
        (repeat' (first | (with_reducible refine w_seq ?_) | (with_reducible refine c_region ?_) | (with_reducible refine s_nil ?_) | (with_reducible refine q_then_n ?_) | ((with_reducible apply s_pure hF); exact rfl; exact rfl; exact rfl; (first | exact trivial | omega | decide); clear hF a; intro a hF) | ((with_reducible apply s_load hF hM); exact rfl; exact rfl; (repeat (first | exact List.mem_cons_self | refine List.mem_cons_of_mem _ ?_)); exact rfl; exact rfl; clear hF a; intro a hF) | ((with_reducible apply s_store hF hM); exact rfl; exact rfl; exact rfl; exact rfl; (repeat (first | exact Upd.z | apply Upd.s)); exact rfl; exact rfl; exact rfl; clear hM; intro w hM) | ((with_reducible apply s_lit hF hM); exact rfl; exact rfl; exact rfl; exact rfl; clear hF hM a; intro bl w a hM hF) | ((with_reducible apply s_app hF hM); exact rfl; exact rfl; exact rfl; exact rfl; (repeat (first | exact Kth.z | apply Kth.s)); exact rfl; exact rfl; exact rfl; exact rfl; omega; clear hF hM a; intro g cap w a hM hF; dsimp only [List.set] at hM) | (with_reducible refine w_skip ?_) | (with_reducible refine w_exit ?_) | (with_reducible refine w_ret ?_) | (with_reducible refine q_then_x ?_) | (with_reducible refine q_then_r ?_) | (with_reducible refine q_blk_n ?_) | (with_reducible refine q_blk_r ?_) | (with_reducible refine q_blk_x ?_) | ((with_reducible apply c_dec hF); exact rfl; all_goals intro hc; all_goals (try (exfalso; omega)))))
        · (apply f_ret Try.results35 hF hM; (repeat (first | exact RL.nil | (apply RL.tmp; exact rfl) | (apply RL.cell; exact rfl; (repeat (first | exact List.mem_cons_self | refine List.mem_cons_of_mem _ ?_)); exact rfl))); refine Ret.mk hM.since ?_; dsimp only [resV])
          exact cvR_z (wins_big ok hlt (by omega))
        · refine ⟨m - 1, by omega, k + 1, some ⟨g, 0, none⟩, cap, by omega, fun j hj => ?_, hF.sub (by repeat (first | exact Sub.nil | refine Sub.cons rfl (by first | with_reducible rfl | (refine congrArg (Value.int _) ?_; omega) | exact rfl) ?_)), ?_⟩
          · rcases Nat.lt_or_ge j k with e | e
            · exact hall j e
            · obtain rfl : j = k := by omega
              omega
          · rw [ws_succ, List.map_append]
            exact hM
    · obtain rfl : k = l.length + 1 := by omega
      (repeat' (first | (with_reducible refine w_seq ?_) | (with_reducible refine c_region ?_) | (with_reducible refine s_nil ?_) | (with_reducible refine q_then_n ?_) | ((with_reducible apply s_pure hF); exact rfl; exact rfl; exact rfl; (first | exact trivial | omega | decide); clear hF a; intro a hF) | ((with_reducible apply s_load hF hM); exact rfl; exact rfl; (repeat (first | exact List.mem_cons_self | refine List.mem_cons_of_mem _ ?_)); exact rfl; exact rfl; clear hF a; intro a hF) | ((with_reducible apply s_store hF hM); exact rfl; exact rfl; exact rfl; exact rfl; (repeat (first | exact Upd.z | apply Upd.s)); exact rfl; exact rfl; exact rfl; clear hM; intro w hM) | (with_reducible refine w_exit ?_) | (with_reducible refine w_ret ?_) | (with_reducible refine q_then_x ?_) | (with_reducible refine q_blk_x ?_) | ((with_reducible apply c_dec hF); exact rfl; all_goals intro hc; all_goals (try (exfalso; omega)))))
      (apply f_ret Try.results35 hF hM; (repeat (first | exact RL.nil | (apply RL.tmp; exact rfl) | (apply RL.cell; exact rfl; (repeat (first | exact List.mem_cons_self | refine List.mem_cons_of_mem _ ?_)); exact rfl))); refine Ret.mk hM.since ?_; dsimp only [resV])
      rw [wins_ok ok hall]
      exact ⟨_, rfl, isCu_mkn (c := ⟨ws bt l S (l.length + 1), S⟩) (hM.rowFact (by (repeat (first | exact List.mem_cons_self | refine List.mem_cons_of_mem _ ?_)))) (ws_len _ _ _ _) (by omega) (row_capA (enc := Value.int .i64) hM (by (repeat (first | exact List.mem_cons_self | refine List.mem_cons_of_mem _ ?_))))⟩
theorem arr1_c (x y : Int) (w : World) : Calls Try.prog 36 ⟨[.int .i64 x, .int .i64 y]⟩ w (Ret w fun v _ => v = .int .i64 (bet true x y)) := by
  have hM := Mm.start (own := fun _ => False) (w := w) (fun _ h => h.elim)
  refine f_start Try.func36 rfl Try.ntmps36 rfl rfl ?_; intro a hF
  (repeat (first | (with_reducible refine w_seq ?_) | (with_reducible refine c_region ?_) | (with_reducible refine s_nil ?_) | (with_reducible refine q_then_n ?_) | ((with_reducible apply s_pure hF); exact rfl; exact rfl; exact rfl; (first | exact trivial | omega | decide); clear hF a; intro a hF) | (with_reducible refine w_ret ?_)))
  (apply f_ret Try.results36 hF hM; (repeat (first | exact RL.nil | (apply RL.tmp; exact rfl) | (apply RL.cell; exact rfl; (repeat (first | exact List.mem_cons_self | refine List.mem_cons_of_mem _ ?_)); exact rfl))); refine Ret.mk hM.since ?_; dsimp only [resV])
  rfl
theorem ser1_c (x y : Int) (w : World) : Calls Try.prog 38 ⟨[.int .i64 x, .int .i64 y]⟩ w (Ret w fun v _ => v = .int .i64 (bet false x y)) := by
  have hM := Mm.start (own := fun _ => False) (w := w) (fun _ h => h.elim)
  refine f_start Try.func38 rfl Try.ntmps38 rfl rfl ?_; intro a hF
  (repeat (first | (with_reducible refine w_seq ?_) | (with_reducible refine c_region ?_) | (with_reducible refine s_nil ?_) | (with_reducible refine q_then_n ?_) | ((with_reducible apply s_pure hF); exact rfl; exact rfl; exact rfl; (first | exact trivial | omega | decide); clear hF a; intro a hF) | (with_reducible refine w_ret ?_)))
  (apply f_ret Try.results38 hF hM; (repeat (first | exact RL.nil | (apply RL.tmp; exact rfl) | (apply RL.cell; exact rfl; (repeat (first | exact List.mem_cons_self | refine List.mem_cons_of_mem _ ?_)); exact rfl))); refine Ret.mk hM.since ?_; dsimp only [resV])
  rfl
theorem arrival_c (l : List Int) (S : Int) (a0 : Option Addr) (c0 : Nat) (own : Nat → Prop) (W : World) (hl : ∀ b, own b → b < W.heap.size) (hlen : l.length ≤ 9223372036854775807) (hv : Has own W (RdF (Value.int .i64) a0 l)) :
    Calls Try.prog 12 ⟨[.slice a0 l.length c0, .int .i64 S]⟩ W (Ret W (CvR own (wins true l S))) := by
  have hM := (Mm.start hl).known hv
  refine f_start Try.func12 rfl Try.ntmps12 rfl rfl ?_; intro a hF
  (repeat (first | (with_reducible refine w_seq ?_) | (with_reducible refine c_region ?_) | (with_reducible refine s_nil ?_) | ((with_reducible apply s_call (f := 35) hF hM); exact rfl; exact rfl; exact rfl; exact rfl; exact rfl; exact (windows_c true _ arr1_c (by rfl) l S a0 c0 _ _ hM.lt hlen (hM.facts _ (by (repeat (first | exact List.mem_cons_self | refine List.mem_cons_of_mem _ ?_))))); clear hF hM a; rintro v w a ⟨cv, rfl, hcv⟩ - hM hF; (obtain ⟨a2, c2, rfl, -, -, -⟩ := isCu_open hcv); replace hM := hM.addFact hcv) | (with_reducible refine q_then_n ?_) | ((with_reducible apply s_pure hF); exact rfl; exact rfl; exact rfl; (first | exact trivial | omega | decide); clear hF a; intro a hF) | ((with_reducible apply s_store hF hM); exact rfl; exact rfl; exact rfl; exact rfl; (repeat (first | exact Upd.z | apply Upd.s)); exact rfl; exact rfl; exact rfl; clear hM; intro w hM) | ((with_reducible apply s_alloc hF hM); exact rfl; exact rfl; exact rfl; clear hF hM a; intro b w a hM hF) | (with_reducible refine w_ret ?_)))
  (apply f_ret Try.results12 hF hM; (repeat (first | exact RL.nil | (apply RL.tmp; exact rfl) | (apply RL.cell; exact rfl; (repeat (first | exact List.mem_cons_self | refine List.mem_cons_of_mem _ ?_)); exact rfl))); refine Ret.mk hM.since ?_; dsimp only [resV])
  exact ⟨_, rfl, hM.factOut (by (repeat (first | exact List.mem_cons_self | refine List.mem_cons_of_mem _ ?_)))⟩
theorem service_c (l : List Int) (S : Int) (a0 : Option Addr) (c0 : Nat) (own : Nat → Prop) (W : World) (hl : ∀ b, own b → b < W.heap.size) (hlen : l.length ≤ 9223372036854775807) (hv : Has own W (RdF (Value.int .i64) a0 l)) :
    Calls Try.prog 14 ⟨[.slice a0 l.length c0, .int .i64 S]⟩ W (Ret W (CvR own (wins false l S))) := by
  have hM := (Mm.start hl).known hv
  refine f_start Try.func14 rfl Try.ntmps14 rfl rfl ?_; intro a hF
  (repeat (first | (with_reducible refine w_seq ?_) | (with_reducible refine c_region ?_) | (with_reducible refine s_nil ?_) | ((with_reducible apply s_call (f := 35) hF hM); exact rfl; exact rfl; exact rfl; exact rfl; exact rfl; exact (windows_c false _ ser1_c (by rfl) l S a0 c0 _ _ hM.lt hlen (hM.facts _ (by (repeat (first | exact List.mem_cons_self | refine List.mem_cons_of_mem _ ?_))))); clear hF hM a; rintro v w a ⟨cv, rfl, hcv⟩ - hM hF; (obtain ⟨a2, c2, rfl, -, -, -⟩ := isCu_open hcv); replace hM := hM.addFact hcv) | (with_reducible refine q_then_n ?_) | ((with_reducible apply s_pure hF); exact rfl; exact rfl; exact rfl; (first | exact trivial | omega | decide); clear hF a; intro a hF) | ((with_reducible apply s_store hF hM); exact rfl; exact rfl; exact rfl; exact rfl; (repeat (first | exact Upd.z | apply Upd.s)); exact rfl; exact rfl; exact rfl; clear hM; intro w hM) | ((with_reducible apply s_alloc hF hM); exact rfl; exact rfl; exact rfl; clear hF hM a; intro b w a hM hF) | (with_reducible refine w_ret ?_)))
  (apply f_ret Try.results14 hF hM; (repeat (first | exact RL.nil | (apply RL.tmp; exact rfl) | (apply RL.cell; exact rfl; (repeat (first | exact List.mem_cons_self | refine List.mem_cons_of_mem _ ?_)); exact rfl))); refine Ret.mk hM.since ?_; dsimp only [resV])
  exact ⟨_, rfl, hM.factOut (by (repeat (first | exact List.mem_cons_self | refine List.mem_cons_of_mem _ ?_)))⟩
end Go.Proofs.Ytpkledpnicocmaa
