/- Texts of this seat, one behind the other: T2 T3 T4 T5 T6 T7 T8 T9 Ju Jv Jw Jx Jy Jz Ta. -/
import Derived.Test.YtonelgecjmpbgaaQVDd
set_option linter.unusedSimpArgs false
set_option linter.unusedVariables false
set_option linter.unusedSectionVars false
set_option maxRecDepth 3000
/- wire: lists of sectors. -/
namespace Go.Proofs.Ytonelgecjmpbgaa
open Go.RowKit Go.Shelf D29
section
variable (xs : List Int) (hxb : ∀ x ∈ xs, 0 ≤ x ∧ x < 256) (hlen : xs.length ≤ 1000000) (a0 : Option Addr) (c0 : Nat) (hc0 : xs.length ≤ c0)
include hxb hlen hc0
section
variable {own : Nat → Prop} {w0 W : World} {bs : List BoxE} {L : List Ent} {Fs : List (World → Prop)} {b : Nat} {T : TypeId} (hM : Mm own w0 (⟨b, ⟨[.slice a0 xs.length c0]⟩, T⟩ :: bs) L (RdF (Value.int .u8) a0 xs :: Fs) W)
include hM
set_option maxRecDepth 20000 in
set_option maxHeartbeats 4000000 in
theorem listS_m : Calls Try.prog 108 ⟨[.pointer (some ⟨b, 0, none⟩), .func (.func 109) #[] #[]]⟩ W (Rtn fun u w' => match rdSecs xs with
    | .error e => u = .tuple #[.slice none 0 0, .int .i64 e] ∧ e ≠ 0 ∧ ∃ bs' L' Fs', Mm own w0 bs' L' Fs' w'
    | .ok (l, ys) => ∃ a1 c1 a2 c2, u = .tuple #[.slice a1 l.length c1, .int .i64 0] ∧ ys.length ≤ c2 ∧ W8 l ∧ By8 l ∧ (∀ y ∈ ys, 0 ≤ y ∧ y < 256) ∧ ys.length + l.length * 8 ≤ xs.length ∧ Mm own w0 (⟨b, ⟨[.slice a2 ys.length c2]⟩, T⟩ :: bs) (⟨44, 8, .slice a1 l.length c1, l.length, l.flatten.map (Value.int .u8)⟩ :: L) [RdF (Value.int .u8) a2 ys] w') := by
  refine f_start Try.func108 rfl Try.ntmps108 rfl rfl ?_; intro a hF
  obtain ⟨r, hr⟩ : ∃ r, rdNum xs = r := ⟨_, rfl⟩
  have hnn := rdNum_nnT hxb
  have hL := length_m xs hxb hlen a0 c0 hc0 hM
  unfold rdSecs
  rw [hr] at hL hnn ⊢
  obtain ⟨n, e, u⟩ := r
  dsimp only at hL hnn ⊢
  by_cases he : e = 0
  case neg =>
    rw [if_pos he]
    rw [if_pos he] at hL
    (repeat' (first | (with_reducible refine w_seq ?_) | (with_reducible refine c_region ?_) | (with_reducible refine s_nil ?_) | ((with_reducible apply s_callM (f := 110) hF); exact rfl; exact rfl; exact rfl; exact rfl; exact rfl; exact (hL); clear hF hM a; rintro v w a ⟨rfl, a1, c1, hcq, hM⟩ hF) | (with_reducible refine q_then_n ?_) | ((with_reducible apply s_pure hF); exact rfl; exact rfl; exact rfl; (first | exact trivial | omega | exact ⟨Int.natCast_nonneg _, Int.ofNat_lt.2 (by assumption)⟩ | decide); clear hF a; intro a hF) | (with_reducible refine w_ret ?_) | (with_reducible refine q_then_r ?_) | ((with_reducible apply c_dec hF); exact rfl; all_goals intro hc; all_goals (try (exfalso; omega)))))
    (apply f_ret Try.results108 hF hM; (repeat (first | exact RL.nil | (apply RL.tmp; exact rfl) | (apply RL.cell; exact rfl; (repeat (first | exact List.mem_cons_self | refine List.mem_cons_of_mem _ ?_)); exact rfl))); refine Both.mk ?_; try dsimp only [resV])
    exact ⟨rfl, he, _, _, _, hM⟩
  subst he
  rw [if_neg (by omega)]
  rw [if_neg (by omega)] at hL
  by_cases hn : 65536 < n
  case pos =>
    rw [if_pos hn]
    rw [if_pos hn] at hL
    (repeat' (first | (with_reducible refine w_seq ?_) | (with_reducible refine c_region ?_) | (with_reducible refine s_nil ?_) | ((with_reducible apply s_callM (f := 110) hF); exact rfl; exact rfl; exact rfl; exact rfl; exact rfl; exact (hL); clear hF hM a; rintro v w a ⟨rfl, a1, c1, hcq, hM⟩ hF) | (with_reducible refine q_then_n ?_) | ((with_reducible apply s_pure hF); exact rfl; exact rfl; exact rfl; (first | exact trivial | omega | exact ⟨Int.natCast_nonneg _, Int.ofNat_lt.2 (by assumption)⟩ | decide); clear hF a; intro a hF) | (with_reducible refine w_ret ?_) | (with_reducible refine q_then_r ?_) | ((with_reducible apply c_true2 hF); exact rfl; (first | with_reducible rfl | (refine congrArg Value.bool ?_; focus (simp; done))))))
    (apply f_ret Try.results108 hF hM; (repeat (first | exact RL.nil | (apply RL.tmp; exact rfl) | (apply RL.cell; exact rfl; (repeat (first | exact List.mem_cons_self | refine List.mem_cons_of_mem _ ?_)); exact rfl))); refine Both.mk ?_; try dsimp only [resV])
    exact ⟨rfl, by decide, _, _, _, hM⟩
  rw [if_neg hn]
  rw [if_neg hn] at hL
  obtain ⟨k, hk⟩ : ∃ k : Nat, n = k := ⟨n.toNat, by omega⟩
  subst hk
  rw [Int.toNat_natCast]
  (repeat' (first | (with_reducible refine w_seq ?_) | (with_reducible refine c_region ?_) | (with_reducible refine s_nil ?_) | ((with_reducible apply s_callM (f := 110) hF); exact rfl; exact rfl; exact rfl; exact rfl; exact rfl; exact (hL); clear hF hM a; rintro v w a ⟨rfl, a1, c1, hcq, hM⟩ hF) | (with_reducible refine q_then_n ?_) | ((with_reducible apply s_pure hF); exact rfl; exact rfl; exact rfl; (first | exact trivial | omega | exact ⟨Int.natCast_nonneg _, Int.ofNat_lt.2 (by assumption)⟩ | decide); clear hF a; intro a hF) | (with_reducible refine w_skip ?_) | (with_reducible refine w_block ?_) | ((with_reducible apply c_false2 hF); exact rfl; (first | with_reducible rfl | (refine congrArg Value.bool ?_; focus (simp; done))))))
  have hys0 : (xs.drop u).length = xs.length - u := List.length_drop
  rw [← hys0] at hM hcq
  replace hM := hM.nilRow 44 8
  have hyl0 : (xs.drop u).length ≤ xs.length := by omega
  have hyb0 : ∀ y ∈ xs.drop u, 0 ≤ y ∧ y < 256 := fun y hy => hxb y (List.mem_of_mem_drop hy)
  generalize xs.drop u = zs at *
  refine c_loop (m := k) (fun m a w' => ∃ (i : Nat) (ys : List Int) (done : Dat) (a2 : Option Addr) (c2 : Nat) (rv : Value), m + i = k ∧ rdSec k zs = secPre done (rdSec m ys) ∧ done.length = i ∧ W8 done ∧ By8 done ∧ ys.length ≤ c2 ∧ ys.length + i * 8 ≤ xs.length ∧ (∀ y ∈ ys, 0 ≤ y ∧ y < 256) ∧
    Fr 37 [] [(20, .int .i64 i), (19, .int .i64 k), (8, rv), (0, .pointer (some ⟨b, 0, none⟩)), (1, .func (.func 109) #[] #[])] a ∧
    Mm own w0 (⟨b, ⟨[.slice a2 ys.length c2]⟩, T⟩ :: bs) (⟨44, 8, rv, i, done.flatten.map (Value.int .u8)⟩ :: L) [RdF (Value.int .u8) a2 ys] w')
    ⟨0, zs, [], a1, c1, _, by omega, (secPre_nil _).symm, rfl, fun s hs => (List.not_mem_nil hs).elim, fun s hs => (List.not_mem_nil hs).elim, hcq, by omega, hyb0, hF.sub (by repeat (first | exact Sub.nil | refine Sub.cons rfl (by first | with_reducible rfl | (refine congrArg (Value.int _) ?_; omega) | exact rfl) ?_)), hM.sub (.refl _) (.refl _) (by intro f hf; simp only [List.mem_cons, List.not_mem_nil, or_false] at hf; (repeat (rcases hf with rfl | hf; · (repeat (first | exact List.mem_cons_self | refine List.mem_cons_of_mem _ ?_)))); first | (subst hf; (repeat (first | exact List.mem_cons_self | refine List.mem_cons_of_mem _ ?_)); done) | (repeat (first | exact hf | refine List.mem_cons_of_mem _ ?_)))⟩ ?_
  clear hF hM a
  rintro m a w' ⟨i, ys, done, a2, c2, rv, hm, hrd, hdl, hd8, hdb, hyc, hyl, hyb, hF, hM⟩
  by_cases hi : i < k
  · obtain ⟨m, rfl⟩ : ∃ q, m = q + 1 := ⟨m - 1, by omega⟩
    by_cases h8 : ys.length < 8
    · rw [show rdSec (m + 1) ys = .error 10 by rw [rdSec, if_pos h8]] at hrd
      rw [hrd]
      have hN := sector_bad ys hyb (by omega) a2 c2 ys.length rfl hyc hM h8
      (repeat' (first | (with_reducible refine w_seq ?_) | (with_reducible refine c_region ?_) | (with_reducible refine s_nil ?_) | ((with_reducible apply s_callcM (f := 109) hF); exact rfl; exact rfl; exact rfl; exact rfl; exact rfl; exact rfl; exact rfl; exact (hN); clear hF hM a; rintro v w a ⟨rfl, hM⟩ hF) | (with_reducible refine q_then_n ?_) | ((with_reducible apply s_pure hF); exact rfl; exact rfl; exact rfl; (first | exact trivial | omega | exact ⟨Int.natCast_nonneg _, Int.ofNat_lt.2 (by assumption)⟩ | decide); clear hF a; intro a hF) | ((with_reducible apply s_store hF hM); exact rfl; exact rfl; exact rfl; exact rfl; (repeat (first | exact Upd.z | apply Upd.s)); exact rfl; exact rfl; exact rfl; clear hM; intro w hM) | ((with_reducible apply s_alloc hF hM); exact rfl; exact rfl; exact rfl; clear hF hM a; intro b w a hM hF) | (with_reducible refine w_skip ?_) | (with_reducible refine w_block ?_) | (with_reducible refine w_ret ?_) | (with_reducible refine q_then_r ?_) | (with_reducible refine q_blk_r ?_) | ((with_reducible apply c_true2 hF); exact rfl; (first | with_reducible rfl | (refine congrArg Value.bool ?_; focus (simp; done)))) | ((with_reducible apply c_dec hF); exact rfl; all_goals intro hc; all_goals (try (exfalso; omega)))))
      (apply f_ret Try.results108 hF hM; (repeat (first | exact RL.nil | (apply RL.tmp; exact rfl) | (apply RL.cell; exact rfl; (repeat (first | exact List.mem_cons_self | refine List.mem_cons_of_mem _ ?_)); exact rfl))); refine Both.mk ?_; try dsimp only [resV])
      exact ⟨rfl, by decide, _, _, _, hM⟩
    · rw [secPre_step h8] at hrd
      obtain ⟨x0, x1, x2, x3, x4, x5, x6, x7, ht⟩ := len8 (show (ys.take 8).length = 8 by rw [List.length_take]; omega)
      have hN := sector_ok ys hyb (by omega) a2 c2 ys.length rfl hyc hM (by omega) ht
      have hdr : (ys.drop 8).length = ys.length - 8 := List.length_drop
      have hyb2 : ∀ y ∈ ys.drop 8, 0 ≤ y ∧ y < 256 := fun y hy => hyb y (List.mem_of_mem_drop hy)
      have hsb : ∀ s ∈ ys.take 8, 0 ≤ s ∧ s < 256 := fun y hy => hyb y (List.mem_of_mem_take hy)
      rw [← hdr] at hN
      rw [ht] at hrd hsb
      generalize ys.drop 8 = ys2 at *
      (repeat' (first | (with_reducible refine w_seq ?_) | (with_reducible refine c_region ?_) | (with_reducible refine s_nil ?_) | ((with_reducible apply s_callcM (f := 109) hF); exact rfl; exact rfl; exact rfl; exact rfl; exact rfl; exact rfl; exact rfl; exact (hN); clear hF hM a; rintro v w a ⟨rfl, a3, hM⟩ hF) | (with_reducible refine q_then_n ?_) | ((with_reducible apply s_pure hF); exact rfl; exact rfl; exact rfl; (first | exact trivial | omega | exact ⟨Int.natCast_nonneg _, Int.ofNat_lt.2 (by assumption)⟩ | decide); clear hF a; intro a hF) | ((with_reducible apply s_load hF hM); exact rfl; exact rfl; (repeat (first | exact List.mem_cons_self | refine List.mem_cons_of_mem _ ?_)); exact rfl; exact rfl; clear hF a; intro a hF) | ((with_reducible apply s_store hF hM); exact rfl; exact rfl; exact rfl; exact rfl; (repeat (first | exact Upd.z | apply Upd.s)); exact rfl; exact rfl; exact rfl; clear hM; intro w hM) | ((with_reducible apply s_alloc hF hM); exact rfl; exact rfl; exact rfl; clear hF hM a; intro b w a hM hF) | ((with_reducible apply s_lit hF hM); exact rfl; exact rfl; exact rfl; exact rfl; clear hF hM a; intro bl w a hM hF) | ((with_reducible apply s_app hF hM); exact rfl; exact rfl; exact rfl; exact rfl; (repeat (first | exact Kth.z | apply Kth.s)); exact rfl; exact rfl; exact rfl; exact rfl; omega; clear hF hM a; intro g cap w a hM hF; dsimp only [List.set] at hM) | (with_reducible refine w_skip ?_) | (with_reducible refine w_block ?_) | (with_reducible refine q_blk_n ?_) | ((with_reducible apply c_false2 hF); exact rfl; (first | with_reducible rfl | (refine congrArg Value.bool ?_; focus (simp; done)))) | ((with_reducible apply c_dec hF); exact rfl; all_goals intro hc; all_goals (try (exfalso; omega)))))
      have e1 : (done ++ [[x0, x1, x2, x3, x4, x5, x6, x7]]).flatten.map (Value.int .u8) = done.flatten.map (Value.int .u8) ++ [.int .u8 x0, .int .u8 x1, .int .u8 x2, .int .u8 x3, .int .u8 x4, .int .u8 x5, .int .u8 x6, .int .u8 x7] := by simp
      refine ⟨m, by omega, i + 1, ys2, done ++ [[x0, x1, x2, x3, x4, x5, x6, x7]], a3, c2 - 8, _, by omega, hrd, by simp [hdl], ?_, ?_, by omega, by omega, hyb2, hF.sub (by repeat (first | exact Sub.nil | refine Sub.cons rfl (by first | with_reducible rfl | (refine congrArg (Value.int _) ?_; omega) | exact rfl) ?_)), ?_⟩
      · intro s hs
        rcases List.mem_append.1 hs with hs | hs
        · exact hd8 s hs
        · rw [List.mem_singleton.1 hs]; rfl
      · intro s hs
        rcases List.mem_append.1 hs with hs | hs
        · exact hdb s hs
        · rw [List.mem_singleton.1 hs]; exact hsb
      rw [e1]
      exact hM.sub (.cons _ (.refl _)) (.refl _) (by intro f hf; simp only [List.mem_cons, List.not_mem_nil, or_false] at hf; (repeat (rcases hf with rfl | hf; · (repeat (first | exact List.mem_cons_self | refine List.mem_cons_of_mem _ ?_)))); first | (subst hf; (repeat (first | exact List.mem_cons_self | refine List.mem_cons_of_mem _ ?_)); done) | (repeat (first | exact hf | refine List.mem_cons_of_mem _ ?_)))
  · obtain rfl : i = k := by omega
    obtain rfl : m = 0 := by omega
    rw [hrd]
    obtain ⟨a', c', rfl, hcap, _⟩ := OffR.shape hM (k := 0) rfl (OffR.plain hM List.mem_cons_self)
    (repeat' (first | (with_reducible refine w_seq ?_) | (with_reducible refine c_region ?_) | (with_reducible refine s_nil ?_) | (with_reducible refine q_then_n ?_) | ((with_reducible apply s_pure hF); exact rfl; exact rfl; exact rfl; (first | exact trivial | omega | exact ⟨Int.natCast_nonneg _, Int.ofNat_lt.2 (by assumption)⟩ | decide); clear hF a; intro a hF) | (with_reducible refine w_exit ?_) | (with_reducible refine w_ret ?_) | (with_reducible refine q_then_x ?_) | (with_reducible refine q_blk_x ?_) | ((with_reducible apply c_false2 hF); exact rfl; (first | with_reducible rfl | (refine congrArg Value.bool ?_; focus (simp; done))))))
    (apply f_ret Try.results108 hF hM; (repeat (first | exact RL.nil | (apply RL.tmp; exact rfl) | (apply RL.cell; exact rfl; (repeat (first | exact List.mem_cons_self | refine List.mem_cons_of_mem _ ?_)); exact rfl))); refine Both.mk ?_; try dsimp only [resV])
    subst hdl
    refine ⟨a', c', a2, c2, ?_, hyc, ?_, ?_, hyb, ?_, ?_⟩
    · simp
    · simpa using hd8
    · simpa using hdb
    · simpa using hyl
    · simpa using hM
end
section
variable {own : Nat → Prop} {w0 W : World} {bs : List BoxE} {L : List Ent} {Fs : List (World → Prop)} {b : Nat} {T : TypeId} (hM : Mm own w0 (⟨b, ⟨[.slice a0 xs.length c0]⟩, T⟩ :: bs) L (RdF (Value.int .u8) a0 xs :: Fs) W)
include hM
set_option maxRecDepth 20000 in
theorem sectors_ok {l : Dat} {ys : List Int} (h : rdSecs xs = .ok (l, ys)) : Calls Try.prog 107 ⟨[.pointer (some ⟨b, 0, none⟩)]⟩ W (Rtn fun u w' => ∃ a1 c1 a2 c2, u = .tuple #[.slice a1 l.length c1, .int .i64 0] ∧ ys.length ≤ c2 ∧ W8 l ∧ By8 l ∧ (∀ y ∈ ys, 0 ≤ y ∧ y < 256) ∧ ys.length + l.length * 8 ≤ xs.length ∧ Mm own w0 (⟨b, ⟨[.slice a2 ys.length c2]⟩, T⟩ :: bs) (⟨44, 8, .slice a1 l.length c1, l.length, l.flatten.map (Value.int .u8)⟩ :: L) [RdF (Value.int .u8) a2 ys] w') := by
  have hL := listS_m xs hxb hlen a0 c0 hc0 hM
  rw [h] at hL
  refine f_start Try.func107 rfl Try.ntmps107 rfl rfl ?_; intro a hF
  (repeat' (first | (with_reducible refine w_seq ?_) | (with_reducible refine c_region ?_) | (with_reducible refine s_nil ?_) | ((with_reducible apply s_callM (f := 108) hF); exact rfl; exact rfl; exact rfl; exact rfl; exact rfl; exact (hL); clear hF hM a; rintro v w a ⟨a1, c1, a2, c2, rfl, h1, h2, h3, h4, h5, hM⟩ hF) | (with_reducible refine q_then_n ?_) | ((with_reducible apply s_pure hF); exact rfl; exact rfl; exact rfl; (first | exact trivial | omega | exact ⟨Int.natCast_nonneg _, Int.ofNat_lt.2 (by assumption)⟩ | decide); clear hF a; intro a hF) | (with_reducible refine w_ret ?_)))
  (apply f_ret Try.results107 hF hM; (repeat (first | exact RL.nil | (apply RL.tmp; exact rfl) | (apply RL.cell; exact rfl; (repeat (first | exact List.mem_cons_self | refine List.mem_cons_of_mem _ ?_)); exact rfl))); refine Both.mk ?_; try dsimp only [resV])
  exact ⟨a1, c1, a2, c2, rfl, h1, h2, h3, h4, h5, hM⟩
set_option maxRecDepth 20000 in
theorem sectors_err {e : Int} (h : rdSecs xs = .error e) : Calls Try.prog 107 ⟨[.pointer (some ⟨b, 0, none⟩)]⟩ W (Rtn fun u w' => u = .tuple #[.slice none 0 0, .int .i64 e] ∧ e ≠ 0 ∧ ∃ bs' L' Fs', Mm own w0 bs' L' Fs' w') := by
  have hL := listS_m xs hxb hlen a0 c0 hc0 hM
  rw [h] at hL
  refine f_start Try.func107 rfl Try.ntmps107 rfl rfl ?_; intro a hF
  (repeat' (first | (with_reducible refine w_seq ?_) | (with_reducible refine c_region ?_) | (with_reducible refine s_nil ?_) | ((with_reducible apply s_callM (f := 108) hF); exact rfl; exact rfl; exact rfl; exact rfl; exact rfl; exact (hL); clear hF hM a; rintro v w a ⟨rfl, h1, bs', L', Fs', hM⟩ hF) | (with_reducible refine q_then_n ?_) | ((with_reducible apply s_pure hF); exact rfl; exact rfl; exact rfl; (first | exact trivial | omega | exact ⟨Int.natCast_nonneg _, Int.ofNat_lt.2 (by assumption)⟩ | decide); clear hF a; intro a hF) | (with_reducible refine w_ret ?_)))
  (apply f_ret Try.results107 hF hM; (repeat (first | exact RL.nil | (apply RL.tmp; exact rfl) | (apply RL.cell; exact rfl; (repeat (first | exact List.mem_cons_self | refine List.mem_cons_of_mem _ ?_)); exact rfl))); refine Both.mk ?_; try dsimp only [resV])
  exact ⟨rfl, h1, bs', L', Fs', hM⟩
end
variable (own : Nat → Prop) (W : World) (hl : ∀ b, own b → b < W.heap.size) (hv : Has own W (RdF (Value.int .u8) a0 xs))
include hl hv
set_option maxRecDepth 20000 in
theorem SectorsW_c : Calls Try.prog 97 ⟨[.slice a0 xs.length c0]⟩ W (Ret W (secP own (rdSecs xs))) := by
  have hR : ∀ (own : Nat → Prop) (W : World) (_ : ∀ b, own b → b < W.heap.size) (_ : Has own W (RdF (Value.int .u8) a0 xs)), Calls Try.prog 106 ⟨[.slice a0 xs.length c0, .func (.func 107) #[] #[]]⟩ W (Ret W (secP own (rdSecs xs))) := by
    intro own W hl hv
    have hM := (Mm.start hl).known hv
    refine f_start Try.func106 rfl Try.ntmps106 rfl rfl ?_; intro a hF
    cases h : rdSecs xs with
    | error e =>
      (repeat (first | (with_reducible refine w_seq ?_) | (with_reducible refine c_region ?_) | (with_reducible refine s_nil ?_) | ((with_reducible apply s_callcM (f := 107) hF); exact rfl; exact rfl; exact rfl; exact rfl; exact rfl; exact rfl; exact rfl; exact (sectors_err xs hxb hlen a0 c0 hc0 hM h); clear hF hM a; rintro v w a ⟨rfl, h1, cs', L', Fs', hM⟩ hF) | (with_reducible refine q_then_n ?_) | ((with_reducible apply s_pure hF); exact rfl; exact rfl; exact rfl; (first | exact trivial | omega | exact ⟨Int.natCast_nonneg _, Int.ofNat_lt.2 (by assumption)⟩ | decide); clear hF a; intro a hF) | ((with_reducible apply s_box hF hM); exact rfl; exact rfl; exact rfl; exact rfl; clear hF hM a; intro b w a hM hF)))
      (repeat' (first | (with_reducible refine w_seq ?_) | (with_reducible refine c_region ?_) | (with_reducible refine s_nil ?_) | (with_reducible refine q_then_n ?_) | ((with_reducible apply s_pure hF); exact rfl; exact rfl; exact rfl; (first | exact trivial | omega | exact ⟨Int.natCast_nonneg _, Int.ofNat_lt.2 (by assumption)⟩ | decide); clear hF a; intro a hF) | (with_reducible refine w_ret ?_) | (with_reducible refine q_then_r ?_) | ((with_reducible apply c_dec hF); exact rfl; all_goals intro hc; all_goals (try (exfalso; omega)))))
      (apply f_ret Try.results106 hF hM; (repeat (first | exact RL.nil | (apply RL.tmp; exact rfl) | (apply RL.cell; exact rfl; (repeat (first | exact List.mem_cons_self | refine List.mem_cons_of_mem _ ?_)); exact rfl))); refine Ret.mk hM.since ?_; dsimp only [resV])
      exact ⟨rfl, h1⟩
    | ok p =>
      obtain ⟨l, ys⟩ := p
      (repeat' (first | (with_reducible refine w_seq ?_) | (with_reducible refine c_region ?_) | (with_reducible refine s_nil ?_) | ((with_reducible apply s_callcM (f := 107) hF); exact rfl; exact rfl; exact rfl; exact rfl; exact rfl; exact rfl; exact rfl; exact (sectors_ok xs hxb hlen a0 c0 hc0 hM h); clear hF hM a; rintro v w a ⟨a1, c1, a2, c2, rfl, h1, h2, h3, h4, h5, hM⟩ hF) | ((with_reducible apply s_callO (f := 102) hF); exact rfl; exact rfl; exact rfl; exact rfl; exact rfl; exact (cloneB_z a2 c2 ys _ rfl _ _ hM.lt (hM.facts _ (by (repeat (first | exact List.mem_cons_self | refine List.mem_cons_of_mem _ ?_)))) (by omega)); clear hF a; rintro v wn a ⟨a3, c3, rfl, hO⟩ hS hF; replace hM := hM.addRows hS hO; clear hS hO; dsimp only [List.cons_append, List.nil_append] at hM) | (with_reducible refine q_then_n ?_) | ((with_reducible apply s_pure hF); exact rfl; exact rfl; exact rfl; (first | exact trivial | omega | exact ⟨Int.natCast_nonneg _, Int.ofNat_lt.2 (by assumption)⟩ | decide); clear hF a; intro a hF) | ((with_reducible apply s_load hF hM); exact rfl; exact rfl; (repeat (first | exact List.mem_cons_self | refine List.mem_cons_of_mem _ ?_)); exact rfl; exact rfl; clear hF a; intro a hF) | ((with_reducible apply s_box hF hM); exact rfl; exact rfl; exact rfl; exact rfl; clear hF hM a; intro b w a hM hF) | (with_reducible refine w_skip ?_) | (with_reducible refine w_ret ?_) | ((with_reducible apply c_false2 hF); exact rfl; (first | with_reducible rfl | (refine congrArg Value.bool ?_; focus (simp; done))))))
      (apply f_ret Try.results106 hF hM; (repeat (first | exact RL.nil | (apply RL.tmp; exact rfl) | (apply RL.cell; exact rfl; (repeat (first | exact List.mem_cons_self | refine List.mem_cons_of_mem _ ?_)); exact rfl))); refine Ret.mk hM.since ?_; dsimp only [resV])
      obtain ⟨x1, y1, e1, g1, -⟩ := OffR.shape hM (k := 1) rfl (OffR.plain hM (List.mem_cons_of_mem _ List.mem_cons_self))
      obtain ⟨x2, y2, e2, g2, -⟩ := OffR.shape hM (k := 0) rfl (OffR.plain hM List.mem_cons_self)
      injection e1 with _ _ e1
      injection e2 with _ _ e2
      exact ⟨a1, c1, a3, c3, rfl, hM.rowFactN (List.mem_cons_of_mem _ List.mem_cons_self), hM.rowFactN List.mem_cons_self, by omega, by omega, h2, h3, h4, by omega⟩
  have hM := (Mm.start hl).known hv
  refine f_start Try.func97 rfl Try.ntmps97 rfl rfl ?_; intro a hF
  cases h : rdSecs xs with
  | error e =>
    rw [h] at hR
    (repeat' (first | (with_reducible refine w_seq ?_) | (with_reducible refine c_region ?_) | (with_reducible refine s_nil ?_) | ((with_reducible apply s_call (f := 106) hF hM); exact rfl; exact rfl; exact rfl; exact rfl; exact rfl; exact (hR _ _ hM.lt (hM.facts _ (by (repeat (first | exact List.mem_cons_self | refine List.mem_cons_of_mem _ ?_))))); clear hF hM a; rintro v w a ⟨rfl, h1⟩ - hM hF) | (with_reducible refine q_then_n ?_) | ((with_reducible apply s_pure hF); exact rfl; exact rfl; exact rfl; (first | exact trivial | omega | exact ⟨Int.natCast_nonneg _, Int.ofNat_lt.2 (by assumption)⟩ | decide); clear hF a; intro a hF) | (with_reducible refine w_ret ?_)))
    (apply f_ret Try.results97 hF hM; (repeat (first | exact RL.nil | (apply RL.tmp; exact rfl) | (apply RL.cell; exact rfl; (repeat (first | exact List.mem_cons_self | refine List.mem_cons_of_mem _ ?_)); exact rfl))); refine Ret.mk hM.since ?_; dsimp only [resV])
    exact ⟨rfl, h1⟩
  | ok p =>
    obtain ⟨l, ys⟩ := p
    rw [h] at hR
    (repeat' (first | (with_reducible refine w_seq ?_) | (with_reducible refine c_region ?_) | (with_reducible refine s_nil ?_) | ((with_reducible apply s_call (f := 106) hF hM); exact rfl; exact rfl; exact rfl; exact rfl; exact rfl; exact (hR _ _ hM.lt (hM.facts _ (by (repeat (first | exact List.mem_cons_self | refine List.mem_cons_of_mem _ ?_))))); clear hF hM a; rintro v w a ⟨a1, c1, a2, c2, rfl, h1, h2, h3⟩ - hM hF) | (with_reducible refine q_then_n ?_) | ((with_reducible apply s_pure hF); exact rfl; exact rfl; exact rfl; (first | exact trivial | omega | exact ⟨Int.natCast_nonneg _, Int.ofNat_lt.2 (by assumption)⟩ | decide); clear hF a; intro a hF) | (with_reducible refine w_ret ?_)))
    (apply f_ret Try.results97 hF hM; (repeat (first | exact RL.nil | (apply RL.tmp; exact rfl) | (apply RL.cell; exact rfl; (repeat (first | exact List.mem_cons_self | refine List.mem_cons_of_mem _ ?_)); exact rfl))); refine Ret.mk hM.since ?_; dsimp only [resV])
    exact ⟨a1, c1, a2, c2, rfl, h1.own_eq (fun _ h => .inl h), h2.own_eq (fun _ h => .inl h), h3⟩
end
end Go.Proofs.Ytonelgecjmpbgaa


/- wire: lists of sectors are put. -/
namespace Go.Proofs.Ytonelgecjmpbgaa
open Go.RowKit Go.Shelf D29
namespace D29
/-- The bytes of a list of sectors. -/
def putsS (l : Dat) : List Int := puts l.length ++ l.flatten
end D29
set_option maxRecDepth 20000 in
theorem putSector_m (x0 x1 x2 x3 x4 x5 x6 x7 : Int) {own : Nat → Prop} {w0 W : World} {bs : List BoxE} {L : List Ent} {Fs : List (World → Prop)} {m : Nat} {v : Value} {xs : List Value} (hM : Mm own w0 bs (⟨5, 1, v, m, xs⟩ :: L) Fs W) (hm : m ≤ 100000000000) :
    Calls Try.prog 104 ⟨[v, .agg #[.int .u8 x0, .int .u8 x1, .int .u8 x2, .int .u8 x3, .int .u8 x4, .int .u8 x5, .int .u8 x6, .int .u8 x7]]⟩ W (Rtn fun u w' => ∃ a' c', u = .slice a' (m + 8) c' ∧ Mm own w0 bs (⟨5, 1, .slice a' (m + 8) c', m + 8, xs ++ [x0, x1, x2, x3, x4, x5, x6, x7].map (Value.int .u8)⟩ :: L) Fs w') := by
  refine f_start Try.func104 rfl Try.ntmps104 rfl rfl ?_; intro a hF
  (repeat (first | (with_reducible refine w_seq ?_) | (with_reducible refine c_region ?_) | (with_reducible refine s_nil ?_) | ((with_reducible apply s_arrSl hF); exact rfl; exact rfl; exact rfl; exact rfl; clear hF a; intro a hF) | (with_reducible refine q_then_n ?_) | ((with_reducible apply s_pure hF); exact rfl; exact rfl; exact rfl; (first | exact trivial | omega | exact ⟨Int.natCast_nonneg _, Int.ofNat_lt.2 (by assumption)⟩ | decide); clear hF a; intro a hF) | ((with_reducible apply s_box hF hM); exact rfl; exact rfl; exact rfl; exact rfl; clear hF hM a; intro b w a hM hF) | ((with_reducible apply s_app hF hM); exact rfl; exact rfl; exact rfl; exact rfl; (repeat (first | exact Kth.z | apply Kth.s)); exact rfl; exact rfl; exact rfl; exact rfl; omega; clear hF hM a; intro g cap w a hM hF; dsimp only [List.set] at hM) | (with_reducible refine w_ret ?_)))
  (apply f_ret Try.results104 hF hM; (repeat (first | exact RL.nil | (apply RL.tmp; exact rfl) | (apply RL.cell; exact rfl; (repeat (first | exact List.mem_cons_self | refine List.mem_cons_of_mem _ ?_)); exact rfl))); refine Both.mk ?_; try dsimp only [resV])
  exact ⟨_, _, rfl, hM⟩
theorem flat_take8 {l : Dat} {k : Nat} {s : List Int} (h : l[k]? = some s) : (l.take (k + 1)).flatten = (l.take k).flatten ++ s := by
  rw [take_snoc h, List.flatten_append]
  simp
set_option maxRecDepth 20000 in
set_option maxHeartbeats 4000000 in
theorem PutSectors_c (l : Dat) (hl8 : W8 l) (hl6 : l.length ≤ 1000000) (ys : List Int) (hy : ys.length ≤ 1000000000) (a0 a1 : Option Addr) (m c0 c1 n : Nat) (hm : ys.length = m) (hn : l.length = n) (own : Nat → Prop) (W : World) (hl : ∀ b, own b → b < W.heap.size) (hv : Has own W (RdF (Value.int .u8) a0 ys)) (hu : Has own W (RdF (Value.int .u8) a1 l.flatten)) :
    Calls Try.prog 84 ⟨[.slice a0 m c0, .slice a1 n c1]⟩ W (Ret W fun v w' => ∃ a' c', v = .slice a' (m + (putsS l).length) c' ∧ Owns w' W.heap.size [⟨5, 1, .slice a' (m + (putsS l).length) c', m + (putsS l).length, (ys ++ putsS l).map (Value.int .u8)⟩]) := by
  subst hn
  have hP : ∀ {own : Nat → Prop} {w0 W : World} {L : List Ent} (v : Value) (_ : Mm own w0 [] (⟨5, 1, v, m, ys.map (Value.int .u8)⟩ :: L) [RdF (Value.int .u8) a1 l.flatten, RdF (Value.int .u8) a0 ys] W), Calls Try.prog 103 ⟨[v, .slice a1 l.length c1, .func (.func 104) #[] #[]]⟩ W (Rtn fun u w' => ∃ a' c', u = .slice a' (m + (putsS l).length) c' ∧ Mm own w0 [] (⟨5, 1, .slice a' (m + (putsS l).length) c', m + (putsS l).length, (ys ++ putsS l).map (Value.int .u8)⟩ :: L) [RdF (Value.int .u8) a1 l.flatten, RdF (Value.int .u8) a0 ys] w') := by
    clear hl hv hu own W
    intro own w0 W L v hM
    have hp0 : (puts l.length).length ≤ 8 := puts_len 7 l.length (by omega)
    refine f_start Try.func103 rfl Try.ntmps103 rfl rfl ?_; intro a hF
    (repeat' (first | (with_reducible refine w_seq ?_) | (with_reducible refine c_region ?_) | (with_reducible refine s_nil ?_) | ((with_reducible apply s_callM (f := 101) hF); exact rfl; exact rfl; exact rfl; exact rfl; exact rfl; exact (putInt_m l.length (by omega) hM .z (by omega)); clear hF hM a; rintro v w a ⟨a2, c2, rfl, hM⟩ hF; dsimp only [List.set] at hM) | (with_reducible refine q_then_n ?_) | ((with_reducible apply s_pure hF); exact rfl; exact rfl; exact rfl; (first | exact trivial | omega | exact ⟨Int.natCast_nonneg _, Int.ofNat_lt.2 (by assumption)⟩ | decide); clear hF a; intro a hF) | (with_reducible refine w_block ?_)))
    refine c_loop (m := l.length) (fun z a w' => ∃ (k : Nat) (q : Nat) (a2 : Option Addr) (c2 : Nat), z + k = l.length ∧ q = (puts l.length ++ (l.take k).flatten).length ∧ q ≤ 8 + 8 * k ∧
      Fr 25 [] [(15, .int .i64 k), (14, .int .i64 l.length), (13, .slice a1 l.length c1), (0, .slice a2 (m + q) c2), (2, .func (.func 104) #[] #[])] a ∧
      Mm own w0 [] (⟨5, 1, .slice a2 (m + q) c2, m + q, (ys ++ (puts l.length ++ (l.take k).flatten)).map (Value.int .u8)⟩ :: L) [RdF (Value.int .u8) a1 l.flatten, RdF (Value.int .u8) a0 ys] w')
      ⟨0, (puts l.length).length, a2, c2, by omega, by simp, by omega, hF.sub (by repeat (first | exact Sub.nil | refine Sub.cons rfl (by first | with_reducible rfl | (refine congrArg (Value.int _) ?_; omega) | exact rfl) ?_)), by simpa using hM⟩ ?_
    clear hF hM a
    rintro z a w' ⟨k, q, a2, c2, hz, hq, hq8, hF, hM⟩
    by_cases hk : k < l.length
    · obtain ⟨s, hs⟩ := get_of_lt hk
      have hs8 := hl8 s (List.mem_of_getElem? hs)
      have hw1 : ∀ y ∈ l, y.length = 8 := hl8
      obtain ⟨ad, rfl⟩ : ∃ ad, a1 = some ad := rd_some hM (enc := Value.int .u8) (a := a1) (xs := l.flatten) (by (repeat (first | exact List.mem_cons_self | refine List.mem_cons_of_mem _ ?_))) (flat_get (q := 0) hl8 hs (List.getElem?_eq_getElem (by omega)))
      have hst := flat_take8 hs
      obtain ⟨x0, x1, x2, x3, x4, x5, x6, x7, rfl⟩ := len8 hs8
      (repeat' (first | (with_reducible refine w_seq ?_) | (with_reducible refine c_region ?_) | (with_reducible refine s_nil ?_) | ((with_reducible apply s_callcM (f := 104) hF); exact rfl; exact rfl; exact rfl; exact rfl; exact rfl; exact rfl; exact rfl; exact (putSector_m x0 x1 x2 x3 x4 x5 x6 x7 hM (by omega)); clear hF hM a; rintro v w a ⟨a3, c3, rfl, hM⟩ hF) | ((with_reducible apply s_loadS hF hM); exact rfl; exact rfl; (repeat (first | exact List.mem_cons_self | refine List.mem_cons_of_mem _ ?_)); exact rfl; exact rfl; (first | with_reducible assumption | (simp only [Int.toNat_natCast]; with_reducible assumption)); (with_reducible assumption); clear hF a; intro a hF) | (with_reducible refine q_then_n ?_) | ((with_reducible apply s_pure hF); exact rfl; exact rfl; exact rfl; (first | exact trivial | omega | exact ⟨Int.natCast_nonneg _, Int.ofNat_lt.2 (by assumption)⟩ | decide); clear hF a; intro a hF) | ((with_reducible apply s_load hF hM); exact rfl; exact rfl; (repeat (first | exact List.mem_cons_self | refine List.mem_cons_of_mem _ ?_)); exact rfl; exact rfl; clear hF a; intro a hF) | ((with_reducible apply s_store hF hM); exact rfl; exact rfl; exact rfl; exact rfl; (repeat (first | exact Upd.z | apply Upd.s)); exact rfl; exact rfl; exact rfl; clear hM; intro w hM) | ((with_reducible apply s_alloc hF hM); exact rfl; exact rfl; exact rfl; clear hF hM a; intro b w a hM hF) | (with_reducible refine w_skip ?_) | (with_reducible refine w_block ?_) | (with_reducible refine q_blk_n ?_) | ((with_reducible apply c_dec hF); exact rfl; all_goals intro hc; all_goals (try (exfalso; omega)))))
      rw [Nat.add_assoc] at hF
      refine ⟨z - 1, by omega, k + 1, q + 8, a3, c3, by omega, ?_, by omega, hF.sub (by repeat (first | exact Sub.nil | refine Sub.cons rfl (by first | with_reducible rfl | (refine congrArg (Value.int _) ?_; omega) | exact rfl) ?_)), ?_⟩
      · rw [hst, hq]; simp; omega
      · rw [hst]
        rw [← List.map_append, Nat.add_assoc] at hM
        replace hM := hM.sub (.cons _ .slnil) (.refl _) (fun _ h => h)
        simpa using hM
    · obtain rfl : k = l.length := by omega
      (repeat' (first | (with_reducible refine w_seq ?_) | (with_reducible refine c_region ?_) | (with_reducible refine s_nil ?_) | (with_reducible refine q_then_n ?_) | ((with_reducible apply s_pure hF); exact rfl; exact rfl; exact rfl; (first | exact trivial | omega | exact ⟨Int.natCast_nonneg _, Int.ofNat_lt.2 (by assumption)⟩ | decide); clear hF a; intro a hF) | (with_reducible refine w_exit ?_) | (with_reducible refine w_ret ?_) | (with_reducible refine q_then_x ?_) | (with_reducible refine q_blk_x ?_) | ((with_reducible apply c_false2 hF); exact rfl; (first | with_reducible rfl | (refine congrArg Value.bool ?_; focus (simp; done))))))
      (apply f_ret Try.results103 hF hM; (repeat (first | exact RL.nil | (apply RL.tmp; exact rfl) | (apply RL.cell; exact rfl; (repeat (first | exact List.mem_cons_self | refine List.mem_cons_of_mem _ ?_)); exact rfl))); refine Both.mk ?_; try dsimp only [resV])
      rw [List.take_of_length_le (Nat.le_refl _)] at hq hM
      have e : puts l.length ++ l.flatten = putsS l := rfl
      rw [e] at hq hM
      subst hq
      exact ⟨a2, c2, rfl, hM⟩
  have hM := ((Mm.start hl).known hv).known hu
  refine f_start Try.func84 rfl Try.ntmps84 rfl rfl ?_; intro a hF
  (repeat' (first | (with_reducible refine w_seq ?_) | (with_reducible refine c_region ?_) | (with_reducible refine s_nil ?_) | ((with_reducible apply s_callO (f := 102) hF); exact rfl; exact rfl; exact rfl; exact rfl; exact rfl; exact (cloneB_z a0 c0 ys m hm _ _ hM.lt (hM.facts (RdF (Value.int .u8) a0 ys) (by (repeat (first | exact List.mem_cons_self | refine List.mem_cons_of_mem _ ?_)))) (by omega)); clear hF a; rintro v wn a ⟨a2, c2, rfl, hO⟩ hS hF; replace hM := hM.addRows hS hO; clear hS hO; dsimp only [List.cons_append, List.nil_append] at hM) | ((with_reducible apply s_callM (f := 103) hF); exact rfl; exact rfl; exact rfl; exact rfl; exact rfl; exact (hP _ hM); clear hF hM a; rintro v w a ⟨a3, c3, rfl, hM⟩ hF) | (with_reducible refine q_then_n ?_) | ((with_reducible apply s_pure hF); exact rfl; exact rfl; exact rfl; (first | exact trivial | omega | exact ⟨Int.natCast_nonneg _, Int.ofNat_lt.2 (by assumption)⟩ | decide); clear hF a; intro a hF) | (with_reducible refine w_ret ?_)))
  (apply f_ret Try.results84 hF hM; (repeat (first | exact RL.nil | (apply RL.tmp; exact rfl) | (apply RL.cell; exact rfl; (repeat (first | exact List.mem_cons_self | refine List.mem_cons_of_mem _ ?_)); exact rfl))); refine Ret.mk hM.since ?_; dsimp only [resV])
  exact ⟨a3, c3, rfl, hM.mem.own⟩
end Go.Proofs.Ytonelgecjmpbgaa


/- The reference's numbers and lists of sectors. -/
namespace Go.Proofs.Ytonelgecjmpbgaa
open Go.RowKit Go.Shelf D29
/-- A number that is read. -/
def rdI (xs : List Int) : Except Int (Int × List Int) := if (rdNum xs).2.1 ≠ 0 then .error (rdNum xs).2.1 else .ok ((rdNum xs).1, xs.drop (rdNum xs).2.2)
theorem rdI_err {xs : List Int} {e : Int} (h : rdI xs = .error e) : e ≠ 0 := by
  unfold rdI at h
  split at h
  · rename_i he
    injection h with h
    rw [← h]
    exact he
  · cases h
theorem rdI_ok {xs ys : List Int} {n : Int} (hb : ∀ x ∈ xs, 0 ≤ x ∧ x < 256) (h : rdI xs = .ok (n, ys)) : (∀ y ∈ ys, 0 ≤ y ∧ y < 256) ∧ ys.length ≤ xs.length ∧ 0 ≤ n ∧ n ≤ 9007199254740991 := by
  have hnn := rdNum_nn hb
  unfold rdI at h
  split at h
  · cases h
  · injection h with h
    injection h with h1 h2
    subst h1 h2
    exact ⟨fun y hy => hb y (List.mem_of_mem_drop hy), by simp, hnn⟩
section
variable (xs : List Int) (hxb : ∀ x ∈ xs, 0 ≤ x ∧ x < 256) (hlen : xs.length ≤ 1000000) (a0 : Option Addr) (c0 : Nat) (hc0 : xs.length ≤ c0) (own : Nat → Prop) (W : World) (hl : ∀ b, own b → b < W.heap.size) (hv : Has own W (RdF (Value.int .u8) a0 xs))
include hxb hlen hc0 hl hv
theorem IntRF_ok {n : Int} {ys : List Int} (h : rdI xs = .ok (n, ys)) : Calls Try.prog 81 ⟨[.slice a0 xs.length c0]⟩ W (Ret W fun v w' => ∃ a' c', v = .tuple #[.int .i64 n, .slice a' ys.length c', .int .i64 0] ∧ Has own w' (RdF (Value.int .u8) a' ys) ∧ ys.length ≤ c') := by
  unfold rdI at h
  split at h
  · cases h
  · rename_i he
    injection h with h
    injection h with h1 h2
    subst h1 h2
    exact (IntR_ok xs hxb hlen a0 c0 hc0 own W hl hv (by omega)).mono fun _ _ ⟨v, e1, e2, a', c', e3, hO⟩ => ⟨v, e1, e2, a', c', e3, hO.fact hl⟩
theorem IntRF_err {e : Int} (h : rdI xs = .error e) : Calls Try.prog 81 ⟨[.slice a0 xs.length c0]⟩ W (Ret W fun v _ => v = .tuple #[.int .i64 0, .slice none 0 0, .int .i64 e]) := by
  unfold rdI at h
  split at h
  · rename_i he
    injection h with h
    subst h
    exact IntR_err xs hxb hlen a0 c0 hc0 own W hl hv he
  · cases h
/-- A length that is read: at most 65536. -/
def rdLn (xs : List Int) : Except Int (Int × List Int) := match rdI xs with
  | .error e => .error e
  | .ok (n, ys) => if 65536 < n then .error 5 else .ok (n, ys)
theorem lenR_ok {n : Int} {ys : List Int} (h : rdLn xs = .ok (n, ys)) : Calls Try.prog 100 ⟨[.slice a0 xs.length c0]⟩ W (Ret W fun v w' => ∃ a' c', v = .tuple #[.int .i64 n, .slice a' ys.length c', .int .i64 0] ∧ Has own w' (RdF (Value.int .u8) a' ys) ∧ ys.length ≤ c') := by
  have hM := (Mm.start hl).known hv
  unfold rdLn at h
  split at h
  · cases h
  rename_i n' ys' hi
  split at h
  · cases h
  rename_i hn
  injection h with h
  injection h with h1 h2
  subst h1 h2
  refine f_start Try.func100 rfl Try.ntmps100 rfl rfl ?_; intro a hF
  (repeat' (first | (with_reducible refine w_seq ?_) | (with_reducible refine c_region ?_) | (with_reducible refine s_nil ?_) | ((with_reducible apply s_call (f := 81) hF hM); exact rfl; exact rfl; exact rfl; exact rfl; exact rfl; exact (IntRF_ok xs hxb hlen a0 c0 hc0 _ _ hM.lt (hM.facts _ (by (repeat (first | exact List.mem_cons_self | refine List.mem_cons_of_mem _ ?_)))) hi); clear hF hM a; rintro v w a ⟨a1, c1, rfl, h1, h2⟩ - hM hF; replace hM := hM.addFact h1) | (with_reducible refine q_then_n ?_) | ((with_reducible apply s_pure hF); exact rfl; exact rfl; exact rfl; (first | exact trivial | omega | exact ⟨Int.natCast_nonneg _, Int.ofNat_lt.2 (by assumption)⟩ | decide); clear hF a; intro a hF) | (with_reducible refine w_skip ?_) | (with_reducible refine w_ret ?_) | ((with_reducible apply c_false2 hF); exact rfl; (first | with_reducible rfl | (refine congrArg Value.bool ?_; focus (simp; done)))) | ((with_reducible apply c_dec hF); exact rfl; all_goals intro hc; all_goals (try (exfalso; omega)))))
  (apply f_ret Try.results100 hF hM; (repeat (first | exact RL.nil | (apply RL.tmp; exact rfl) | (apply RL.cell; exact rfl; (repeat (first | exact List.mem_cons_self | refine List.mem_cons_of_mem _ ?_)); exact rfl))); refine Ret.mk hM.since ?_; dsimp only [resV])
  exact ⟨a1, c1, rfl, hM.factOut (f := RdF (Value.int .u8) a1 ys') (by (repeat (first | with_reducible exact List.mem_cons_self | refine List.mem_cons_of_mem _ ?_))), h2⟩
theorem lenR_err {e : Int} (h : rdLn xs = .error e) : Calls Try.prog 100 ⟨[.slice a0 xs.length c0]⟩ W (Ret W fun v _ => v = .tuple #[.int .i64 0, .slice none 0 0, .int .i64 e] ∧ e ≠ 0) := by
  have hM := (Mm.start hl).known hv
  unfold rdLn at h
  split at h
  · rename_i e' hi
    injection h with h
    subst h
    have he := rdI_err hi
    refine f_start Try.func100 rfl Try.ntmps100 rfl rfl ?_; intro a hF
    (repeat' (first | (with_reducible refine w_seq ?_) | (with_reducible refine c_region ?_) | (with_reducible refine s_nil ?_) | ((with_reducible apply s_call (f := 81) hF hM); exact rfl; exact rfl; exact rfl; exact rfl; exact rfl; exact (IntRF_err xs hxb hlen a0 c0 hc0 _ _ hM.lt (hM.facts _ (by (repeat (first | exact List.mem_cons_self | refine List.mem_cons_of_mem _ ?_)))) hi); clear hF hM a; rintro v w a rfl - hM hF) | (with_reducible refine q_then_n ?_) | ((with_reducible apply s_pure hF); exact rfl; exact rfl; exact rfl; (first | exact trivial | omega | exact ⟨Int.natCast_nonneg _, Int.ofNat_lt.2 (by assumption)⟩ | decide); clear hF a; intro a hF) | (with_reducible refine w_skip ?_) | (with_reducible refine w_ret ?_) | (with_reducible refine q_then_r ?_) | ((with_reducible apply c_false2 hF); exact rfl; (first | with_reducible rfl | (refine congrArg Value.bool ?_; focus (simp; done)))) | ((with_reducible apply s_skip hF); exact rfl; exact rfl; clear hF a; intro a hF) | ((fail_if_success ((with_reducible refine g_known true hF ?_ ?_); focus exact rfl)); (fail_if_success ((with_reducible refine g_known false hF ?_ ?_); focus exact rfl)); (with_reducible apply g_dec hF); exact rfl; exact rfl; all_goals (clear hF; intro hc hF); all_goals (try (exfalso; omega))) | ((with_reducible apply c_dec hF); exact rfl; all_goals intro hc; all_goals (try (exfalso; omega)))))
    (apply f_ret Try.results100 hF hM; (repeat (first | exact RL.nil | (apply RL.tmp; exact rfl) | (apply RL.cell; exact rfl; (repeat (first | exact List.mem_cons_self | refine List.mem_cons_of_mem _ ?_)); exact rfl))); refine Ret.mk hM.since ?_; dsimp only [resV])
    exact ⟨rfl, he⟩
  · rename_i n' ys' hi
    split at h
    · rename_i hn
      injection h with h
      subst h
      refine f_start Try.func100 rfl Try.ntmps100 rfl rfl ?_; intro a hF
      (repeat' (first | (with_reducible refine w_seq ?_) | (with_reducible refine c_region ?_) | (with_reducible refine s_nil ?_) | ((with_reducible apply s_call (f := 81) hF hM); exact rfl; exact rfl; exact rfl; exact rfl; exact rfl; exact (IntRF_ok xs hxb hlen a0 c0 hc0 _ _ hM.lt (hM.facts _ (by (repeat (first | exact List.mem_cons_self | refine List.mem_cons_of_mem _ ?_)))) hi); clear hF hM a; rintro v w a ⟨a1, c1, rfl, h1, h2⟩ - hM hF) | (with_reducible refine q_then_n ?_) | ((with_reducible apply s_pure hF); exact rfl; exact rfl; exact rfl; (first | exact trivial | omega | exact ⟨Int.natCast_nonneg _, Int.ofNat_lt.2 (by assumption)⟩ | decide); clear hF a; intro a hF) | (with_reducible refine w_ret ?_) | (with_reducible refine q_then_r ?_) | ((with_reducible apply c_true2 hF); exact rfl; (first | with_reducible rfl | (refine congrArg Value.bool ?_; focus (simp; done)))) | ((with_reducible apply c_dec hF); exact rfl; all_goals intro hc; all_goals (try (exfalso; omega)))))
      (apply f_ret Try.results100 hF hM; (repeat (first | exact RL.nil | (apply RL.tmp; exact rfl) | (apply RL.cell; exact rfl; (repeat (first | exact List.mem_cons_self | refine List.mem_cons_of_mem _ ?_)); exact rfl))); refine Ret.mk hM.since ?_; dsimp only [resV])
      exact ⟨rfl, by decide⟩
    · cases h
end
set_option maxRecDepth 20000 in
set_option maxHeartbeats 4000000 in
theorem PutSectorsR_c (l : Dat) (hl8 : W8 l) (hl6 : l.length ≤ 1000000) (ys : List Int) (hy : ys.length ≤ 1000000000) (a0 a1 : Option Addr) (m c0 c1 n : Nat) (hm : ys.length = m) (hn : l.length = n) (own : Nat → Prop) (W : World) (hl : ∀ b, own b → b < W.heap.size) (hv : Has own W (RdF (Value.int .u8) a0 ys)) (hu : Has own W (RdF (Value.int .u8) a1 l.flatten)) :
    Calls Try.prog 86 ⟨[.slice a0 m c0, .slice a1 n c1]⟩ W (Ret W fun v w' => ∃ a' c', v = .slice a' (m + (putsS l).length) c' ∧ Owns w' W.heap.size [⟨5, 1, .slice a' (m + (putsS l).length) c', m + (putsS l).length, (ys ++ putsS l).map (Value.int .u8)⟩]) := by
  subst hn
  have hM := ((Mm.start hl).known hv).known hu
  have hp0 : (puts l.length).length ≤ 8 := puts_len 7 l.length (by omega)
  have hfl := flat_len hl8
  refine f_start Try.func86 rfl Try.ntmps86 rfl rfl ?_; intro a hF
  (repeat' (first | (with_reducible refine w_seq ?_) | (with_reducible refine c_region ?_) | (with_reducible refine s_nil ?_) | ((with_reducible apply s_callO (f := 85) hF); exact rfl; exact rfl; exact rfl; exact rfl; exact rfl; exact (PutIntR_c l.length _ rfl (by omega) a0 c0 ys m hm _ _ hM.lt (hM.facts (RdF (Value.int .u8) a0 ys) (by (repeat (first | with_reducible exact List.mem_cons_self | refine List.mem_cons_of_mem _ ?_)))) (by omega)); clear hF a; rintro v wn a ⟨a2, c2, rfl, hO⟩ hS hF; replace hM := hM.addRows hS hO; clear hS hO; dsimp only [List.cons_append, List.nil_append] at hM) | (with_reducible refine q_then_n ?_) | ((with_reducible apply s_pure hF); exact rfl; exact rfl; exact rfl; (first | exact trivial | omega | exact ⟨Int.natCast_nonneg _, Int.ofNat_lt.2 (by assumption)⟩ | decide); clear hF a; intro a hF) | (with_reducible refine w_block ?_)))
  obtain ⟨B, hB⟩ : ∃ B, B = ys ++ puts l.length := ⟨_, rfl⟩
  obtain ⟨p, hp⟩ : ∃ p, m + (puts l.length).length = p := ⟨_, rfl⟩
  rw [← hB, hp] at hM
  rw [hp] at hF
  refine c_loop (m := l.length) (fun z a w' => ∃ (i : Nat) (v : Value), z + i = l.length ∧
    Fr 32 [] [(6, .int .i64 i), (1, .slice a1 l.length c1), (5, v)] a ∧
    Mm own W [] [⟨5, 1, v, p + i * 8, (B ++ l.flatten.take (i * 8)).map (Value.int .u8)⟩] [RdF (Value.int .u8) a1 l.flatten] w')
    ⟨0, _, by omega, hF.sub (by repeat (first | exact Sub.nil | refine Sub.cons rfl (by first | with_reducible rfl | (refine congrArg (Value.int _) ?_; omega) | exact rfl) ?_)), (hM.sub (.refl _) (.refl _) (by intro f hf; simp only [List.mem_cons, List.not_mem_nil, or_false] at hf; (repeat (rcases hf with rfl | hf; · (repeat (first | exact List.mem_cons_self | refine List.mem_cons_of_mem _ ?_)))); first | (subst hf; (repeat (first | exact List.mem_cons_self | refine List.mem_cons_of_mem _ ?_)); done) | (repeat (first | exact hf | refine List.mem_cons_of_mem _ ?_)))).rowsEq (by simp)⟩ ?_
  clear hF hM a
  rintro z a w' ⟨i, v, hz, hF, hM⟩
  by_cases hi : i < l.length
  · obtain ⟨s, hs⟩ := get_of_lt hi
    have hs8 := hl8 s (List.mem_of_getElem? hs)
    obtain ⟨b0, o0, rfl⟩ : ∃ b0 o0, a1 = some ⟨b0, o0, none⟩ := by
      obtain ⟨b0, o0, e, _, _⟩ := (hM.fact (f := RdF (Value.int .u8) a1 l.flatten) (by (repeat (first | exact List.mem_cons_self | refine List.mem_cons_of_mem _ ?_)))) _ _ (flat_get (q := 0) hl8 hs (List.getElem?_eq_getElem (by omega)))
      exact ⟨b0, o0, e⟩
    have hrd := rd_elt hl8 (hM.facts (RdF (Value.int .u8) (some ⟨b0, o0, none⟩) l.flatten) (by (repeat (first | exact List.mem_cons_self | refine List.mem_cons_of_mem _ ?_)))) hs
    replace hM := hM.addFact hrd
    (repeat' (first | (with_reducible refine w_seq ?_) | (with_reducible refine c_region ?_) | (with_reducible refine s_nil ?_) | (with_reducible refine q_then_n ?_) | ((with_reducible apply s_pure hF); exact rfl; exact rfl; exact rfl; (first | exact trivial | omega | exact ⟨Int.natCast_nonneg _, Int.ofNat_lt.2 (by assumption)⟩ | decide); clear hF a; intro a hF) | (with_reducible refine w_skip ?_) | (with_reducible refine w_block ?_) | ((with_reducible apply c_dec hF); exact rfl; all_goals intro hc; all_goals (try (exfalso; omega)))))
    refine c_loop (m := 8) (fun m a w' => ∃ (j : Nat) (v : Value), m + j = 8 ∧
      Fr 32 [] [(7, .int .i64 j), (6, .int .i64 i), (5, v), (1, .slice (some ⟨b0, o0, none⟩) l.length c1)] a ∧
      Mm own W [] [⟨5, 1, v, p + i * 8 + j, (B ++ l.flatten.take (i * 8 + j)).map (Value.int .u8)⟩] [RdF (Value.int .u8) (some (adr ⟨b0, o0, none⟩ i 8)) s, RdF (Value.int .u8) (some ⟨b0, o0, none⟩) l.flatten] w') ⟨0, v, by omega, hF.sub (by repeat (first | exact Sub.nil | refine Sub.cons rfl (by first | with_reducible rfl | (refine congrArg (Value.int _) ?_; omega) | exact rfl) ?_)), hM⟩ ?_
    clear hF hM a
    rintro mj a w' ⟨j, v, hmj, hF, hM⟩
    by_cases hj : j < 8
    · obtain ⟨x, hx⟩ := get_of_lt (l := s) (i := j) (by omega)
      have htk := take_snoc (flat_get hl8 hs hx)
      (repeat' (first | (with_reducible refine w_seq ?_) | (with_reducible refine c_region ?_) | (with_reducible refine s_nil ?_) | ((with_reducible apply s_idxA hF); exact rfl; exact rfl; exact rfl; exact rfl; exact rfl; exact rfl; (first | omega | exact ⟨Int.natCast_nonneg _, Int.ofNat_lt.2 (by assumption)⟩); clear hF a; intro a hF) | (with_reducible refine q_then_n ?_) | ((with_reducible apply s_pure hF); exact rfl; exact rfl; exact rfl; (first | exact trivial | omega | exact ⟨Int.natCast_nonneg _, Int.ofNat_lt.2 (by assumption)⟩ | decide); clear hF a; intro a hF) | ((with_reducible apply s_loadF hF hM); exact rfl; exact rfl; (repeat (first | exact List.mem_cons_self | refine List.mem_cons_of_mem _ ?_)); exact rfl; exact rfl; (first | with_reducible assumption | (simp only [Int.toNat_natCast]; with_reducible assumption)); clear hF a; intro a hF) | ((with_reducible apply s_lit hF hM); exact rfl; exact rfl; exact rfl; exact rfl; clear hF hM a; intro bl w a hM hF) | ((with_reducible apply s_app hF hM); exact rfl; exact rfl; exact rfl; exact rfl; (repeat (first | exact Kth.z | apply Kth.s)); exact rfl; exact rfl; exact rfl; exact rfl; omega; clear hF hM a; intro g cap w a hM hF; dsimp only [List.set] at hM) | (with_reducible refine w_skip ?_) | (with_reducible refine w_block ?_) | (with_reducible refine q_blk_n ?_) | ((with_reducible apply c_dec hF); exact rfl; all_goals intro hc; all_goals (try (exfalso; omega)))))
      refine ⟨mj - 1, by omega, j + 1, .slice (some ⟨g, 0, none⟩) (p + i * 8 + j + 1) cap, by omega, hF.sub (by repeat (first | exact Sub.nil | refine Sub.cons rfl (by first | with_reducible rfl | (refine congrArg (Value.int _) ?_; omega) | exact rfl) ?_)), ?_⟩
      rw [← Nat.add_assoc, ← Nat.add_assoc, htk, ← List.append_assoc, List.map_append]
      exact hM
    · obtain rfl : j = 8 := by omega
      (repeat' (first | (with_reducible refine w_seq ?_) | (with_reducible refine c_region ?_) | (with_reducible refine s_nil ?_) | (with_reducible refine q_then_n ?_) | ((with_reducible apply s_pure hF); exact rfl; exact rfl; exact rfl; (first | exact trivial | omega | exact ⟨Int.natCast_nonneg _, Int.ofNat_lt.2 (by assumption)⟩ | decide); clear hF a; intro a hF) | (with_reducible refine w_exit ?_) | (with_reducible refine q_then_x ?_) | (with_reducible refine q_blk_n ?_) | (with_reducible refine q_blk_x ?_) | ((with_reducible apply c_false2 hF); exact rfl; (first | with_reducible rfl | (refine congrArg Value.bool ?_; focus (simp; done))))))
      refine ⟨z - 1, by omega, i + 1, v, by omega, hF.sub (by repeat (first | exact Sub.nil | refine Sub.cons rfl (by first | with_reducible rfl | (refine congrArg (Value.int _) ?_; omega) | exact rfl) ?_)), ?_⟩
      rw [Nat.succ_mul, ← Nat.add_assoc]
      exact hM.sub (.refl _) (.refl _) (fun f hf => List.mem_cons_of_mem _ hf)
  · obtain rfl : i = l.length := by omega
    rw [← hfl, List.take_length] at hM
    (repeat' (first | (with_reducible refine w_seq ?_) | (with_reducible refine c_region ?_) | (with_reducible refine s_nil ?_) | (with_reducible refine q_then_n ?_) | ((with_reducible apply s_pure hF); exact rfl; exact rfl; exact rfl; (first | exact trivial | omega | exact ⟨Int.natCast_nonneg _, Int.ofNat_lt.2 (by assumption)⟩ | decide); clear hF a; intro a hF) | (with_reducible refine w_exit ?_) | (with_reducible refine w_ret ?_) | (with_reducible refine q_then_x ?_) | (with_reducible refine q_blk_x ?_) | ((with_reducible apply c_false2 hF); exact rfl; (first | with_reducible rfl | (refine congrArg Value.bool ?_; focus (simp; done))))))
    (apply f_ret Try.results86 hF hM; (repeat (first | exact RL.nil | (apply RL.tmp; exact rfl) | (apply RL.cell; exact rfl; (repeat (first | exact List.mem_cons_self | refine List.mem_cons_of_mem _ ?_)); exact rfl))); refine Ret.mk hM.since ?_; dsimp only [resV])
    have e : m + (putsS l).length = p + l.flatten.length := by unfold putsS; rw [List.length_append]; omega
    have e2 : ys ++ putsS l = B ++ l.flatten := by rw [hB]; unfold putsS; rw [List.append_assoc]
    rw [e, e2]
    obtain ⟨av, cv, rfl, -, -⟩ := OffR.shape hM (k := 0) rfl (OffR.plain hM List.mem_cons_self)
    exact ⟨av, cv, rfl, hM.mem.own⟩
end Go.Proofs.Ytonelgecjmpbgaa


/- The reference reads sectors. -/
namespace Go.Proofs.Ytonelgecjmpbgaa
open Go.RowKit Go.Shelf D29
section
variable {n : Nat} {ds : List Deferred} {l : List (Nat × Value)} {a : Act} {w w0 : World} {own : Nat → Prop} {bs : List BoxE} {L : List Ent} {Fs : List (World → Prop)} {os rest : List Oper} {Q : Exit → Act → World → Prop} {ty : TypeId} {pos : String} {af : Array Edge} {g : Option (Nat × Bool)}
/-- A store into an element of a box. -/
theorem s_storeB {T T' : TypeId} {X Y : Operand} {b off : Nat} {j : Int} {sz : Nat} {cs cs' vs : List Value} {v : Value} {bs' : List BoxE} (hF : Fr n ds l a) (hM : Mm own w0 bs L Fs w) (hg : wantO os l g = some true) (hX : ev l X = some (.pointer (some (adr ⟨b, off, none⟩ j sz)))) (hY : ev l Y = some v) (hv : cellsO v = some vs)
    (hu : Upd bs ⟨b, ⟨cs⟩, T'⟩ ⟨b, ⟨cs'⟩, T'⟩ bs') (hs : setAt cs (off + j.toNat * sz) vs = some cs') (hT : tyS T = some vs.length) (h1 : oneL vs = true) (k : ∀ w', Mm own w0 bs' L Fs w' → wl ⟨os⟩ Q rest a w') : wl ⟨os⟩ Q (⟨none, .store T X Y, ty, pos, af, g⟩ :: rest) a w := by
  have e : adr ⟨b, off, none⟩ j sz = ⟨b, off + j.toNat * sz, none⟩ := by unfold adr; rw [add_lit]
  rw [e] at hX
  exact s_store hF hM hg hX hY hv hu hs hT h1 k
end
theorem setAt_one : ∀ (l : List Value) (k : Nat) (v : Value), k < l.length → setAt l k [v] = some (l.set k v)
  | [], _, _, h => by simp at h
  | x :: l, 0, v, _ => by simp [setAt]
  | x :: l, k + 1, v, h => by
    rw [setAt, setAt_one l k v (by simpa using h), List.set_cons_succ]
    simp
section
variable {n : Nat} {ds : List Deferred} {l : List (Nat × Value)} {a : Act} {w w0 : World} {own : Nat → Prop} {bs : List BoxE} {L : List Ent} {Fs : List (World → Prop)} {os rest : List Oper} {Q : Exit → Act → World → Prop} {ty : TypeId} {pos : String} {af : Array Edge} {g : Option (Nat × Bool)}
/-- A store into an array of numbers that a box holds. -/
theorem s_storeX {α : Type} {enc : α → Value} {T T' : TypeId} {X Y : Operand} {b k : Nat} {zs : List α} {x : α} {bs' : List BoxE} (hF : Fr n ds l a) (hM : Mm own w0 bs L Fs w) (hg : wantO os l g = some true) (hX : ev l X = some (.pointer (some (adr ⟨b, 0, none⟩ (k : Int) 1)))) (hY : ev l Y = some (enc x)) (hc : cellsO (enc x) = some [enc x]) (h1 : oneL [enc x] = true) (hT : tyS T = some 1)
    (hu : Upd bs ⟨b, ⟨zs.map enc⟩, T'⟩ ⟨b, ⟨(zs.set k x).map enc⟩, T'⟩ bs') (hk : k < zs.length) (kk : ∀ w', Mm own w0 bs' L Fs w' → wl ⟨os⟩ Q rest a w') : wl ⟨os⟩ Q (⟨none, .store T X Y, ty, pos, af, g⟩ :: rest) a w := by
  refine s_storeB hF hM hg hX hY hc hu ?_ (by rw [hT]; rfl) h1 kk
  rw [Int.toNat_natCast, Nat.zero_add, Nat.mul_one, setAt_one _ _ _ (by rw [List.length_map]; exact hk), List.map_set]
end
namespace D29
/-- The first k of eight, the rest zero. -/
def z8 (ys : List Int) (k : Nat) : List Int := ys.take k ++ List.replicate (8 - k) 0
theorem z8_len {ys : List Int} {k : Nat} (h8 : 8 ≤ ys.length) (hk : k ≤ 8) : (z8 ys k).length = 8 := by
  unfold z8
  rw [List.length_append, List.length_take, List.length_replicate]
  omega
theorem z8_set {ys : List Int} {k : Nat} {x : Int} (h8 : 8 ≤ ys.length) (hk : k < 8) (hx : ys[k]? = some x) : (z8 ys k).set k x = z8 ys (k + 1) := by
  unfold z8
  have h : (ys.take k).length = k := by rw [List.length_take]; omega
  rw [take_snoc hx, List.append_assoc, show 8 - k = (8 - (k + 1)) + 1 by omega, List.replicate_succ]
  rw [List.set_append_right _ _ (by omega), h, Nat.sub_self]
  rfl
end D29
section
variable (xs : List Int) (hxb : ∀ x ∈ xs, 0 ≤ x ∧ x < 256) (hlen : xs.length ≤ 1000000) (a0 : Option Addr) (c0 : Nat) (hc0 : xs.length ≤ c0) (own : Nat → Prop) (W : World) (hl : ∀ b, own b → b < W.heap.size) (hv : Has own W (RdF (Value.int .u8) a0 xs))
include hxb hlen hc0 hl hv
set_option maxRecDepth 20000 in
set_option maxHeartbeats 4000000 in
theorem SectorsR_c : Calls Try.prog 82 ⟨[.slice a0 xs.length c0]⟩ W (Ret W (secP own (rdSecs xs))) := by
  have hM := (Mm.start hl).known hv
  have hrs : rdSecs xs = match rdLn xs with
    | .error e => .error e
    | .ok (n, ys) => rdSec n.toNat ys := by
    unfold rdSecs rdLn rdI
    split
    · rfl
    · dsimp only
      split <;> rfl
  rw [hrs]
  refine f_start Try.func82 rfl Try.ntmps82 rfl rfl ?_; intro a hF
  cases hln : rdLn xs with
  | error e =>
    (repeat (first | (with_reducible refine w_seq ?_) | (with_reducible refine c_region ?_) | (with_reducible refine s_nil ?_) | ((with_reducible apply s_call (f := 100) hF hM); exact rfl; exact rfl; exact rfl; exact rfl; exact rfl; exact (lenR_err xs hxb hlen a0 c0 hc0 _ _ hM.lt (hM.facts _ (by (repeat (first | exact List.mem_cons_self | refine List.mem_cons_of_mem _ ?_)))) hln); clear hF hM a; rintro v w a ⟨rfl, he⟩ - hM hF) | (with_reducible refine q_then_n ?_) | ((with_reducible apply s_pure hF); exact rfl; exact rfl; exact rfl; (first | exact trivial | omega | exact ⟨Int.natCast_nonneg _, Int.ofNat_lt.2 (by assumption)⟩ | decide); clear hF a; intro a hF)))
    (repeat' (first | (with_reducible refine w_seq ?_) | (with_reducible refine c_region ?_) | (with_reducible refine s_nil ?_) | (with_reducible refine q_then_n ?_) | ((with_reducible apply s_pure hF); exact rfl; exact rfl; exact rfl; (first | exact trivial | omega | exact ⟨Int.natCast_nonneg _, Int.ofNat_lt.2 (by assumption)⟩ | decide); clear hF a; intro a hF) | (with_reducible refine w_ret ?_) | (with_reducible refine q_then_r ?_) | ((with_reducible apply c_dec hF); exact rfl; all_goals intro hc; all_goals (try (exfalso; omega)))))
    (apply f_ret Try.results82 hF hM; (repeat (first | exact RL.nil | (apply RL.tmp; exact rfl) | (apply RL.cell; exact rfl; (repeat (first | exact List.mem_cons_self | refine List.mem_cons_of_mem _ ?_)); exact rfl))); refine Ret.mk hM.since ?_; dsimp only [resV])
    exact ⟨rfl, he⟩
  | ok pr =>
  obtain ⟨n, zs⟩ := pr
  dsimp only
  have hpr : (∀ y ∈ zs, 0 ≤ y ∧ y < 256) ∧ zs.length ≤ xs.length ∧ 0 ≤ n ∧ n ≤ 65536 := by
    have h := hln
    unfold rdLn at h
    split at h
    · cases h
    rename_i n' ys' hi
    split at h
    · cases h
    injection h with h
    injection h with h1 h2
    subst h1 h2
    have := rdI_ok hxb hi
    exact ⟨this.1, this.2.1, this.2.2.1, by omega⟩
  obtain ⟨hzb, hzl, hn0, hn1⟩ := hpr
  obtain ⟨k, hk⟩ : ∃ k : Nat, n = k := ⟨n.toNat, by omega⟩
  subst hk
  rw [Int.toNat_natCast]
  (repeat' (first | (with_reducible refine w_seq ?_) | (with_reducible refine c_region ?_) | (with_reducible refine s_nil ?_) | ((with_reducible apply s_call (f := 100) hF hM); exact rfl; exact rfl; exact rfl; exact rfl; exact rfl; exact (lenR_ok xs hxb hlen a0 c0 hc0 _ _ hM.lt (hM.facts _ (by (repeat (first | exact List.mem_cons_self | refine List.mem_cons_of_mem _ ?_)))) hln); clear hF hM a; rintro v w a ⟨a1, c1, rfl, h1, hcq⟩ - hM hF; replace hM := hM.addFact h1) | (with_reducible refine q_then_n ?_) | ((with_reducible apply s_pure hF); exact rfl; exact rfl; exact rfl; (first | exact trivial | omega | exact ⟨Int.natCast_nonneg _, Int.ofNat_lt.2 (by assumption)⟩ | decide); clear hF a; intro a hF) | (with_reducible refine w_skip ?_) | (with_reducible refine w_block ?_) | ((with_reducible apply c_false2 hF); exact rfl; (first | with_reducible rfl | (refine congrArg Value.bool ?_; focus (simp; done))))))
  replace hM := hM.nilRow 44 8
  refine c_loop (m := k) (fun m a w' => ∃ (i : Nat) (ys : List Int) (done : Dat) (a2 : Option Addr) (c2 : Nat) (rv : Value), m + i = k ∧ rdSec k zs = secPre done (rdSec m ys) ∧ done.length = i ∧ W8 done ∧ By8 done ∧ ys.length ≤ c2 ∧ ys.length + i * 8 ≤ xs.length ∧ (∀ y ∈ ys, 0 ≤ y ∧ y < 256) ∧
    Fr 46 [] [(8, .int .i64 i), (5, .int .i64 k), (7, rv), (0, .slice a2 ys.length c2)] a ∧
    Mm own W [] [⟨44, 8, rv, i, done.flatten.map (Value.int .u8)⟩] [RdF (Value.int .u8) a2 ys] w')
    ⟨0, zs, [], a1, c1, _, by omega, (secPre_nil _).symm, rfl, fun s hs => (List.not_mem_nil hs).elim, fun s hs => (List.not_mem_nil hs).elim, hcq, by omega, hzb, hF.sub (by repeat (first | exact Sub.nil | refine Sub.cons rfl (by first | with_reducible rfl | (refine congrArg (Value.int _) ?_; omega) | exact rfl) ?_)), hM.sub (.refl _) (.refl _) (by intro f hf; simp only [List.mem_cons, List.not_mem_nil, or_false] at hf; (repeat (rcases hf with rfl | hf; · (repeat (first | exact List.mem_cons_self | refine List.mem_cons_of_mem _ ?_)))); first | (subst hf; (repeat (first | exact List.mem_cons_self | refine List.mem_cons_of_mem _ ?_)); done) | (repeat (first | exact hf | refine List.mem_cons_of_mem _ ?_)))⟩ ?_
  clear hF hM a
  rintro m a w' ⟨i, ys, done, a2, c2, rv, hm, hrd, hdl, hd8, hdb, hyc, hyl, hyb, hF, hM⟩
  obtain ⟨a', c', rfl, hcap, _⟩ := OffR.shape hM (k := 0) rfl (OffR.plain hM List.mem_cons_self)
  by_cases hi : i < k
  · obtain ⟨m, rfl⟩ : ∃ q, m = q + 1 := ⟨m - 1, by omega⟩
    by_cases h8 : ys.length < 8
    · rw [show rdSec (m + 1) ys = .error 10 by rw [rdSec, if_pos h8]] at hrd
      rw [hrd]
      (repeat' (first | (with_reducible refine w_seq ?_) | (with_reducible refine c_region ?_) | (with_reducible refine s_nil ?_) | (with_reducible refine q_then_n ?_) | ((with_reducible apply s_pure hF); exact rfl; exact rfl; exact rfl; (first | exact trivial | omega | exact ⟨Int.natCast_nonneg _, Int.ofNat_lt.2 (by assumption)⟩ | decide); clear hF a; intro a hF) | (with_reducible refine w_skip ?_) | (with_reducible refine w_block ?_) | (with_reducible refine w_ret ?_) | (with_reducible refine q_then_r ?_) | (with_reducible refine q_blk_r ?_) | ((with_reducible apply c_dec hF); exact rfl; all_goals intro hc; all_goals (try (exfalso; omega)))))
      (apply f_ret Try.results82 hF hM; (repeat (first | exact RL.nil | (apply RL.tmp; exact rfl) | (apply RL.cell; exact rfl; (repeat (first | exact List.mem_cons_self | refine List.mem_cons_of_mem _ ?_)); exact rfl))); refine Ret.mk hM.since ?_; dsimp only [resV])
      exact ⟨rfl, by decide⟩
    · rw [secPre_step h8] at hrd
      have h8' : 8 ≤ ys.length := by omega
      obtain ⟨y0, hy0⟩ := get_of_lt (l := ys) (i := 0) (by omega)
      obtain ⟨ad, rfl⟩ : ∃ ad, a2 = some ad := rd_some hM (by (repeat (first | exact List.mem_cons_self | refine List.mem_cons_of_mem _ ?_))) hy0
      (repeat' (first | (with_reducible refine w_seq ?_) | (with_reducible refine c_region ?_) | (with_reducible refine s_nil ?_) | (with_reducible refine q_then_n ?_) | ((with_reducible apply s_pure hF); exact rfl; exact rfl; exact rfl; (first | exact trivial | omega | exact ⟨Int.natCast_nonneg _, Int.ofNat_lt.2 (by assumption)⟩ | decide); clear hF a; intro a hF) | ((with_reducible apply s_alloc hF hM); exact rfl; exact rfl; exact rfl; clear hF hM a; intro b w a hM hF) | (with_reducible refine w_skip ?_) | (with_reducible refine w_block ?_) | ((with_reducible apply c_dec hF); exact rfl; all_goals intro hc; all_goals (try (exfalso; omega)))))
      refine c_loop (m := 8) (fun mj a w' => ∃ j : Nat, mj + j = 8 ∧
        Fr 46 [] [(10, .int .i64 j), (9, .pointer (some ⟨b, 0, none⟩)), (8, .int .i64 i), (5, .int .i64 k), (7, .slice a' i c'), (0, .slice (some ad) ys.length c2)] a ∧
        Mm own W [⟨b, ⟨(z8 ys j).map (Value.int .u8)⟩, 44⟩] [⟨44, 8, .slice a' i c', i, done.flatten.map (Value.int .u8)⟩] [RdF (Value.int .u8) (some ad) ys] w') ⟨0, by omega, hF.sub (by repeat (first | exact Sub.nil | refine Sub.cons rfl (by first | with_reducible rfl | (refine congrArg (Value.int _) ?_; omega) | exact rfl) ?_)), hM⟩ ?_
      clear hF hM a
      rintro mj a w' ⟨j, hmj, hF, hM⟩
      by_cases hj : j < 8
      · obtain ⟨x, hx⟩ := get_of_lt (l := ys) (i := j) (by omega)
        have hzl := z8_len (k := j) h8' (by omega)
        have hzs := z8_set h8' hj hx
        (repeat' (first | (with_reducible refine w_seq ?_) | (with_reducible refine c_region ?_) | (with_reducible refine s_nil ?_) | (with_reducible refine q_then_n ?_) | ((with_reducible apply s_pure hF); exact rfl; exact rfl; exact rfl; (first | exact trivial | omega | exact ⟨Int.natCast_nonneg _, Int.ofNat_lt.2 (by assumption)⟩ | decide); clear hF a; intro a hF) | ((with_reducible apply s_loadF hF hM); exact rfl; exact rfl; (repeat (first | exact List.mem_cons_self | refine List.mem_cons_of_mem _ ?_)); exact rfl; exact rfl; (first | with_reducible assumption | (simp only [Int.toNat_natCast]; with_reducible assumption)); clear hF a; intro a hF) | (with_reducible refine w_skip ?_) | (with_reducible refine w_block ?_) | ((with_reducible apply c_dec hF); exact rfl; all_goals intro hc; all_goals (try (exfalso; omega)))))
        apply s_storeX hF hM (x := x) (k := j)
        · exact rfl
        · exact rfl
        · exact rfl
        · exact rfl
        · exact rfl
        · exact rfl
        · exact Upd.z
        · omega
        clear hM
        intro w hM
        rw [hzs] at hM
        (repeat' (first | (with_reducible refine c_region ?_) | (with_reducible refine s_nil ?_) | (with_reducible refine q_then_n ?_) | ((with_reducible apply s_pure hF); exact rfl; exact rfl; exact rfl; (first | exact trivial | omega | exact ⟨Int.natCast_nonneg _, Int.ofNat_lt.2 (by assumption)⟩ | decide); clear hF a; intro a hF) | (with_reducible refine q_blk_n ?_)))
        exact ⟨mj - 1, by omega, j + 1, by omega, hF.sub (by repeat (first | exact Sub.nil | refine Sub.cons rfl (by first | with_reducible rfl | (refine congrArg (Value.int _) ?_; omega) | exact rfl) ?_)), hM⟩
      · obtain rfl : j = 8 := by omega
        have h88 : (ys.take 8).length = 8 := by rw [List.length_take]; omega
        obtain ⟨x0, x1, x2, x3, x4, x5, x6, x7, ht⟩ := len8 h88
        have hsb : ∀ s ∈ ys.take 8, 0 ≤ s ∧ s < 256 := fun y hy => hyb y (List.mem_of_mem_take hy)
        rw [show z8 ys 8 = [x0, x1, x2, x3, x4, x5, x6, x7] by unfold z8; rw [ht]; rfl] at hM
        rw [ht] at hrd hsb
        have hyb2 : ∀ y ∈ ys.drop 8, 0 ≤ y ∧ y < 256 := fun y hy => hyb y (List.mem_of_mem_drop hy)
        have hdr : (ys.drop 8).length = ys.length - 8 := List.length_drop
        dsimp only [List.map] at hM
        (repeat' (first | (with_reducible refine w_seq ?_) | (with_reducible refine c_region ?_) | (with_reducible refine s_nil ?_) | ((with_reducible apply s_callO (f := 99) hF); exact rfl; exact rfl; exact rfl; exact rfl; exact rfl; exact (restR_c ys (by omega) ad c2 hyc 8 (by omega) 8 rfl _ rfl _ _ hM.lt (hM.facts (RdF (Value.int .u8) (some ad) ys) (by (repeat (first | with_reducible exact List.mem_cons_self | refine List.mem_cons_of_mem _ ?_))))); clear hF a; rintro v wn a ⟨a3, c3, rfl, hO⟩ hS hF; replace hM := hM.addRows hS hO; clear hS hO; dsimp only [List.cons_append, List.nil_append] at hM) | (with_reducible refine q_then_n ?_) | ((with_reducible apply s_pure hF); exact rfl; exact rfl; exact rfl; (first | exact trivial | omega | exact ⟨Int.natCast_nonneg _, Int.ofNat_lt.2 (by assumption)⟩ | decide); clear hF a; intro a hF) | ((with_reducible apply s_load hF hM); exact rfl; exact rfl; (repeat (first | exact List.mem_cons_self | refine List.mem_cons_of_mem _ ?_)); exact rfl; exact rfl; clear hF a; intro a hF) | ((with_reducible apply s_lit hF hM); exact rfl; exact rfl; exact rfl; exact rfl; clear hF hM a; intro bl w a hM hF) | ((with_reducible apply s_app hF hM); exact rfl; exact rfl; exact rfl; exact rfl; (repeat (first | exact Kth.z | apply Kth.s)); exact rfl; exact rfl; exact rfl; exact rfl; omega; clear hF hM a; intro g cap w a hM hF; dsimp only [List.set] at hM) | (with_reducible refine w_exit ?_) | (with_reducible refine q_then_x ?_) | (with_reducible refine q_blk_n ?_) | (with_reducible refine q_blk_x ?_) | ((with_reducible apply c_false2 hF); exact rfl; (first | with_reducible rfl | (refine congrArg Value.bool ?_; focus (simp; done))))))
        obtain ⟨xa, ya, ea, ga, -⟩ := OffR.shape hM (k := 0) rfl (OffR.plain hM List.mem_cons_self)
        injection ea with _ _ ea
        replace hM := hM.freezeN
        have e1 : (done ++ [[x0, x1, x2, x3, x4, x5, x6, x7]]).flatten.map (Value.int .u8) = done.flatten.map (Value.int .u8) ++ [.int .u8 x0, .int .u8 x1, .int .u8 x2, .int .u8 x3, .int .u8 x4, .int .u8 x5, .int .u8 x6, .int .u8 x7] := by simp
        refine ⟨m, by omega, i + 1, ys.drop 8, done ++ [[x0, x1, x2, x3, x4, x5, x6, x7]], a3, c3, .slice (some ⟨g, 0, none⟩) (i + 1) cap, by omega, hrd, by simp [hdl], ?_, ?_, by omega, by omega, hyb2, hF.sub (by repeat (first | exact Sub.nil | refine Sub.cons rfl (by first | with_reducible rfl | (refine congrArg (Value.int _) ?_; omega) | exact rfl) ?_)), ?_⟩
        · intro s hs
          rcases List.mem_append.1 hs with hs | hs
          · exact hd8 s hs
          · rw [List.mem_singleton.1 hs]; rfl
        · intro s hs
          rcases List.mem_append.1 hs with hs | hs
          · exact hdb s hs
          · rw [List.mem_singleton.1 hs]; exact hsb
        rw [e1]
        exact hM.sub (.cons _ .slnil) (.refl _) (by intro f hf; simp only [List.mem_cons, List.not_mem_nil, or_false] at hf; (repeat (rcases hf with rfl | hf; · (repeat (first | exact List.mem_cons_self | refine List.mem_cons_of_mem _ ?_)))); first | (subst hf; (repeat (first | exact List.mem_cons_self | refine List.mem_cons_of_mem _ ?_)); done) | (repeat (first | exact hf | refine List.mem_cons_of_mem _ ?_)))
  · obtain rfl : i = k := by omega
    obtain rfl : m = 0 := by omega
    rw [hrd]
    (repeat' (first | (with_reducible refine w_seq ?_) | (with_reducible refine c_region ?_) | (with_reducible refine s_nil ?_) | (with_reducible refine q_then_n ?_) | ((with_reducible apply s_pure hF); exact rfl; exact rfl; exact rfl; (first | exact trivial | omega | exact ⟨Int.natCast_nonneg _, Int.ofNat_lt.2 (by assumption)⟩ | decide); clear hF a; intro a hF) | (with_reducible refine w_exit ?_) | (with_reducible refine w_ret ?_) | (with_reducible refine q_then_x ?_) | (with_reducible refine q_blk_x ?_) | ((with_reducible apply c_false2 hF); exact rfl; (first | with_reducible rfl | (refine congrArg Value.bool ?_; focus (simp; done))))))
    (apply f_ret Try.results82 hF hM; (repeat (first | exact RL.nil | (apply RL.tmp; exact rfl) | (apply RL.cell; exact rfl; (repeat (first | exact List.mem_cons_self | refine List.mem_cons_of_mem _ ?_)); exact rfl))); refine Ret.mk hM.since ?_; dsimp only [resV])
    subst hdl
    show secP own (.ok (done ++ [], ys)) _ _
    rw [List.append_nil]
    exact ⟨a', c', a2, c2, rfl, hM.rowFactN List.mem_cons_self, hM.factOut (f := RdF (Value.int .u8) a2 ys) (by (repeat (first | with_reducible exact List.mem_cons_self | refine List.mem_cons_of_mem _ ?_))), hcap, hyc, hd8, hdb, hyb, by omega⟩
end
end Go.Proofs.Ytonelgecjmpbgaa


/- Words of bytes: shifts and unions. -/
namespace Go.Proofs.Ytonelgecjmpbgaa
open Go.RowKit Go.Shelf
section
variable {n : Nat} {ds : List Deferred} {l : List (Nat × Value)} {a : Act} {w w0 : World} {own : Nat → Prop} {bs : List BoxE} {L : List Ent} {Fs : List (World → Prop)}
variable {os rest : List Oper} {Q : Exit → Act → World → Prop}
variable {d : Nat} {ty : TypeId} {pos : String} {af : Array Edge} {g : Option (Nat × Bool)}
theorem wraps_u64 (n : Int) (h₀ : 0 ≤ n) (h₁ : n < 2 ^ 64) : IntKind.u64.wrap n = n := by rw [IntKind.wrap_u64]; omega
/-- A word shifted up by a number of places, if it fits. -/
theorem e_shlW {t t' : TypeId} {X Y : Operand} {yk : IntKind} {x y z : Int} (hF : Fr n ds l a) (hX : ev l X = some (.int .u64 x)) (hY : ev l Y = some (.int yk y)) (h : 0 ≤ y ∧ y ≤ 62 ∧ x * 2 ^ y.toNat = z ∧ 0 ≤ z ∧ z < 18446744073709551616) (w : World) {dst : Option Tmp} :
    (execOp a.eval ⟨dst, .binOp .shl t X Y t', ty, pos, af, g⟩).run Try.prog w = .ok (.value (.int .u64 z)) w := by
  obtain ⟨h1, h2, rfl, h3, h4⟩ := h
  simp only [execOp, hF.eval hX, hF.eval hY, Sem.run_bind, eqGuard_int, Result.andThen]
  have hb : min y.toNat IntKind.u64.bits = y.toNat := by simp [IntKind.bits]; omega
  have hw : IntKind.u64.wrap (x * 2 ^ y.toNat) = x * 2 ^ y.toNat := wraps_u64 _ h3 (by omega)
  simp [binOp, Op.shift, hb, hw, Result.andThen, show ¬ y < 0 by omega]
/-- A word shifted down. -/
theorem e_shrW {t t' : TypeId} {X Y : Operand} {yk : IntKind} {x y : Int} (hF : Fr n ds l a) (hX : ev l X = some (.int .u64 x)) (hY : ev l Y = some (.int yk y)) (h : 0 ≤ y ∧ y ≤ 62) (w : World) {dst : Option Tmp} :
    (execOp a.eval ⟨dst, .binOp .shr t X Y t', ty, pos, af, g⟩).run Try.prog w = .ok (.value (.int .u64 (x / 2 ^ y.toNat))) w := by
  simp only [execOp, hF.eval hX, hF.eval hY, Sem.run_bind, eqGuard_int, Result.andThen]
  have hb : min y.toNat IntKind.u64.bits = y.toNat := by simp [IntKind.bits]; omega
  simp [binOp, Op.shift, hb, Result.andThen, show ¬ y < 0 by omega, Int.fdiv_eq_ediv, Int.le_of_lt (show (0 : Int) < 2 ^ y.toNat from Int.pow_pos (by decide))]
theorem or_joinW {x y : Int} {i : Nat} (hi : i ≤ 64) (x0 : 0 ≤ x) (x1 : x < 2 ^ i) (y0 : 0 ≤ y) (y1 : y < 2 ^ 64) (y2 : y % 2 ^ i = 0) : bits .or .u64 x y = x + y := by
  have hp : (2 : Int) ^ i ≤ 2 ^ 64 := by
    have : (2 : Nat) ^ i ≤ 2 ^ 64 := Nat.pow_le_pow_right (by decide) (by omega)
    exact_mod_cast this
  have h1 := bits_join .u64 64 (by decide) wraps_u64 i y x y0 y2 y1 x0 x1 (by omega)
  have h2 : bits .or .u64 x y = bits .or .u64 y x := by simp [bits, BitVec.or_comm]
  rw [h2, h1]
  omega
theorem s_shrW {t t' : TypeId} {X Y : Operand} {yk : IntKind} {x y : Int} (hF : Fr n ds l a) (hg : wantO os l g = some true) (hX : ev l X = some (.int .u64 x)) (hY : ev l Y = some (.int yk y)) (hd : Nat.blt d n = true) (h : 0 ≤ y ∧ y ≤ 62)
    (kk : ∀ a, Fr n ds ((d, .int .u64 (x / 2 ^ y.toNat)) :: l) a → wl ⟨os⟩ Q rest a w) : wl ⟨os⟩ Q (⟨some d, .binOp .shr t X Y t', ty, pos, af, g⟩ :: rest) a w :=
  s_op hF hg fun _ hK => upon_value (e_shrW hF hX hY h w) (hK _ _ (kk _ (hF.put hd _)))
theorem s_shlW {t t' : TypeId} {X Y : Operand} {yk : IntKind} {x y z : Int} (hF : Fr n ds l a) (hg : wantO os l g = some true) (hX : ev l X = some (.int .u64 x)) (hY : ev l Y = some (.int yk y)) (hd : Nat.blt d n = true) (h : 0 ≤ y ∧ y ≤ 62 ∧ x * 2 ^ y.toNat = z ∧ 0 ≤ z ∧ z < 18446744073709551616)
    (kk : ∀ a, Fr n ds ((d, .int .u64 z) :: l) a → wl ⟨os⟩ Q rest a w) : wl ⟨os⟩ Q (⟨some d, .binOp .shl t X Y t', ty, pos, af, g⟩ :: rest) a w :=
  s_op hF hg fun _ hK => upon_value (e_shlW hF hX hY h w) (hK _ _ (kk _ (hF.put hd _)))
end
end Go.Proofs.Ytonelgecjmpbgaa


/- dedup: tokens are put. -/
namespace Go.Proofs.Ytonelgecjmpbgaa
open Go.RowKit Go.Shelf D29
namespace D29
theorem le_get : ∀ {n k : Nat} {d : Int}, k < n → (le n d)[k]? = some (d / 256 ^ k % 256)
  | n + 1, 0, d, _ => by simp [le]
  | n + 1, k + 1, d, h => by
    rw [le, List.getElem?_cons_succ, le_get (by omega), Int.ediv_ediv_of_nonneg (by decide), Int.pow_succ, Int.mul_comm]
theorem pow8 (k : Nat) : (2 : Int) ^ (8 * (k : Int)).toNat = 256 ^ k := by
  rw [show (8 * (k : Int)).toNat = 8 * k by omega, Int.pow_mul]
  rfl
theorem putTok_len {t : Tok} (h8 : W8 t.x) (hx : t.x.length ≤ 4096) : (putTok t).length ≤ 32777 := by
  have hp0 : (puts t.x.length).length ≤ 8 := puts_len 7 t.x.length (by omega)
  have hfl := flat_len h8
  unfold putTok
  split
  · rw [List.length_cons, le_len]; omega
  · rw [List.length_cons, List.length_append]; omega
theorem u8s_snoc (xs : List Int) (x : Int) : xs.map (Value.int .u8) ++ Value.int .u8 x :: ([] : List Value).append (zerosL [Value.int .u8 0] 0) = (xs ++ [x]).map (Value.int .u8) := by
  rw [List.map_append]
  rfl
end D29
set_option maxRecDepth 20000 in
set_option maxHeartbeats 4000000 in
theorem PutTokens_c (ts : List TP) (hts : DatW (tP ts)) (hx4 : ∀ t ∈ ts, t.1.x.length ≤ 4096) (hn4 : ts.length ≤ 10000) (ys : List Int) (hy : ys.length ≤ 1000000) (a0 al : Option Addr) (m c0 n cl : Nat) (hm : ys.length = m) (hn : ts.length = n) (own : Nat → Prop) (W : World) (hl : ∀ b, own b → b < W.heap.size) (hv : Has own W (RdF (Value.int .u8) a0 ys)) (h1 : Has own W (RdF id al (cellsT ts))) (h2 : Has own W (DatF (tP ts))) :
    Calls Try.prog 51 ⟨[.slice a0 m c0, .slice al n cl]⟩ W (Ret W fun v w' => ∃ a' c', v = .slice a' (m + (putToks (tms ts)).length) c' ∧ Owns w' W.heap.size [⟨5, 1, .slice a' (m + (putToks (tms ts)).length) c', m + (putToks (tms ts)).length, (ys ++ putToks (tms ts)).map (Value.int .u8)⟩]) := by
  subst hn
  have hM := (((Mm.start hl).known h2).known h1).known hv
  have hp0 : (puts ts.length).length ≤ 8 := puts_len 7 ts.length (by omega)
  refine f_start Try.func51 rfl Try.ntmps51 rfl rfl ?_; intro a hF
  (repeat (first | (with_reducible refine w_seq ?_) | (with_reducible refine c_region ?_) | (with_reducible refine s_nil ?_) | ((with_reducible apply s_callO (f := 83) hF); exact rfl; exact rfl; exact rfl; exact rfl; exact rfl; exact (PutInt_z ts.length _ rfl (by omega) a0 c0 ys m hm _ _ hM.lt (hM.facts (RdF (Value.int .u8) a0 ys) (by (repeat (first | with_reducible exact List.mem_cons_self | refine List.mem_cons_of_mem _ ?_)))) (by omega)); clear hF a; rintro v wn a ⟨a2, c2, rfl, hO⟩ hS hF; replace hM := hM.addRows hS hO; clear hS hO; dsimp only [List.cons_append, List.nil_append] at hM) | (with_reducible refine q_then_n ?_) | ((with_reducible apply s_pure hF); exact rfl; exact rfl; exact rfl; (first | exact trivial | omega | exact ⟨Int.natCast_nonneg _, Int.ofNat_lt.2 (by assumption)⟩ | decide); clear hF a; intro a hF) | (with_reducible refine w_block ?_)))
  obtain ⟨B, hB⟩ : ∃ B, B = ys ++ puts ts.length := ⟨_, rfl⟩
  obtain ⟨p, hp⟩ : ∃ p, m + (puts ts.length).length = p := ⟨_, rfl⟩
  have hBl : B.length = p := by rw [hB, List.length_append]; omega
  rw [← hB, hp] at hM
  rw [hp] at hF
  refine c_loop (m := ts.length) (fun z a w' => ∃ (k : Nat) (T : List Int) (q : Nat) (ov : Value), z + k = ts.length ∧ T = ((tms (ts.take k)).map putTok).flatten ∧ T.length = q ∧ q ≤ k * 32777 ∧
    Fr 46 [] [(15, .int .i64 k), (14, .int .i64 ts.length), (13, .slice al ts.length cl), (5, ov)] a ∧
    Mm own W [] [⟨5, 1, ov, p + q, (B ++ T).map (Value.int .u8)⟩] [RdF id al (ts.map tkC).flatten, DatF (tP ts)] w')
    ⟨0, [], 0, _, by omega, rfl, rfl, by omega, hF.sub (by repeat (first | exact Sub.nil | refine Sub.cons rfl (by first | with_reducible rfl | (refine congrArg (Value.int _) ?_; omega) | exact rfl) ?_)), (hM.sub (.refl _) (.refl _) (by intro f hf; simp only [List.mem_cons, List.not_mem_nil, or_false] at hf; (repeat (rcases hf with rfl | hf; · (repeat (first | exact List.mem_cons_self | refine List.mem_cons_of_mem _ ?_)))); first | (subst hf; (repeat (first | exact List.mem_cons_self | refine List.mem_cons_of_mem _ ?_)); done) | (repeat (first | exact hf | refine List.mem_cons_of_mem _ ?_)))).rowsEq (by simp)⟩ ?_
  clear hF hM a
  rintro z a w' ⟨k, T, q, ov, hz, hT, hTl, hq, hF, hM⟩
  by_cases hk : k < ts.length
  · obtain ⟨t, ht⟩ := get_of_lt hk
    have htm := List.mem_of_getElem? ht
    obtain ⟨ht8, htc, htb⟩ := hts ((⟨t.1.d, t.1.x⟩ : Itm), t.2) (List.mem_map.2 ⟨t, htm, rfl⟩)
    have hxl := hx4 t htm
    have htr := dat_one (hM.facts (DatF (tP ts)) (by (repeat (first | with_reducible exact List.mem_cons_self | refine List.mem_cons_of_mem _ ?_)))) (p := ((⟨t.1.d, t.1.x⟩ : Itm), t.2)) (List.mem_map.2 ⟨t, htm, rfl⟩)
    have htk : ((tms (ts.take (k + 1))).map putTok).flatten = T ++ putTok t.1 := by
      rw [take_snoc ht, hT]
      simp [tms]
    have hpl := putTok_len ht8 hxl
    have hpe : (ts.map tkC)[k]? = some (tkC t) := by rw [List.getElem?_map, ht]; rfl
    obtain ⟨⟨r, d, x⟩, ax, cx⟩ := t
    dsimp only at ht8 htc htb hxl htr
    obtain ⟨xl, hxq⟩ : ∃ q, x.length = q := ⟨_, rfl⟩
    replace hpe : (ts.map tkC)[k]? = some [.bool r, .int .u64 d, .slice ax xl cx] := by rw [hpe, ← hxq]
    have hw3 := tkC_len ts
    obtain ⟨ad, rfl⟩ : ∃ ad, al = some ad := rd_some hM (enc := id) (a := al) (xs := (ts.map tkC).flatten) (by (repeat (first | exact List.mem_cons_self | refine List.mem_cons_of_mem _ ?_))) (flat_get (q := 0) hw3 hpe rfl)
    replace hM := hM.addFact htr
    obtain ⟨C, hC⟩ : ∃ C, C = B ++ T := ⟨_, rfl⟩
    rw [← hC] at hM
    have hCl : C.length = p + q := by rw [hC, List.length_append]; omega
    have hfin : ∀ (P : List Int), P = putTok ⟨r, d, x⟩ → C ++ P = B ++ (T ++ putTok ⟨r, d, x⟩) := fun P h => by rw [hC, h, List.append_assoc]
    cases r with
    | false =>
      (repeat' (first | (with_reducible refine w_seq ?_) | (with_reducible refine c_region ?_) | (with_reducible refine s_nil ?_) | ((with_reducible apply s_loadE hF hM); exact rfl; exact rfl; (repeat (first | exact List.mem_cons_self | refine List.mem_cons_of_mem _ ?_)); exact rfl; exact rfl; (first | with_reducible assumption | (simp only [Int.toNat_natCast]; with_reducible assumption)); (with_reducible assumption); clear hF a; intro a hF) | (with_reducible refine q_then_n ?_) | ((with_reducible apply s_pure hF); exact rfl; exact rfl; exact rfl; (first | exact trivial | omega | exact ⟨Int.natCast_nonneg _, Int.ofNat_lt.2 (by assumption)⟩ | decide); clear hF a; intro a hF) | ((with_reducible apply s_load hF hM); exact rfl; exact rfl; (repeat (first | exact List.mem_cons_self | refine List.mem_cons_of_mem _ ?_)); exact rfl; exact rfl; clear hF a; intro a hF) | ((with_reducible apply s_store hF hM); exact rfl; exact rfl; exact rfl; exact rfl; (repeat (first | exact Upd.z | apply Upd.s)); exact rfl; exact rfl; exact rfl; clear hM; intro w hM) | ((with_reducible apply s_alloc hF hM); exact rfl; exact rfl; exact rfl; clear hF hM a; intro b w a hM hF) | (with_reducible refine w_skip ?_) | (with_reducible refine w_block ?_) | ((with_reducible apply c_true2 hF); exact rfl; (first | with_reducible rfl | (refine congrArg Value.bool ?_; focus (simp; done)))) | ((with_reducible apply c_dec hF); exact rfl; all_goals intro hc; all_goals (try (exfalso; omega)))))
      refine c_draw (fun i => Nat.ble 7 i) hM ?_; clear hM; intro w hM
      (first | (refine t_pure (i := 0) hF rfl rfl rfl rfl (by kernel_rfl) hM.sm (fun _ _ _ h => h) ?_ ?_; (first | exact trivial | omega | decide); clear hF a; intro a hF))
      (first | (refine t_pure (i := 3) hF rfl rfl rfl rfl (by kernel_rfl) hM.sm (fun _ _ _ h => h) ?_ ?_; (first | exact trivial | omega | decide); clear hF a; intro a hF))
      (first | (apply t_load (i := 4) hF rfl rfl rfl; (repeat (first | exact List.mem_cons_self | refine List.mem_cons_of_mem _ ?_)); exact rfl; exact rfl; kernel_rfl; exact hM.sm; exact (fun _ _ _ h => h); clear hF a; intro a hF))
      refine t_one (i := 1) hF rfl (by kernel_rfl) rfl ?_
      intro K hK
      (refine x_lit hF hM rfl rfl rfl ?_; clear hF hM a; intro bl w a hM hF)
      refine hK _ _ (fun _ => (hM.sm.sub (fun x hx => by repeat (first | exact hx | refine List.mem_cons_of_mem _ ?_)) (fun _ h => by repeat (first | exact h | refine List.mem_cons_of_mem _ ?_)))) ?_; clear hK
      refine t_one (i := 2) hF rfl (by kernel_rfl) rfl ?_
      intro K hK
      (apply x_app hF hM rfl rfl rfl; (repeat (first | exact List.mem_cons_self | refine List.mem_cons_of_mem _ ?_)); (repeat (first | exact Kth.z | apply Kth.s)); exact rfl; exact rfl; exact rfl; exact rfl; omega; clear hF hM a; intro g cap w a hM hF; dsimp only [List.set] at hM)
      rw [u8s_snoc] at hM; replace hM := hM.freezeN
      refine hK _ _ (fun _ => (hM.sm.sub (fun x hx => by repeat (first | exact hx | refine List.mem_cons_of_mem _ ?_)) (fun _ h => by repeat (first | exact h | refine List.mem_cons_of_mem _ ?_)))) ?_; clear hK
      refine t_one (i := 5) hF rfl (by kernel_rfl) rfl ?_
      intro K hK
      (apply x_callO hF; exact rfl; exact rfl; exact rfl; exact rfl; exact (PutSectors_c x ht8 (by omega) (C ++ [0]) (by rw [List.length_append, List.length_singleton]; omega) _ ax _ _ cx xl (by rw [List.length_append, List.length_singleton]; omega) hxq _ _ hM.lt (hM.facts (RdF (Value.int .u8) _ (C ++ [0])) (by (repeat (first | with_reducible exact List.mem_cons_self | refine List.mem_cons_of_mem _ ?_)))) (hM.facts (RdF (Value.int .u8) ax x.flatten) (by (repeat (first | with_reducible exact List.mem_cons_self | refine List.mem_cons_of_mem _ ?_))))); clear hF a; rintro v wn a ⟨a3, c3, rfl, hO⟩ hS hF; replace hM := hM.addRows hS hO; clear hS hO; dsimp only [List.cons_append, List.nil_append] at hM)
      refine hK _ _ (fun _ => (hM.sm.sub (fun x hx => by repeat (first | exact hx | refine List.mem_cons_of_mem _ ?_)) (fun _ h => by repeat (first | exact h | refine List.mem_cons_of_mem _ ?_)))) ?_; clear hK
      (first | (refine t_pure (i := 6) hF rfl rfl rfl rfl (by kernel_rfl) (hM.sm.sub (fun x hx => by repeat (first | exact hx | refine List.mem_cons_of_mem _ ?_)) (fun _ h => by repeat (first | exact h | refine List.mem_cons_of_mem _ ?_))) (fun _ _ _ h => h) ?_ ?_; (first | exact trivial | omega | decide); clear hF a; intro a hF))
      refine t_done (by kernel_rfl) ?_
      (repeat' (first | (with_reducible refine c_region ?_) | (with_reducible refine s_nil ?_) | (with_reducible refine q_then_n ?_) | ((with_reducible apply s_pure hF); exact rfl; exact rfl; exact rfl; (first | exact trivial | omega | exact ⟨Int.natCast_nonneg _, Int.ofNat_lt.2 (by assumption)⟩ | decide); clear hF a; intro a hF) | (with_reducible refine w_exit ?_) | (with_reducible refine q_then_x ?_) | (with_reducible refine q_blk_x ?_)))
      have hpt : putTok ⟨false, d, x⟩ = 0 :: putsS x := by unfold putTok putsS; rfl
      refine ⟨z - 1, by omega, k + 1, T ++ putTok ⟨false, d, x⟩, q + (1 + (putsS x).length), _, by omega, htk.symm, by rw [List.length_append, hpt, List.length_cons]; omega, by rw [hpt, List.length_cons] at hpl; omega, hF.sub (by repeat (first | exact Sub.nil | refine Sub.cons rfl (by first | with_reducible rfl | (refine congrArg (Value.int _) ?_; omega) | exact rfl) ?_)), ?_⟩
      rw [← hfin _ hpt.symm]
      rw [List.append_assoc] at hM
      rw [show p + (q + (1 + (putsS x).length)) = p + q + 1 + (putsS x).length by omega]
      exact hM.sub (List.nil_sublist _) (.refl _) (by intro f hf; simp only [List.mem_cons, List.not_mem_nil, or_false] at hf; (repeat (rcases hf with rfl | hf; · (repeat (first | exact List.mem_cons_self | refine List.mem_cons_of_mem _ ?_)))); first | (subst hf; (repeat (first | exact List.mem_cons_self | refine List.mem_cons_of_mem _ ?_)); done) | (repeat (first | exact hf | refine List.mem_cons_of_mem _ ?_)))
    | true =>
      (repeat' (first | (with_reducible refine w_seq ?_) | (with_reducible refine c_region ?_) | (with_reducible refine s_nil ?_) | ((with_reducible apply s_loadE hF hM); exact rfl; exact rfl; (repeat (first | exact List.mem_cons_self | refine List.mem_cons_of_mem _ ?_)); exact rfl; exact rfl; (first | with_reducible assumption | (simp only [Int.toNat_natCast]; with_reducible assumption)); (with_reducible assumption); clear hF a; intro a hF) | (with_reducible refine q_then_n ?_) | ((with_reducible apply s_pure hF); exact rfl; exact rfl; exact rfl; (first | exact trivial | omega | exact ⟨Int.natCast_nonneg _, Int.ofNat_lt.2 (by assumption)⟩ | decide); clear hF a; intro a hF) | ((with_reducible apply s_load hF hM); exact rfl; exact rfl; (repeat (first | exact List.mem_cons_self | refine List.mem_cons_of_mem _ ?_)); exact rfl; exact rfl; clear hF a; intro a hF) | ((with_reducible apply s_store hF hM); exact rfl; exact rfl; exact rfl; exact rfl; (repeat (first | exact Upd.z | apply Upd.s)); exact rfl; exact rfl; exact rfl; clear hM; intro w hM) | ((with_reducible apply s_alloc hF hM); exact rfl; exact rfl; exact rfl; clear hF hM a; intro b w a hM hF) | ((with_reducible apply s_lit hF hM); exact rfl; exact rfl; exact rfl; exact rfl; clear hF hM a; intro bl w a hM hF) | ((with_reducible apply s_app hF hM); exact rfl; exact rfl; exact rfl; exact rfl; (repeat (first | exact Kth.z | apply Kth.s)); exact rfl; exact rfl; exact rfl; exact rfl; omega; clear hF hM a; intro g cap w a hM hF; dsimp only [List.set] at hM) | (with_reducible refine w_skip ?_) | (with_reducible refine w_block ?_) | ((with_reducible apply c_false2 hF); exact rfl; (first | with_reducible rfl | (refine congrArg Value.bool ?_; focus (simp; done)))) | ((with_reducible apply c_dec hF); exact rfl; all_goals intro hc; all_goals (try (exfalso; omega)))))
      rw [u8s_snoc] at hM
      refine c_loop (m := 8) (fun mj a w' => ∃ (j : Nat) (v : Value), mj + j = 8 ∧
        Fr 46 [] [(31, .int .i64 j), (7, .pointer (some ⟨b, 0, none⟩)), (15, .int .i64 k), (14, .int .i64 ts.length), (13, .slice (some ad) ts.length cl), (5, v)] a ∧
        Mm own W [⟨b, ⟨[.bool true, .int .u64 d, .slice ax xl cx]⟩, 68⟩] [⟨5, 1, v, p + q + 1 + j, (C ++ [1] ++ (le 8 d).take j).map (Value.int .u8)⟩] [RdF id (some ad) (ts.map tkC).flatten, DatF (tP ts)] w') ⟨0, _, by omega, hF.sub (by repeat (first | exact Sub.nil | refine Sub.cons rfl (by first | with_reducible rfl | (refine congrArg (Value.int _) ?_; omega) | exact rfl) ?_)), ?_⟩ ?_
      · rw [show C ++ [1] ++ (le 8 d).take 0 = C ++ [1] by simp]
        exact hM.sub (by first | exact .refl _ | exact .cons _ (.refl _)) (.refl _) (by intro f hf; simp only [List.mem_cons, List.not_mem_nil, or_false] at hf; (repeat (rcases hf with rfl | hf; · (repeat (first | exact List.mem_cons_self | refine List.mem_cons_of_mem _ ?_)))); first | (subst hf; (repeat (first | exact List.mem_cons_self | refine List.mem_cons_of_mem _ ?_)); done) | (repeat (first | exact hf | refine List.mem_cons_of_mem _ ?_)))
      clear hF hM a
      rintro mj a w' ⟨j, v, hmj, hF, hM⟩
      by_cases hj : j < 8
      · have hge : (le 8 d)[j]? = some (d / 2 ^ (8 * (j : Int)).toNat % 256) := by rw [le_get hj, pow8]
        have htk2 := take_snoc hge
        (repeat' (first | (with_reducible refine w_seq ?_) | (with_reducible refine c_region ?_) | (with_reducible refine s_nil ?_) | ((with_reducible apply s_shrW hF); exact rfl; exact rfl; exact rfl; exact rfl; (first | assumption | omega); clear hF a; intro a hF) | (with_reducible refine q_then_n ?_) | ((with_reducible apply s_pure hF); exact rfl; exact rfl; exact rfl; (first | exact trivial | omega | exact ⟨Int.natCast_nonneg _, Int.ofNat_lt.2 (by assumption)⟩ | decide); clear hF a; intro a hF) | ((with_reducible apply s_load hF hM); exact rfl; exact rfl; (repeat (first | exact List.mem_cons_self | refine List.mem_cons_of_mem _ ?_)); exact rfl; exact rfl; clear hF a; intro a hF) | ((with_reducible apply s_lit hF hM); exact rfl; exact rfl; exact rfl; exact rfl; clear hF hM a; intro bl w a hM hF) | ((with_reducible apply s_app hF hM); exact rfl; exact rfl; exact rfl; exact rfl; (repeat (first | exact Kth.z | apply Kth.s)); exact rfl; exact rfl; exact rfl; exact rfl; omega; clear hF hM a; intro g cap w a hM hF; dsimp only [List.set] at hM) | (with_reducible refine w_skip ?_) | (with_reducible refine w_block ?_) | (with_reducible refine q_blk_n ?_) | ((with_reducible apply c_dec hF); exact rfl; all_goals intro hc; all_goals (try (exfalso; omega)))))
        refine ⟨mj - 1, by omega, j + 1, _, by omega, hF.sub (by repeat (first | exact Sub.nil | refine Sub.cons rfl (by first | with_reducible rfl | (refine congrArg (Value.int _) ?_; omega) | exact rfl) ?_)), ?_⟩
        rw [htk2, ← List.append_assoc, ← u8s_snoc, show p + q + 1 + (j + 1) = p + q + 1 + j + 1 by omega]
        exact hM.sub (by first | exact .refl _ | exact .cons _ (.refl _)) (.refl _) (by intro f hf; simp only [List.mem_cons, List.not_mem_nil, or_false] at hf; (repeat (rcases hf with rfl | hf; · (repeat (first | exact List.mem_cons_self | refine List.mem_cons_of_mem _ ?_)))); first | (subst hf; (repeat (first | exact List.mem_cons_self | refine List.mem_cons_of_mem _ ?_)); done) | (repeat (first | exact hf | refine List.mem_cons_of_mem _ ?_)))
      · obtain rfl : j = 8 := by omega
        rw [List.take_of_length_le (by rw [le_len]; omega)] at hM
        (repeat' (first | (with_reducible refine w_seq ?_) | (with_reducible refine c_region ?_) | (with_reducible refine s_nil ?_) | (with_reducible refine q_then_n ?_) | ((with_reducible apply s_pure hF); exact rfl; exact rfl; exact rfl; (first | exact trivial | omega | exact ⟨Int.natCast_nonneg _, Int.ofNat_lt.2 (by assumption)⟩ | decide); clear hF a; intro a hF) | (with_reducible refine w_exit ?_) | (with_reducible refine q_then_x ?_) | (with_reducible refine q_blk_n ?_) | (with_reducible refine q_blk_x ?_) | ((with_reducible apply c_false2 hF); exact rfl; (first | with_reducible rfl | (refine congrArg Value.bool ?_; focus (simp; done))))))
        have hpt : putTok ⟨true, d, x⟩ = 1 :: le 8 d := by unfold putTok; rfl
        refine ⟨z - 1, by omega, k + 1, T ++ putTok ⟨true, d, x⟩, q + 9, v, by omega, htk.symm, by rw [List.length_append, hpt, List.length_cons, le_len]; omega, by omega, hF.sub (by repeat (first | exact Sub.nil | refine Sub.cons rfl (by first | with_reducible rfl | (refine congrArg (Value.int _) ?_; omega) | exact rfl) ?_)), ?_⟩
        rw [← hfin _ hpt.symm, show p + (q + 9) = p + q + 1 + 8 by omega]
        rw [List.append_assoc] at hM
        exact hM.sub (List.nil_sublist _) (.refl _) (by intro f hf; simp only [List.mem_cons, List.not_mem_nil, or_false] at hf; (repeat (rcases hf with rfl | hf; · (repeat (first | exact List.mem_cons_self | refine List.mem_cons_of_mem _ ?_)))); first | (subst hf; (repeat (first | exact List.mem_cons_self | refine List.mem_cons_of_mem _ ?_)); done) | (repeat (first | exact hf | refine List.mem_cons_of_mem _ ?_)))
  · obtain rfl : k = ts.length := by omega
    rw [List.take_of_length_le (Nat.le_refl _)] at hT
    (repeat' (first | (with_reducible refine w_seq ?_) | (with_reducible refine c_region ?_) | (with_reducible refine s_nil ?_) | (with_reducible refine q_then_n ?_) | ((with_reducible apply s_pure hF); exact rfl; exact rfl; exact rfl; (first | exact trivial | omega | exact ⟨Int.natCast_nonneg _, Int.ofNat_lt.2 (by assumption)⟩ | decide); clear hF a; intro a hF) | (with_reducible refine w_exit ?_) | (with_reducible refine w_ret ?_) | (with_reducible refine q_then_x ?_) | (with_reducible refine q_blk_x ?_) | ((with_reducible apply c_false2 hF); exact rfl; (first | with_reducible rfl | (refine congrArg Value.bool ?_; focus (simp; done))))))
    (apply f_ret Try.results51 hF hM; (repeat (first | exact RL.nil | (apply RL.tmp; exact rfl) | (apply RL.cell; exact rfl; (repeat (first | exact List.mem_cons_self | refine List.mem_cons_of_mem _ ?_)); exact rfl))); refine Ret.mk hM.since ?_; dsimp only [resV])
    have e1 : putToks (tms ts) = puts ts.length ++ T := by unfold putToks; rw [hT, tms_len]
    have e2 : ys ++ putToks (tms ts) = B ++ T := by rw [e1, hB, List.append_assoc]
    have e3 : m + (putToks (tms ts)).length = p + q := by rw [e1, List.length_append]; omega
    rw [e2, e3]
    obtain ⟨av, cv, rfl, -, -⟩ := OffR.shape hM (k := 0) rfl (OffR.plain hM List.mem_cons_self)
    exact ⟨av, cv, rfl, hM.mem.own⟩
end Go.Proofs.Ytonelgecjmpbgaa


/- dedup: tokens are read. -/
namespace Go.Proofs.Ytonelgecjmpbgaa
open Go.RowKit Go.Shelf D29
namespace D29
theorem un_snoc : ∀ (l : List Int) (x : Int), un (l ++ [x]) = un l + x * 256 ^ l.length
  | [], x => by simp [un]
  | y :: l, x => by
    rw [List.cons_append, un, un_snoc l x, un, List.length_cons, Int.pow_succ, Int.mul_add, ← Int.add_assoc, Int.mul_left_comm 256 x, Int.mul_comm 256 (256 ^ _)]
/-- A further byte of a word. -/
theorem un_step {r : List Int} (hb : ∀ y ∈ r, 0 ≤ y ∧ y < 256) {j : Nat} (hj : j < 8) {x : Int} (hx : r[j]? = some x) :
    ∃ z : Int, x * 2 ^ (8 * (j : Int)).toNat = z ∧ 0 ≤ z ∧ z < 18446744073709551616 ∧ un (r.take (j + 1)) = un (r.take j) + z ∧ un (r.take j) + z < 18446744073709551616 ∧ bits .or .u64 (un (r.take j)) z = un (r.take j) + z := by
  have hxb := hb x (List.mem_of_getElem? hx)
  obtain ⟨u0, u1⟩ := un_bd (r.take j) fun y hy => hb y (List.mem_of_mem_take hy)
  have hlt : j < r.length := by
    apply Classical.byContradiction
    intro h
    rw [List.getElem?_eq_none (by omega)] at hx
    cases hx
  have hl : (r.take j).length = j := by rw [List.length_take]; omega
  rw [hl] at u1
  have hs := un_snoc (r.take j) x
  rw [← take_snoc hx, hl] at hs
  have hP : ∀ j : Fin 8, (0 : Int) < 256 ^ j.val ∧ (256 : Int) ^ j.val * 256 ≤ 18446744073709551616 := by decide
  obtain ⟨p0, p1⟩ := hP ⟨j, hj⟩
  dsimp only at p0 p1
  have hor := fun y0 y1 y2 => or_joinW (x := un (r.take j)) (y := x * 256 ^ j) (i := 8 * j) (by omega) u0 (by rw [Int.pow_mul]; exact u1) y0 y1 y2
  rw [show (2 : Int) ^ (8 * j) = 256 ^ j by rw [Int.pow_mul]; rfl] at hor
  refine ⟨x * 256 ^ j, by rw [pow8], Int.mul_nonneg hxb.1 (by omega), ?_, hs, ?_, hor (Int.mul_nonneg hxb.1 (by omega)) ?_ (Int.mul_emod_left _ _)⟩
  all_goals
    have : x * 256 ^ j ≤ 255 * 256 ^ j := Int.mul_le_mul_of_nonneg_right (by omega) (by omega)
    generalize x * 256 ^ j = z at *
    generalize (256 : Int) ^ j = P at *
    omega
/-- What a reading of a token answers. -/
def tokP (own : Nat → Prop) (r : Except Int (Tok × List Int)) (v : Value) (w' : World) : Prop := match r with
  | .error e => ∃ (b : Bool) (d : Int) (a : Option Addr) (n c : Nat) (a2 : Option Addr) (n2 c2 : Nat), v = .tuple #[.agg #[.bool b, .int .u64 d, .slice a n c], .slice a2 n2 c2, .int .i64 e] ∧ e ≠ 0
  | .ok (t, ys) => ∃ a1 c1 a2 c2, v = .tuple #[.agg #[.bool t.r, .int .u64 t.d, .slice a1 t.x.length c1], .slice a2 ys.length c2, .int .i64 0] ∧ Has own w' (RdF (Value.int .u8) a1 t.x.flatten) ∧ Has own w' (RdF (Value.int .u8) a2 ys) ∧ t.x.length ≤ c1 ∧ ys.length ≤ c2 ∧ W8 t.x ∧ By8 t.x
end D29
section
variable (xs : List Int) (hxb : ∀ x ∈ xs, 0 ≤ x ∧ x < 256) (hlen : xs.length ≤ 1000000) (a0 : Option Addr) (c0 : Nat) (hc0 : xs.length ≤ c0) (own : Nat → Prop) (W : World) (hl : ∀ b, own b → b < W.heap.size) (hv : Has own W (RdF (Value.int .u8) a0 xs))
include hxb hlen hc0 hl hv
set_option maxRecDepth 20000 in
set_option maxHeartbeats 4000000 in
theorem token_c : Calls Try.prog 80 ⟨[.slice a0 xs.length c0]⟩ W (Ret W (tokP own (rdTok xs))) := by
  have hM := (Mm.start hl).known hv
  match hxs : xs with
  | [] =>
    refine f_start Try.func80 rfl Try.ntmps80 rfl rfl ?_; intro a hF
    (repeat' (first | (with_reducible refine w_seq ?_) | (with_reducible refine c_region ?_) | (with_reducible refine s_nil ?_) | (with_reducible refine q_then_n ?_) | ((with_reducible apply s_pure hF); exact rfl; exact rfl; exact rfl; (first | exact trivial | omega | exact ⟨Int.natCast_nonneg _, Int.ofNat_lt.2 (by assumption)⟩ | decide); clear hF a; intro a hF) | ((with_reducible apply s_store hF hM); exact rfl; exact rfl; exact rfl; exact rfl; (repeat (first | exact Upd.z | apply Upd.s)); exact rfl; exact rfl; exact rfl; clear hM; intro w hM) | ((with_reducible apply s_alloc hF hM); exact rfl; exact rfl; exact rfl; clear hF hM a; intro b w a hM hF) | (with_reducible refine w_ret ?_) | (with_reducible refine q_then_r ?_) | ((with_reducible apply c_true2 hF); exact rfl; (first | with_reducible rfl | (refine congrArg Value.bool ?_; focus (simp; done))))))
    (apply f_ret Try.results80 hF hM; (repeat (first | exact RL.nil | (apply RL.tmp; exact rfl) | (apply RL.cell; exact rfl; (repeat (first | exact List.mem_cons_self | refine List.mem_cons_of_mem _ ?_)); exact rfl))); refine Ret.mk hM.since ?_; dsimp only [resV])
    exact ⟨false, 0, none, 0, 0, none, 0, 0, rfl, by decide⟩
  | mk :: r =>
  have hmk := hxb mk List.mem_cons_self
  have hbr : ∀ y ∈ r, 0 ≤ y ∧ y < 256 := fun z hz => hxb z (List.mem_cons_of_mem _ hz)
  have hlx : (mk :: r).length = r.length + 1 := List.length_cons
  have hx0 : (mk :: r)[((0 : Int)).toNat]? = some mk := rfl
  obtain ⟨ad, rfl⟩ : ∃ ad, a0 = some ad := rd_some hM (by (repeat (first | exact List.mem_cons_self | refine List.mem_cons_of_mem _ ?_))) (k := 0) (x := mk) rfl
  have hbf := RdF.drop (hM.facts (RdF (Value.int .u8) (some ad) (mk :: r)) (by (repeat (first | exact List.mem_cons_self | refine List.mem_cons_of_mem _ ?_)))) 1 c0 hc0
  rw [show (mk :: r).drop 1 = r from rfl] at hbf
  have hcr : r.length ≤ c0 - 1 := by omega
  have hrl : r.length ≤ 1000000 := by omega
  have hsl : ∀ a1, Value.slice (sadr (some ad) (1 : Int).toNat c0 1) ((((mk :: r).length : Nat) : Int).toNat - (1 : Int).toNat) (c0 - (1 : Int).toNat) = .slice a1 r.length (c0 - 1) ↔ sadr (some ad) 1 c0 1 = a1 := fun a1 => by
    rw [show (1 : Int).toNat = 1 from rfl, Int.toNat_natCast, hlx, Nat.add_sub_cancel]
    constructor
    · intro h; injection h
    · intro h; rw [h]
  obtain ⟨a1, ha1⟩ : ∃ a1, sadr (some ad) 1 c0 1 = a1 := ⟨_, rfl⟩
  have hsl1 := (hsl a1).2 ha1
  clear hsl
  rw [ha1] at hbf
  replace hM := hM.addFact hbf
  rw [rdTok]
  refine f_start Try.func80 rfl Try.ntmps80 rfl rfl ?_; intro a hF
  (repeat' (first | (with_reducible refine w_seq ?_) | (with_reducible refine c_region ?_) | (with_reducible refine s_nil ?_) | (with_reducible refine q_then_n ?_) | ((with_reducible apply s_pure hF); exact rfl; exact rfl; exact rfl; (first | exact trivial | omega | exact ⟨Int.natCast_nonneg _, Int.ofNat_lt.2 (by assumption)⟩ | decide); clear hF a; intro a hF) | ((with_reducible apply s_alloc hF hM); exact rfl; exact rfl; exact rfl; clear hF hM a; intro b w a hM hF) | (with_reducible refine w_skip ?_) | ((with_reducible apply c_dec hF); exact rfl; all_goals intro hc; all_goals (try (exfalso; omega)))))
  generalize b = b2 at *
  refine c_draw (fun i => Nat.ble 7 i) hM ?_; clear hM; intro w hM
  (first | (refine t_pure (i := 0) hF rfl rfl rfl rfl (by kernel_rfl) hM.sm (fun _ _ _ h => h) ?_ ?_; (first | exact trivial | omega | decide); clear hF a; intro a hF))
  (first | (refine t_pure (i := 1) hF rfl rfl rfl rfl (by kernel_rfl) hM.sm (fun _ _ _ h => h) ?_ ?_; (first | exact trivial | omega | decide); clear hF a; intro a hF))
  (first | (apply t_loadF (i := 2) hF rfl rfl rfl; (repeat (first | exact List.mem_cons_self | refine List.mem_cons_of_mem _ ?_)); (first | with_reducible assumption | (simp only [Int.toNat_natCast]; with_reducible assumption)); exact rfl; exact rfl; kernel_rfl; exact hM.sm; exact (fun _ _ _ h => h); clear hF a; intro a hF))
  (first | (refine t_pure (i := 3) hF rfl rfl rfl rfl (by kernel_rfl) hM.sm (fun _ _ _ h => h) ?_ ?_; (first | exact trivial | omega | decide); clear hF a; intro a hF))
  (first | (refine t_pure (i := 4) hF rfl rfl rfl rfl (by kernel_rfl) hM.sm (fun _ _ _ h => h) ?_ ?_; (first | exact trivial | omega | decide); clear hF a; intro a hF))
  rw [hsl1] at hF
  (first | (refine t_pure (i := 5) hF rfl rfl rfl rfl (by kernel_rfl) (hM.sm.sub (fun x hx => by repeat (first | exact hx | refine List.mem_cons_of_mem _ ?_)) (fun _ h => by repeat (first | exact h | refine List.mem_cons_of_mem _ ?_))) (fun _ _ _ h => h) ?_ ?_; (first | exact trivial | omega | decide); clear hF a; intro a hF))
  (first | (refine t_pure (i := 6) hF rfl rfl rfl rfl (by kernel_rfl) (hM.sm.sub (fun x hx => by repeat (first | exact hx | refine List.mem_cons_of_mem _ ?_)) (fun _ h => by repeat (first | exact h | refine List.mem_cons_of_mem _ ?_))) (fun _ _ _ h => h) ?_ ?_; (first | exact trivial | omega | decide); clear hF a; intro a hF))
  refine t_done (by kernel_rfl) ?_
  by_cases h0 : mk = 0
  · subst h0
    rw [if_pos rfl]
    have hS := fun {own W} hl hv => SectorsW_c r hbr hrl a1 (c0 - 1) hcr own W hl hv
    cases hs : rdSecs r with
    | error e =>
      rw [hs] at hS
      (repeat' (first | (with_reducible refine w_seq ?_) | (with_reducible refine c_region ?_) | (with_reducible refine s_nil ?_) | ((with_reducible apply s_call (f := 97) hF hM); exact rfl; exact rfl; exact rfl; exact rfl; exact rfl; exact (hS hM.lt (hM.facts (RdF (Value.int .u8) a1 r) (by (repeat (first | with_reducible exact List.mem_cons_self | refine List.mem_cons_of_mem _ ?_))))); clear hF hM a; rintro v w a ⟨rfl, he⟩ - hM hF) | (with_reducible refine q_then_n ?_) | ((with_reducible apply s_pure hF); exact rfl; exact rfl; exact rfl; (first | exact trivial | omega | exact ⟨Int.natCast_nonneg _, Int.ofNat_lt.2 (by assumption)⟩ | decide); clear hF a; intro a hF) | ((with_reducible apply s_store hF hM); exact rfl; exact rfl; exact rfl; exact rfl; (repeat (first | exact Upd.z | apply Upd.s)); exact rfl; exact rfl; exact rfl; clear hM; intro w hM) | (with_reducible refine w_skip ?_) | (with_reducible refine w_block ?_) | (with_reducible refine w_ret ?_) | (with_reducible refine q_then_r ?_) | (with_reducible refine q_blk_r ?_) | ((with_reducible apply c_true2 hF); exact rfl; (first | with_reducible rfl | (refine congrArg Value.bool ?_; focus (simp; done)))) | ((with_reducible apply c_false2 hF); exact rfl; (first | with_reducible rfl | (refine congrArg Value.bool ?_; focus (simp; done)))) | ((with_reducible apply s_skip hF); exact rfl; exact rfl; clear hF a; intro a hF) | ((fail_if_success ((with_reducible refine g_known true hF ?_ ?_); focus exact rfl)); (fail_if_success ((with_reducible refine g_known false hF ?_ ?_); focus exact rfl)); (with_reducible apply g_dec hF); exact rfl; exact rfl; all_goals (clear hF; intro hc hF); all_goals (try (exfalso; omega)))))
      (apply f_ret Try.results80 hF hM; (repeat (first | exact RL.nil | (apply RL.tmp; exact rfl) | (apply RL.cell; exact rfl; (repeat (first | exact List.mem_cons_self | refine List.mem_cons_of_mem _ ?_)); exact rfl))); refine Ret.mk hM.since ?_; dsimp only [resV])
      exact ⟨false, 0, none, 0, 0, none, 0, 0, rfl, he⟩
    | ok pr =>
      obtain ⟨x, ys⟩ := pr
      rw [hs] at hS
      dsimp only
      (repeat (first | (with_reducible refine w_seq ?_) | (with_reducible refine c_region ?_) | (with_reducible refine s_nil ?_) | ((with_reducible apply s_call (f := 97) hF hM); exact rfl; exact rfl; exact rfl; exact rfl; exact rfl; exact (hS hM.lt (hM.facts (RdF (Value.int .u8) a1 r) (by (repeat (first | with_reducible exact List.mem_cons_self | refine List.mem_cons_of_mem _ ?_))))); clear hF hM a; rintro v w a ⟨a2, c2, a3, c3, rfl, k1, k2, k3, k4, k5, k6, k7, k8⟩ - hM hF; replace hM := (hM.addFact k1).addFact k2) | (with_reducible refine q_then_n ?_) | ((with_reducible apply s_pure hF); exact rfl; exact rfl; exact rfl; (first | exact trivial | omega | exact ⟨Int.natCast_nonneg _, Int.ofNat_lt.2 (by assumption)⟩ | decide); clear hF a; intro a hF) | (with_reducible refine w_block ?_) | ((with_reducible apply c_true2 hF); exact rfl; (first | with_reducible rfl | (refine congrArg Value.bool ?_; focus (simp; done))))))
      obtain ⟨q, hq⟩ : ∃ q, x.length = q := ⟨_, rfl⟩
      rw [hq] at hF
      cases hch : isCh x with
      | true =>
        rw [if_pos rfl]
        (repeat' (first | (with_reducible refine w_seq ?_) | (with_reducible refine c_region ?_) | (with_reducible refine s_nil ?_) | ((with_reducible apply s_call (f := 73) hF hM); exact rfl; exact rfl; exact rfl; exact rfl; exact rfl; exact (isChunk_c x a2 c2 q hq _ _ hM.lt); clear hF hM a; rintro v w a rfl - hM hF; rw [hch] at hF) | (with_reducible refine q_then_n ?_) | ((with_reducible apply s_pure hF); exact rfl; exact rfl; exact rfl; (first | exact trivial | omega | exact ⟨Int.natCast_nonneg _, Int.ofNat_lt.2 (by assumption)⟩ | decide); clear hF a; intro a hF) | ((with_reducible apply s_store hF hM); exact rfl; exact rfl; exact rfl; exact rfl; (repeat (first | exact Upd.z | apply Upd.s)); exact rfl; exact rfl; exact rfl; clear hM; intro w hM) | (with_reducible refine w_skip ?_) | (with_reducible refine w_ret ?_) | (with_reducible refine q_then_r ?_) | (with_reducible refine q_blk_r ?_) | ((with_reducible apply c_false2 hF); exact rfl; (first | with_reducible rfl | (refine congrArg Value.bool ?_; focus (simp; done))))))
        (apply f_ret Try.results80 hF hM; (repeat (first | exact RL.nil | (apply RL.tmp; exact rfl) | (apply RL.cell; exact rfl; (repeat (first | exact List.mem_cons_self | refine List.mem_cons_of_mem _ ?_)); exact rfl))); refine Ret.mk hM.since ?_; dsimp only [resV])
        exact ⟨a2, c2, a3, c3, by rw [hq], hM.factOut (f := RdF (Value.int .u8) a2 x.flatten) (by (repeat (first | with_reducible exact List.mem_cons_self | refine List.mem_cons_of_mem _ ?_))), hM.factOut (f := RdF (Value.int .u8) a3 ys) (by (repeat (first | with_reducible exact List.mem_cons_self | refine List.mem_cons_of_mem _ ?_))), k3, k4, k5, k6⟩
      | false =>
        rw [if_neg (by decide)]
        (repeat' (first | (with_reducible refine w_seq ?_) | (with_reducible refine c_region ?_) | (with_reducible refine s_nil ?_) | ((with_reducible apply s_call (f := 73) hF hM); exact rfl; exact rfl; exact rfl; exact rfl; exact rfl; exact (isChunk_c x a2 c2 q hq _ _ hM.lt); clear hF hM a; rintro v w a rfl - hM hF; rw [hch] at hF) | (with_reducible refine q_then_n ?_) | ((with_reducible apply s_pure hF); exact rfl; exact rfl; exact rfl; (first | exact trivial | omega | exact ⟨Int.natCast_nonneg _, Int.ofNat_lt.2 (by assumption)⟩ | decide); clear hF a; intro a hF) | ((with_reducible apply s_store hF hM); exact rfl; exact rfl; exact rfl; exact rfl; (repeat (first | exact Upd.z | apply Upd.s)); exact rfl; exact rfl; exact rfl; clear hM; intro w hM) | (with_reducible refine w_ret ?_) | (with_reducible refine q_then_r ?_) | (with_reducible refine q_blk_r ?_) | ((with_reducible apply c_true2 hF); exact rfl; (first | with_reducible rfl | (refine congrArg Value.bool ?_; focus (simp; done))))))
        (apply f_ret Try.results80 hF hM; (repeat (first | exact RL.nil | (apply RL.tmp; exact rfl) | (apply RL.cell; exact rfl; (repeat (first | exact List.mem_cons_self | refine List.mem_cons_of_mem _ ?_)); exact rfl))); refine Ret.mk hM.since ?_; dsimp only [resV])
        exact ⟨false, 0, a2, q, c2, a3, ys.length, c3, rfl, by decide⟩
  rw [if_neg h0]
  by_cases h1 : mk = 1
  case neg =>
    rw [if_neg h1]
    (repeat' (first | (with_reducible refine w_seq ?_) | (with_reducible refine c_region ?_) | (with_reducible refine s_nil ?_) | (with_reducible refine q_then_n ?_) | ((with_reducible apply s_pure hF); exact rfl; exact rfl; exact rfl; (first | exact trivial | omega | exact ⟨Int.natCast_nonneg _, Int.ofNat_lt.2 (by assumption)⟩ | decide); clear hF a; intro a hF) | ((with_reducible apply s_store hF hM); exact rfl; exact rfl; exact rfl; exact rfl; (repeat (first | exact Upd.z | apply Upd.s)); exact rfl; exact rfl; exact rfl; clear hM; intro w hM) | (with_reducible refine w_skip ?_) | (with_reducible refine w_block ?_) | (with_reducible refine w_ret ?_) | (with_reducible refine q_blk_n ?_) | ((with_reducible apply c_dec hF); exact rfl; all_goals intro hc; all_goals (try (exfalso; omega)))))
    (apply f_ret Try.results80 hF hM; (repeat (first | exact RL.nil | (apply RL.tmp; exact rfl) | (apply RL.cell; exact rfl; (repeat (first | exact List.mem_cons_self | refine List.mem_cons_of_mem _ ?_)); exact rfl))); refine Ret.mk hM.since ?_; dsimp only [resV])
    exact ⟨false, 0, none, 0, 0, none, 0, 0, rfl, by decide⟩
  subst h1
  rw [if_pos rfl]
  by_cases h8 : r.length < 8
  · rw [if_pos h8]
    (repeat' (first | (with_reducible refine w_seq ?_) | (with_reducible refine c_region ?_) | (with_reducible refine s_nil ?_) | (with_reducible refine q_then_n ?_) | ((with_reducible apply s_pure hF); exact rfl; exact rfl; exact rfl; (first | exact trivial | omega | exact ⟨Int.natCast_nonneg _, Int.ofNat_lt.2 (by assumption)⟩ | decide); clear hF a; intro a hF) | ((with_reducible apply s_store hF hM); exact rfl; exact rfl; exact rfl; exact rfl; (repeat (first | exact Upd.z | apply Upd.s)); exact rfl; exact rfl; exact rfl; clear hM; intro w hM) | (with_reducible refine w_block ?_) | (with_reducible refine w_ret ?_) | (with_reducible refine q_then_r ?_) | (with_reducible refine q_blk_r ?_) | ((with_reducible apply c_true2 hF); exact rfl; (first | with_reducible rfl | (refine congrArg Value.bool ?_; focus (simp; done)))) | ((with_reducible apply c_false2 hF); exact rfl; (first | with_reducible rfl | (refine congrArg Value.bool ?_; focus (simp; done)))) | ((with_reducible apply c_dec hF); exact rfl; all_goals intro hc; all_goals (try (exfalso; omega)))))
    (apply f_ret Try.results80 hF hM; (repeat (first | exact RL.nil | (apply RL.tmp; exact rfl) | (apply RL.cell; exact rfl; (repeat (first | exact List.mem_cons_self | refine List.mem_cons_of_mem _ ?_)); exact rfl))); refine Ret.mk hM.since ?_; dsimp only [resV])
    exact ⟨false, 0, none, 0, 0, none, 0, 0, rfl, by decide⟩
  rw [if_neg h8]
  obtain ⟨ad2, rfl⟩ : ∃ ad2, a1 = some ad2 := by rw [← ha1]; unfold sadr; split <;> exact ⟨_, rfl⟩
  (repeat' (first | (with_reducible refine w_seq ?_) | (with_reducible refine c_region ?_) | (with_reducible refine s_nil ?_) | (with_reducible refine q_then_n ?_) | ((with_reducible apply s_pure hF); exact rfl; exact rfl; exact rfl; (first | exact trivial | omega | exact ⟨Int.natCast_nonneg _, Int.ofNat_lt.2 (by assumption)⟩ | decide); clear hF a; intro a hF) | ((with_reducible apply s_store hF hM); exact rfl; exact rfl; exact rfl; exact rfl; (repeat (first | exact Upd.z | apply Upd.s)); exact rfl; exact rfl; exact rfl; clear hM; intro w hM) | ((with_reducible apply s_alloc hF hM); exact rfl; exact rfl; exact rfl; clear hF hM a; intro b w a hM hF) | (with_reducible refine w_skip ?_) | (with_reducible refine w_block ?_) | ((with_reducible apply c_true2 hF); exact rfl; (first | with_reducible rfl | (refine congrArg Value.bool ?_; focus (simp; done)))) | ((with_reducible apply c_false2 hF); exact rfl; (first | with_reducible rfl | (refine congrArg Value.bool ?_; focus (simp; done)))) | ((with_reducible apply c_dec hF); exact rfl; all_goals intro hc; all_goals (try (exfalso; omega)))))
  rw [show Value.slice (sadr (some ad2) (Int.toNat 0) (c0 - 1) 1) ((8 : Int).toNat - Int.toNat 0) (c0 - 1 - Int.toNat 0) = .slice (some ad2) 8 (c0 - 1) from by rw [show Int.toNat 0 = 0 from rfl, sadr_zero]; rfl] at hF
  refine c_loop (m := 8) (fun mj a w' => ∃ j : Nat, mj + j = 8 ∧
    Fr 70 [] [(51, .int .i64 j), (50, .int .i64 8), (49, .slice (some ad2) 8 (c0 - 1)), (0, .slice (some ad2) r.length (c0 - 1)), (9, .pointer (some ⟨b, 0, none⟩)), (2, .pointer (some ⟨b2, 0, none⟩))] a ∧
    Mm own W [⟨b, ⟨[.bool true, .int .u64 (un (r.take j)), .slice none 0 0]⟩, 68⟩, ⟨b2, ⟨[.bool false, .int .u64 0, .slice none 0 0]⟩, 68⟩] [] [RdF (Value.int .u8) (some ad2) r] w') ⟨0, by omega, hF.sub (by repeat (first | exact Sub.nil | refine Sub.cons rfl (by first | with_reducible rfl | (refine congrArg (Value.int _) ?_; omega) | exact rfl) ?_)), hM.sub (.refl _) (.refl _) (by intro f hf; simp only [List.mem_cons, List.not_mem_nil, or_false] at hf; (repeat (rcases hf with rfl | hf; · (repeat (first | exact List.mem_cons_self | refine List.mem_cons_of_mem _ ?_)))); first | (subst hf; (repeat (first | exact List.mem_cons_self | refine List.mem_cons_of_mem _ ?_)); done) | (repeat (first | exact hf | refine List.mem_cons_of_mem _ ?_)))⟩ ?_
  clear hF hM a
  rintro mj a w' ⟨j, hmj, hF, hM⟩
  by_cases hj : j < 8
  · obtain ⟨x, hx⟩ := get_of_lt (l := r) (i := j) (by omega)
    have hxb := hbr x (List.mem_of_getElem? hx)
    obtain ⟨z, z1, z2, z3, z4, z5, z6⟩ := un_step hbr hj hx
    (repeat' (first | (with_reducible refine w_seq ?_) | (with_reducible refine c_region ?_) | (with_reducible refine s_nil ?_) | (with_reducible refine q_then_n ?_) | ((with_reducible apply s_pure hF); exact rfl; exact rfl; exact rfl; (first | exact trivial | omega | exact ⟨Int.natCast_nonneg _, Int.ofNat_lt.2 (by assumption)⟩ | decide); clear hF a; intro a hF) | ((with_reducible apply s_loadF hF hM); exact rfl; exact rfl; (repeat (first | exact List.mem_cons_self | refine List.mem_cons_of_mem _ ?_)); exact rfl; exact rfl; (first | with_reducible assumption | (simp only [Int.toNat_natCast]; with_reducible assumption)); clear hF a; intro a hF) | (with_reducible refine w_skip ?_) | (with_reducible refine w_block ?_) | ((with_reducible apply c_dec hF); exact rfl; all_goals intro hc; all_goals (try (exfalso; omega)))))
    refine c_draw (fun i => Nat.ble 9 i) hM ?_; clear hM; intro w hM
    (first | (refine t_pure (i := 0) hF rfl rfl rfl rfl (by kernel_rfl) hM.sm (fun _ _ _ h => h) ?_ ?_; (first | exact trivial | omega | decide); clear hF a; intro a hF))
    (first | (apply t_load (i := 1) hF rfl rfl rfl; (repeat (first | exact List.mem_cons_self | refine List.mem_cons_of_mem _ ?_)); exact rfl; exact rfl; kernel_rfl; exact hM.sm; exact (fun _ _ _ h => h); clear hF a; intro a hF))
    (first | (refine t_pure (i := 2) hF rfl rfl rfl rfl (by kernel_rfl) hM.sm (fun _ _ _ h => h) ?_ ?_; (first | exact trivial | omega | decide); clear hF a; intro a hF))
    (first | (refine t_pure (i := 3) hF rfl rfl rfl rfl (by kernel_rfl) hM.sm (fun _ _ _ h => h) ?_ ?_; (first | exact trivial | omega | decide); clear hF a; intro a hF))
    rw [show x % 18446744073709551616 = x by omega] at hF
    (first | (refine t_pure (i := 4) hF rfl rfl rfl rfl (by kernel_rfl) (hM.sm.sub (fun x hx => by repeat (first | exact hx | refine List.mem_cons_of_mem _ ?_)) (fun _ h => by repeat (first | exact h | refine List.mem_cons_of_mem _ ?_))) (fun _ _ _ h => h) ?_ ?_; (first | exact trivial | omega | decide); clear hF a; intro a hF))
    (first | (refine t_pure (i := 5) hF rfl rfl rfl rfl (by kernel_rfl) (hM.sm.sub (fun x hx => by repeat (first | exact hx | refine List.mem_cons_of_mem _ ?_)) (fun _ h => by repeat (first | exact h | refine List.mem_cons_of_mem _ ?_))) (fun _ _ _ h => h) ?_ ?_; (first | exact trivial | omega | decide); clear hF a; intro a hF))
    refine t_one (i := 6) hF rfl (by kernel_rfl) rfl ?_
    intro K hK
    refine upon_value (e_shlW (z := z) hF rfl rfl ⟨by omega, by omega, z1, by omega, by omega⟩ w) ?_; replace hF := hF.put (d := 62) rfl (.int .u64 z); generalize a.put (some 62) _ = a at *
    refine hK _ _ (fun _ => (hM.sm.sub (fun x hx => by repeat (first | exact hx | refine List.mem_cons_of_mem _ ?_)) (fun _ h => by repeat (first | exact h | refine List.mem_cons_of_mem _ ?_)))) ?_; clear hK
    refine t_one (i := 7) hF rfl (by kernel_rfl) rfl ?_
    intro K hK
    refine upon_value (e_bits (z := un (r.take j) + z) hF rfl rfl (.inr rfl) z6 w) ?_; replace hF := hF.put (d := 63) rfl (.int .u64 (un (r.take j) + z)); generalize a.put (some 63) _ = a at *
    refine hK _ _ (fun _ => (hM.sm.sub (fun x hx => by repeat (first | exact hx | refine List.mem_cons_of_mem _ ?_)) (fun _ h => by repeat (first | exact h | refine List.mem_cons_of_mem _ ?_)))) ?_; clear hK
    (first | (refine t_pure (i := 8) hF rfl rfl rfl rfl (by kernel_rfl) (hM.sm.sub (fun x hx => by repeat (first | exact hx | refine List.mem_cons_of_mem _ ?_)) (fun _ h => by repeat (first | exact h | refine List.mem_cons_of_mem _ ?_))) (fun _ _ _ h => h) ?_ ?_; (first | exact trivial | omega | decide); clear hF a; intro a hF))
    refine t_one (i := 9) hF rfl (by kernel_rfl) rfl ?_
    intro K hK
    (apply x_store hF hM rfl rfl rfl; (repeat (first | exact Upd.z | apply Upd.s)); exact rfl; exact rfl; exact rfl; clear hF hM a; intro w a hM hF)
    refine hK _ _ (fun h => by cases h) ?_; clear hK
    refine t_done (by kernel_rfl) ?_
    rw [← z4] at hM
    (repeat' (first | (with_reducible refine c_region ?_) | (with_reducible refine s_nil ?_) | (with_reducible refine q_then_n ?_) | ((with_reducible apply s_pure hF); exact rfl; exact rfl; exact rfl; (first | exact trivial | omega | exact ⟨Int.natCast_nonneg _, Int.ofNat_lt.2 (by assumption)⟩ | decide); clear hF a; intro a hF) | (with_reducible refine q_blk_n ?_)))
    exact ⟨mj - 1, by omega, j + 1, by omega, hF.sub (by repeat (first | exact Sub.nil | refine Sub.cons rfl (by first | with_reducible rfl | (refine congrArg (Value.int _) ?_; omega) | exact rfl) ?_)), hM⟩
  · obtain rfl : j = 8 := by omega
    have hd8 := RdF.drop (hM.facts (RdF (Value.int .u8) (some ad2) r) (by (repeat (first | exact List.mem_cons_self | refine List.mem_cons_of_mem _ ?_)))) 8 (c0 - 1) hcr
    have hdl : (r.drop 8).length = r.length - 8 := List.length_drop
    have hs2 : Value.slice (sadr (some ad2) (8 : Int).toNat (c0 - 1) 1) (((r.length : Nat) : Int).toNat - (8 : Int).toNat) (c0 - 1 - (8 : Int).toNat) = .slice (sadr (some ad2) 8 (c0 - 1) 1) (r.drop 8).length (c0 - 1 - 8) := by
      rw [Int.toNat_natCast, hdl]
      rfl
    replace hM := hM.addFact hd8
    (repeat' (first | (with_reducible refine w_seq ?_) | (with_reducible refine c_region ?_) | (with_reducible refine s_nil ?_) | (with_reducible refine q_then_n ?_) | ((with_reducible apply s_pure hF); exact rfl; exact rfl; exact rfl; (first | exact trivial | omega | exact ⟨Int.natCast_nonneg _, Int.ofNat_lt.2 (by assumption)⟩ | decide); clear hF a; intro a hF) | (with_reducible refine w_exit ?_) | (with_reducible refine q_then_x ?_) | (with_reducible refine q_blk_x ?_) | ((with_reducible apply c_false2 hF); exact rfl; (first | with_reducible rfl | (refine congrArg Value.bool ?_; focus (simp; done))))))
    replace hM := hM.perm (List.Perm.swap _ _ _)
    refine c_drawS (fun i => Nat.ble 4 i) (fun x hx => List.mem_cons_of_mem _ (hx)) hM ?_; clear hM; intro w hM
    (first | (apply t_load (i := 0) hF rfl rfl rfl; (repeat (first | exact List.mem_cons_self | refine List.mem_cons_of_mem _ ?_)); exact rfl; exact rfl; kernel_rfl; exact (hM.sm.sub (fun x hx => by repeat (first | exact hx | refine List.mem_cons_of_mem _ ?_)) (fun _ h => by repeat (first | exact h | refine List.mem_cons_of_mem _ ?_))); exact (fun _ _ _ h => h); clear hF a; intro a hF))
    (first | (refine t_pure (i := 1) hF rfl rfl rfl rfl (by kernel_rfl) (hM.sm.sub (fun x hx => by repeat (first | exact hx | refine List.mem_cons_of_mem _ ?_)) (fun _ h => by repeat (first | exact h | refine List.mem_cons_of_mem _ ?_))) (fun _ _ _ h => h) ?_ ?_; (first | exact trivial | omega | decide); clear hF a; intro a hF))
    (first | (refine t_pure (i := 2) hF rfl rfl rfl rfl (by kernel_rfl) (hM.sm.sub (fun x hx => by repeat (first | exact hx | refine List.mem_cons_of_mem _ ?_)) (fun _ h => by repeat (first | exact h | refine List.mem_cons_of_mem _ ?_))) (fun _ _ _ h => h) ?_ ?_; (first | exact trivial | omega | decide); clear hF a; intro a hF))
    rw [hs2] at hF
    refine t_one (i := 3) hF rfl (by kernel_rfl) rfl ?_
    intro K hK
    (apply x_store hF hM rfl rfl rfl; (repeat (first | exact Upd.z | apply Upd.s)); exact rfl; exact rfl; exact rfl; clear hF hM a; intro w a hM hF)
    refine hK _ _ (fun _ => (hM.sm.sub (fun x hx => by repeat (first | exact hx | refine List.mem_cons_of_mem _ ?_)) (fun _ h => by repeat (first | exact h | refine List.mem_cons_of_mem _ ?_)))) ?_; clear hK
    refine t_one (i := 4) hF rfl (by kernel_rfl) rfl ?_
    intro K hK
    (first | (refine x_pure hF hM rfl rfl ?_ ?_; (first | exact trivial | omega | decide); clear hF a; intro a hF) | (apply x_load hF hM rfl; (repeat (first | exact List.mem_cons_self | refine List.mem_cons_of_mem _ ?_)); exact rfl; exact rfl; clear hF a; intro a hF))
    refine hK _ _ (fun h => by cases h) ?_; clear hK
    refine t_one (i := 5) hF rfl (by kernel_rfl) rfl ?_
    intro K hK
    (first | (refine x_pure hF hM rfl rfl ?_ ?_; (first | exact trivial | omega | decide); clear hF a; intro a hF) | (apply x_load hF hM rfl; (repeat (first | exact List.mem_cons_self | refine List.mem_cons_of_mem _ ?_)); exact rfl; exact rfl; clear hF a; intro a hF))
    refine hK _ _ (fun h => by cases h) ?_; clear hK
    refine t_done (by kernel_rfl) ?_
    (repeat' (first | (with_reducible refine q_then_n ?_) | (with_reducible refine w_ret ?_) | (with_reducible refine q_then_r ?_) | (with_reducible refine q_blk_r ?_)))
    (apply f_ret Try.results80 hF hM; (repeat (first | exact RL.nil | (apply RL.tmp; exact rfl) | (apply RL.cell; exact rfl; (repeat (first | exact List.mem_cons_self | refine List.mem_cons_of_mem _ ?_)); exact rfl))); refine Ret.mk hM.since ?_; dsimp only [resV])
    exact ⟨none, 0, _, _, rfl, RdF.nil, hM.factOut (f := RdF (Value.int .u8) _ (r.drop 8)) (by (repeat (first | with_reducible exact List.mem_cons_self | refine List.mem_cons_of_mem _ ?_))), Nat.le_refl _, by omega, fun s hs => (List.not_mem_nil hs).elim, fun s hs => (List.not_mem_nil hs).elim⟩
end
end Go.Proofs.Ytonelgecjmpbgaa


/- dedup: lists of tokens are read. -/
namespace Go.Proofs.Ytonelgecjmpbgaa
open Go.RowKit Go.Shelf D29
namespace D29
/-- Tokens that are read behind others. -/
def tokPre (done : List Tok) (r : Except Int (List Tok × List Int)) : Except Int (List Tok × List Int) := match r with
  | .error e => .error e
  | .ok (l, ys) => .ok (done ++ l, ys)
theorem tokPre_nil (r : Except Int (List Tok × List Int)) : tokPre [] r = r := by cases r <;> rfl
theorem tokPre_step {k : Nat} {xs ys : List Int} {t : Tok} (h : rdTok xs = .ok (t, ys)) (done : List Tok) : tokPre done (rdToks (k + 1) xs) = tokPre (done ++ [t]) (rdToks k ys) := by
  rw [rdToks, h]
  dsimp only
  cases rdToks k ys with
  | error e => rfl
  | ok p => obtain ⟨l, zs⟩ := p; simp [tokPre]
theorem tokPre_err {k : Nat} {xs : List Int} {e : Int} (h : rdTok xs = .error e) (done : List Tok) : tokPre done (rdToks (k + 1) xs) = .error e := by
  rw [rdToks, h]
  rfl
/-- What a reading of tokens answers. -/
def toksP (own : Nat → Prop) (r : Except Int (List Tok × List Int)) (v : Value) (w' : World) : Prop := match r with
  | .error e => v = .tuple #[.slice none 0 0, .slice none 0 0, .int .i64 e] ∧ e ≠ 0
  | .ok (l, ys) => ∃ a1 c1 a2 c2, v = .tuple #[.slice a1 l.length c1, .slice a2 ys.length c2, .int .i64 0] ∧ TkR own l a1 c1 w' ∧ Has own w' (RdF (Value.int .u8) a2 ys) ∧ ys.length ≤ c2
theorem rdTok_rest {xs : List Int} (hb : ∀ x ∈ xs, 0 ≤ x ∧ x < 256) {t : Tok} {ys : List Int} (h : rdTok xs = .ok (t, ys)) : (∀ y ∈ ys, 0 ≤ y ∧ y < 256) ∧ ys.length ≤ xs.length := by
  have e := rdTok_can hb h
  exact ⟨fun y hy => hb y (by rw [e]; exact List.mem_append_right _ hy), by rw [e, List.length_append]; omega⟩
end D29
section
variable (xs : List Int) (hxb : ∀ x ∈ xs, 0 ≤ x ∧ x < 256) (hlen : xs.length ≤ 1000000) (a0 : Option Addr) (c0 : Nat) (hc0 : xs.length ≤ c0) (own : Nat → Prop) (W : World) (hl : ∀ b, own b → b < W.heap.size) (hv : Has own W (RdF (Value.int .u8) a0 xs))
include hxb hlen hc0 hl hv
set_option maxRecDepth 20000 in
set_option maxHeartbeats 4000000 in
theorem Tokens_c : Calls Try.prog 48 ⟨[.slice a0 xs.length c0]⟩ W (Ret W (toksP own (rdTokens xs))) := by
  have hM := (Mm.start hl).known hv
  have hnn := rdNum_nnT hxb
  unfold rdTokens
  refine f_start Try.func48 rfl Try.ntmps48 rfl rfl ?_; intro a hF
  by_cases he : (rdNum xs).2.1 ≠ 0
  · rw [if_pos he]
    have hI := fun {own W} hl hv => Int_err xs hxb (by omega) a0 c0 hc0 own W hl hv he
    generalize (rdNum xs).2.1 = e at *
    (repeat' (first | (with_reducible refine w_seq ?_) | (with_reducible refine c_region ?_) | (with_reducible refine s_nil ?_) | ((with_reducible apply s_call (f := 79) hF hM); exact rfl; exact rfl; exact rfl; exact rfl; exact rfl; exact (hI hM.lt (hM.facts (RdF (Value.int .u8) a0 xs) (by (repeat (first | exact List.mem_cons_self | refine List.mem_cons_of_mem _ ?_))))); clear hF hM a; rintro v w a rfl - hM hF) | (with_reducible refine q_then_n ?_) | ((with_reducible apply s_pure hF); exact rfl; exact rfl; exact rfl; (first | exact trivial | omega | exact ⟨Int.natCast_nonneg _, Int.ofNat_lt.2 (by assumption)⟩ | decide); clear hF a; intro a hF) | (with_reducible refine w_skip ?_) | (with_reducible refine w_ret ?_) | (with_reducible refine q_then_r ?_) | ((with_reducible apply c_false2 hF); exact rfl; (first | with_reducible rfl | (refine congrArg Value.bool ?_; focus (simp; done)))) | ((with_reducible apply s_skip hF); exact rfl; exact rfl; clear hF a; intro a hF) | ((fail_if_success ((with_reducible refine g_known true hF ?_ ?_); focus exact rfl)); (fail_if_success ((with_reducible refine g_known false hF ?_ ?_); focus exact rfl)); (with_reducible apply g_dec hF); exact rfl; exact rfl; all_goals (clear hF; intro hc hF); all_goals (try (exfalso; omega))) | ((with_reducible apply c_dec hF); exact rfl; all_goals intro hc; all_goals (try (exfalso; omega)))))
    (apply f_ret Try.results48 hF hM; (repeat (first | exact RL.nil | (apply RL.tmp; exact rfl) | (apply RL.cell; exact rfl; (repeat (first | exact List.mem_cons_self | refine List.mem_cons_of_mem _ ?_)); exact rfl))); refine Ret.mk hM.since ?_; dsimp only [resV])
    exact ⟨rfl, he⟩
  rw [if_neg he]
  have hI := fun {own W} hl hv => Int_ok xs hxb (by omega) a0 c0 hc0 own W hl hv (by omega)
  by_cases hn : 65536 < (rdNum xs).1
  · rw [if_pos hn]
    generalize (rdNum xs).1 = n at *
    (repeat' (first | (with_reducible refine w_seq ?_) | (with_reducible refine c_region ?_) | (with_reducible refine s_nil ?_) | ((with_reducible apply s_callO (f := 79) hF); exact rfl; exact rfl; exact rfl; exact rfl; exact rfl; exact (hI hM.lt (hM.facts (RdF (Value.int .u8) a0 xs) (by (repeat (first | exact List.mem_cons_self | refine List.mem_cons_of_mem _ ?_))))); clear hF a; rintro v wn a ⟨a1, c1, rfl, hO⟩ hS hF; replace hM := hM.addRows hS hO; clear hS hO; dsimp only [List.cons_append, List.nil_append] at hM) | (with_reducible refine q_then_n ?_) | ((with_reducible apply s_pure hF); exact rfl; exact rfl; exact rfl; (first | exact trivial | omega | exact ⟨Int.natCast_nonneg _, Int.ofNat_lt.2 (by assumption)⟩ | decide); clear hF a; intro a hF) | (with_reducible refine w_ret ?_) | (with_reducible refine q_then_r ?_) | ((with_reducible apply c_true2 hF); exact rfl; (first | with_reducible rfl | (refine congrArg Value.bool ?_; focus (simp; done)))) | ((with_reducible apply c_dec hF); exact rfl; all_goals intro hc; all_goals (try (exfalso; omega)))))
    (apply f_ret Try.results48 hF hM; (repeat (first | exact RL.nil | (apply RL.tmp; exact rfl) | (apply RL.cell; exact rfl; (repeat (first | exact List.mem_cons_self | refine List.mem_cons_of_mem _ ?_)); exact rfl))); refine Ret.mk hM.since ?_; dsimp only [resV])
    exact ⟨rfl, by decide⟩
  rw [if_neg hn]
  obtain ⟨k, hk⟩ : ∃ k : Nat, (rdNum xs).1 = k := ⟨(rdNum xs).1.toNat, by omega⟩
  rw [hk] at hI hnn hn ⊢
  rw [Int.toNat_natCast]
  have hzb : ∀ y ∈ xs.drop (rdNum xs).2.2, 0 ≤ y ∧ y < 256 := fun y hy => hxb y (List.mem_of_mem_drop hy)
  have hzl : (xs.drop (rdNum xs).2.2).length ≤ 1000000 := by rw [List.length_drop]; omega
  generalize xs.drop (rdNum xs).2.2 = zs at *
  (repeat' (first | (with_reducible refine w_seq ?_) | (with_reducible refine c_region ?_) | (with_reducible refine s_nil ?_) | ((with_reducible apply s_callO (f := 79) hF); exact rfl; exact rfl; exact rfl; exact rfl; exact rfl; exact (hI hM.lt (hM.facts (RdF (Value.int .u8) a0 xs) (by (repeat (first | exact List.mem_cons_self | refine List.mem_cons_of_mem _ ?_))))); clear hF a; rintro v wn a ⟨a1, c1, rfl, hO⟩ hS hF; replace hM := hM.addRows hS hO; clear hS hO; dsimp only [List.cons_append, List.nil_append] at hM) | (with_reducible refine q_then_n ?_) | ((with_reducible apply s_pure hF); exact rfl; exact rfl; exact rfl; (first | exact trivial | omega | exact ⟨Int.natCast_nonneg _, Int.ofNat_lt.2 (by assumption)⟩ | decide); clear hF a; intro a hF) | (with_reducible refine w_skip ?_) | (with_reducible refine w_block ?_) | ((with_reducible apply c_false2 hF); exact rfl; (first | with_reducible rfl | (refine congrArg Value.bool ?_; focus (simp; done)))) | ((with_reducible apply c_dec hF); exact rfl; all_goals intro hc; all_goals (try (exfalso; omega)))))
  obtain ⟨xa, ya, ea, ga, -⟩ := OffR.shape hM (k := 0) rfl (OffR.plain hM List.mem_cons_self)
  injection ea with _ _ ea
  replace hM := hM.freezeN
  have hrow := (hM.nilRow 68 3).addFact (f := DatF (tP [])) (Has.pure fun _ p hp => by simp [tP] at hp)
  refine c_loop (m := k) (fun m a w' => ∃ (i : Nat) (ys : List Int) (outs : List TP) (a2 : Option Addr) (c2 : Nat) (ov : Value), m + i = k ∧ rdToks k zs = tokPre (tms outs) (rdToks m ys) ∧ outs.length = i ∧ DatW (tP outs) ∧ ys.length ≤ c2 ∧ ys.length ≤ 1000000 ∧ (∀ y ∈ ys, 0 ≤ y ∧ y < 256) ∧
    Fr 47 [] [(28, .int .i64 i), (27, .int .i64 k), (8, ov), (6, .slice a2 ys.length c2)] a ∧
    Mm own W [] [⟨68, 3, ov, i, cellsT outs⟩] [DatF (tP outs), RdF (Value.int .u8) a2 ys] w')
    ⟨0, zs, [], a1, c1, _, by omega, (tokPre_nil _).symm, rfl, fun p hp => by simp [tP] at hp, by omega, hzl, hzb, hF.sub (by repeat (first | exact Sub.nil | refine Sub.cons rfl (by first | with_reducible rfl | (refine congrArg (Value.int _) ?_; omega) | exact rfl) ?_)), hrow.sub (.refl _) (.refl _) (by intro f hf; simp only [List.mem_cons, List.not_mem_nil, or_false] at hf; (repeat (rcases hf with rfl | hf; · (repeat (first | exact List.mem_cons_self | refine List.mem_cons_of_mem _ ?_)))); first | (subst hf; (repeat (first | exact List.mem_cons_self | refine List.mem_cons_of_mem _ ?_)); done) | (repeat (first | exact hf | refine List.mem_cons_of_mem _ ?_)))⟩ ?_
  clear hF hM hrow a
  rintro m a w' ⟨i, ys, outs, a2, c2, ov, hm, hrd, hol, how, hyc, hyl, hyb, hF, hM⟩
  by_cases hi : i < k
  · obtain ⟨m, rfl⟩ : ∃ q, m = q + 1 := ⟨m - 1, by omega⟩
    have hT := fun {own W} hl hv => token_c ys hyb hyl a2 c2 hyc own W hl hv
    cases htk : rdTok ys with
    | error e =>
      rw [htk] at hT
      rw [tokPre_err htk] at hrd
      rw [hrd]
      (repeat' (first | (with_reducible refine w_seq ?_) | (with_reducible refine c_region ?_) | (with_reducible refine s_nil ?_) | ((with_reducible apply s_call (f := 80) hF hM); exact rfl; exact rfl; exact rfl; exact rfl; exact rfl; exact (hT hM.lt (hM.facts (RdF (Value.int .u8) a2 ys) (by (repeat (first | exact List.mem_cons_self | refine List.mem_cons_of_mem _ ?_))))); clear hF hM a; rintro v w a ⟨bb, dd, aa, nn, cc, a3, n3, c3, rfl, he⟩ - hM hF) | (with_reducible refine q_then_n ?_) | ((with_reducible apply s_pure hF); exact rfl; exact rfl; exact rfl; (first | exact trivial | omega | exact ⟨Int.natCast_nonneg _, Int.ofNat_lt.2 (by assumption)⟩ | decide); clear hF a; intro a hF) | ((with_reducible apply s_store hF hM); exact rfl; exact rfl; exact rfl; exact rfl; (repeat (first | exact Upd.z | apply Upd.s)); exact rfl; exact rfl; exact rfl; clear hM; intro w hM) | ((with_reducible apply s_alloc hF hM); exact rfl; exact rfl; exact rfl; clear hF hM a; intro b w a hM hF) | (with_reducible refine w_skip ?_) | (with_reducible refine w_block ?_) | (with_reducible refine w_ret ?_) | (with_reducible refine q_then_r ?_) | (with_reducible refine q_blk_r ?_) | ((with_reducible apply c_dec hF); exact rfl; all_goals intro hc; all_goals (try (exfalso; omega)))))
      (apply f_ret Try.results48 hF hM; (repeat (first | exact RL.nil | (apply RL.tmp; exact rfl) | (apply RL.cell; exact rfl; (repeat (first | exact List.mem_cons_self | refine List.mem_cons_of_mem _ ?_)); exact rfl))); refine Ret.mk hM.since ?_; dsimp only [resV])
      exact ⟨rfl, he⟩
    | ok pr =>
      obtain ⟨t, ys2⟩ := pr
      rw [htk] at hT
      rw [tokPre_step htk] at hrd
      obtain ⟨hyb2, hyl2⟩ := rdTok_rest hyb htk
      obtain ⟨r, d, x⟩ := t
      obtain ⟨q, hq⟩ : ∃ q, x.length = q := ⟨_, rfl⟩
      (repeat' (first | (with_reducible refine w_seq ?_) | (with_reducible refine c_region ?_) | (with_reducible refine s_nil ?_) | ((with_reducible apply s_call (f := 80) hF hM); exact rfl; exact rfl; exact rfl; exact rfl; exact rfl; exact (hT hM.lt (hM.facts (RdF (Value.int .u8) a2 ys) (by (repeat (first | exact List.mem_cons_self | refine List.mem_cons_of_mem _ ?_))))); clear hF hM a; rintro v w a ⟨aa, cc, a3, c3, rfl, k1, k2, k3, k4, k5, k6⟩ - hM hF; replace hM := (hM.addFact k1).addFact k2; dsimp only at hF hM k3 k5 k6; rw [hq] at hF k3) | (with_reducible refine q_then_n ?_) | ((with_reducible apply s_pure hF); exact rfl; exact rfl; exact rfl; (first | exact trivial | omega | exact ⟨Int.natCast_nonneg _, Int.ofNat_lt.2 (by assumption)⟩ | decide); clear hF a; intro a hF) | ((with_reducible apply s_load hF hM); exact rfl; exact rfl; (repeat (first | exact List.mem_cons_self | refine List.mem_cons_of_mem _ ?_)); exact rfl; exact rfl; clear hF a; intro a hF) | ((with_reducible apply s_store hF hM); exact rfl; exact rfl; exact rfl; exact rfl; (repeat (first | exact Upd.z | apply Upd.s)); exact rfl; exact rfl; exact rfl; clear hM; intro w hM) | ((with_reducible apply s_alloc hF hM); exact rfl; exact rfl; exact rfl; clear hF hM a; intro b w a hM hF) | ((with_reducible apply s_lit hF hM); exact rfl; exact rfl; exact rfl; exact rfl; clear hF hM a; intro bl w a hM hF) | ((with_reducible apply s_app hF hM); exact rfl; exact rfl; exact rfl; exact rfl; (repeat (first | exact Kth.z | apply Kth.s)); exact rfl; exact rfl; exact rfl; exact rfl; omega; clear hF hM a; intro g cap w a hM hF; dsimp only [List.set] at hM) | (with_reducible refine w_skip ?_) | (with_reducible refine w_block ?_) | (with_reducible refine q_blk_n ?_) | ((with_reducible apply c_false2 hF); exact rfl; (first | with_reducible rfl | (refine congrArg Value.bool ?_; focus (simp; done)))) | ((with_reducible apply c_dec hF); exact rfl; all_goals intro hc; all_goals (try (exfalso; omega)))))
      have hD := DatF.snoc (p := ((⟨d, x⟩ : Itm), aa, cc)) (hM.facts (DatF (tP outs)) (by (repeat (first | with_reducible exact List.mem_cons_self | refine List.mem_cons_of_mem _ ?_)))) (hM.facts (RdF (Value.int .u8) aa x.flatten) (by (repeat (first | with_reducible exact List.mem_cons_self | refine List.mem_cons_of_mem _ ?_))))
      refine ⟨m, by omega, i + 1, ys2, outs ++ [((⟨r, d, x⟩ : Tok), aa, cc)], a3, c3, .slice (some ⟨g, 0, none⟩) (i + 1) cap, by omega, ?_, by simp; omega, ?_, k4, by omega, hyb2, hF.sub (by repeat (first | exact Sub.nil | refine Sub.cons rfl (by first | with_reducible rfl | (refine congrArg (Value.int _) ?_; omega) | exact rfl) ?_)), ?_⟩
      · rw [hrd, tms_app]
        rfl
      · rw [tP_app]
        exact how.snoc ⟨k5, by show x.length ≤ cc; omega, k6⟩
      · have hce : cellsT (outs ++ [((⟨r, d, x⟩ : Tok), aa, cc)]) = cellsT outs ++ [.bool r, .int .u64 d, .slice aa q cc] := by rw [cellsT_app, ← hq]; rfl
        rw [hce, tP_app]
        exact (hM.addFact hD).sub (List.nil_sublist _) (.refl _) (fun f hf => by simp only [List.mem_cons, List.not_mem_nil, or_false] at hf ⊢; rcases hf with h | h <;> simp [h, tP])
  · obtain rfl : i = k := by omega
    obtain rfl : m = 0 := by omega
    rw [hrd]
    obtain ⟨av, cv, rfl, hcv, -⟩ := OffR.shape hM (k := 0) rfl (OffR.plain hM List.mem_cons_self)
    replace hM := Mm.freezeN (enc := id) (xs := cellsT outs) (by rw [List.map_id]; exact hM)
    (repeat' (first | (with_reducible refine w_seq ?_) | (with_reducible refine c_region ?_) | (with_reducible refine s_nil ?_) | (with_reducible refine q_then_n ?_) | ((with_reducible apply s_pure hF); exact rfl; exact rfl; exact rfl; (first | exact trivial | omega | exact ⟨Int.natCast_nonneg _, Int.ofNat_lt.2 (by assumption)⟩ | decide); clear hF a; intro a hF) | (with_reducible refine w_exit ?_) | (with_reducible refine w_ret ?_) | (with_reducible refine q_then_x ?_) | (with_reducible refine q_blk_x ?_) | ((with_reducible apply c_false2 hF); exact rfl; (first | with_reducible rfl | (refine congrArg Value.bool ?_; focus (simp; done))))))
    (apply f_ret Try.results48 hF hM; (repeat (first | exact RL.nil | (apply RL.tmp; exact rfl) | (apply RL.cell; exact rfl; (repeat (first | exact List.mem_cons_self | refine List.mem_cons_of_mem _ ?_)); exact rfl))); refine Ret.mk hM.since ?_; dsimp only [resV])
    subst hol
    show toksP own (.ok (tms outs ++ [], ys)) _ _
    rw [List.append_nil]
    exact ⟨av, cv, a2, c2, by rw [tms_len], ⟨outs, rfl, how, hM.factOut (by (repeat (first | with_reducible exact List.mem_cons_self | refine List.mem_cons_of_mem _ ?_))), hM.factOut (by (repeat (first | with_reducible exact List.mem_cons_self | refine List.mem_cons_of_mem _ ?_))), by rw [tms_len]; exact hcv⟩, hM.factOut (f := RdF (Value.int .u8) a2 ys) (by (repeat (first | with_reducible exact List.mem_cons_self | refine List.mem_cons_of_mem _ ?_))), hyc⟩
end
end Go.Proofs.Ytonelgecjmpbgaa


/- The reference of layer 29: Decode. -/
namespace Go.Proofs.Ytonelgecjmpbgaa
open Go.RowKit Go.Shelf D29
namespace D29
theorem cellsT_get {ts : List TP} {k : Nat} {t : TP} (h : ts[k]? = some t) : (ts.map tkC).flatten[k * 3 + 0]? = some (.bool t.1.r) ∧ (ts.map tkC).flatten[k * 3 + 1]? = some (.int .u64 t.1.d) ∧ (ts.map tkC).flatten[k * 3 + 2]? = some (.slice t.2.1 t.1.x.length t.2.2) := by
  have hpe : (ts.map tkC)[k]? = some (tkC t) := by rw [List.getElem?_map, h]; rfl
  exact ⟨flat_get (q := 0) (tkC_len ts) hpe rfl, flat_get (q := 1) (tkC_len ts) hpe rfl, flat_get (q := 2) (tkC_len ts) hpe rfl⟩
end D29
theorem CorrectR1_c (r : Bool) (d : Int) (x : Dat) (ax : Option Addr) (cx q : Nat) (hq : x.length = q) (own : Nat → Prop) (W : World) (hl : ∀ b, own b → b < W.heap.size) :
    Calls Try.prog 54 ⟨[.agg ⟨[.bool r, .int .u64 d, .slice ax q cx]⟩]⟩ W (Ret W fun v _ => v = .bool (corT ⟨r, d, x⟩)) := by
  have hM := Mm.start hl
  unfold corT
  dsimp only
  have h0 : (x = []) ↔ (q : Int) = 0 := by rw [← List.length_eq_zero_iff, hq]; omega
  rw [show decide (x = []) = decide ((q : Int) = 0) from decide_eq_decide.2 h0]
  refine f_start Try.func54 rfl Try.ntmps54 rfl rfl ?_; intro a hF
  cases r with
  | true =>
    (repeat' (first | (with_reducible refine w_seq ?_) | (with_reducible refine c_region ?_) | (with_reducible refine s_nil ?_) | (with_reducible refine q_then_n ?_) | ((with_reducible apply s_pure hF); exact rfl; exact rfl; exact rfl; (first | exact trivial | omega | exact ⟨Int.natCast_nonneg _, Int.ofNat_lt.2 (by assumption)⟩ | decide); clear hF a; intro a hF) | ((with_reducible apply s_load hF hM); exact rfl; exact rfl; (repeat (first | exact List.mem_cons_self | refine List.mem_cons_of_mem _ ?_)); exact rfl; exact rfl; clear hF a; intro a hF) | ((with_reducible apply s_box hF hM); exact rfl; exact rfl; exact rfl; exact rfl; clear hF hM a; intro b w a hM hF) | (with_reducible refine w_ret ?_) | (with_reducible refine q_then_r ?_) | ((with_reducible apply c_true2 hF); exact rfl; (first | with_reducible rfl | (refine congrArg Value.bool ?_; focus (simp; done))))))
    all_goals (apply f_ret Try.results54 hF hM; (repeat (first | exact RL.nil | (apply RL.tmp; exact rfl) | (apply RL.cell; exact rfl; (repeat (first | exact List.mem_cons_self | refine List.mem_cons_of_mem _ ?_)); exact rfl))); refine Ret.mk hM.since ?_; dsimp only [resV])
    all_goals rfl
  | false =>
    by_cases hd : d = 0
    · rw [decide_eq_true hd]
      (repeat' (first | (with_reducible refine w_seq ?_) | (with_reducible refine c_region ?_) | (with_reducible refine s_nil ?_) | ((with_reducible apply s_call (f := 71) hF hM); exact rfl; exact rfl; exact rfl; exact rfl; exact rfl; exact (IsChunkR_c x ax cx q hq _ _ hM.lt); clear hF hM a; rintro v w a rfl - hM hF) | (with_reducible refine q_then_n ?_) | ((with_reducible apply s_pure hF); exact rfl; exact rfl; exact rfl; (first | exact trivial | omega | exact ⟨Int.natCast_nonneg _, Int.ofNat_lt.2 (by assumption)⟩ | decide); clear hF a; intro a hF) | ((with_reducible apply s_load hF hM); exact rfl; exact rfl; (repeat (first | exact List.mem_cons_self | refine List.mem_cons_of_mem _ ?_)); exact rfl; exact rfl; clear hF a; intro a hF) | ((with_reducible apply s_box hF hM); exact rfl; exact rfl; exact rfl; exact rfl; clear hF hM a; intro b w a hM hF) | (with_reducible refine w_skip ?_) | (with_reducible refine w_ret ?_) | ((with_reducible apply c_false2 hF); exact rfl; (first | with_reducible rfl | (refine congrArg Value.bool ?_; focus (simp; done)))) | ((fail_if_success ((with_reducible refine g_known true hF ?_ ?_); focus exact rfl)); (fail_if_success ((with_reducible refine g_known false hF ?_ ?_); focus exact rfl)); (with_reducible apply g_dec hF); exact rfl; exact rfl; all_goals (clear hF; intro hc hF); all_goals (try (exfalso; omega)))))
      all_goals (apply f_ret Try.results54 hF hM; (repeat (first | exact RL.nil | (apply RL.tmp; exact rfl) | (apply RL.cell; exact rfl; (repeat (first | exact List.mem_cons_self | refine List.mem_cons_of_mem _ ?_)); exact rfl))); refine Ret.mk hM.since ?_; dsimp only [resV])
      all_goals rfl
    · rw [decide_eq_false hd]
      (repeat' (first | (with_reducible refine w_seq ?_) | (with_reducible refine c_region ?_) | (with_reducible refine s_nil ?_) | (with_reducible refine q_then_n ?_) | ((with_reducible apply s_pure hF); exact rfl; exact rfl; exact rfl; (first | exact trivial | omega | exact ⟨Int.natCast_nonneg _, Int.ofNat_lt.2 (by assumption)⟩ | decide); clear hF a; intro a hF) | ((with_reducible apply s_load hF hM); exact rfl; exact rfl; (repeat (first | exact List.mem_cons_self | refine List.mem_cons_of_mem _ ?_)); exact rfl; exact rfl; clear hF a; intro a hF) | ((with_reducible apply s_box hF hM); exact rfl; exact rfl; exact rfl; exact rfl; clear hF hM a; intro b w a hM hF) | (with_reducible refine w_skip ?_) | (with_reducible refine w_ret ?_) | ((with_reducible apply c_false2 hF); exact rfl; (first | with_reducible rfl | (refine congrArg Value.bool ?_; focus (simp; done)))) | ((with_reducible apply s_skip hF); exact rfl; exact rfl; clear hF a; intro a hF) | ((fail_if_success ((with_reducible refine g_known true hF ?_ ?_); focus exact rfl)); (fail_if_success ((with_reducible refine g_known false hF ?_ ?_); focus exact rfl)); (with_reducible apply g_dec hF); exact rfl; exact rfl; all_goals (clear hF; intro hc hF); all_goals (try (exfalso; omega)))))
      all_goals (apply f_ret Try.results54 hF hM; (repeat (first | exact RL.nil | (apply RL.tmp; exact rfl) | (apply RL.cell; exact rfl; (repeat (first | exact List.mem_cons_self | refine List.mem_cons_of_mem _ ?_)); exact rfl))); refine Ret.mk hM.since ?_; dsimp only [resV])
      all_goals rfl
section
variable (cp : Int) (ps : List P) (a0 : Option Addr) (c0 n : Nat) (hn : ps.length = n) (hlen : n ≤ 100000) (hDW : DatW ps) (hpx : ∀ p ∈ ps, p.1.x.length ≤ 100000) (hc0 : n ≤ c0)
  (own : Nat → Prop) (W : World) (hl : ∀ b, own b → b < W.heap.size) (h1 : Has own W (RdF id a0 (cellsP ps))) (h2 : Has own W (DatF ps))
include hn hlen hDW hpx hc0 hl h1 h2
end
end Go.Proofs.Ytonelgecjmpbgaa


/- The reference of layer 29: Same, SameTokens, Few, FewTokens. -/
namespace Go.Proofs.Ytonelgecjmpbgaa
open Go.RowKit Go.Shelf D29
section
variable {n : Nat} {ds : List Deferred} {l : List (Nat × Value)} {a : Act} {w : World} {os rest : List Oper} {Q : Exit → Act → World → Prop} {d : Nat} {ty : TypeId} {pos : String} {af : Array Edge} {g : Option (Nat × Bool)}
theorem e_neB {t t' : TypeId} {X Y : Operand} {x y : Bool} (hF : Fr n ds l a) (hX : ev l X = some (.bool x)) (hY : ev l Y = some (.bool y)) (hu : Try.prog.underlying t = some .bool) (hg : Try.prog.eqGuardType Try.prog.depth t = false) (w : World) {dst : Option Tmp} :
    (execOp a.eval ⟨dst, .binOp .neq t X Y t', ty, pos, af, g⟩).run Try.prog w = .ok (.value (.bool (decide (x ≠ y)))) w := by
  have h : ∀ d : Nat, (Op.equalIn (d + 1) t (.bool x) (.bool y)).run Try.prog w = .ok (decide (x = y)) w := fun d => by
    cases x <;> cases y <;> simp [Op.equalIn, run_underlying hu]
  have he : (Op.equal t (.bool x) (.bool y)).run Try.prog w = .ok (decide (x = y)) w := h 9999
  simp [execOp, hF.eval hX, hF.eval hY, eqGuard, Sem.run_bind, Result.andThen, hg, binOp, he]
theorem t_neB {tail : Nat → Bool} {fuel i : Nat} {listed : Array Bool} {bs0 : List BoxE} {Fs0 : List (World → Prop)} {t t' : TypeId} {X Y : Operand} {x y : Bool} (hF : Fr n ds l a) (hi : getO os i = some ⟨some d, .binOp .neq t X Y t', ty, pos, af, g⟩) (hg : wantO os l g = some true) (hX : ev l X = some (.bool x)) (hY : ev l Y = some (.bool y)) (hu : Try.prog.underlying t = some .bool) (hq : Try.prog.eqGuardType Try.prog.depth t = false) (hd : Nat.blt d n = true) (hb : takeB os tail listed i = true) (hS : Sm bs0 Fs0 w) (hQ : ∀ c a w, Q (.panic c) (a.put (some d) (.bool (decide (x ≠ y)))) w → Q (.panic c) a w)
    (kk : ∀ a, Fr n ds ((d, .bool (decide (x ≠ y))) :: l) a → wpAnyT Try.prog .any ⟨os⟩ Q (Sm bs0 Fs0) tail fuel (listed.setIfInBounds i true) a w) : wpAnyT Try.prog .any ⟨os⟩ Q (Sm bs0 Fs0) tail (fuel + 1) listed a w :=
  t_take hi hb hQ (.inl ⟨wantO_ok (o := ⟨some d, .binOp .neq t X Y t', ty, pos, af, g⟩) hF hg, fun w _ => e_neB hF hX hY hu hq w⟩) hS (kk _ (hF.put hd _))
end
namespace D29
instance tokDec : DecidableEq Tok := fun a b => if h : a.r = b.r ∧ a.d = b.d ∧ a.x = b.x then isTrue (by
  obtain ⟨r, d, x⟩ := a
  obtain ⟨r', d', x'⟩ := b
  obtain ⟨h1, h2, h3⟩ := h
  dsimp only at h1 h2 h3
  rw [h1, h2, h3]) else isFalse fun e => h (by rw [e]; exact ⟨rfl, rfl, rfl⟩)
end D29
set_option maxRecDepth 20000 in
set_option maxHeartbeats 4000000 in
theorem SameTokens_c (ps qs : List TP) (hpw : DatW (tP ps)) (hqw : DatW (tP qs)) (hpx : ∀ p ∈ ps, p.1.x.length ≤ 100000) (a1 a2 : Option Addr) (n1 n2 c1 c2 : Nat) (hn1 : ps.length = n1) (hn2 : qs.length = n2) (hl1 : n1 ≤ 100000) (own : Nat → Prop) (W : World) (hl : ∀ b, own b → b < W.heap.size)
    (h1 : Has own W (RdF id a1 (cellsT ps))) (h2 : Has own W (DatF (tP ps))) (h3 : Has own W (RdF id a2 (cellsT qs))) (h4 : Has own W (DatF (tP qs))) :
    Calls Try.prog 17 ⟨[.slice a1 n1 c1, .slice a2 n2 c2]⟩ W (Ret W fun v _ => v = .bool (decide (tms ps = tms qs))) := by
  have hM := ((((Mm.start hl).known h4).known h3).known h2).known h1
  subst hn1 hn2
  refine f_start Try.func17 rfl Try.ntmps17 rfl rfl ?_; intro a hF
  (repeat (first | (with_reducible refine w_seq ?_) | (with_reducible refine c_region ?_) | (with_reducible refine s_nil ?_) | (with_reducible refine q_then_n ?_) | ((with_reducible apply s_pure hF); exact rfl; exact rfl; exact rfl; (first | exact trivial | omega | exact ⟨Int.natCast_nonneg _, Int.ofNat_lt.2 (by assumption)⟩ | decide); clear hF a; intro a hF)))
  by_cases hlq : ps.length = qs.length
  case neg =>
    rw [decide_eq_false (fun h => hlq (by have := congrArg List.length h; rw [tms_len, tms_len] at this; exact this))]
    (repeat' (first | (with_reducible refine w_seq ?_) | (with_reducible refine c_region ?_) | (with_reducible refine s_nil ?_) | (with_reducible refine q_then_n ?_) | ((with_reducible apply s_pure hF); exact rfl; exact rfl; exact rfl; (first | exact trivial | omega | exact ⟨Int.natCast_nonneg _, Int.ofNat_lt.2 (by assumption)⟩ | decide); clear hF a; intro a hF) | (with_reducible refine w_ret ?_) | (with_reducible refine q_then_r ?_) | ((with_reducible apply c_dec hF); exact rfl; all_goals intro hc; all_goals (try (exfalso; omega)))))
    (apply f_ret Try.results17 hF hM; (repeat (first | exact RL.nil | (apply RL.tmp; exact rfl) | (apply RL.cell; exact rfl; (repeat (first | exact List.mem_cons_self | refine List.mem_cons_of_mem _ ?_)); exact rfl))); refine Ret.mk hM.since ?_; dsimp only [resV])
  (repeat' (first | (with_reducible refine w_seq ?_) | (with_reducible refine c_region ?_) | (with_reducible refine s_nil ?_) | (with_reducible refine q_then_n ?_) | ((with_reducible apply s_pure hF); exact rfl; exact rfl; exact rfl; (first | exact trivial | omega | exact ⟨Int.natCast_nonneg _, Int.ofNat_lt.2 (by assumption)⟩ | decide); clear hF a; intro a hF) | (with_reducible refine w_skip ?_) | (with_reducible refine w_block ?_) | ((with_reducible apply c_dec hF); exact rfl; all_goals intro hc; all_goals (try (exfalso; omega)))))
  refine c_loop (m := ps.length) (fun m a w' => ∃ k : Nat, m + k = ps.length ∧ (tms ps).take k = (tms qs).take k ∧
    Fr 55 [] [(5, .int .i64 k), (0, .slice a1 ps.length c1), (1, .slice a2 qs.length c2)] a ∧
    Mm own W [] [] [RdF id a1 (ps.map tkC).flatten, DatF (tP ps), RdF id a2 (qs.map tkC).flatten, DatF (tP qs)] w') ⟨0, by omega, by simp, hF.sub (by repeat (first | exact Sub.nil | refine Sub.cons rfl (by first | with_reducible rfl | (refine congrArg (Value.int _) ?_; omega) | exact rfl) ?_)), hM⟩ ?_
  clear hF hM a
  rintro m a w' ⟨k, hm, hk0, hF, hM⟩
  by_cases hk : k < ps.length
  · obtain ⟨p, hp⟩ := get_of_lt hk
    obtain ⟨q, hq⟩ := get_of_lt (l := qs) (i := k) (by omega)
    have hpm := List.mem_of_getElem? hp
    have hqm := List.mem_of_getElem? hq
    obtain ⟨hc0, hc1, hc2⟩ := cellsT_get hp
    obtain ⟨hd0, hd1, hd2⟩ := cellsT_get hq
    obtain ⟨ad1, rfl⟩ : ∃ ad, a1 = some ad := rd_some hM (enc := id) (a := a1) (xs := (ps.map tkC).flatten) (by (repeat (first | exact List.mem_cons_self | refine List.mem_cons_of_mem _ ?_))) hc0
    obtain ⟨ad2, rfl⟩ : ∃ ad, a2 = some ad := rd_some hM (enc := id) (a := a2) (xs := (qs.map tkC).flatten) (by (repeat (first | exact List.mem_cons_self | refine List.mem_cons_of_mem _ ?_))) hd0
    have hp8 := (hpw ((⟨p.1.d, p.1.x⟩ : Itm), p.2) (List.mem_map.2 ⟨p, hpm, rfl⟩)).1
    have hq8 := (hqw ((⟨q.1.d, q.1.x⟩ : Itm), q.2) (List.mem_map.2 ⟨q, hqm, rfl⟩)).1
    have hpr := dat_one (hM.facts (DatF (tP ps)) (by (repeat (first | with_reducible exact List.mem_cons_self | refine List.mem_cons_of_mem _ ?_)))) (p := ((⟨p.1.d, p.1.x⟩ : Itm), p.2)) (List.mem_map.2 ⟨p, hpm, rfl⟩)
    have hqr := dat_one (hM.facts (DatF (tP qs)) (by (repeat (first | with_reducible exact List.mem_cons_self | refine List.mem_cons_of_mem _ ?_)))) (p := ((⟨q.1.d, q.1.x⟩ : Itm), q.2)) (List.mem_map.2 ⟨q, hqm, rfl⟩)
    have hpl := hpx p hpm
    have hkk : (tms ps).take (k + 1) = (tms qs).take (k + 1) ↔ p.1 = q.1 := by
      rw [take_snoc (tms_get hp), take_snoc (tms_get hq), hk0]
      simp
    have hne : p.1 ≠ q.1 → decide (tms ps = tms qs) = false := fun h => decide_eq_false fun e => h (hkk.1 (by rw [e]))
    obtain ⟨⟨r1, d1, x1⟩, y1, z1⟩ := p
    obtain ⟨⟨r2, d2, x2⟩, y2, z2⟩ := q
    dsimp only at hc0 hc1 hc2 hd0 hd1 hd2 hp8 hq8 hpr hqr hpl hkk hne
    replace hM := (hM.addFact hpr).addFact hqr
    by_cases hr : r1 = r2
    case neg =>
      have hrb : decide (r1 ≠ r2) = true := decide_eq_true hr
      rw [hne (fun e => hr (by injection e))]
      (repeat' (first | (with_reducible refine w_seq ?_) | (with_reducible refine c_region ?_) | (with_reducible refine s_nil ?_) | (with_reducible refine q_then_n ?_) | ((with_reducible apply s_pure hF); exact rfl; exact rfl; exact rfl; (first | exact trivial | omega | exact ⟨Int.natCast_nonneg _, Int.ofNat_lt.2 (by assumption)⟩ | decide); clear hF a; intro a hF) | (with_reducible refine w_skip ?_) | (with_reducible refine w_block ?_) | ((with_reducible apply c_dec hF); exact rfl; all_goals intro hc; all_goals (try (exfalso; omega)))))
      refine c_draw (fun i => Nat.ble 38 i) hM ?_; clear hM; intro w hM
      (first | (refine t_pure (i := 0) hF rfl rfl rfl rfl (by kernel_rfl) hM.sm (fun _ _ _ h => h) ?_ ?_; (first | exact trivial | omega | decide); clear hF a; intro a hF))
      (first | (refine t_pure (i := 1) hF rfl rfl rfl rfl (by kernel_rfl) hM.sm (fun _ _ _ h => h) ?_ ?_; (first | exact trivial | omega | decide); clear hF a; intro a hF))
      (first | (refine t_pure (i := 2) hF rfl rfl rfl rfl (by kernel_rfl) hM.sm (fun _ _ _ h => h) ?_ ?_; (first | exact trivial | omega | decide); clear hF a; intro a hF))
      (first | (apply t_fieldA (i := 3) hF rfl rfl rfl rfl rfl; kernel_rfl; exact hM.sm; exact (fun _ _ _ h => h); clear hF a; intro a hF))
      (first | (apply t_loadP (i := 4) hF rfl rfl rfl; (repeat (first | exact List.mem_cons_self | refine List.mem_cons_of_mem _ ?_)); (first | with_reducible assumption | (simp only [Int.toNat_natCast]; with_reducible assumption)); exact rfl; exact rfl; kernel_rfl; exact hM.sm; exact (fun _ _ _ h => h); clear hF a; intro a hF))
      (first | (refine t_pure (i := 5) hF rfl rfl rfl rfl (by kernel_rfl) hM.sm (fun _ _ _ h => h) ?_ ?_; (first | exact trivial | omega | decide); clear hF a; intro a hF))
      (first | (refine t_pure (i := 6) hF rfl rfl rfl rfl (by kernel_rfl) hM.sm (fun _ _ _ h => h) ?_ ?_; (first | exact trivial | omega | decide); clear hF a; intro a hF))
      (first | (refine t_pure (i := 7) hF rfl rfl rfl rfl (by kernel_rfl) hM.sm (fun _ _ _ h => h) ?_ ?_; (first | exact trivial | omega | decide); clear hF a; intro a hF))
      (first | (apply t_fieldA (i := 8) hF rfl rfl rfl rfl rfl; kernel_rfl; exact hM.sm; exact (fun _ _ _ h => h); clear hF a; intro a hF))
      (first | (apply t_loadP (i := 9) hF rfl rfl rfl; (repeat (first | exact List.mem_cons_self | refine List.mem_cons_of_mem _ ?_)); (first | with_reducible assumption | (simp only [Int.toNat_natCast]; with_reducible assumption)); exact rfl; exact rfl; kernel_rfl; exact hM.sm; exact (fun _ _ _ h => h); clear hF a; intro a hF))
      (first | (apply t_neB (i := 10) hF rfl rfl rfl rfl; kernel_rfl; kernel_rfl; exact rfl; kernel_rfl; exact hM.sm; exact (fun _ _ _ h => h); clear hF a; intro a hF))
      rw [hrb] at hF
      (first | (refine t_pure (i := 11) hF rfl rfl rfl rfl (by kernel_rfl) (hM.sm.sub (fun x hx => by repeat (first | exact hx | refine List.mem_cons_of_mem _ ?_)) (fun _ h => by repeat (first | exact h | refine List.mem_cons_of_mem _ ?_))) (fun _ _ _ h => h) ?_ ?_; (first | exact trivial | omega | decide); clear hF a; intro a hF))
      (first | (refine t_skip (i := 12) hF rfl rfl rfl (by kernel_rfl) (hM.sm.sub (fun x hx => by repeat (first | exact hx | refine List.mem_cons_of_mem _ ?_)) (fun _ h => by repeat (first | exact h | refine List.mem_cons_of_mem _ ?_))) (fun _ _ _ h => h) ?_; clear hF a; intro a hF))
      (first | (refine t_skip (i := 13) hF rfl rfl rfl (by kernel_rfl) (hM.sm.sub (fun x hx => by repeat (first | exact hx | refine List.mem_cons_of_mem _ ?_)) (fun _ h => by repeat (first | exact h | refine List.mem_cons_of_mem _ ?_))) (fun _ _ _ h => h) ?_; clear hF a; intro a hF))
      (first | (refine t_skip (i := 14) hF rfl rfl rfl (by kernel_rfl) (hM.sm.sub (fun x hx => by repeat (first | exact hx | refine List.mem_cons_of_mem _ ?_)) (fun _ h => by repeat (first | exact h | refine List.mem_cons_of_mem _ ?_))) (fun _ _ _ h => h) ?_; clear hF a; intro a hF))
      (first | (refine t_skip (i := 15) hF rfl rfl rfl (by kernel_rfl) (hM.sm.sub (fun x hx => by repeat (first | exact hx | refine List.mem_cons_of_mem _ ?_)) (fun _ h => by repeat (first | exact h | refine List.mem_cons_of_mem _ ?_))) (fun _ _ _ h => h) ?_; clear hF a; intro a hF))
      (first | (refine t_skip (i := 16) hF rfl rfl rfl (by kernel_rfl) (hM.sm.sub (fun x hx => by repeat (first | exact hx | refine List.mem_cons_of_mem _ ?_)) (fun _ h => by repeat (first | exact h | refine List.mem_cons_of_mem _ ?_))) (fun _ _ _ h => h) ?_; clear hF a; intro a hF))
      (first | (refine t_skip (i := 17) hF rfl rfl rfl (by kernel_rfl) (hM.sm.sub (fun x hx => by repeat (first | exact hx | refine List.mem_cons_of_mem _ ?_)) (fun _ h => by repeat (first | exact h | refine List.mem_cons_of_mem _ ?_))) (fun _ _ _ h => h) ?_; clear hF a; intro a hF))
      (first | (refine t_skip (i := 18) hF rfl rfl rfl (by kernel_rfl) (hM.sm.sub (fun x hx => by repeat (first | exact hx | refine List.mem_cons_of_mem _ ?_)) (fun _ h => by repeat (first | exact h | refine List.mem_cons_of_mem _ ?_))) (fun _ _ _ h => h) ?_; clear hF a; intro a hF))
      (first | (refine t_skip (i := 19) hF rfl rfl rfl (by kernel_rfl) (hM.sm.sub (fun x hx => by repeat (first | exact hx | refine List.mem_cons_of_mem _ ?_)) (fun _ h => by repeat (first | exact h | refine List.mem_cons_of_mem _ ?_))) (fun _ _ _ h => h) ?_; clear hF a; intro a hF))
      (first | (refine t_skip (i := 20) hF rfl rfl rfl (by kernel_rfl) (hM.sm.sub (fun x hx => by repeat (first | exact hx | refine List.mem_cons_of_mem _ ?_)) (fun _ h => by repeat (first | exact h | refine List.mem_cons_of_mem _ ?_))) (fun _ _ _ h => h) ?_; clear hF a; intro a hF))
      (first | (refine t_skip (i := 21) hF rfl rfl rfl (by kernel_rfl) (hM.sm.sub (fun x hx => by repeat (first | exact hx | refine List.mem_cons_of_mem _ ?_)) (fun _ h => by repeat (first | exact h | refine List.mem_cons_of_mem _ ?_))) (fun _ _ _ h => h) ?_; clear hF a; intro a hF))
      (first | (refine t_skip (i := 22) hF rfl rfl rfl (by kernel_rfl) (hM.sm.sub (fun x hx => by repeat (first | exact hx | refine List.mem_cons_of_mem _ ?_)) (fun _ h => by repeat (first | exact h | refine List.mem_cons_of_mem _ ?_))) (fun _ _ _ h => h) ?_; clear hF a; intro a hF))
      (first | (refine t_pure (i := 23) hF rfl rfl rfl rfl (by kernel_rfl) (hM.sm.sub (fun x hx => by repeat (first | exact hx | refine List.mem_cons_of_mem _ ?_)) (fun _ h => by repeat (first | exact h | refine List.mem_cons_of_mem _ ?_))) (fun _ _ _ h => h) ?_ ?_; (first | exact trivial | omega | decide); clear hF a; intro a hF))
      (first | (refine t_pure (i := 24) hF rfl rfl rfl rfl (by kernel_rfl) (hM.sm.sub (fun x hx => by repeat (first | exact hx | refine List.mem_cons_of_mem _ ?_)) (fun _ h => by repeat (first | exact h | refine List.mem_cons_of_mem _ ?_))) (fun _ _ _ h => h) ?_ ?_; (first | exact trivial | omega | decide); clear hF a; intro a hF))
      (first | (refine t_skip (i := 25) hF rfl rfl rfl (by kernel_rfl) (hM.sm.sub (fun x hx => by repeat (first | exact hx | refine List.mem_cons_of_mem _ ?_)) (fun _ h => by repeat (first | exact h | refine List.mem_cons_of_mem _ ?_))) (fun _ _ _ h => h) ?_; clear hF a; intro a hF))
      (first | (refine t_skip (i := 26) hF rfl rfl rfl (by kernel_rfl) (hM.sm.sub (fun x hx => by repeat (first | exact hx | refine List.mem_cons_of_mem _ ?_)) (fun _ h => by repeat (first | exact h | refine List.mem_cons_of_mem _ ?_))) (fun _ _ _ h => h) ?_; clear hF a; intro a hF))
      (first | (refine t_skip (i := 27) hF rfl rfl rfl (by kernel_rfl) (hM.sm.sub (fun x hx => by repeat (first | exact hx | refine List.mem_cons_of_mem _ ?_)) (fun _ h => by repeat (first | exact h | refine List.mem_cons_of_mem _ ?_))) (fun _ _ _ h => h) ?_; clear hF a; intro a hF))
      (first | (refine t_skip (i := 28) hF rfl rfl rfl (by kernel_rfl) (hM.sm.sub (fun x hx => by repeat (first | exact hx | refine List.mem_cons_of_mem _ ?_)) (fun _ h => by repeat (first | exact h | refine List.mem_cons_of_mem _ ?_))) (fun _ _ _ h => h) ?_; clear hF a; intro a hF))
      (first | (refine t_skip (i := 29) hF rfl rfl rfl (by kernel_rfl) (hM.sm.sub (fun x hx => by repeat (first | exact hx | refine List.mem_cons_of_mem _ ?_)) (fun _ h => by repeat (first | exact h | refine List.mem_cons_of_mem _ ?_))) (fun _ _ _ h => h) ?_; clear hF a; intro a hF))
      (first | (refine t_skip (i := 30) hF rfl rfl rfl (by kernel_rfl) (hM.sm.sub (fun x hx => by repeat (first | exact hx | refine List.mem_cons_of_mem _ ?_)) (fun _ h => by repeat (first | exact h | refine List.mem_cons_of_mem _ ?_))) (fun _ _ _ h => h) ?_; clear hF a; intro a hF))
      (first | (refine t_skip (i := 31) hF rfl rfl rfl (by kernel_rfl) (hM.sm.sub (fun x hx => by repeat (first | exact hx | refine List.mem_cons_of_mem _ ?_)) (fun _ h => by repeat (first | exact h | refine List.mem_cons_of_mem _ ?_))) (fun _ _ _ h => h) ?_; clear hF a; intro a hF))
      (first | (refine t_skip (i := 32) hF rfl rfl rfl (by kernel_rfl) (hM.sm.sub (fun x hx => by repeat (first | exact hx | refine List.mem_cons_of_mem _ ?_)) (fun _ h => by repeat (first | exact h | refine List.mem_cons_of_mem _ ?_))) (fun _ _ _ h => h) ?_; clear hF a; intro a hF))
      (first | (refine t_skip (i := 33) hF rfl rfl rfl (by kernel_rfl) (hM.sm.sub (fun x hx => by repeat (first | exact hx | refine List.mem_cons_of_mem _ ?_)) (fun _ h => by repeat (first | exact h | refine List.mem_cons_of_mem _ ?_))) (fun _ _ _ h => h) ?_; clear hF a; intro a hF))
      (first | (refine t_skip (i := 34) hF rfl rfl rfl (by kernel_rfl) (hM.sm.sub (fun x hx => by repeat (first | exact hx | refine List.mem_cons_of_mem _ ?_)) (fun _ h => by repeat (first | exact h | refine List.mem_cons_of_mem _ ?_))) (fun _ _ _ h => h) ?_; clear hF a; intro a hF))
      (refine t_skip (i := 35) hF rfl rfl rfl (by kernel_rfl) (hM.sm.sub (fun x hx => by repeat (first | exact hx | refine List.mem_cons_of_mem _ ?_)) (fun _ h => by repeat (first | exact h | refine List.mem_cons_of_mem _ ?_))) (fun _ _ _ h => h) ?_; clear hF a; intro a hF)
      (first | (refine t_skip (i := 36) hF rfl rfl rfl (by kernel_rfl) (hM.sm.sub (fun x hx => by repeat (first | exact hx | refine List.mem_cons_of_mem _ ?_)) (fun _ h => by repeat (first | exact h | refine List.mem_cons_of_mem _ ?_))) (fun _ _ _ h => h) ?_; clear hF a; intro a hF))
      (first | (refine t_pure (i := 37) hF rfl rfl rfl rfl (by kernel_rfl) (hM.sm.sub (fun x hx => by repeat (first | exact hx | refine List.mem_cons_of_mem _ ?_)) (fun _ h => by repeat (first | exact h | refine List.mem_cons_of_mem _ ?_))) (fun _ _ _ h => h) ?_ ?_; (first | exact trivial | omega | decide); clear hF a; intro a hF))
      refine t_done (by kernel_rfl) ?_
      (repeat' (first | (with_reducible refine w_seq ?_) | (with_reducible refine c_region ?_) | (with_reducible refine s_nil ?_) | (with_reducible refine q_then_n ?_) | ((with_reducible apply s_pure hF); exact rfl; exact rfl; exact rfl; (first | exact trivial | omega | exact ⟨Int.natCast_nonneg _, Int.ofNat_lt.2 (by assumption)⟩ | decide); clear hF a; intro a hF) | (with_reducible refine w_ret ?_) | (with_reducible refine q_then_r ?_) | (with_reducible refine q_blk_r ?_) | ((with_reducible apply c_true2 hF); exact rfl; (first | with_reducible rfl | (refine congrArg Value.bool ?_; focus (simp; done))))))
      (apply f_ret Try.results17 hF hM; (repeat (first | exact RL.nil | (apply RL.tmp; exact rfl) | (apply RL.cell; exact rfl; (repeat (first | exact List.mem_cons_self | refine List.mem_cons_of_mem _ ?_)); exact rfl))); refine Ret.mk hM.since ?_; dsimp only [resV])
    have hrb : decide (r1 ≠ r2) = false := decide_eq_false fun h => h hr
    by_cases hd : d1 = d2
    case neg =>
      rw [hne (fun e => hd (by injection e))]
      (repeat' (first | (with_reducible refine w_seq ?_) | (with_reducible refine c_region ?_) | (with_reducible refine s_nil ?_) | (with_reducible refine q_then_n ?_) | ((with_reducible apply s_pure hF); exact rfl; exact rfl; exact rfl; (first | exact trivial | omega | exact ⟨Int.natCast_nonneg _, Int.ofNat_lt.2 (by assumption)⟩ | decide); clear hF a; intro a hF) | (with_reducible refine w_skip ?_) | (with_reducible refine w_block ?_) | ((with_reducible apply c_dec hF); exact rfl; all_goals intro hc; all_goals (try (exfalso; omega)))))
      refine c_draw (fun i => Nat.ble 38 i) hM ?_; clear hM; intro w hM
      (first | (refine t_pure (i := 0) hF rfl rfl rfl rfl (by kernel_rfl) hM.sm (fun _ _ _ h => h) ?_ ?_; (first | exact trivial | omega | decide); clear hF a; intro a hF))
      (first | (refine t_pure (i := 1) hF rfl rfl rfl rfl (by kernel_rfl) hM.sm (fun _ _ _ h => h) ?_ ?_; (first | exact trivial | omega | decide); clear hF a; intro a hF))
      (first | (refine t_pure (i := 2) hF rfl rfl rfl rfl (by kernel_rfl) hM.sm (fun _ _ _ h => h) ?_ ?_; (first | exact trivial | omega | decide); clear hF a; intro a hF))
      (first | (apply t_fieldA (i := 3) hF rfl rfl rfl rfl rfl; kernel_rfl; exact hM.sm; exact (fun _ _ _ h => h); clear hF a; intro a hF))
      (first | (apply t_loadP (i := 4) hF rfl rfl rfl; (repeat (first | exact List.mem_cons_self | refine List.mem_cons_of_mem _ ?_)); (first | with_reducible assumption | (simp only [Int.toNat_natCast]; with_reducible assumption)); exact rfl; exact rfl; kernel_rfl; exact hM.sm; exact (fun _ _ _ h => h); clear hF a; intro a hF))
      (first | (refine t_pure (i := 5) hF rfl rfl rfl rfl (by kernel_rfl) hM.sm (fun _ _ _ h => h) ?_ ?_; (first | exact trivial | omega | decide); clear hF a; intro a hF))
      (first | (refine t_pure (i := 6) hF rfl rfl rfl rfl (by kernel_rfl) hM.sm (fun _ _ _ h => h) ?_ ?_; (first | exact trivial | omega | decide); clear hF a; intro a hF))
      (first | (refine t_pure (i := 7) hF rfl rfl rfl rfl (by kernel_rfl) hM.sm (fun _ _ _ h => h) ?_ ?_; (first | exact trivial | omega | decide); clear hF a; intro a hF))
      (first | (apply t_fieldA (i := 8) hF rfl rfl rfl rfl rfl; kernel_rfl; exact hM.sm; exact (fun _ _ _ h => h); clear hF a; intro a hF))
      (first | (apply t_loadP (i := 9) hF rfl rfl rfl; (repeat (first | exact List.mem_cons_self | refine List.mem_cons_of_mem _ ?_)); (first | with_reducible assumption | (simp only [Int.toNat_natCast]; with_reducible assumption)); exact rfl; exact rfl; kernel_rfl; exact hM.sm; exact (fun _ _ _ h => h); clear hF a; intro a hF))
      (first | (apply t_neB (i := 10) hF rfl rfl rfl rfl; kernel_rfl; kernel_rfl; exact rfl; kernel_rfl; exact hM.sm; exact (fun _ _ _ h => h); clear hF a; intro a hF))
      rw [hrb] at hF
      (first | (refine t_pure (i := 11) hF rfl rfl rfl rfl (by kernel_rfl) (hM.sm.sub (fun x hx => by repeat (first | exact hx | refine List.mem_cons_of_mem _ ?_)) (fun _ h => by repeat (first | exact h | refine List.mem_cons_of_mem _ ?_))) (fun _ _ _ h => h) ?_ ?_; (first | exact trivial | omega | decide); clear hF a; intro a hF))
      (first | (refine t_pure (i := 12) hF rfl rfl rfl rfl (by kernel_rfl) (hM.sm.sub (fun x hx => by repeat (first | exact hx | refine List.mem_cons_of_mem _ ?_)) (fun _ h => by repeat (first | exact h | refine List.mem_cons_of_mem _ ?_))) (fun _ _ _ h => h) ?_ ?_; (first | exact trivial | omega | decide); clear hF a; intro a hF))
      (first | (refine t_pure (i := 13) hF rfl rfl rfl rfl (by kernel_rfl) (hM.sm.sub (fun x hx => by repeat (first | exact hx | refine List.mem_cons_of_mem _ ?_)) (fun _ h => by repeat (first | exact h | refine List.mem_cons_of_mem _ ?_))) (fun _ _ _ h => h) ?_ ?_; (first | exact trivial | omega | decide); clear hF a; intro a hF))
      (first | (refine t_pure (i := 14) hF rfl rfl rfl rfl (by kernel_rfl) (hM.sm.sub (fun x hx => by repeat (first | exact hx | refine List.mem_cons_of_mem _ ?_)) (fun _ h => by repeat (first | exact h | refine List.mem_cons_of_mem _ ?_))) (fun _ _ _ h => h) ?_ ?_; (first | exact trivial | omega | decide); clear hF a; intro a hF))
      (first | (apply t_fieldA (i := 15) hF rfl rfl rfl rfl rfl; kernel_rfl; exact (hM.sm.sub (fun x hx => by repeat (first | exact hx | refine List.mem_cons_of_mem _ ?_)) (fun _ h => by repeat (first | exact h | refine List.mem_cons_of_mem _ ?_))); exact (fun _ _ _ h => h); clear hF a; intro a hF))
      (first | (apply t_loadP (i := 16) hF rfl rfl rfl; (repeat (first | exact List.mem_cons_self | refine List.mem_cons_of_mem _ ?_)); (first | with_reducible assumption | (simp only [Int.toNat_natCast]; with_reducible assumption)); exact rfl; exact rfl; kernel_rfl; exact (hM.sm.sub (fun x hx => by repeat (first | exact hx | refine List.mem_cons_of_mem _ ?_)) (fun _ h => by repeat (first | exact h | refine List.mem_cons_of_mem _ ?_))); exact (fun _ _ _ h => h); clear hF a; intro a hF))
      (first | (refine t_pure (i := 17) hF rfl rfl rfl rfl (by kernel_rfl) (hM.sm.sub (fun x hx => by repeat (first | exact hx | refine List.mem_cons_of_mem _ ?_)) (fun _ h => by repeat (first | exact h | refine List.mem_cons_of_mem _ ?_))) (fun _ _ _ h => h) ?_ ?_; (first | exact trivial | omega | decide); clear hF a; intro a hF))
      (first | (refine t_pure (i := 18) hF rfl rfl rfl rfl (by kernel_rfl) (hM.sm.sub (fun x hx => by repeat (first | exact hx | refine List.mem_cons_of_mem _ ?_)) (fun _ h => by repeat (first | exact h | refine List.mem_cons_of_mem _ ?_))) (fun _ _ _ h => h) ?_ ?_; (first | exact trivial | omega | decide); clear hF a; intro a hF))
      (first | (refine t_pure (i := 19) hF rfl rfl rfl rfl (by kernel_rfl) (hM.sm.sub (fun x hx => by repeat (first | exact hx | refine List.mem_cons_of_mem _ ?_)) (fun _ h => by repeat (first | exact h | refine List.mem_cons_of_mem _ ?_))) (fun _ _ _ h => h) ?_ ?_; (first | exact trivial | omega | decide); clear hF a; intro a hF))
      (first | (apply t_fieldA (i := 20) hF rfl rfl rfl rfl rfl; kernel_rfl; exact (hM.sm.sub (fun x hx => by repeat (first | exact hx | refine List.mem_cons_of_mem _ ?_)) (fun _ h => by repeat (first | exact h | refine List.mem_cons_of_mem _ ?_))); exact (fun _ _ _ h => h); clear hF a; intro a hF))
      (first | (apply t_loadP (i := 21) hF rfl rfl rfl; (repeat (first | exact List.mem_cons_self | refine List.mem_cons_of_mem _ ?_)); (first | with_reducible assumption | (simp only [Int.toNat_natCast]; with_reducible assumption)); exact rfl; exact rfl; kernel_rfl; exact (hM.sm.sub (fun x hx => by repeat (first | exact hx | refine List.mem_cons_of_mem _ ?_)) (fun _ h => by repeat (first | exact h | refine List.mem_cons_of_mem _ ?_))); exact (fun _ _ _ h => h); clear hF a; intro a hF))
      (first | (refine t_pure (i := 22) hF rfl rfl rfl rfl (by kernel_rfl) (hM.sm.sub (fun x hx => by repeat (first | exact hx | refine List.mem_cons_of_mem _ ?_)) (fun _ h => by repeat (first | exact h | refine List.mem_cons_of_mem _ ?_))) (fun _ _ _ h => h) ?_ ?_; (first | exact trivial | omega | decide); clear hF a; intro a hF))
      rw [decide_eq_true hd] at hF
      (first | (refine t_pure (i := 23) hF rfl rfl rfl rfl (by kernel_rfl) (hM.sm.sub (fun x hx => by repeat (first | exact hx | refine List.mem_cons_of_mem _ ?_)) (fun _ h => by repeat (first | exact h | refine List.mem_cons_of_mem _ ?_))) (fun _ _ _ h => h) ?_ ?_; (first | exact trivial | omega | decide); clear hF a; intro a hF))
      (first | (refine t_pure (i := 24) hF rfl rfl rfl rfl (by kernel_rfl) (hM.sm.sub (fun x hx => by repeat (first | exact hx | refine List.mem_cons_of_mem _ ?_)) (fun _ h => by repeat (first | exact h | refine List.mem_cons_of_mem _ ?_))) (fun _ _ _ h => h) ?_ ?_; (first | exact trivial | omega | decide); clear hF a; intro a hF))
      (first | (refine t_skip (i := 25) hF rfl rfl rfl (by kernel_rfl) (hM.sm.sub (fun x hx => by repeat (first | exact hx | refine List.mem_cons_of_mem _ ?_)) (fun _ h => by repeat (first | exact h | refine List.mem_cons_of_mem _ ?_))) (fun _ _ _ h => h) ?_; clear hF a; intro a hF))
      (first | (refine t_skip (i := 26) hF rfl rfl rfl (by kernel_rfl) (hM.sm.sub (fun x hx => by repeat (first | exact hx | refine List.mem_cons_of_mem _ ?_)) (fun _ h => by repeat (first | exact h | refine List.mem_cons_of_mem _ ?_))) (fun _ _ _ h => h) ?_; clear hF a; intro a hF))
      (first | (refine t_skip (i := 27) hF rfl rfl rfl (by kernel_rfl) (hM.sm.sub (fun x hx => by repeat (first | exact hx | refine List.mem_cons_of_mem _ ?_)) (fun _ h => by repeat (first | exact h | refine List.mem_cons_of_mem _ ?_))) (fun _ _ _ h => h) ?_; clear hF a; intro a hF))
      (first | (refine t_skip (i := 28) hF rfl rfl rfl (by kernel_rfl) (hM.sm.sub (fun x hx => by repeat (first | exact hx | refine List.mem_cons_of_mem _ ?_)) (fun _ h => by repeat (first | exact h | refine List.mem_cons_of_mem _ ?_))) (fun _ _ _ h => h) ?_; clear hF a; intro a hF))
      (first | (refine t_skip (i := 29) hF rfl rfl rfl (by kernel_rfl) (hM.sm.sub (fun x hx => by repeat (first | exact hx | refine List.mem_cons_of_mem _ ?_)) (fun _ h => by repeat (first | exact h | refine List.mem_cons_of_mem _ ?_))) (fun _ _ _ h => h) ?_; clear hF a; intro a hF))
      (first | (refine t_skip (i := 30) hF rfl rfl rfl (by kernel_rfl) (hM.sm.sub (fun x hx => by repeat (first | exact hx | refine List.mem_cons_of_mem _ ?_)) (fun _ h => by repeat (first | exact h | refine List.mem_cons_of_mem _ ?_))) (fun _ _ _ h => h) ?_; clear hF a; intro a hF))
      (first | (refine t_skip (i := 31) hF rfl rfl rfl (by kernel_rfl) (hM.sm.sub (fun x hx => by repeat (first | exact hx | refine List.mem_cons_of_mem _ ?_)) (fun _ h => by repeat (first | exact h | refine List.mem_cons_of_mem _ ?_))) (fun _ _ _ h => h) ?_; clear hF a; intro a hF))
      (first | (refine t_skip (i := 32) hF rfl rfl rfl (by kernel_rfl) (hM.sm.sub (fun x hx => by repeat (first | exact hx | refine List.mem_cons_of_mem _ ?_)) (fun _ h => by repeat (first | exact h | refine List.mem_cons_of_mem _ ?_))) (fun _ _ _ h => h) ?_; clear hF a; intro a hF))
      (first | (refine t_skip (i := 33) hF rfl rfl rfl (by kernel_rfl) (hM.sm.sub (fun x hx => by repeat (first | exact hx | refine List.mem_cons_of_mem _ ?_)) (fun _ h => by repeat (first | exact h | refine List.mem_cons_of_mem _ ?_))) (fun _ _ _ h => h) ?_; clear hF a; intro a hF))
      (first | (refine t_skip (i := 34) hF rfl rfl rfl (by kernel_rfl) (hM.sm.sub (fun x hx => by repeat (first | exact hx | refine List.mem_cons_of_mem _ ?_)) (fun _ h => by repeat (first | exact h | refine List.mem_cons_of_mem _ ?_))) (fun _ _ _ h => h) ?_; clear hF a; intro a hF))
      (refine t_skip (i := 35) hF rfl rfl rfl (by kernel_rfl) (hM.sm.sub (fun x hx => by repeat (first | exact hx | refine List.mem_cons_of_mem _ ?_)) (fun _ h => by repeat (first | exact h | refine List.mem_cons_of_mem _ ?_))) (fun _ _ _ h => h) ?_; clear hF a; intro a hF)
      (first | (refine t_skip (i := 36) hF rfl rfl rfl (by kernel_rfl) (hM.sm.sub (fun x hx => by repeat (first | exact hx | refine List.mem_cons_of_mem _ ?_)) (fun _ h => by repeat (first | exact h | refine List.mem_cons_of_mem _ ?_))) (fun _ _ _ h => h) ?_; clear hF a; intro a hF))
      (first | (refine t_pure (i := 37) hF rfl rfl rfl rfl (by kernel_rfl) (hM.sm.sub (fun x hx => by repeat (first | exact hx | refine List.mem_cons_of_mem _ ?_)) (fun _ h => by repeat (first | exact h | refine List.mem_cons_of_mem _ ?_))) (fun _ _ _ h => h) ?_ ?_; (first | exact trivial | omega | decide); clear hF a; intro a hF))
      refine t_done (by kernel_rfl) ?_
      (repeat' (first | (with_reducible refine w_seq ?_) | (with_reducible refine c_region ?_) | (with_reducible refine s_nil ?_) | (with_reducible refine q_then_n ?_) | ((with_reducible apply s_pure hF); exact rfl; exact rfl; exact rfl; (first | exact trivial | omega | exact ⟨Int.natCast_nonneg _, Int.ofNat_lt.2 (by assumption)⟩ | decide); clear hF a; intro a hF) | (with_reducible refine w_ret ?_) | (with_reducible refine q_then_r ?_) | (with_reducible refine q_blk_r ?_) | ((with_reducible apply c_true2 hF); exact rfl; (first | with_reducible rfl | (refine congrArg Value.bool ?_; focus (simp; done))))))
      (apply f_ret Try.results17 hF hM; (repeat (first | exact RL.nil | (apply RL.tmp; exact rfl) | (apply RL.cell; exact rfl; (repeat (first | exact List.mem_cons_self | refine List.mem_cons_of_mem _ ?_)); exact rfl))); refine Ret.mk hM.since ?_; dsimp only [resV])
    have hdd : decide (¬ d1 = d2) = false := decide_eq_false fun h => h hd
    by_cases hx : x1 = x2
    · (repeat' (first | (with_reducible refine w_seq ?_) | (with_reducible refine c_region ?_) | (with_reducible refine s_nil ?_) | (with_reducible refine q_then_n ?_) | ((with_reducible apply s_pure hF); exact rfl; exact rfl; exact rfl; (first | exact trivial | omega | exact ⟨Int.natCast_nonneg _, Int.ofNat_lt.2 (by assumption)⟩ | decide); clear hF a; intro a hF) | (with_reducible refine w_skip ?_) | (with_reducible refine w_block ?_) | ((with_reducible apply c_dec hF); exact rfl; all_goals intro hc; all_goals (try (exfalso; omega)))))
      refine c_draw (fun i => Nat.ble 38 i) hM ?_; clear hM; intro w hM
      (first | (refine t_pure (i := 0) hF rfl rfl rfl rfl (by kernel_rfl) hM.sm (fun _ _ _ h => h) ?_ ?_; (first | exact trivial | omega | decide); clear hF a; intro a hF))
      (first | (refine t_pure (i := 1) hF rfl rfl rfl rfl (by kernel_rfl) hM.sm (fun _ _ _ h => h) ?_ ?_; (first | exact trivial | omega | decide); clear hF a; intro a hF))
      (first | (refine t_pure (i := 2) hF rfl rfl rfl rfl (by kernel_rfl) hM.sm (fun _ _ _ h => h) ?_ ?_; (first | exact trivial | omega | decide); clear hF a; intro a hF))
      (first | (apply t_fieldA (i := 3) hF rfl rfl rfl rfl rfl; kernel_rfl; exact hM.sm; exact (fun _ _ _ h => h); clear hF a; intro a hF))
      (first | (apply t_loadP (i := 4) hF rfl rfl rfl; (repeat (first | exact List.mem_cons_self | refine List.mem_cons_of_mem _ ?_)); (first | with_reducible assumption | (simp only [Int.toNat_natCast]; with_reducible assumption)); exact rfl; exact rfl; kernel_rfl; exact hM.sm; exact (fun _ _ _ h => h); clear hF a; intro a hF))
      (first | (refine t_pure (i := 5) hF rfl rfl rfl rfl (by kernel_rfl) hM.sm (fun _ _ _ h => h) ?_ ?_; (first | exact trivial | omega | decide); clear hF a; intro a hF))
      (first | (refine t_pure (i := 6) hF rfl rfl rfl rfl (by kernel_rfl) hM.sm (fun _ _ _ h => h) ?_ ?_; (first | exact trivial | omega | decide); clear hF a; intro a hF))
      (first | (refine t_pure (i := 7) hF rfl rfl rfl rfl (by kernel_rfl) hM.sm (fun _ _ _ h => h) ?_ ?_; (first | exact trivial | omega | decide); clear hF a; intro a hF))
      (first | (apply t_fieldA (i := 8) hF rfl rfl rfl rfl rfl; kernel_rfl; exact hM.sm; exact (fun _ _ _ h => h); clear hF a; intro a hF))
      (first | (apply t_loadP (i := 9) hF rfl rfl rfl; (repeat (first | exact List.mem_cons_self | refine List.mem_cons_of_mem _ ?_)); (first | with_reducible assumption | (simp only [Int.toNat_natCast]; with_reducible assumption)); exact rfl; exact rfl; kernel_rfl; exact hM.sm; exact (fun _ _ _ h => h); clear hF a; intro a hF))
      (first | (apply t_neB (i := 10) hF rfl rfl rfl rfl; kernel_rfl; kernel_rfl; exact rfl; kernel_rfl; exact hM.sm; exact (fun _ _ _ h => h); clear hF a; intro a hF))
      rw [hrb] at hF
      (first | (refine t_pure (i := 11) hF rfl rfl rfl rfl (by kernel_rfl) (hM.sm.sub (fun x hx => by repeat (first | exact hx | refine List.mem_cons_of_mem _ ?_)) (fun _ h => by repeat (first | exact h | refine List.mem_cons_of_mem _ ?_))) (fun _ _ _ h => h) ?_ ?_; (first | exact trivial | omega | decide); clear hF a; intro a hF))
      (first | (refine t_pure (i := 12) hF rfl rfl rfl rfl (by kernel_rfl) (hM.sm.sub (fun x hx => by repeat (first | exact hx | refine List.mem_cons_of_mem _ ?_)) (fun _ h => by repeat (first | exact h | refine List.mem_cons_of_mem _ ?_))) (fun _ _ _ h => h) ?_ ?_; (first | exact trivial | omega | decide); clear hF a; intro a hF))
      (first | (refine t_pure (i := 13) hF rfl rfl rfl rfl (by kernel_rfl) (hM.sm.sub (fun x hx => by repeat (first | exact hx | refine List.mem_cons_of_mem _ ?_)) (fun _ h => by repeat (first | exact h | refine List.mem_cons_of_mem _ ?_))) (fun _ _ _ h => h) ?_ ?_; (first | exact trivial | omega | decide); clear hF a; intro a hF))
      (first | (refine t_pure (i := 14) hF rfl rfl rfl rfl (by kernel_rfl) (hM.sm.sub (fun x hx => by repeat (first | exact hx | refine List.mem_cons_of_mem _ ?_)) (fun _ h => by repeat (first | exact h | refine List.mem_cons_of_mem _ ?_))) (fun _ _ _ h => h) ?_ ?_; (first | exact trivial | omega | decide); clear hF a; intro a hF))
      (first | (apply t_fieldA (i := 15) hF rfl rfl rfl rfl rfl; kernel_rfl; exact (hM.sm.sub (fun x hx => by repeat (first | exact hx | refine List.mem_cons_of_mem _ ?_)) (fun _ h => by repeat (first | exact h | refine List.mem_cons_of_mem _ ?_))); exact (fun _ _ _ h => h); clear hF a; intro a hF))
      (first | (apply t_loadP (i := 16) hF rfl rfl rfl; (repeat (first | exact List.mem_cons_self | refine List.mem_cons_of_mem _ ?_)); (first | with_reducible assumption | (simp only [Int.toNat_natCast]; with_reducible assumption)); exact rfl; exact rfl; kernel_rfl; exact (hM.sm.sub (fun x hx => by repeat (first | exact hx | refine List.mem_cons_of_mem _ ?_)) (fun _ h => by repeat (first | exact h | refine List.mem_cons_of_mem _ ?_))); exact (fun _ _ _ h => h); clear hF a; intro a hF))
      (first | (refine t_pure (i := 17) hF rfl rfl rfl rfl (by kernel_rfl) (hM.sm.sub (fun x hx => by repeat (first | exact hx | refine List.mem_cons_of_mem _ ?_)) (fun _ h => by repeat (first | exact h | refine List.mem_cons_of_mem _ ?_))) (fun _ _ _ h => h) ?_ ?_; (first | exact trivial | omega | decide); clear hF a; intro a hF))
      (first | (refine t_pure (i := 18) hF rfl rfl rfl rfl (by kernel_rfl) (hM.sm.sub (fun x hx => by repeat (first | exact hx | refine List.mem_cons_of_mem _ ?_)) (fun _ h => by repeat (first | exact h | refine List.mem_cons_of_mem _ ?_))) (fun _ _ _ h => h) ?_ ?_; (first | exact trivial | omega | decide); clear hF a; intro a hF))
      (first | (refine t_pure (i := 19) hF rfl rfl rfl rfl (by kernel_rfl) (hM.sm.sub (fun x hx => by repeat (first | exact hx | refine List.mem_cons_of_mem _ ?_)) (fun _ h => by repeat (first | exact h | refine List.mem_cons_of_mem _ ?_))) (fun _ _ _ h => h) ?_ ?_; (first | exact trivial | omega | decide); clear hF a; intro a hF))
      (first | (apply t_fieldA (i := 20) hF rfl rfl rfl rfl rfl; kernel_rfl; exact (hM.sm.sub (fun x hx => by repeat (first | exact hx | refine List.mem_cons_of_mem _ ?_)) (fun _ h => by repeat (first | exact h | refine List.mem_cons_of_mem _ ?_))); exact (fun _ _ _ h => h); clear hF a; intro a hF))
      (first | (apply t_loadP (i := 21) hF rfl rfl rfl; (repeat (first | exact List.mem_cons_self | refine List.mem_cons_of_mem _ ?_)); (first | with_reducible assumption | (simp only [Int.toNat_natCast]; with_reducible assumption)); exact rfl; exact rfl; kernel_rfl; exact (hM.sm.sub (fun x hx => by repeat (first | exact hx | refine List.mem_cons_of_mem _ ?_)) (fun _ h => by repeat (first | exact h | refine List.mem_cons_of_mem _ ?_))); exact (fun _ _ _ h => h); clear hF a; intro a hF))
      (first | (refine t_pure (i := 22) hF rfl rfl rfl rfl (by kernel_rfl) (hM.sm.sub (fun x hx => by repeat (first | exact hx | refine List.mem_cons_of_mem _ ?_)) (fun _ h => by repeat (first | exact h | refine List.mem_cons_of_mem _ ?_))) (fun _ _ _ h => h) ?_ ?_; (first | exact trivial | omega | decide); clear hF a; intro a hF))
      rw [hdd] at hF
      (first | (refine t_pure (i := 23) hF rfl rfl rfl rfl (by kernel_rfl) (hM.sm.sub (fun x hx => by repeat (first | exact hx | refine List.mem_cons_of_mem _ ?_)) (fun _ h => by repeat (first | exact h | refine List.mem_cons_of_mem _ ?_))) (fun _ _ _ h => h) ?_ ?_; (first | exact trivial | omega | decide); clear hF a; intro a hF))
      (first | (refine t_pure (i := 24) hF rfl rfl rfl rfl (by kernel_rfl) (hM.sm.sub (fun x hx => by repeat (first | exact hx | refine List.mem_cons_of_mem _ ?_)) (fun _ h => by repeat (first | exact h | refine List.mem_cons_of_mem _ ?_))) (fun _ _ _ h => h) ?_ ?_; (first | exact trivial | omega | decide); clear hF a; intro a hF))
      (first | (refine t_pure (i := 25) hF rfl rfl rfl rfl (by kernel_rfl) (hM.sm.sub (fun x hx => by repeat (first | exact hx | refine List.mem_cons_of_mem _ ?_)) (fun _ h => by repeat (first | exact h | refine List.mem_cons_of_mem _ ?_))) (fun _ _ _ h => h) ?_ ?_; (first | exact trivial | omega | decide); clear hF a; intro a hF))
      (first | (refine t_pure (i := 26) hF rfl rfl rfl rfl (by kernel_rfl) (hM.sm.sub (fun x hx => by repeat (first | exact hx | refine List.mem_cons_of_mem _ ?_)) (fun _ h => by repeat (first | exact h | refine List.mem_cons_of_mem _ ?_))) (fun _ _ _ h => h) ?_ ?_; (first | exact trivial | omega | decide); clear hF a; intro a hF))
      (first | (refine t_pure (i := 27) hF rfl rfl rfl rfl (by kernel_rfl) (hM.sm.sub (fun x hx => by repeat (first | exact hx | refine List.mem_cons_of_mem _ ?_)) (fun _ h => by repeat (first | exact h | refine List.mem_cons_of_mem _ ?_))) (fun _ _ _ h => h) ?_ ?_; (first | exact trivial | omega | decide); clear hF a; intro a hF))
      (first | (apply t_fieldA (i := 28) hF rfl rfl rfl rfl rfl; kernel_rfl; exact (hM.sm.sub (fun x hx => by repeat (first | exact hx | refine List.mem_cons_of_mem _ ?_)) (fun _ h => by repeat (first | exact h | refine List.mem_cons_of_mem _ ?_))); exact (fun _ _ _ h => h); clear hF a; intro a hF))
      (first | (apply t_loadP (i := 29) hF rfl rfl rfl; (repeat (first | exact List.mem_cons_self | refine List.mem_cons_of_mem _ ?_)); (first | with_reducible assumption | (simp only [Int.toNat_natCast]; with_reducible assumption)); exact rfl; exact rfl; kernel_rfl; exact (hM.sm.sub (fun x hx => by repeat (first | exact hx | refine List.mem_cons_of_mem _ ?_)) (fun _ h => by repeat (first | exact h | refine List.mem_cons_of_mem _ ?_))); exact (fun _ _ _ h => h); clear hF a; intro a hF))
      (first | (refine t_pure (i := 30) hF rfl rfl rfl rfl (by kernel_rfl) (hM.sm.sub (fun x hx => by repeat (first | exact hx | refine List.mem_cons_of_mem _ ?_)) (fun _ h => by repeat (first | exact h | refine List.mem_cons_of_mem _ ?_))) (fun _ _ _ h => h) ?_ ?_; (first | exact trivial | omega | decide); clear hF a; intro a hF))
      (first | (refine t_pure (i := 31) hF rfl rfl rfl rfl (by kernel_rfl) (hM.sm.sub (fun x hx => by repeat (first | exact hx | refine List.mem_cons_of_mem _ ?_)) (fun _ h => by repeat (first | exact h | refine List.mem_cons_of_mem _ ?_))) (fun _ _ _ h => h) ?_ ?_; (first | exact trivial | omega | decide); clear hF a; intro a hF))
      (first | (refine t_pure (i := 32) hF rfl rfl rfl rfl (by kernel_rfl) (hM.sm.sub (fun x hx => by repeat (first | exact hx | refine List.mem_cons_of_mem _ ?_)) (fun _ h => by repeat (first | exact h | refine List.mem_cons_of_mem _ ?_))) (fun _ _ _ h => h) ?_ ?_; (first | exact trivial | omega | decide); clear hF a; intro a hF))
      (first | (apply t_fieldA (i := 33) hF rfl rfl rfl rfl rfl; kernel_rfl; exact (hM.sm.sub (fun x hx => by repeat (first | exact hx | refine List.mem_cons_of_mem _ ?_)) (fun _ h => by repeat (first | exact h | refine List.mem_cons_of_mem _ ?_))); exact (fun _ _ _ h => h); clear hF a; intro a hF))
      (first | (apply t_loadP (i := 34) hF rfl rfl rfl; (repeat (first | exact List.mem_cons_self | refine List.mem_cons_of_mem _ ?_)); (first | with_reducible assumption | (simp only [Int.toNat_natCast]; with_reducible assumption)); exact rfl; exact rfl; kernel_rfl; exact (hM.sm.sub (fun x hx => by repeat (first | exact hx | refine List.mem_cons_of_mem _ ?_)) (fun _ h => by repeat (first | exact h | refine List.mem_cons_of_mem _ ?_))); exact (fun _ _ _ h => h); clear hF a; intro a hF))
      refine t_one (i := 35) hF rfl (by kernel_rfl) rfl ?_
      intro K hK
      (apply x_call hF hM; exact rfl; exact rfl; exact rfl; exact rfl; exact (SameS_c x1 x2 hp8 hq8 y1 y2 _ _ z1 z2 rfl rfl (by omega) _ _ hM.lt (hM.facts (RdF (Value.int .u8) y1 x1.flatten) (by (repeat (first | with_reducible exact List.mem_cons_self | refine List.mem_cons_of_mem _ ?_)))) (hM.facts (RdF (Value.int .u8) y2 x2.flatten) (by (repeat (first | with_reducible exact List.mem_cons_self | refine List.mem_cons_of_mem _ ?_))))); clear hF hM a; rintro v w a rfl - hM hF)
      rw [decide_eq_true hx] at hF
      refine hK _ _ (fun _ => (hM.sm.sub (fun x hx => by repeat (first | exact hx | refine List.mem_cons_of_mem _ ?_)) (fun _ h => by repeat (first | exact h | refine List.mem_cons_of_mem _ ?_)))) ?_; clear hK
      (first | (refine t_pure (i := 36) hF rfl rfl rfl rfl (by kernel_rfl) (hM.sm.sub (fun x hx => by repeat (first | exact hx | refine List.mem_cons_of_mem _ ?_)) (fun _ h => by repeat (first | exact h | refine List.mem_cons_of_mem _ ?_))) (fun _ _ _ h => h) ?_ ?_; (first | exact trivial | omega | decide); clear hF a; intro a hF))
      (first | (refine t_pure (i := 37) hF rfl rfl rfl rfl (by kernel_rfl) (hM.sm.sub (fun x hx => by repeat (first | exact hx | refine List.mem_cons_of_mem _ ?_)) (fun _ h => by repeat (first | exact h | refine List.mem_cons_of_mem _ ?_))) (fun _ _ _ h => h) ?_ ?_; (first | exact trivial | omega | decide); clear hF a; intro a hF))
      refine t_done (by kernel_rfl) ?_
      (repeat' (first | (with_reducible refine c_region ?_) | (with_reducible refine s_nil ?_) | (with_reducible refine q_then_n ?_) | ((with_reducible apply s_pure hF); exact rfl; exact rfl; exact rfl; (first | exact trivial | omega | exact ⟨Int.natCast_nonneg _, Int.ofNat_lt.2 (by assumption)⟩ | decide); clear hF a; intro a hF) | (with_reducible refine w_skip ?_) | (with_reducible refine q_blk_n ?_) | ((with_reducible apply c_false2 hF); exact rfl; (first | with_reducible rfl | (refine congrArg Value.bool ?_; focus (simp; done))))))
      exact ⟨m - 1, by omega, k + 1, by omega, hkk.2 (by rw [hr, hd, hx]), hF.sub (by repeat (first | exact Sub.nil | refine Sub.cons rfl (by first | with_reducible rfl | (refine congrArg (Value.int _) ?_; omega) | exact rfl) ?_)), hM.sub (.refl _) (.refl _) (fun f hf => List.mem_cons_of_mem _ (List.mem_cons_of_mem _ hf))⟩
    · rw [hne (fun e => hx (by injection e))]
      (repeat' (first | (with_reducible refine w_seq ?_) | (with_reducible refine c_region ?_) | (with_reducible refine s_nil ?_) | (with_reducible refine q_then_n ?_) | ((with_reducible apply s_pure hF); exact rfl; exact rfl; exact rfl; (first | exact trivial | omega | exact ⟨Int.natCast_nonneg _, Int.ofNat_lt.2 (by assumption)⟩ | decide); clear hF a; intro a hF) | (with_reducible refine w_skip ?_) | (with_reducible refine w_block ?_) | ((with_reducible apply c_dec hF); exact rfl; all_goals intro hc; all_goals (try (exfalso; omega)))))
      refine c_draw (fun i => Nat.ble 38 i) hM ?_; clear hM; intro w hM
      (first | (refine t_pure (i := 0) hF rfl rfl rfl rfl (by kernel_rfl) hM.sm (fun _ _ _ h => h) ?_ ?_; (first | exact trivial | omega | decide); clear hF a; intro a hF))
      (first | (refine t_pure (i := 1) hF rfl rfl rfl rfl (by kernel_rfl) hM.sm (fun _ _ _ h => h) ?_ ?_; (first | exact trivial | omega | decide); clear hF a; intro a hF))
      (first | (refine t_pure (i := 2) hF rfl rfl rfl rfl (by kernel_rfl) hM.sm (fun _ _ _ h => h) ?_ ?_; (first | exact trivial | omega | decide); clear hF a; intro a hF))
      (first | (apply t_fieldA (i := 3) hF rfl rfl rfl rfl rfl; kernel_rfl; exact hM.sm; exact (fun _ _ _ h => h); clear hF a; intro a hF))
      (first | (apply t_loadP (i := 4) hF rfl rfl rfl; (repeat (first | exact List.mem_cons_self | refine List.mem_cons_of_mem _ ?_)); (first | with_reducible assumption | (simp only [Int.toNat_natCast]; with_reducible assumption)); exact rfl; exact rfl; kernel_rfl; exact hM.sm; exact (fun _ _ _ h => h); clear hF a; intro a hF))
      (first | (refine t_pure (i := 5) hF rfl rfl rfl rfl (by kernel_rfl) hM.sm (fun _ _ _ h => h) ?_ ?_; (first | exact trivial | omega | decide); clear hF a; intro a hF))
      (first | (refine t_pure (i := 6) hF rfl rfl rfl rfl (by kernel_rfl) hM.sm (fun _ _ _ h => h) ?_ ?_; (first | exact trivial | omega | decide); clear hF a; intro a hF))
      (first | (refine t_pure (i := 7) hF rfl rfl rfl rfl (by kernel_rfl) hM.sm (fun _ _ _ h => h) ?_ ?_; (first | exact trivial | omega | decide); clear hF a; intro a hF))
      (first | (apply t_fieldA (i := 8) hF rfl rfl rfl rfl rfl; kernel_rfl; exact hM.sm; exact (fun _ _ _ h => h); clear hF a; intro a hF))
      (first | (apply t_loadP (i := 9) hF rfl rfl rfl; (repeat (first | exact List.mem_cons_self | refine List.mem_cons_of_mem _ ?_)); (first | with_reducible assumption | (simp only [Int.toNat_natCast]; with_reducible assumption)); exact rfl; exact rfl; kernel_rfl; exact hM.sm; exact (fun _ _ _ h => h); clear hF a; intro a hF))
      (first | (apply t_neB (i := 10) hF rfl rfl rfl rfl; kernel_rfl; kernel_rfl; exact rfl; kernel_rfl; exact hM.sm; exact (fun _ _ _ h => h); clear hF a; intro a hF))
      rw [hrb] at hF
      (first | (refine t_pure (i := 11) hF rfl rfl rfl rfl (by kernel_rfl) (hM.sm.sub (fun x hx => by repeat (first | exact hx | refine List.mem_cons_of_mem _ ?_)) (fun _ h => by repeat (first | exact h | refine List.mem_cons_of_mem _ ?_))) (fun _ _ _ h => h) ?_ ?_; (first | exact trivial | omega | decide); clear hF a; intro a hF))
      (first | (refine t_pure (i := 12) hF rfl rfl rfl rfl (by kernel_rfl) (hM.sm.sub (fun x hx => by repeat (first | exact hx | refine List.mem_cons_of_mem _ ?_)) (fun _ h => by repeat (first | exact h | refine List.mem_cons_of_mem _ ?_))) (fun _ _ _ h => h) ?_ ?_; (first | exact trivial | omega | decide); clear hF a; intro a hF))
      (first | (refine t_pure (i := 13) hF rfl rfl rfl rfl (by kernel_rfl) (hM.sm.sub (fun x hx => by repeat (first | exact hx | refine List.mem_cons_of_mem _ ?_)) (fun _ h => by repeat (first | exact h | refine List.mem_cons_of_mem _ ?_))) (fun _ _ _ h => h) ?_ ?_; (first | exact trivial | omega | decide); clear hF a; intro a hF))
      (first | (refine t_pure (i := 14) hF rfl rfl rfl rfl (by kernel_rfl) (hM.sm.sub (fun x hx => by repeat (first | exact hx | refine List.mem_cons_of_mem _ ?_)) (fun _ h => by repeat (first | exact h | refine List.mem_cons_of_mem _ ?_))) (fun _ _ _ h => h) ?_ ?_; (first | exact trivial | omega | decide); clear hF a; intro a hF))
      (first | (apply t_fieldA (i := 15) hF rfl rfl rfl rfl rfl; kernel_rfl; exact (hM.sm.sub (fun x hx => by repeat (first | exact hx | refine List.mem_cons_of_mem _ ?_)) (fun _ h => by repeat (first | exact h | refine List.mem_cons_of_mem _ ?_))); exact (fun _ _ _ h => h); clear hF a; intro a hF))
      (first | (apply t_loadP (i := 16) hF rfl rfl rfl; (repeat (first | exact List.mem_cons_self | refine List.mem_cons_of_mem _ ?_)); (first | with_reducible assumption | (simp only [Int.toNat_natCast]; with_reducible assumption)); exact rfl; exact rfl; kernel_rfl; exact (hM.sm.sub (fun x hx => by repeat (first | exact hx | refine List.mem_cons_of_mem _ ?_)) (fun _ h => by repeat (first | exact h | refine List.mem_cons_of_mem _ ?_))); exact (fun _ _ _ h => h); clear hF a; intro a hF))
      (first | (refine t_pure (i := 17) hF rfl rfl rfl rfl (by kernel_rfl) (hM.sm.sub (fun x hx => by repeat (first | exact hx | refine List.mem_cons_of_mem _ ?_)) (fun _ h => by repeat (first | exact h | refine List.mem_cons_of_mem _ ?_))) (fun _ _ _ h => h) ?_ ?_; (first | exact trivial | omega | decide); clear hF a; intro a hF))
      (first | (refine t_pure (i := 18) hF rfl rfl rfl rfl (by kernel_rfl) (hM.sm.sub (fun x hx => by repeat (first | exact hx | refine List.mem_cons_of_mem _ ?_)) (fun _ h => by repeat (first | exact h | refine List.mem_cons_of_mem _ ?_))) (fun _ _ _ h => h) ?_ ?_; (first | exact trivial | omega | decide); clear hF a; intro a hF))
      (first | (refine t_pure (i := 19) hF rfl rfl rfl rfl (by kernel_rfl) (hM.sm.sub (fun x hx => by repeat (first | exact hx | refine List.mem_cons_of_mem _ ?_)) (fun _ h => by repeat (first | exact h | refine List.mem_cons_of_mem _ ?_))) (fun _ _ _ h => h) ?_ ?_; (first | exact trivial | omega | decide); clear hF a; intro a hF))
      (first | (apply t_fieldA (i := 20) hF rfl rfl rfl rfl rfl; kernel_rfl; exact (hM.sm.sub (fun x hx => by repeat (first | exact hx | refine List.mem_cons_of_mem _ ?_)) (fun _ h => by repeat (first | exact h | refine List.mem_cons_of_mem _ ?_))); exact (fun _ _ _ h => h); clear hF a; intro a hF))
      (first | (apply t_loadP (i := 21) hF rfl rfl rfl; (repeat (first | exact List.mem_cons_self | refine List.mem_cons_of_mem _ ?_)); (first | with_reducible assumption | (simp only [Int.toNat_natCast]; with_reducible assumption)); exact rfl; exact rfl; kernel_rfl; exact (hM.sm.sub (fun x hx => by repeat (first | exact hx | refine List.mem_cons_of_mem _ ?_)) (fun _ h => by repeat (first | exact h | refine List.mem_cons_of_mem _ ?_))); exact (fun _ _ _ h => h); clear hF a; intro a hF))
      (first | (refine t_pure (i := 22) hF rfl rfl rfl rfl (by kernel_rfl) (hM.sm.sub (fun x hx => by repeat (first | exact hx | refine List.mem_cons_of_mem _ ?_)) (fun _ h => by repeat (first | exact h | refine List.mem_cons_of_mem _ ?_))) (fun _ _ _ h => h) ?_ ?_; (first | exact trivial | omega | decide); clear hF a; intro a hF))
      rw [hdd] at hF
      (first | (refine t_pure (i := 23) hF rfl rfl rfl rfl (by kernel_rfl) (hM.sm.sub (fun x hx => by repeat (first | exact hx | refine List.mem_cons_of_mem _ ?_)) (fun _ h => by repeat (first | exact h | refine List.mem_cons_of_mem _ ?_))) (fun _ _ _ h => h) ?_ ?_; (first | exact trivial | omega | decide); clear hF a; intro a hF))
      (first | (refine t_pure (i := 24) hF rfl rfl rfl rfl (by kernel_rfl) (hM.sm.sub (fun x hx => by repeat (first | exact hx | refine List.mem_cons_of_mem _ ?_)) (fun _ h => by repeat (first | exact h | refine List.mem_cons_of_mem _ ?_))) (fun _ _ _ h => h) ?_ ?_; (first | exact trivial | omega | decide); clear hF a; intro a hF))
      (first | (refine t_pure (i := 25) hF rfl rfl rfl rfl (by kernel_rfl) (hM.sm.sub (fun x hx => by repeat (first | exact hx | refine List.mem_cons_of_mem _ ?_)) (fun _ h => by repeat (first | exact h | refine List.mem_cons_of_mem _ ?_))) (fun _ _ _ h => h) ?_ ?_; (first | exact trivial | omega | decide); clear hF a; intro a hF))
      (first | (refine t_pure (i := 26) hF rfl rfl rfl rfl (by kernel_rfl) (hM.sm.sub (fun x hx => by repeat (first | exact hx | refine List.mem_cons_of_mem _ ?_)) (fun _ h => by repeat (first | exact h | refine List.mem_cons_of_mem _ ?_))) (fun _ _ _ h => h) ?_ ?_; (first | exact trivial | omega | decide); clear hF a; intro a hF))
      (first | (refine t_pure (i := 27) hF rfl rfl rfl rfl (by kernel_rfl) (hM.sm.sub (fun x hx => by repeat (first | exact hx | refine List.mem_cons_of_mem _ ?_)) (fun _ h => by repeat (first | exact h | refine List.mem_cons_of_mem _ ?_))) (fun _ _ _ h => h) ?_ ?_; (first | exact trivial | omega | decide); clear hF a; intro a hF))
      (first | (apply t_fieldA (i := 28) hF rfl rfl rfl rfl rfl; kernel_rfl; exact (hM.sm.sub (fun x hx => by repeat (first | exact hx | refine List.mem_cons_of_mem _ ?_)) (fun _ h => by repeat (first | exact h | refine List.mem_cons_of_mem _ ?_))); exact (fun _ _ _ h => h); clear hF a; intro a hF))
      (first | (apply t_loadP (i := 29) hF rfl rfl rfl; (repeat (first | exact List.mem_cons_self | refine List.mem_cons_of_mem _ ?_)); (first | with_reducible assumption | (simp only [Int.toNat_natCast]; with_reducible assumption)); exact rfl; exact rfl; kernel_rfl; exact (hM.sm.sub (fun x hx => by repeat (first | exact hx | refine List.mem_cons_of_mem _ ?_)) (fun _ h => by repeat (first | exact h | refine List.mem_cons_of_mem _ ?_))); exact (fun _ _ _ h => h); clear hF a; intro a hF))
      (first | (refine t_pure (i := 30) hF rfl rfl rfl rfl (by kernel_rfl) (hM.sm.sub (fun x hx => by repeat (first | exact hx | refine List.mem_cons_of_mem _ ?_)) (fun _ h => by repeat (first | exact h | refine List.mem_cons_of_mem _ ?_))) (fun _ _ _ h => h) ?_ ?_; (first | exact trivial | omega | decide); clear hF a; intro a hF))
      (first | (refine t_pure (i := 31) hF rfl rfl rfl rfl (by kernel_rfl) (hM.sm.sub (fun x hx => by repeat (first | exact hx | refine List.mem_cons_of_mem _ ?_)) (fun _ h => by repeat (first | exact h | refine List.mem_cons_of_mem _ ?_))) (fun _ _ _ h => h) ?_ ?_; (first | exact trivial | omega | decide); clear hF a; intro a hF))
      (first | (refine t_pure (i := 32) hF rfl rfl rfl rfl (by kernel_rfl) (hM.sm.sub (fun x hx => by repeat (first | exact hx | refine List.mem_cons_of_mem _ ?_)) (fun _ h => by repeat (first | exact h | refine List.mem_cons_of_mem _ ?_))) (fun _ _ _ h => h) ?_ ?_; (first | exact trivial | omega | decide); clear hF a; intro a hF))
      (first | (apply t_fieldA (i := 33) hF rfl rfl rfl rfl rfl; kernel_rfl; exact (hM.sm.sub (fun x hx => by repeat (first | exact hx | refine List.mem_cons_of_mem _ ?_)) (fun _ h => by repeat (first | exact h | refine List.mem_cons_of_mem _ ?_))); exact (fun _ _ _ h => h); clear hF a; intro a hF))
      (first | (apply t_loadP (i := 34) hF rfl rfl rfl; (repeat (first | exact List.mem_cons_self | refine List.mem_cons_of_mem _ ?_)); (first | with_reducible assumption | (simp only [Int.toNat_natCast]; with_reducible assumption)); exact rfl; exact rfl; kernel_rfl; exact (hM.sm.sub (fun x hx => by repeat (first | exact hx | refine List.mem_cons_of_mem _ ?_)) (fun _ h => by repeat (first | exact h | refine List.mem_cons_of_mem _ ?_))); exact (fun _ _ _ h => h); clear hF a; intro a hF))
      refine t_one (i := 35) hF rfl (by kernel_rfl) rfl ?_
      intro K hK
      (apply x_call hF hM; exact rfl; exact rfl; exact rfl; exact rfl; exact (SameS_c x1 x2 hp8 hq8 y1 y2 _ _ z1 z2 rfl rfl (by omega) _ _ hM.lt (hM.facts (RdF (Value.int .u8) y1 x1.flatten) (by (repeat (first | with_reducible exact List.mem_cons_self | refine List.mem_cons_of_mem _ ?_)))) (hM.facts (RdF (Value.int .u8) y2 x2.flatten) (by (repeat (first | with_reducible exact List.mem_cons_self | refine List.mem_cons_of_mem _ ?_))))); clear hF hM a; rintro v w a rfl - hM hF)
      rw [decide_eq_false hx] at hF
      refine hK _ _ (fun _ => (hM.sm.sub (fun x hx => by repeat (first | exact hx | refine List.mem_cons_of_mem _ ?_)) (fun _ h => by repeat (first | exact h | refine List.mem_cons_of_mem _ ?_)))) ?_; clear hK
      (first | (refine t_pure (i := 36) hF rfl rfl rfl rfl (by kernel_rfl) (hM.sm.sub (fun x hx => by repeat (first | exact hx | refine List.mem_cons_of_mem _ ?_)) (fun _ h => by repeat (first | exact h | refine List.mem_cons_of_mem _ ?_))) (fun _ _ _ h => h) ?_ ?_; (first | exact trivial | omega | decide); clear hF a; intro a hF))
      (first | (refine t_pure (i := 37) hF rfl rfl rfl rfl (by kernel_rfl) (hM.sm.sub (fun x hx => by repeat (first | exact hx | refine List.mem_cons_of_mem _ ?_)) (fun _ h => by repeat (first | exact h | refine List.mem_cons_of_mem _ ?_))) (fun _ _ _ h => h) ?_ ?_; (first | exact trivial | omega | decide); clear hF a; intro a hF))
      refine t_done (by kernel_rfl) ?_
      (repeat' (first | (with_reducible refine w_seq ?_) | (with_reducible refine c_region ?_) | (with_reducible refine s_nil ?_) | (with_reducible refine q_then_n ?_) | ((with_reducible apply s_pure hF); exact rfl; exact rfl; exact rfl; (first | exact trivial | omega | exact ⟨Int.natCast_nonneg _, Int.ofNat_lt.2 (by assumption)⟩ | decide); clear hF a; intro a hF) | (with_reducible refine w_ret ?_) | (with_reducible refine q_then_r ?_) | (with_reducible refine q_blk_r ?_) | ((with_reducible apply c_true2 hF); exact rfl; (first | with_reducible rfl | (refine congrArg Value.bool ?_; focus (simp; done))))))
      (apply f_ret Try.results17 hF hM; (repeat (first | exact RL.nil | (apply RL.tmp; exact rfl) | (apply RL.cell; exact rfl; (repeat (first | exact List.mem_cons_self | refine List.mem_cons_of_mem _ ?_)); exact rfl))); refine Ret.mk hM.since ?_; dsimp only [resV])
  · rw [List.take_of_length_le (by rw [tms_len]; omega), List.take_of_length_le (by rw [tms_len]; omega)] at hk0
    rw [decide_eq_true hk0]
    (repeat' (first | (with_reducible refine w_seq ?_) | (with_reducible refine c_region ?_) | (with_reducible refine s_nil ?_) | (with_reducible refine q_then_n ?_) | ((with_reducible apply s_pure hF); exact rfl; exact rfl; exact rfl; (first | exact trivial | omega | exact ⟨Int.natCast_nonneg _, Int.ofNat_lt.2 (by assumption)⟩ | decide); clear hF a; intro a hF) | (with_reducible refine w_exit ?_) | (with_reducible refine w_ret ?_) | (with_reducible refine q_then_x ?_) | (with_reducible refine q_blk_x ?_) | ((with_reducible apply c_dec hF); exact rfl; all_goals intro hc; all_goals (try (exfalso; omega)))))
    (apply f_ret Try.results17 hF hM; (repeat (first | exact RL.nil | (apply RL.tmp; exact rfl) | (apply RL.cell; exact rfl; (repeat (first | exact List.mem_cons_self | refine List.mem_cons_of_mem _ ?_)); exact rfl))); refine Ret.mk hM.since ?_; dsimp only [resV])
set_option maxRecDepth 20000 in
set_option maxHeartbeats 1000000 in
theorem FewTokens_c (ps : List TP) (a0 : Option Addr) (n c0 : Nat) (hn : ps.length = n) (own : Nat → Prop) (W : World) (hl : ∀ b, own b → b < W.heap.size) (h1 : Has own W (RdF id a0 (cellsT ps))) :
    Calls Try.prog 18 ⟨[.slice a0 n c0]⟩ W (Ret W fun v _ => ∃ f : Bool, v = .bool f ∧ (f = true → n ≤ 60 ∧ ∀ p ∈ ps, p.1.x.length ≤ 40)) := by
  have hM := (Mm.start hl).known h1
  subst hn
  refine f_start Try.func18 rfl Try.ntmps18 rfl rfl ?_; intro a hF
  (repeat (first | (with_reducible refine w_seq ?_) | (with_reducible refine c_region ?_) | (with_reducible refine s_nil ?_) | (with_reducible refine q_then_n ?_) | ((with_reducible apply s_pure hF); exact rfl; exact rfl; exact rfl; (first | exact trivial | omega | exact ⟨Int.natCast_nonneg _, Int.ofNat_lt.2 (by assumption)⟩ | decide); clear hF a; intro a hF) | (with_reducible refine w_block ?_)))
  refine c_loop (m := 100) (fun m a w' => ∃ k : Nat, m + k = 100 ∧ (∀ p ∈ ps.take k, p.1.x.length ≤ 40) ∧
    Fr 24 [] [(3, .int .i64 k), (0, .slice a0 ps.length c0)] a ∧
    Mm own W [] [] [RdF id a0 (ps.map tkC).flatten] w') ⟨0, by omega, by simp, hF.sub (by repeat (first | exact Sub.nil | refine Sub.cons rfl (by first | with_reducible rfl | (refine congrArg (Value.int _) ?_; omega) | exact rfl) ?_)), hM⟩ ?_
  clear hF hM a
  rintro m a w' ⟨k, hm, hall, hF, hM⟩
  by_cases hk : k < ps.length ∧ k < 100
  · obtain ⟨hk1, hk2⟩ := hk
    obtain ⟨p, hp⟩ := get_of_lt hk1
    obtain ⟨hc0, hc1, hc2⟩ := cellsT_get hp
    obtain ⟨ad, rfl⟩ : ∃ ad, a0 = some ad := rd_some hM (enc := id) (a := a0) (xs := (ps.map tkC).flatten) (by (repeat (first | exact List.mem_cons_self | refine List.mem_cons_of_mem _ ?_))) hc0
    by_cases hx : p.1.x.length ≤ 40
    · (repeat' (first | (with_reducible refine w_seq ?_) | (with_reducible refine c_region ?_) | (with_reducible refine s_nil ?_) | ((with_reducible apply s_fieldA hF); exact rfl; exact rfl; exact rfl; exact rfl; clear hF a; intro a hF) | ((with_reducible apply s_loadP hF hM); exact rfl; exact rfl; (repeat (first | exact List.mem_cons_self | refine List.mem_cons_of_mem _ ?_)); exact rfl; exact rfl; (first | with_reducible assumption | (simp only [Int.toNat_natCast]; with_reducible assumption)); clear hF a; intro a hF) | (with_reducible refine q_then_n ?_) | ((with_reducible apply s_pure hF); exact rfl; exact rfl; exact rfl; (first | exact trivial | omega | exact ⟨Int.natCast_nonneg _, Int.ofNat_lt.2 (by assumption)⟩ | decide); clear hF a; intro a hF) | (with_reducible refine w_skip ?_) | (with_reducible refine w_block ?_) | (with_reducible refine q_blk_n ?_) | ((fail_if_success ((with_reducible refine g_known true hF ?_ ?_); focus exact rfl)); (fail_if_success ((with_reducible refine g_known false hF ?_ ?_); focus exact rfl)); (with_reducible apply g_dec hF); exact rfl; exact rfl; all_goals (clear hF; intro hc hF); all_goals (try (exfalso; omega))) | ((with_reducible apply c_dec hF); exact rfl; all_goals intro hc; all_goals (try (exfalso; omega)))))
      refine ⟨m - 1, by omega, k + 1, by omega, ?_, hF.sub (by repeat (first | exact Sub.nil | refine Sub.cons rfl (by first | with_reducible rfl | (refine congrArg (Value.int _) ?_; omega) | exact rfl) ?_)), hM⟩
      intro y hy
      rw [take_snoc hp] at hy
      rcases List.mem_append.1 hy with hy | hy
      · exact hall y hy
      · rw [List.mem_singleton] at hy; rw [hy]; exact hx
    · (repeat' (first | (with_reducible refine w_seq ?_) | (with_reducible refine c_region ?_) | (with_reducible refine s_nil ?_) | ((with_reducible apply s_fieldA hF); exact rfl; exact rfl; exact rfl; exact rfl; clear hF a; intro a hF) | ((with_reducible apply s_loadP hF hM); exact rfl; exact rfl; (repeat (first | exact List.mem_cons_self | refine List.mem_cons_of_mem _ ?_)); exact rfl; exact rfl; (first | with_reducible assumption | (simp only [Int.toNat_natCast]; with_reducible assumption)); clear hF a; intro a hF) | (with_reducible refine q_then_n ?_) | ((with_reducible apply s_pure hF); exact rfl; exact rfl; exact rfl; (first | exact trivial | omega | exact ⟨Int.natCast_nonneg _, Int.ofNat_lt.2 (by assumption)⟩ | decide); clear hF a; intro a hF) | (with_reducible refine w_skip ?_) | (with_reducible refine w_block ?_) | (with_reducible refine w_ret ?_) | (with_reducible refine q_then_r ?_) | (with_reducible refine q_blk_r ?_) | ((fail_if_success ((with_reducible refine g_known true hF ?_ ?_); focus exact rfl)); (fail_if_success ((with_reducible refine g_known false hF ?_ ?_); focus exact rfl)); (with_reducible apply g_dec hF); exact rfl; exact rfl; all_goals (clear hF; intro hc hF); all_goals (try (exfalso; omega))) | ((with_reducible apply c_dec hF); exact rfl; all_goals intro hc; all_goals (try (exfalso; omega)))))
      (apply f_ret Try.results18 hF hM; (repeat (first | exact RL.nil | (apply RL.tmp; exact rfl) | (apply RL.cell; exact rfl; (repeat (first | exact List.mem_cons_self | refine List.mem_cons_of_mem _ ?_)); exact rfl))); refine Ret.mk hM.since ?_; dsimp only [resV])
      exact ⟨_, rfl, fun h => by cases h⟩
  · by_cases hlen : ps.length ≤ 60
    · rw [List.take_of_length_le (by omega)] at hall
      (repeat' (first | (with_reducible refine w_seq ?_) | (with_reducible refine c_region ?_) | (with_reducible refine s_nil ?_) | (with_reducible refine q_then_n ?_) | ((with_reducible apply s_pure hF); exact rfl; exact rfl; exact rfl; (first | exact trivial | omega | exact ⟨Int.natCast_nonneg _, Int.ofNat_lt.2 (by assumption)⟩ | decide); clear hF a; intro a hF) | (with_reducible refine w_exit ?_) | (with_reducible refine w_ret ?_) | (with_reducible refine q_then_x ?_) | (with_reducible refine q_blk_x ?_) | ((with_reducible apply c_false2 hF); exact rfl; (first | with_reducible rfl | (refine congrArg Value.bool ?_; focus (simp; done)))) | ((with_reducible apply s_skip hF); exact rfl; exact rfl; clear hF a; intro a hF) | ((fail_if_success ((with_reducible refine g_known true hF ?_ ?_); focus exact rfl)); (fail_if_success ((with_reducible refine g_known false hF ?_ ?_); focus exact rfl)); (with_reducible apply g_dec hF); exact rfl; exact rfl; all_goals (clear hF; intro hc hF); all_goals (try (exfalso; omega)))))
      (apply f_ret Try.results18 hF hM; (repeat (first | exact RL.nil | (apply RL.tmp; exact rfl) | (apply RL.cell; exact rfl; (repeat (first | exact List.mem_cons_self | refine List.mem_cons_of_mem _ ?_)); exact rfl))); refine Ret.mk hM.since ?_; dsimp only [resV])
      exact ⟨_, rfl, fun _ => ⟨hlen, hall⟩⟩
    · (repeat' (first | (with_reducible refine w_seq ?_) | (with_reducible refine c_region ?_) | (with_reducible refine s_nil ?_) | (with_reducible refine q_then_n ?_) | ((with_reducible apply s_pure hF); exact rfl; exact rfl; exact rfl; (first | exact trivial | omega | exact ⟨Int.natCast_nonneg _, Int.ofNat_lt.2 (by assumption)⟩ | decide); clear hF a; intro a hF) | (with_reducible refine w_exit ?_) | (with_reducible refine w_ret ?_) | (with_reducible refine q_then_x ?_) | (with_reducible refine q_blk_x ?_) | ((with_reducible apply c_false2 hF); exact rfl; (first | with_reducible rfl | (refine congrArg Value.bool ?_; focus (simp; done)))) | ((with_reducible apply s_skip hF); exact rfl; exact rfl; clear hF a; intro a hF) | ((fail_if_success ((with_reducible refine g_known true hF ?_ ?_); focus exact rfl)); (fail_if_success ((with_reducible refine g_known false hF ?_ ?_); focus exact rfl)); (with_reducible apply g_dec hF); exact rfl; exact rfl; all_goals (clear hF; intro hc hF); all_goals (try (exfalso; omega))) | ((with_reducible apply c_dec hF); exact rfl; all_goals intro hc; all_goals (try (exfalso; omega)))))
      all_goals (apply f_ret Try.results18 hF hM; (repeat (first | exact RL.nil | (apply RL.tmp; exact rfl) | (apply RL.cell; exact rfl; (repeat (first | exact List.mem_cons_self | refine List.mem_cons_of_mem _ ?_)); exact rfl))); refine Ret.mk hM.since ?_; dsimp only [resV])
      all_goals exact ⟨_, rfl, fun h => by rw [decide_eq_true_eq] at h; omega⟩
end Go.Proofs.Ytonelgecjmpbgaa


/- The reference of layer 29: tokens are put. -/
namespace Go.Proofs.Ytonelgecjmpbgaa
open Go.RowKit Go.Shelf D29
set_option maxRecDepth 20000 in
set_option maxHeartbeats 4000000 in
theorem PutTokensR_c (ts : List TP) (hts : DatW (tP ts)) (hx4 : ∀ t ∈ ts, t.1.x.length ≤ 4096) (hn4 : ts.length ≤ 10000) (ys : List Int) (hy : ys.length ≤ 1000000) (a0 al : Option Addr) (m c0 n cl : Nat) (hm : ys.length = m) (hn : ts.length = n) (own : Nat → Prop) (W : World) (hl : ∀ b, own b → b < W.heap.size) (hv : Has own W (RdF (Value.int .u8) a0 ys)) (h1 : Has own W (RdF id al (cellsT ts))) (h2 : Has own W (DatF (tP ts))) :
    Calls Try.prog 52 ⟨[.slice a0 m c0, .slice al n cl]⟩ W (Ret W fun v w' => ∃ a' c', v = .slice a' (m + (putToks (tms ts)).length) c' ∧ Owns w' W.heap.size [⟨5, 1, .slice a' (m + (putToks (tms ts)).length) c', m + (putToks (tms ts)).length, (ys ++ putToks (tms ts)).map (Value.int .u8)⟩]) := by
  subst hn
  have hM := (((Mm.start hl).known h2).known h1).known hv
  have hp0 : (puts ts.length).length ≤ 8 := puts_len 7 ts.length (by omega)
  refine f_start Try.func52 rfl Try.ntmps52 rfl rfl ?_; intro a hF
  (repeat (first | (with_reducible refine w_seq ?_) | (with_reducible refine c_region ?_) | (with_reducible refine s_nil ?_) | ((with_reducible apply s_callO (f := 85) hF); exact rfl; exact rfl; exact rfl; exact rfl; exact rfl; exact (PutIntR_c ts.length _ rfl (by omega) a0 c0 ys m hm _ _ hM.lt (hM.facts (RdF (Value.int .u8) a0 ys) (by (repeat (first | with_reducible exact List.mem_cons_self | refine List.mem_cons_of_mem _ ?_)))) (by omega)); clear hF a; rintro v wn a ⟨a2, c2, rfl, hO⟩ hS hF; replace hM := hM.addRows hS hO; clear hS hO; dsimp only [List.cons_append, List.nil_append] at hM) | (with_reducible refine q_then_n ?_) | ((with_reducible apply s_pure hF); exact rfl; exact rfl; exact rfl; (first | exact trivial | omega | exact ⟨Int.natCast_nonneg _, Int.ofNat_lt.2 (by assumption)⟩ | decide); clear hF a; intro a hF) | (with_reducible refine w_block ?_)))
  obtain ⟨B, hB⟩ : ∃ B, B = ys ++ puts ts.length := ⟨_, rfl⟩
  obtain ⟨p, hp⟩ : ∃ p, m + (puts ts.length).length = p := ⟨_, rfl⟩
  have hBl : B.length = p := by rw [hB, List.length_append]; omega
  rw [← hB, hp] at hM
  rw [hp] at hF
  refine c_loop (m := ts.length) (fun z a w' => ∃ (k : Nat) (T : List Int) (q : Nat) (ov : Value), z + k = ts.length ∧ T = ((tms (ts.take k)).map putTok).flatten ∧ T.length = q ∧ q ≤ k * 32777 ∧
    Fr 53 [] [(6, .int .i64 k), (1, .slice al ts.length cl), (5, ov)] a ∧
    Mm own W [] [⟨5, 1, ov, p + q, (B ++ T).map (Value.int .u8)⟩] [RdF id al (ts.map tkC).flatten, DatF (tP ts)] w')
    ⟨0, [], 0, _, by omega, rfl, rfl, by omega, hF.sub (by repeat (first | exact Sub.nil | refine Sub.cons rfl (by first | with_reducible rfl | (refine congrArg (Value.int _) ?_; omega) | exact rfl) ?_)), (hM.sub (.refl _) (.refl _) (by intro f hf; simp only [List.mem_cons, List.not_mem_nil, or_false] at hf; (repeat (rcases hf with rfl | hf; · (repeat (first | exact List.mem_cons_self | refine List.mem_cons_of_mem _ ?_)))); first | (subst hf; (repeat (first | exact List.mem_cons_self | refine List.mem_cons_of_mem _ ?_)); done) | (repeat (first | exact hf | refine List.mem_cons_of_mem _ ?_)))).rowsEq (by simp)⟩ ?_
  clear hF hM a
  rintro z a w' ⟨k, T, q, ov, hz, hT, hTl, hq, hF, hM⟩
  by_cases hk : k < ts.length
  · obtain ⟨t, ht⟩ := get_of_lt hk
    have htm := List.mem_of_getElem? ht
    obtain ⟨ht8, htc, htb⟩ := hts ((⟨t.1.d, t.1.x⟩ : Itm), t.2) (List.mem_map.2 ⟨t, htm, rfl⟩)
    have hxl := hx4 t htm
    have htr := dat_one (hM.facts (DatF (tP ts)) (by (repeat (first | with_reducible exact List.mem_cons_self | refine List.mem_cons_of_mem _ ?_)))) (p := ((⟨t.1.d, t.1.x⟩ : Itm), t.2)) (List.mem_map.2 ⟨t, htm, rfl⟩)
    have htk : ((tms (ts.take (k + 1))).map putTok).flatten = T ++ putTok t.1 := by
      rw [take_snoc ht, hT]
      simp [tms]
    have hpl := putTok_len ht8 hxl
    obtain ⟨ht0, ht1, ht2⟩ := cellsT_get ht
    obtain ⟨⟨r, d, x⟩, ax, cx⟩ := t
    dsimp only at ht8 htc htb hxl htr
    obtain ⟨xl, hxq⟩ : ∃ q, x.length = q := ⟨_, rfl⟩
    dsimp only at ht0 ht1 ht2
    rw [hxq] at ht2
    obtain ⟨ad, rfl⟩ : ∃ ad, al = some ad := rd_some hM (enc := id) (a := al) (xs := (ts.map tkC).flatten) (by (repeat (first | exact List.mem_cons_self | refine List.mem_cons_of_mem _ ?_))) ht0
    replace hM := hM.addFact htr
    obtain ⟨C, hC⟩ : ∃ C, C = B ++ T := ⟨_, rfl⟩
    rw [← hC] at hM
    have hCl : C.length = p + q := by rw [hC, List.length_append]; omega
    have hfin : ∀ (P : List Int), P = putTok ⟨r, d, x⟩ → C ++ P = B ++ (T ++ putTok ⟨r, d, x⟩) := fun P h => by rw [hC, h, List.append_assoc]
    cases r with
    | false =>
      (repeat' (first | (with_reducible refine w_seq ?_) | (with_reducible refine c_region ?_) | (with_reducible refine s_nil ?_) | ((with_reducible apply s_fieldA hF); exact rfl; exact rfl; exact rfl; exact rfl; clear hF a; intro a hF) | ((with_reducible apply s_loadP hF hM); exact rfl; exact rfl; (repeat (first | exact List.mem_cons_self | refine List.mem_cons_of_mem _ ?_)); exact rfl; exact rfl; (first | with_reducible assumption | (simp only [Int.toNat_natCast]; with_reducible assumption)); clear hF a; intro a hF) | (with_reducible refine q_then_n ?_) | ((with_reducible apply s_pure hF); exact rfl; exact rfl; exact rfl; (first | exact trivial | omega | exact ⟨Int.natCast_nonneg _, Int.ofNat_lt.2 (by assumption)⟩ | decide); clear hF a; intro a hF) | (with_reducible refine w_skip ?_) | (with_reducible refine w_block ?_) | ((with_reducible apply c_true2 hF); exact rfl; (first | with_reducible rfl | (refine congrArg Value.bool ?_; focus (simp; done)))) | ((with_reducible apply c_dec hF); exact rfl; all_goals intro hc; all_goals (try (exfalso; omega)))))
      refine c_draw (fun i => Nat.ble 10 i) hM ?_; clear hM; intro w hM
      (first | (refine t_pure (i := 0) hF rfl rfl rfl rfl (by kernel_rfl) hM.sm (fun _ _ _ h => h) ?_ ?_; (first | exact trivial | omega | decide); clear hF a; intro a hF))
      (first | (refine t_pure (i := 3) hF rfl rfl rfl rfl (by kernel_rfl) hM.sm (fun _ _ _ h => h) ?_ ?_; (first | exact trivial | omega | decide); clear hF a; intro a hF))
      (first | (refine t_pure (i := 4) hF rfl rfl rfl rfl (by kernel_rfl) hM.sm (fun _ _ _ h => h) ?_ ?_; (first | exact trivial | omega | decide); clear hF a; intro a hF))
      (first | (refine t_pure (i := 5) hF rfl rfl rfl rfl (by kernel_rfl) hM.sm (fun _ _ _ h => h) ?_ ?_; (first | exact trivial | omega | decide); clear hF a; intro a hF))
      (first | (apply t_fieldA (i := 6) hF rfl rfl rfl rfl rfl; kernel_rfl; exact hM.sm; exact (fun _ _ _ h => h); clear hF a; intro a hF))
      (first | (apply t_loadP (i := 7) hF rfl rfl rfl; (repeat (first | exact List.mem_cons_self | refine List.mem_cons_of_mem _ ?_)); (first | with_reducible assumption | (simp only [Int.toNat_natCast]; with_reducible assumption)); exact rfl; exact rfl; kernel_rfl; exact hM.sm; exact (fun _ _ _ h => h); clear hF a; intro a hF))
      refine t_one (i := 1) hF rfl (by kernel_rfl) rfl ?_
      intro K hK
      (refine x_lit hF hM rfl rfl rfl ?_; clear hF hM a; intro bl w a hM hF)
      refine hK _ _ (fun _ => (hM.sm.sub (fun x hx => by repeat (first | exact hx | refine List.mem_cons_of_mem _ ?_)) (fun _ h => by repeat (first | exact h | refine List.mem_cons_of_mem _ ?_)))) ?_; clear hK
      refine t_one (i := 2) hF rfl (by kernel_rfl) rfl ?_
      intro K hK
      (apply x_app hF hM rfl rfl rfl; (repeat (first | exact List.mem_cons_self | refine List.mem_cons_of_mem _ ?_)); (repeat (first | exact Kth.z | apply Kth.s)); exact rfl; exact rfl; exact rfl; exact rfl; omega; clear hF hM a; intro g cap w a hM hF; dsimp only [List.set] at hM)
      rw [u8s_snoc] at hM; replace hM := hM.freezeN
      refine hK _ _ (fun _ => (hM.sm.sub (fun x hx => by repeat (first | exact hx | refine List.mem_cons_of_mem _ ?_)) (fun _ h => by repeat (first | exact h | refine List.mem_cons_of_mem _ ?_)))) ?_; clear hK
      refine t_one (i := 8) hF rfl (by kernel_rfl) rfl ?_
      intro K hK
      (apply x_callO hF; exact rfl; exact rfl; exact rfl; exact rfl; exact (PutSectorsR_c x ht8 (by omega) (C ++ [0]) (by rw [List.length_append, List.length_singleton]; omega) _ ax _ _ cx xl (by rw [List.length_append, List.length_singleton]; omega) hxq _ _ hM.lt (hM.facts (RdF (Value.int .u8) _ (C ++ [0])) (by (repeat (first | with_reducible exact List.mem_cons_self | refine List.mem_cons_of_mem _ ?_)))) (hM.facts (RdF (Value.int .u8) ax x.flatten) (by (repeat (first | with_reducible exact List.mem_cons_self | refine List.mem_cons_of_mem _ ?_))))); clear hF a; rintro v wn a ⟨a3, c3, rfl, hO⟩ hS hF; replace hM := hM.addRows hS hO; clear hS hO; dsimp only [List.cons_append, List.nil_append] at hM)
      refine hK _ _ (fun _ => (hM.sm.sub (fun x hx => by repeat (first | exact hx | refine List.mem_cons_of_mem _ ?_)) (fun _ h => by repeat (first | exact h | refine List.mem_cons_of_mem _ ?_)))) ?_; clear hK
      (first | (refine t_pure (i := 9) hF rfl rfl rfl rfl (by kernel_rfl) (hM.sm.sub (fun x hx => by repeat (first | exact hx | refine List.mem_cons_of_mem _ ?_)) (fun _ h => by repeat (first | exact h | refine List.mem_cons_of_mem _ ?_))) (fun _ _ _ h => h) ?_ ?_; (first | exact trivial | omega | decide); clear hF a; intro a hF))
      refine t_done (by kernel_rfl) ?_
      (repeat' (first | (with_reducible refine c_region ?_) | (with_reducible refine s_nil ?_) | (with_reducible refine q_then_n ?_) | ((with_reducible apply s_pure hF); exact rfl; exact rfl; exact rfl; (first | exact trivial | omega | exact ⟨Int.natCast_nonneg _, Int.ofNat_lt.2 (by assumption)⟩ | decide); clear hF a; intro a hF) | (with_reducible refine w_exit ?_) | (with_reducible refine q_then_x ?_) | (with_reducible refine q_blk_x ?_)))
      have hpt : putTok ⟨false, d, x⟩ = 0 :: putsS x := by unfold putTok putsS; rfl
      refine ⟨z - 1, by omega, k + 1, T ++ putTok ⟨false, d, x⟩, q + (1 + (putsS x).length), _, by omega, htk.symm, by rw [List.length_append, hpt, List.length_cons]; omega, by rw [hpt, List.length_cons] at hpl; omega, hF.sub (by repeat (first | exact Sub.nil | refine Sub.cons rfl (by first | with_reducible rfl | (refine congrArg (Value.int _) ?_; omega) | exact rfl) ?_)), ?_⟩
      rw [← hfin _ hpt.symm]
      rw [List.append_assoc] at hM
      rw [show p + (q + (1 + (putsS x).length)) = p + q + 1 + (putsS x).length by omega]
      exact hM.sub (List.nil_sublist _) (.refl _) (by intro f hf; simp only [List.mem_cons, List.not_mem_nil, or_false] at hf; (repeat (rcases hf with rfl | hf; · (repeat (first | exact List.mem_cons_self | refine List.mem_cons_of_mem _ ?_)))); first | (subst hf; (repeat (first | exact List.mem_cons_self | refine List.mem_cons_of_mem _ ?_)); done) | (repeat (first | exact hf | refine List.mem_cons_of_mem _ ?_)))
    | true =>
      (repeat' (first | (with_reducible refine w_seq ?_) | (with_reducible refine c_region ?_) | (with_reducible refine s_nil ?_) | ((with_reducible apply s_fieldA hF); exact rfl; exact rfl; exact rfl; exact rfl; clear hF a; intro a hF) | ((with_reducible apply s_loadP hF hM); exact rfl; exact rfl; (repeat (first | exact List.mem_cons_self | refine List.mem_cons_of_mem _ ?_)); exact rfl; exact rfl; (first | with_reducible assumption | (simp only [Int.toNat_natCast]; with_reducible assumption)); clear hF a; intro a hF) | (with_reducible refine q_then_n ?_) | ((with_reducible apply s_pure hF); exact rfl; exact rfl; exact rfl; (first | exact trivial | omega | exact ⟨Int.natCast_nonneg _, Int.ofNat_lt.2 (by assumption)⟩ | decide); clear hF a; intro a hF) | ((with_reducible apply s_lit hF hM); exact rfl; exact rfl; exact rfl; exact rfl; clear hF hM a; intro bl w a hM hF) | ((with_reducible apply s_app hF hM); exact rfl; exact rfl; exact rfl; exact rfl; (repeat (first | exact Kth.z | apply Kth.s)); exact rfl; exact rfl; exact rfl; exact rfl; omega; clear hF hM a; intro g cap w a hM hF; dsimp only [List.set] at hM) | (with_reducible refine w_skip ?_) | (with_reducible refine w_block ?_) | ((with_reducible apply c_false2 hF); exact rfl; (first | with_reducible rfl | (refine congrArg Value.bool ?_; focus (simp; done)))) | ((with_reducible apply c_dec hF); exact rfl; all_goals intro hc; all_goals (try (exfalso; omega)))))
      rw [u8s_snoc] at hM
      refine c_loop (m := 8) (fun mj a w' => ∃ (j : Nat) (v : Value), mj + j = 8 ∧
        Fr 53 [] [(7, .int .i64 j), (6, .int .i64 k), (1, .slice (some ad) ts.length cl), (5, v)] a ∧
        Mm own W [] [⟨5, 1, v, p + q + 1 + j, (C ++ [1] ++ (le 8 d).take j).map (Value.int .u8)⟩] [RdF id (some ad) (ts.map tkC).flatten, DatF (tP ts)] w') ⟨0, _, by omega, hF.sub (by repeat (first | exact Sub.nil | refine Sub.cons rfl (by first | with_reducible rfl | (refine congrArg (Value.int _) ?_; omega) | exact rfl) ?_)), ?_⟩ ?_
      · rw [show C ++ [1] ++ (le 8 d).take 0 = C ++ [1] by simp]
        exact hM.sub (List.nil_sublist _) (.refl _) (by intro f hf; simp only [List.mem_cons, List.not_mem_nil, or_false] at hf; (repeat (rcases hf with rfl | hf; · (repeat (first | exact List.mem_cons_self | refine List.mem_cons_of_mem _ ?_)))); first | (subst hf; (repeat (first | exact List.mem_cons_self | refine List.mem_cons_of_mem _ ?_)); done) | (repeat (first | exact hf | refine List.mem_cons_of_mem _ ?_)))
      clear hF hM a
      rintro mj a w' ⟨j, v, hmj, hF, hM⟩
      by_cases hj : j < 8
      · have hge : (le 8 d)[j]? = some (d / 2 ^ (8 * (j : Int)).toNat % 256) := by rw [le_get hj, pow8]
        have htk2 := take_snoc hge
        (repeat' (first | (with_reducible refine w_seq ?_) | (with_reducible refine c_region ?_) | (with_reducible refine s_nil ?_) | ((with_reducible apply s_shrW hF); exact rfl; exact rfl; exact rfl; exact rfl; (first | assumption | omega); clear hF a; intro a hF) | ((with_reducible apply s_fieldA hF); exact rfl; exact rfl; exact rfl; exact rfl; clear hF a; intro a hF) | ((with_reducible apply s_loadP hF hM); exact rfl; exact rfl; (repeat (first | exact List.mem_cons_self | refine List.mem_cons_of_mem _ ?_)); exact rfl; exact rfl; (first | with_reducible assumption | (simp only [Int.toNat_natCast]; with_reducible assumption)); clear hF a; intro a hF) | (with_reducible refine q_then_n ?_) | ((with_reducible apply s_pure hF); exact rfl; exact rfl; exact rfl; (first | exact trivial | omega | exact ⟨Int.natCast_nonneg _, Int.ofNat_lt.2 (by assumption)⟩ | decide); clear hF a; intro a hF) | ((with_reducible apply s_lit hF hM); exact rfl; exact rfl; exact rfl; exact rfl; clear hF hM a; intro bl w a hM hF) | ((with_reducible apply s_app hF hM); exact rfl; exact rfl; exact rfl; exact rfl; (repeat (first | exact Kth.z | apply Kth.s)); exact rfl; exact rfl; exact rfl; exact rfl; omega; clear hF hM a; intro g cap w a hM hF; dsimp only [List.set] at hM) | (with_reducible refine w_skip ?_) | (with_reducible refine w_block ?_) | (with_reducible refine q_blk_n ?_) | ((with_reducible apply c_dec hF); exact rfl; all_goals intro hc; all_goals (try (exfalso; omega)))))
        refine ⟨mj - 1, by omega, j + 1, _, by omega, hF.sub (by repeat (first | exact Sub.nil | refine Sub.cons rfl (by first | with_reducible rfl | (refine congrArg (Value.int _) ?_; omega) | exact rfl) ?_)), ?_⟩
        rw [htk2, ← List.append_assoc, ← u8s_snoc, show p + q + 1 + (j + 1) = p + q + 1 + j + 1 by omega]
        exact hM.sub (List.nil_sublist _) (.refl _) (by intro f hf; simp only [List.mem_cons, List.not_mem_nil, or_false] at hf; (repeat (rcases hf with rfl | hf; · (repeat (first | exact List.mem_cons_self | refine List.mem_cons_of_mem _ ?_)))); first | (subst hf; (repeat (first | exact List.mem_cons_self | refine List.mem_cons_of_mem _ ?_)); done) | (repeat (first | exact hf | refine List.mem_cons_of_mem _ ?_)))
      · obtain rfl : j = 8 := by omega
        rw [List.take_of_length_le (by rw [le_len]; omega)] at hM
        (repeat' (first | (with_reducible refine w_seq ?_) | (with_reducible refine c_region ?_) | (with_reducible refine s_nil ?_) | (with_reducible refine q_then_n ?_) | ((with_reducible apply s_pure hF); exact rfl; exact rfl; exact rfl; (first | exact trivial | omega | exact ⟨Int.natCast_nonneg _, Int.ofNat_lt.2 (by assumption)⟩ | decide); clear hF a; intro a hF) | (with_reducible refine w_exit ?_) | (with_reducible refine q_then_x ?_) | (with_reducible refine q_blk_n ?_) | (with_reducible refine q_blk_x ?_) | ((with_reducible apply c_false2 hF); exact rfl; (first | with_reducible rfl | (refine congrArg Value.bool ?_; focus (simp; done))))))
        have hpt : putTok ⟨true, d, x⟩ = 1 :: le 8 d := by unfold putTok; rfl
        refine ⟨z - 1, by omega, k + 1, T ++ putTok ⟨true, d, x⟩, q + 9, v, by omega, htk.symm, by rw [List.length_append, hpt, List.length_cons, le_len]; omega, by omega, hF.sub (by repeat (first | exact Sub.nil | refine Sub.cons rfl (by first | with_reducible rfl | (refine congrArg (Value.int _) ?_; omega) | exact rfl) ?_)), ?_⟩
        rw [← hfin _ hpt.symm, show p + (q + 9) = p + q + 1 + 8 by omega]
        rw [List.append_assoc] at hM
        exact hM.sub (List.nil_sublist _) (.refl _) (by intro f hf; simp only [List.mem_cons, List.not_mem_nil, or_false] at hf; (repeat (rcases hf with rfl | hf; · (repeat (first | exact List.mem_cons_self | refine List.mem_cons_of_mem _ ?_)))); first | (subst hf; (repeat (first | exact List.mem_cons_self | refine List.mem_cons_of_mem _ ?_)); done) | (repeat (first | exact hf | refine List.mem_cons_of_mem _ ?_)))
  · obtain rfl : k = ts.length := by omega
    rw [List.take_of_length_le (Nat.le_refl _)] at hT
    (repeat' (first | (with_reducible refine w_seq ?_) | (with_reducible refine c_region ?_) | (with_reducible refine s_nil ?_) | (with_reducible refine q_then_n ?_) | ((with_reducible apply s_pure hF); exact rfl; exact rfl; exact rfl; (first | exact trivial | omega | exact ⟨Int.natCast_nonneg _, Int.ofNat_lt.2 (by assumption)⟩ | decide); clear hF a; intro a hF) | (with_reducible refine w_exit ?_) | (with_reducible refine w_ret ?_) | (with_reducible refine q_then_x ?_) | (with_reducible refine q_blk_x ?_) | ((with_reducible apply c_false2 hF); exact rfl; (first | with_reducible rfl | (refine congrArg Value.bool ?_; focus (simp; done))))))
    (apply f_ret Try.results52 hF hM; (repeat (first | exact RL.nil | (apply RL.tmp; exact rfl) | (apply RL.cell; exact rfl; (repeat (first | exact List.mem_cons_self | refine List.mem_cons_of_mem _ ?_)); exact rfl))); refine Ret.mk hM.since ?_; dsimp only [resV])
    have e1 : putToks (tms ts) = puts ts.length ++ T := by unfold putToks; rw [hT, tms_len]
    have e2 : ys ++ putToks (tms ts) = B ++ T := by rw [e1, hB, List.append_assoc]
    have e3 : m + (putToks (tms ts)).length = p + q := by rw [e1, List.length_append]; omega
    rw [e2, e3]
    obtain ⟨av, cv, rfl, -, -⟩ := OffR.shape hM (k := 0) rfl (OffR.plain hM List.mem_cons_self)
    exact ⟨av, cv, rfl, hM.mem.own⟩
end Go.Proofs.Ytonelgecjmpbgaa

