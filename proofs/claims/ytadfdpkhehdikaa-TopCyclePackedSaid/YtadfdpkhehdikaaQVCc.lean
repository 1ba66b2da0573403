/- Texts of this seat, one behind the other: T2 T3 T4 T5 T6 B1 B2 B3 B4 B5 B6 B7 Arp B8 B9 BA BC BD BE. -/
import Derived.Test.YtadfdpkhehdikaaQVCb
set_option linter.unusedSimpArgs false
set_option linter.unusedVariables false
set_option linter.unusedSectionVars false
set_option maxRecDepth 3000
/- wire: lists of sectors. -/
namespace Go.Proofs.Ytadfdpkhehdikaa
open Go.RowKit Go.Shelf D29
section
variable (xs : List Int) (hxb : ∀ x ∈ xs, 0 ≤ x ∧ x < 256) (hlen : xs.length ≤ 1000000) (a0 : Option Addr) (c0 : Nat) (hc0 : xs.length ≤ c0)
include hxb hlen hc0
section
variable {own : Nat → Prop} {w0 W : World} {bs : List BoxE} {L : List Ent} {Fs : List (World → Prop)} {b : Nat} {T : TypeId} (hM : Mm own w0 (⟨b, ⟨[.slice a0 xs.length c0]⟩, T⟩ :: bs) L (RdF (Value.int .u8) a0 xs :: Fs) W)
include hM
set_option maxRecDepth 20000 in
set_option maxHeartbeats 4000000 in
theorem listS_m : Calls Try.prog 144 ⟨[.pointer (some ⟨b, 0, none⟩), .func (.func 145) #[] #[]]⟩ W (Rtn fun u w' => match rdSecs xs with
    | .error e => u = .tuple #[.slice none 0 0, .int .i64 e] ∧ e ≠ 0 ∧ ∃ bs' L' Fs', Mm own w0 bs' L' Fs' w'
    | .ok (l, ys) => ∃ a1 c1 a2 c2, u = .tuple #[.slice a1 l.length c1, .int .i64 0] ∧ ys.length ≤ c2 ∧ W8 l ∧ By8 l ∧ (∀ y ∈ ys, 0 ≤ y ∧ y < 256) ∧ ys.length + l.length * 8 ≤ xs.length ∧ Mm own w0 (⟨b, ⟨[.slice a2 ys.length c2]⟩, T⟩ :: bs) (⟨83, 8, .slice a1 l.length c1, l.length, l.flatten.map (Value.int .u8)⟩ :: L) [RdF (Value.int .u8) a2 ys] w') := by
  refine f_start Try.func144 rfl Try.ntmps144 rfl rfl ?_; intro a hF
  obtain ⟨r, hr⟩ : ∃ r, rdNum xs = r := ⟨_, rfl⟩
  have hnn := rdNum_nnT hxb
  have hL := length_m xs hxb hlen a0 c0 hc0 hM
  unfold rdSecs
  rw [hr] at hL hnn ⊢
  obtain ⟨n, e, u⟩ := r
  dsimp only at hL hnn ⊢
  by_cases he : e = 0
  case neg =>
    rw [if_pos he]
    rw [if_pos he] at hL
    (repeat' (first | (with_reducible refine w_seq ?_) | (with_reducible refine c_region ?_) | (with_reducible refine s_nil ?_) | ((with_reducible apply s_callM (f := 142) hF); exact rfl; exact rfl; exact rfl; exact rfl; exact rfl; exact (hL); clear hF hM a; rintro v w a ⟨rfl, a1, c1, hcq, hM⟩ hF) | (with_reducible refine q_then_n ?_) | ((with_reducible apply s_pure hF); exact rfl; exact rfl; exact rfl; (first | exact trivial | omega | exact ⟨Int.natCast_nonneg _, Int.ofNat_lt.2 (by assumption)⟩ | decide); clear hF a; intro a hF) | (with_reducible refine w_ret ?_) | (with_reducible refine q_then_r ?_) | ((with_reducible apply c_dec hF); exact rfl; all_goals intro hc; all_goals (try (exfalso; omega)))))
    (apply f_ret Try.results144 hF hM; (repeat (first | exact RL.nil | (apply RL.tmp; exact rfl) | (apply RL.cell; exact rfl; (repeat (first | exact List.mem_cons_self | refine List.mem_cons_of_mem _ ?_)); exact rfl))); refine Both.mk ?_; try dsimp only [resV])
    exact ⟨rfl, he, _, _, _, hM⟩
  subst he
  rw [if_neg (by omega)]
  rw [if_neg (by omega)] at hL
  by_cases hn : 65536 < n
  case pos =>
    rw [if_pos hn]
    rw [if_pos hn] at hL
    (repeat' (first | (with_reducible refine w_seq ?_) | (with_reducible refine c_region ?_) | (with_reducible refine s_nil ?_) | ((with_reducible apply s_callM (f := 142) hF); exact rfl; exact rfl; exact rfl; exact rfl; exact rfl; exact (hL); clear hF hM a; rintro v w a ⟨rfl, a1, c1, hcq, hM⟩ hF) | (with_reducible refine q_then_n ?_) | ((with_reducible apply s_pure hF); exact rfl; exact rfl; exact rfl; (first | exact trivial | omega | exact ⟨Int.natCast_nonneg _, Int.ofNat_lt.2 (by assumption)⟩ | decide); clear hF a; intro a hF) | (with_reducible refine w_ret ?_) | (with_reducible refine q_then_r ?_) | ((with_reducible apply c_true2 hF); exact rfl; (first | with_reducible rfl | (refine congrArg Value.bool ?_; focus (simp; done))))))
    (apply f_ret Try.results144 hF hM; (repeat (first | exact RL.nil | (apply RL.tmp; exact rfl) | (apply RL.cell; exact rfl; (repeat (first | exact List.mem_cons_self | refine List.mem_cons_of_mem _ ?_)); exact rfl))); refine Both.mk ?_; try dsimp only [resV])
    exact ⟨rfl, by decide, _, _, _, hM⟩
  rw [if_neg hn]
  rw [if_neg hn] at hL
  obtain ⟨k, hk⟩ : ∃ k : Nat, n = k := ⟨n.toNat, by omega⟩
  subst hk
  rw [Int.toNat_natCast]
  (repeat' (first | (with_reducible refine w_seq ?_) | (with_reducible refine c_region ?_) | (with_reducible refine s_nil ?_) | ((with_reducible apply s_callM (f := 142) hF); exact rfl; exact rfl; exact rfl; exact rfl; exact rfl; exact (hL); clear hF hM a; rintro v w a ⟨rfl, a1, c1, hcq, hM⟩ hF) | (with_reducible refine q_then_n ?_) | ((with_reducible apply s_pure hF); exact rfl; exact rfl; exact rfl; (first | exact trivial | omega | exact ⟨Int.natCast_nonneg _, Int.ofNat_lt.2 (by assumption)⟩ | decide); clear hF a; intro a hF) | (with_reducible refine w_skip ?_) | (with_reducible refine w_block ?_) | ((with_reducible apply c_false2 hF); exact rfl; (first | with_reducible rfl | (refine congrArg Value.bool ?_; focus (simp; done))))))
  have hys0 : (xs.drop u).length = xs.length - u := List.length_drop
  rw [← hys0] at hM hcq
  replace hM := hM.nilRow 83 8
  have hyl0 : (xs.drop u).length ≤ xs.length := by omega
  have hyb0 : ∀ y ∈ xs.drop u, 0 ≤ y ∧ y < 256 := fun y hy => hxb y (List.mem_of_mem_drop hy)
  generalize xs.drop u = zs at *
  refine c_loop (m := k) (fun m a w' => ∃ (i : Nat) (ys : List Int) (done : Dat) (a2 : Option Addr) (c2 : Nat) (rv : Value), m + i = k ∧ rdSec k zs = secPre done (rdSec m ys) ∧ done.length = i ∧ W8 done ∧ By8 done ∧ ys.length ≤ c2 ∧ ys.length + i * 8 ≤ xs.length ∧ (∀ y ∈ ys, 0 ≤ y ∧ y < 256) ∧
    Fr 37 [] [(20, .int .i64 i), (19, .int .i64 k), (8, rv), (0, .pointer (some ⟨b, 0, none⟩)), (1, .func (.func 145) #[] #[])] a ∧
    Mm own w0 (⟨b, ⟨[.slice a2 ys.length c2]⟩, T⟩ :: bs) (⟨83, 8, rv, i, done.flatten.map (Value.int .u8)⟩ :: L) [RdF (Value.int .u8) a2 ys] w')
    ⟨0, zs, [], a1, c1, _, by omega, (secPre_nil _).symm, rfl, fun s hs => (List.not_mem_nil hs).elim, fun s hs => (List.not_mem_nil hs).elim, hcq, by omega, hyb0, hF.sub (by repeat (first | exact Sub.nil | refine Sub.cons rfl (by first | with_reducible rfl | (refine congrArg (Value.int _) ?_; omega) | exact rfl) ?_)), hM.sub (.refl _) (.refl _) (by intro f hf; simp only [List.mem_cons, List.not_mem_nil, or_false] at hf; (repeat (rcases hf with rfl | hf; · (repeat (first | exact List.mem_cons_self | refine List.mem_cons_of_mem _ ?_)))); first | (subst hf; (repeat (first | exact List.mem_cons_self | refine List.mem_cons_of_mem _ ?_)); done) | (repeat (first | exact hf | refine List.mem_cons_of_mem _ ?_)))⟩ ?_
  clear hF hM a
  rintro m a w' ⟨i, ys, done, a2, c2, rv, hm, hrd, hdl, hd8, hdb, hyc, hyl, hyb, hF, hM⟩
  by_cases hi : i < k
  · obtain ⟨m, rfl⟩ : ∃ q, m = q + 1 := ⟨m - 1, by omega⟩
    by_cases h8 : ys.length < 8
    · rw [show rdSec (m + 1) ys = .error 10 by rw [rdSec, if_pos h8]] at hrd
      rw [hrd]
      have hN := sector_bad ys hyb (by omega) a2 c2 ys.length rfl hyc hM h8
      (repeat' (first | (with_reducible refine w_seq ?_) | (with_reducible refine c_region ?_) | (with_reducible refine s_nil ?_) | ((with_reducible apply s_callcM (f := 145) hF); exact rfl; exact rfl; exact rfl; exact rfl; exact rfl; exact rfl; exact rfl; exact (hN); clear hF hM a; rintro v w a ⟨rfl, hM⟩ hF) | (with_reducible refine q_then_n ?_) | ((with_reducible apply s_pure hF); exact rfl; exact rfl; exact rfl; (first | exact trivial | omega | exact ⟨Int.natCast_nonneg _, Int.ofNat_lt.2 (by assumption)⟩ | decide); clear hF a; intro a hF) | ((with_reducible apply s_store hF hM); exact rfl; exact rfl; exact rfl; exact rfl; (repeat (first | exact Upd.z | apply Upd.s)); exact rfl; exact rfl; exact rfl; clear hM; intro w hM) | ((with_reducible apply s_alloc hF hM); exact rfl; exact rfl; exact rfl; clear hF hM a; intro b w a hM hF) | (with_reducible refine w_skip ?_) | (with_reducible refine w_block ?_) | (with_reducible refine w_ret ?_) | (with_reducible refine q_then_r ?_) | (with_reducible refine q_blk_r ?_) | ((with_reducible apply c_true2 hF); exact rfl; (first | with_reducible rfl | (refine congrArg Value.bool ?_; focus (simp; done)))) | ((with_reducible apply c_dec hF); exact rfl; all_goals intro hc; all_goals (try (exfalso; omega)))))
      (apply f_ret Try.results144 hF hM; (repeat (first | exact RL.nil | (apply RL.tmp; exact rfl) | (apply RL.cell; exact rfl; (repeat (first | exact List.mem_cons_self | refine List.mem_cons_of_mem _ ?_)); exact rfl))); refine Both.mk ?_; try dsimp only [resV])
      exact ⟨rfl, by decide, _, _, _, hM⟩
    · rw [secPre_step h8] at hrd
      obtain ⟨x0, x1, x2, x3, x4, x5, x6, x7, ht⟩ := len8 (show (ys.take 8).length = 8 by rw [List.length_take]; omega)
      have hN := sector_ok ys hyb (by omega) a2 c2 ys.length rfl hyc hM (by omega) ht
      have hdr : (ys.drop 8).length = ys.length - 8 := List.length_drop
      have hyb2 : ∀ y ∈ ys.drop 8, 0 ≤ y ∧ y < 256 := fun y hy => hyb y (List.mem_of_mem_drop hy)
      have hsb : ∀ s ∈ ys.take 8, 0 ≤ s ∧ s < 256 := fun y hy => hyb y (List.mem_of_mem_take hy)
      rw [← hdr] at hN
      rw [ht] at hrd hsb
      generalize ys.drop 8 = ys2 at *
      (repeat' (first | (with_reducible refine w_seq ?_) | (with_reducible refine c_region ?_) | (with_reducible refine s_nil ?_) | ((with_reducible apply s_callcM (f := 145) hF); exact rfl; exact rfl; exact rfl; exact rfl; exact rfl; exact rfl; exact rfl; exact (hN); clear hF hM a; rintro v w a ⟨rfl, a3, hM⟩ hF) | (with_reducible refine q_then_n ?_) | ((with_reducible apply s_pure hF); exact rfl; exact rfl; exact rfl; (first | exact trivial | omega | exact ⟨Int.natCast_nonneg _, Int.ofNat_lt.2 (by assumption)⟩ | decide); clear hF a; intro a hF) | ((with_reducible apply s_load hF hM); exact rfl; exact rfl; (repeat (first | exact List.mem_cons_self | refine List.mem_cons_of_mem _ ?_)); exact rfl; exact rfl; clear hF a; intro a hF) | ((with_reducible apply s_store hF hM); exact rfl; exact rfl; exact rfl; exact rfl; (repeat (first | exact Upd.z | apply Upd.s)); exact rfl; exact rfl; exact rfl; clear hM; intro w hM) | ((with_reducible apply s_alloc hF hM); exact rfl; exact rfl; exact rfl; clear hF hM a; intro b w a hM hF) | ((with_reducible apply s_lit hF hM); exact rfl; exact rfl; exact rfl; exact rfl; clear hF hM a; intro bl w a hM hF) | ((with_reducible apply s_app hF hM); exact rfl; exact rfl; exact rfl; exact rfl; (repeat (first | exact Kth.z | apply Kth.s)); exact rfl; exact rfl; exact rfl; exact rfl; omega; clear hF hM a; intro g cap w a hM hF; dsimp only [List.set] at hM) | (with_reducible refine w_skip ?_) | (with_reducible refine w_block ?_) | (with_reducible refine q_blk_n ?_) | ((with_reducible apply c_false2 hF); exact rfl; (first | with_reducible rfl | (refine congrArg Value.bool ?_; focus (simp; done)))) | ((with_reducible apply c_dec hF); exact rfl; all_goals intro hc; all_goals (try (exfalso; omega)))))
      have e1 : (done ++ [[x0, x1, x2, x3, x4, x5, x6, x7]]).flatten.map (Value.int .u8) = done.flatten.map (Value.int .u8) ++ [.int .u8 x0, .int .u8 x1, .int .u8 x2, .int .u8 x3, .int .u8 x4, .int .u8 x5, .int .u8 x6, .int .u8 x7] := by simp
      refine ⟨m, by omega, i + 1, ys2, done ++ [[x0, x1, x2, x3, x4, x5, x6, x7]], a3, c2 - 8, _, by omega, hrd, by simp [hdl], ?_, ?_, by omega, by omega, hyb2, hF.sub (by repeat (first | exact Sub.nil | refine Sub.cons rfl (by first | with_reducible rfl | (refine congrArg (Value.int _) ?_; omega) | exact rfl) ?_)), ?_⟩
      · intro s hs
        rcases List.mem_append.1 hs with hs | hs
        · exact hd8 s hs
        · rw [List.mem_singleton.1 hs]; rfl
      · intro s hs
        rcases List.mem_append.1 hs with hs | hs
        · exact hdb s hs
        · rw [List.mem_singleton.1 hs]; exact hsb
      rw [e1]
      exact hM.sub (.cons _ (.refl _)) (.refl _) (by intro f hf; simp only [List.mem_cons, List.not_mem_nil, or_false] at hf; (repeat (rcases hf with rfl | hf; · (repeat (first | exact List.mem_cons_self | refine List.mem_cons_of_mem _ ?_)))); first | (subst hf; (repeat (first | exact List.mem_cons_self | refine List.mem_cons_of_mem _ ?_)); done) | (repeat (first | exact hf | refine List.mem_cons_of_mem _ ?_)))
  · obtain rfl : i = k := by omega
    obtain rfl : m = 0 := by omega
    rw [hrd]
    obtain ⟨a', c', rfl, hcap, _⟩ := OffR.shape hM (k := 0) rfl (OffR.plain hM List.mem_cons_self)
    (repeat' (first | (with_reducible refine w_seq ?_) | (with_reducible refine c_region ?_) | (with_reducible refine s_nil ?_) | (with_reducible refine q_then_n ?_) | ((with_reducible apply s_pure hF); exact rfl; exact rfl; exact rfl; (first | exact trivial | omega | exact ⟨Int.natCast_nonneg _, Int.ofNat_lt.2 (by assumption)⟩ | decide); clear hF a; intro a hF) | (with_reducible refine w_exit ?_) | (with_reducible refine w_ret ?_) | (with_reducible refine q_then_x ?_) | (with_reducible refine q_blk_x ?_) | ((with_reducible apply c_false2 hF); exact rfl; (first | with_reducible rfl | (refine congrArg Value.bool ?_; focus (simp; done))))))
    (apply f_ret Try.results144 hF hM; (repeat (first | exact RL.nil | (apply RL.tmp; exact rfl) | (apply RL.cell; exact rfl; (repeat (first | exact List.mem_cons_self | refine List.mem_cons_of_mem _ ?_)); exact rfl))); refine Both.mk ?_; try dsimp only [resV])
    subst hdl
    refine ⟨a', c', a2, c2, ?_, hyc, ?_, ?_, hyb, ?_, ?_⟩
    · simp
    · simpa using hd8
    · simpa using hdb
    · simpa using hyl
    · simpa using hM
end
section
variable {own : Nat → Prop} {w0 W : World} {bs : List BoxE} {L : List Ent} {Fs : List (World → Prop)} {b : Nat} {T : TypeId} (hM : Mm own w0 (⟨b, ⟨[.slice a0 xs.length c0]⟩, T⟩ :: bs) L (RdF (Value.int .u8) a0 xs :: Fs) W)
include hM
set_option maxRecDepth 20000 in
theorem sectors_ok {l : Dat} {ys : List Int} (h : rdSecs xs = .ok (l, ys)) : Calls Try.prog 135 ⟨[.pointer (some ⟨b, 0, none⟩)]⟩ W (Rtn fun u w' => ∃ a1 c1 a2 c2, u = .tuple #[.slice a1 l.length c1, .int .i64 0] ∧ ys.length ≤ c2 ∧ W8 l ∧ By8 l ∧ (∀ y ∈ ys, 0 ≤ y ∧ y < 256) ∧ ys.length + l.length * 8 ≤ xs.length ∧ Mm own w0 (⟨b, ⟨[.slice a2 ys.length c2]⟩, T⟩ :: bs) (⟨83, 8, .slice a1 l.length c1, l.length, l.flatten.map (Value.int .u8)⟩ :: L) [RdF (Value.int .u8) a2 ys] w') := by
  have hL := listS_m xs hxb hlen a0 c0 hc0 hM
  rw [h] at hL
  refine f_start Try.func135 rfl Try.ntmps135 rfl rfl ?_; intro a hF
  (repeat' (first | (with_reducible refine w_seq ?_) | (with_reducible refine c_region ?_) | (with_reducible refine s_nil ?_) | ((with_reducible apply s_callM (f := 144) hF); exact rfl; exact rfl; exact rfl; exact rfl; exact rfl; exact (hL); clear hF hM a; rintro v w a ⟨a1, c1, a2, c2, rfl, h1, h2, h3, h4, h5, hM⟩ hF) | (with_reducible refine q_then_n ?_) | ((with_reducible apply s_pure hF); exact rfl; exact rfl; exact rfl; (first | exact trivial | omega | exact ⟨Int.natCast_nonneg _, Int.ofNat_lt.2 (by assumption)⟩ | decide); clear hF a; intro a hF) | (with_reducible refine w_ret ?_)))
  (apply f_ret Try.results135 hF hM; (repeat (first | exact RL.nil | (apply RL.tmp; exact rfl) | (apply RL.cell; exact rfl; (repeat (first | exact List.mem_cons_self | refine List.mem_cons_of_mem _ ?_)); exact rfl))); refine Both.mk ?_; try dsimp only [resV])
  exact ⟨a1, c1, a2, c2, rfl, h1, h2, h3, h4, h5, hM⟩
end
variable (own : Nat → Prop) (W : World) (hl : ∀ b, own b → b < W.heap.size) (hv : Has own W (RdF (Value.int .u8) a0 xs))
include hl hv
end
end Go.Proofs.Ytadfdpkhehdikaa


/- wire: lists of sectors are put. -/
namespace Go.Proofs.Ytadfdpkhehdikaa
open Go.RowKit Go.Shelf D29
namespace D29
/-- The bytes of a list of sectors. -/
def putsS (l : Dat) : List Int := puts l.length ++ l.flatten
end D29
set_option maxRecDepth 20000 in
theorem putSector_m (x0 x1 x2 x3 x4 x5 x6 x7 : Int) {own : Nat → Prop} {w0 W : World} {bs : List BoxE} {L : List Ent} {Fs : List (World → Prop)} {m : Nat} {v : Value} {xs : List Value} (hM : Mm own w0 bs (⟨5, 1, v, m, xs⟩ :: L) Fs W) (hm : m ≤ 100000000000) :
    Calls Try.prog 113 ⟨[v, .agg #[.int .u8 x0, .int .u8 x1, .int .u8 x2, .int .u8 x3, .int .u8 x4, .int .u8 x5, .int .u8 x6, .int .u8 x7]]⟩ W (Rtn fun u w' => ∃ a' c', u = .slice a' (m + 8) c' ∧ Mm own w0 bs (⟨5, 1, .slice a' (m + 8) c', m + 8, xs ++ [x0, x1, x2, x3, x4, x5, x6, x7].map (Value.int .u8)⟩ :: L) Fs w') := by
  refine f_start Try.func113 rfl Try.ntmps113 rfl rfl ?_; intro a hF
  (repeat (first | (with_reducible refine w_seq ?_) | (with_reducible refine c_region ?_) | (with_reducible refine s_nil ?_) | ((with_reducible apply s_arrSl hF); exact rfl; exact rfl; exact rfl; exact rfl; clear hF a; intro a hF) | (with_reducible refine q_then_n ?_) | ((with_reducible apply s_pure hF); exact rfl; exact rfl; exact rfl; (first | exact trivial | omega | exact ⟨Int.natCast_nonneg _, Int.ofNat_lt.2 (by assumption)⟩ | decide); clear hF a; intro a hF) | ((with_reducible apply s_box hF hM); exact rfl; exact rfl; exact rfl; exact rfl; clear hF hM a; intro b w a hM hF) | ((with_reducible apply s_app hF hM); exact rfl; exact rfl; exact rfl; exact rfl; (repeat (first | exact Kth.z | apply Kth.s)); exact rfl; exact rfl; exact rfl; exact rfl; omega; clear hF hM a; intro g cap w a hM hF; dsimp only [List.set] at hM) | (with_reducible refine w_ret ?_)))
  (apply f_ret Try.results113 hF hM; (repeat (first | exact RL.nil | (apply RL.tmp; exact rfl) | (apply RL.cell; exact rfl; (repeat (first | exact List.mem_cons_self | refine List.mem_cons_of_mem _ ?_)); exact rfl))); refine Both.mk ?_; try dsimp only [resV])
  exact ⟨_, _, rfl, hM⟩
theorem flat_take8 {l : Dat} {k : Nat} {s : List Int} (h : l[k]? = some s) : (l.take (k + 1)).flatten = (l.take k).flatten ++ s := by
  rw [take_snoc h, List.flatten_append]
  simp
end Go.Proofs.Ytadfdpkhehdikaa


/- The reference reads sectors. -/
namespace Go.Proofs.Ytadfdpkhehdikaa
open Go.RowKit Go.Shelf D29
section
variable {n : Nat} {ds : List Deferred} {l : List (Nat × Value)} {a : Act} {w w0 : World} {own : Nat → Prop} {bs : List BoxE} {L : List Ent} {Fs : List (World → Prop)} {os rest : List Oper} {Q : Exit → Act → World → Prop} {ty : TypeId} {pos : String} {af : Array Edge} {g : Option (Nat × Bool)}
/-- A store into an element of a box. -/
theorem s_storeB {T T' : TypeId} {X Y : Operand} {b off : Nat} {j : Int} {sz : Nat} {cs cs' vs : List Value} {v : Value} {bs' : List BoxE} (hF : Fr n ds l a) (hM : Mm own w0 bs L Fs w) (hg : wantO os l g = some true) (hX : ev l X = some (.pointer (some (adr ⟨b, off, none⟩ j sz)))) (hY : ev l Y = some v) (hv : cellsO v = some vs)
    (hu : Upd bs ⟨b, ⟨cs⟩, T'⟩ ⟨b, ⟨cs'⟩, T'⟩ bs') (hs : setAt cs (off + j.toNat * sz) vs = some cs') (hT : tyS T = some vs.length) (h1 : oneL vs = true) (k : ∀ w', Mm own w0 bs' L Fs w' → wl ⟨os⟩ Q rest a w') : wl ⟨os⟩ Q (⟨none, .store T X Y, ty, pos, af, g⟩ :: rest) a w := by
  have e : adr ⟨b, off, none⟩ j sz = ⟨b, off + j.toNat * sz, none⟩ := by unfold adr; rw [add_lit]
  rw [e] at hX
  exact s_store hF hM hg hX hY hv hu hs hT h1 k
end
theorem setAt_one : ∀ (l : List Value) (k : Nat) (v : Value), k < l.length → setAt l k [v] = some (l.set k v)
  | [], _, _, h => by simp at h
  | x :: l, 0, v, _ => by simp [setAt]
  | x :: l, k + 1, v, h => by
    rw [setAt, setAt_one l k v (by simpa using h), List.set_cons_succ]
    simp
section
variable {n : Nat} {ds : List Deferred} {l : List (Nat × Value)} {a : Act} {w w0 : World} {own : Nat → Prop} {bs : List BoxE} {L : List Ent} {Fs : List (World → Prop)} {os rest : List Oper} {Q : Exit → Act → World → Prop} {ty : TypeId} {pos : String} {af : Array Edge} {g : Option (Nat × Bool)}
/-- A store into an array of numbers that a box holds. -/
theorem s_storeX {α : Type} {enc : α → Value} {T T' : TypeId} {X Y : Operand} {b k : Nat} {zs : List α} {x : α} {bs' : List BoxE} (hF : Fr n ds l a) (hM : Mm own w0 bs L Fs w) (hg : wantO os l g = some true) (hX : ev l X = some (.pointer (some (adr ⟨b, 0, none⟩ (k : Int) 1)))) (hY : ev l Y = some (enc x)) (hc : cellsO (enc x) = some [enc x]) (h1 : oneL [enc x] = true) (hT : tyS T = some 1)
    (hu : Upd bs ⟨b, ⟨zs.map enc⟩, T'⟩ ⟨b, ⟨(zs.set k x).map enc⟩, T'⟩ bs') (hk : k < zs.length) (kk : ∀ w', Mm own w0 bs' L Fs w' → wl ⟨os⟩ Q rest a w') : wl ⟨os⟩ Q (⟨none, .store T X Y, ty, pos, af, g⟩ :: rest) a w := by
  refine s_storeB hF hM hg hX hY hc hu ?_ (by rw [hT]; rfl) h1 kk
  rw [Int.toNat_natCast, Nat.zero_add, Nat.mul_one, setAt_one _ _ _ (by rw [List.length_map]; exact hk), List.map_set]
end
namespace D29
end D29
end Go.Proofs.Ytadfdpkhehdikaa


/- checksum: the sum of bytes. -/
namespace Go.Proofs.Ytadfdpkhehdikaa
open Go.RowKit Go.Shelf
section
variable {n : Nat} {ds : List Deferred} {l : List (Nat × Value)} {a : Act} {w w0 : World} {own : Nat → Prop} {bs : List BoxE} {L : List Ent} {Fs : List (World → Prop)}
variable {os rest : List Oper} {Q : Exit → Act → World → Prop}
variable {d : Nat} {ty : TypeId} {pos : String} {af : Array Edge} {g : Option (Nat × Bool)}
theorem s_andK {t t' : TypeId} {X Y : Operand} {k : IntKind} {x y : Int} (hF : Fr n ds l a) (hg : wantO os l g = some true) (hX : ev l X = some (.int k x)) (hY : ev l Y = some (.int k y)) (hd : Nat.blt d n = true)
    (kk : ∀ a, Fr n ds ((d, .int k (bits .and k x y)) :: l) a → wl ⟨os⟩ Q rest a w) : wl ⟨os⟩ Q (⟨some d, .binOp .and t X Y t', ty, pos, af, g⟩ :: rest) a w :=
  s_op hF hg fun _ hK => upon_value (e_bits hF hX hY (.inl rfl) rfl w) (hK _ _ (kk _ (hF.put hd _)))
theorem s_mulK {t t' : TypeId} {X Y : Operand} {x y : Int} (hF : Fr n ds l a) (hg : wantO os l g = some true) (hX : ev l X = some (.int .u32 x)) (hY : ev l Y = some (.int .u32 y)) (hd : Nat.blt d n = true)
    (kk : ∀ a, Fr n ds ((d, .int .u32 (x * y % 4294967296)) :: l) a → wl ⟨os⟩ Q rest a w) : wl ⟨os⟩ Q (⟨some d, .binOp .mul t X Y t', ty, pos, af, g⟩ :: rest) a w :=
  s_op hF hg fun _ hK => upon_value (v := .int .u32 (x * y % 4294967296)) (by
    simp only [execOp, hF.eval hX, hF.eval hY, Sem.run_bind, eqGuard_int, Result.andThen]
    simp [binOp, Op.intArith, IntKind.wrap_u32]) (hK _ _ (kk _ (hF.put hd _)))
theorem s_notK {t : TypeId} {X : Operand} {x : Int} (hF : Fr n ds l a) (hg : wantO os l g = some true) (hX : ev l X = some (.int .u32 x)) (hd : Nat.blt d n = true)
    (kk : ∀ a, Fr n ds ((d, .int .u32 (bits .xor .u32 4294967295 x)) :: l) a → wl ⟨os⟩ Q rest a w) : wl ⟨os⟩ Q (⟨some d, .unOp .xor t X, ty, pos, af, g⟩ :: rest) a w :=
  s_op hF hg fun _ hK => upon_value (v := .int .u32 (bits .xor .u32 4294967295 x)) (by
    simp only [execOp, hF.eval hX, Sem.run_bind]
    simp [Op.unary, intBits_xor, Result.andThen]
    rfl) (hK _ _ (kk _ (hF.put hd _)))
theorem s_shr8K {t t' : TypeId} {X Y : Operand} {yk : IntKind} {x : Int} (hF : Fr n ds l a) (hg : wantO os l g = some true) (hX : ev l X = some (.int .u32 x)) (hY : ev l Y = some (.int yk 8)) (hd : Nat.blt d n = true)
    (kk : ∀ a, Fr n ds ((d, .int .u32 (x / 256)) :: l) a → wl ⟨os⟩ Q rest a w) : wl ⟨os⟩ Q (⟨some d, .binOp .shr t X Y t', ty, pos, af, g⟩ :: rest) a w :=
  s_op hF hg fun _ hK => upon_value (v := .int .u32 (x / 256)) (by
    simp only [execOp, hF.eval hX, hF.eval hY, Sem.run_bind, eqGuard_int, Result.andThen]
    have hb2 : min 8 IntKind.u32.bits = 8 := by decide
    simp [binOp, Op.shift, hb2, Result.andThen, Int.fdiv_eq_ediv]) (hK _ _ (kk _ (hF.put hd _)))
theorem seg_all : ∀ cs : List Value, rdV.seg cs 0 cs.length = some cs
  | [] => rfl
  | c :: cs => by rw [List.length_cons, rdV.seg, seg_all cs]
theorem rdV_all {T : TypeId} {m : Nat} {cs : List Value} (h : aggS T = some m) (hl : cs.length = m) : rdV T cs 0 = some (.agg ⟨cs⟩) := by
  unfold aggS at h
  unfold rdV
  split at h
  · rename_i i hi
    obtain ⟨ag, sz, b, d, z⟩ := i
    cases ag with
    | false => simp at h
    | true =>
      simp at h
      subst h
      rw [hi]
      simp only
      rw [← hl, seg_all]
  · cases h
theorem setAt_all : ∀ (cs vs : List Value), cs.length = vs.length → setAt cs 0 vs = some vs
  | [], [], _ => rfl
  | [], _ :: _, h => by simp at h
  | _ :: _, [], h => by simp at h
  | c :: cs, v :: vs, h => by rw [setAt, setAt_all cs vs (by simpa using h)]
theorem oneL_int {k : IntKind} : ∀ xs : List Int, oneL (xs.map (Value.int k)) = true
  | [] => rfl
  | x :: xs => by
    have := oneL_int (k := k) xs
    rw [List.map_cons]
    unfold oneL
    rw [this]
    rfl
end
end Go.Proofs.Ytadfdpkhehdikaa


/- checksum: the table, Update, Sum. -/
namespace Go.Proofs.Ytadfdpkhehdikaa
open Go.RowKit Go.Shelf
namespace B31
/-- One bit of a register. -/
def stp (r : Int) : Int := bits .xor .u32 (r / 2) (2197175160 * bits .and .u32 r 1 % 4294967296)
def stpN : Nat → Int → Int
  | 0, r => r
  | k + 1, r => stp (stpN k r)
def reg (i : Nat) : Int := stpN 8 ((i : Int) % 4294967296)
/-- The table, of which some registers are set. -/
def tabP (k : Nat) : List Int := (List.range k).map reg ++ List.replicate (256 - k) 0
def tabS : List Int := tabP 256
theorem tabP_len {k : Nat} (h : k ≤ 256) : (tabP k).length = 256 := by
  unfold tabP
  rw [List.length_append, List.length_map, List.length_range, List.length_replicate]
  omega
theorem tabP_set {k : Nat} (h : k < 256) : (tabP k).set k (reg k) = tabP (k + 1) := by
  unfold tabP
  rw [List.range_succ, List.map_append, List.append_assoc, show 256 - k = (256 - (k + 1)) + 1 by omega, List.replicate_succ]
  rw [List.set_append_right _ _ (by simp)]
  simp
theorem tabS_len : tabS.length = 256 := tabP_len (by omega)
def upd (r x : Int) : Int := bits .xor .u32 (r / 256) (tabS.getD (bits .xor .u8 (r % 256) x).toNat 0)
/-- The sum of bytes. -/
def sumB (b : List Int) : Int := bits .xor .u32 4294967295 (b.foldl upd (bits .xor .u32 4294967295 0))
theorem bits_u32 {op : BinOp} {x y : Int} : 0 ≤ bits op .u32 x y ∧ bits op .u32 x y < 4294967296 := by
  unfold bits
  dsimp only
  rw [IntKind.wrap_u32]
  omega
theorem bits_u8 {op : BinOp} {x y : Int} : 0 ≤ bits op .u8 x y ∧ bits op .u8 x y < 256 := by
  unfold bits
  dsimp only
  rw [IntKind.wrap_u8]
  omega
theorem sumB_bd (b : List Int) : 0 ≤ sumB b ∧ sumB b < 4294967296 := bits_u32
end B31
open B31
section
variable {n : Nat} {ds : List Deferred} {l : List (Nat × Value)} {a : Act} {w w0 : World} {own : Nat → Prop} {bs : List BoxE} {L : List Ent} {Fs : List (World → Prop)} {os rest : List Oper} {Q : Exit → Act → World → Prop} {d : Nat} {ty : TypeId} {pos : String} {af : Array Edge} {g : Option (Nat × Bool)}
/-- An element of an array of numbers that a box holds. -/
theorem s_loadX {α : Type} {enc : α → Value} {T T' : TypeId} {X : Operand} {b : Nat} {j : Int} {zs : List α} {x : α} (hF : Fr n ds l a) (hM : Mm own w0 bs L Fs w) (hg : wantO os l g = some true) (hX : ev l X = some (.pointer (some (adr ⟨b, 0, none⟩ j 1)))) (hb : (⟨b, ⟨zs.map enc⟩, T'⟩ : BoxE) ∈ bs) (hT : sclO T = some ()) (hd : Nat.blt d n = true) (hx : zs[j.toNat]? = some x)
    (k : ∀ a, Fr n ds ((d, enc x) :: l) a → wl ⟨os⟩ Q rest a w) : wl ⟨os⟩ Q (⟨some d, .load T X, ty, pos, af, g⟩ :: rest) a w := by
  refine s_loadB hF hM hg hX hb ?_ hd k
  unfold sclO at hT
  unfold rdV
  split at hT
  · rename_i i hi
    obtain ⟨ag, sz, b, d, z⟩ := i
    cases ag with
    | true => simp at hT
    | false =>
      rw [hi]
      simp only
      rw [rdV.at'_eq, Nat.zero_add, Nat.mul_one, List.getElem?_map, hx]
      rfl
  · cases hT
end
set_option maxRecDepth 100000 in
set_option maxHeartbeats 4000000 in
theorem registers_c (own : Nat → Prop) (W : World) (hl : ∀ b, own b → b < W.heap.size) : Calls Try.prog 115 ⟨[]⟩ W (Ret W fun v _ => v = .agg ⟨tabS.map (Value.int .u32)⟩) := by
  have hM := Mm.start hl
  refine f_start Try.func115 rfl Try.ntmps115 rfl rfl ?_; intro a hF
  (repeat (first | (with_reducible refine w_seq ?_) | (with_reducible refine c_region ?_) | (with_reducible refine s_nil ?_) | (with_reducible refine q_then_n ?_) | ((with_reducible apply s_pure hF); exact rfl; exact rfl; exact rfl; (first | exact trivial | omega | exact ⟨Int.natCast_nonneg _, Int.ofNat_lt.2 (by assumption)⟩ | decide); clear hF a; intro a hF) | ((with_reducible apply s_alloc hF hM); exact rfl; exact rfl; exact rfl; clear hF hM a; intro b w a hM hF) | (with_reducible refine w_block ?_)))
  rename_i b0 _
  obtain ⟨zs, hzs⟩ : ∃ zs : List Value, zs = (List.replicate 256 (0 : Int)).map (Value.int .u32) := ⟨_, rfl⟩
  replace hM : Mm own W [⟨b, ⟨zs⟩, 205⟩, ⟨b0, ⟨zs⟩, 205⟩] [] [] w := by rw [hzs]; exact hM
  have hzl : zs.length = 256 := by rw [hzs]; simp
  have hz0 : zs = (tabP 0).map (Value.int .u32) := by rw [hzs]; rfl
  rw [hz0] at hM
  refine c_loop (m := 256) (fun m a w' => ∃ k : Nat, m + k = 256 ∧
    Fr 26 [] [(5, .int .i64 k), (1, .pointer (some ⟨b, 0, none⟩)), (0, .pointer (some ⟨b0, 0, none⟩))] a ∧
    Mm own W [⟨b, ⟨(tabP k).map (Value.int .u32)⟩, 205⟩, ⟨b0, ⟨(tabP 0).map (Value.int .u32)⟩, 205⟩] [] [] w') ⟨0, by omega, hF.sub (by repeat (first | exact Sub.nil | refine Sub.cons rfl (by first | with_reducible rfl | (refine congrArg (Value.int _) ?_; omega) | exact rfl) ?_)), hM⟩ ?_
  clear hF hM a
  rintro m a w' ⟨k, hm, hF, hM⟩
  by_cases hk : k < 256
  · have hset := tabP_set hk
    have hlen := tabP_len (k := k) (by omega)
    generalize tabP k = zk at *
    generalize tabP 0 = z0 at *
    (repeat' (first | (with_reducible refine w_seq ?_) | (with_reducible refine c_region ?_) | (with_reducible refine s_nil ?_) | (with_reducible refine q_then_n ?_) | ((with_reducible apply s_pure hF); exact rfl; exact rfl; exact rfl; (first | exact trivial | omega | exact ⟨Int.natCast_nonneg _, Int.ofNat_lt.2 (by assumption)⟩ | decide); clear hF a; intro a hF) | (with_reducible refine w_skip ?_) | (with_reducible refine w_block ?_) | ((with_reducible apply c_dec hF); exact rfl; all_goals intro hc; all_goals (try (exfalso; omega)))))
    refine c_loop (m := 8) (fun mj a w' => ∃ j : Nat, mj + j = 8 ∧
      Fr 26 [] [(10, .int .i64 j), (3, .int .u32 (stpN j ((k : Int) % 4294967296))), (2, .int .i64 k), (5, .int .i64 k), (1, .pointer (some ⟨b, 0, none⟩)), (0, .pointer (some ⟨b0, 0, none⟩))] a ∧
      Mm own W [⟨b, ⟨zk.map (Value.int .u32)⟩, 205⟩, ⟨b0, ⟨z0.map (Value.int .u32)⟩, 205⟩] [] [] w') ⟨0, by omega, hF.sub (by repeat (first | exact Sub.nil | refine Sub.cons rfl (by first | with_reducible rfl | (refine congrArg (Value.int _) ?_; omega) | exact rfl) ?_)), hM⟩ ?_
    clear hF hM a
    rintro mj a w' ⟨j, hmj, hF, hM⟩
    by_cases hj : j < 8
    · (repeat' (first | (with_reducible refine w_seq ?_) | (with_reducible refine c_region ?_) | (with_reducible refine s_nil ?_) | ((with_reducible apply s_shr1 hF); exact rfl; exact rfl; exact rfl; exact rfl; clear hF a; intro a hF) | ((with_reducible apply s_andK hF); exact rfl; exact rfl; exact rfl; exact rfl; clear hF a; intro a hF) | ((with_reducible apply s_mulK hF); exact rfl; exact rfl; exact rfl; exact rfl; clear hF a; intro a hF) | ((with_reducible apply s_xorU hF); exact rfl; exact rfl; exact rfl; exact rfl; clear hF a; intro a hF) | (with_reducible refine q_then_n ?_) | ((with_reducible apply s_pure hF); exact rfl; exact rfl; exact rfl; (first | exact trivial | omega | exact ⟨Int.natCast_nonneg _, Int.ofNat_lt.2 (by assumption)⟩ | decide); clear hF a; intro a hF) | (with_reducible refine w_skip ?_) | (with_reducible refine w_block ?_) | (with_reducible refine q_blk_n ?_) | ((with_reducible apply c_dec hF); exact rfl; all_goals intro hc; all_goals (try (exfalso; omega)))))
      exact ⟨mj - 1, by omega, j + 1, by omega, hF.sub (by repeat (first | exact Sub.nil | refine Sub.cons rfl (by first | with_reducible rfl | (refine congrArg (Value.int _) ?_; omega) | exact rfl) ?_)), hM⟩
    · obtain rfl : j = 8 := by omega
      rw [show stpN 8 ((k : Int) % 4294967296) = reg k from rfl] at hF
      (repeat' (first | (with_reducible refine w_seq ?_) | (with_reducible refine c_region ?_) | (with_reducible refine s_nil ?_) | (with_reducible refine q_then_n ?_) | ((with_reducible apply s_pure hF); exact rfl; exact rfl; exact rfl; (first | exact trivial | omega | exact ⟨Int.natCast_nonneg _, Int.ofNat_lt.2 (by assumption)⟩ | decide); clear hF a; intro a hF) | (with_reducible refine w_exit ?_) | (with_reducible refine q_then_x ?_) | (with_reducible refine q_blk_x ?_) | ((with_reducible apply c_false2 hF); exact rfl; (first | with_reducible rfl | (refine congrArg Value.bool ?_; focus (simp; done))))))
      apply s_storeX hF hM (enc := Value.int .u32) (x := reg k) (k := k)
      · exact rfl
      · exact rfl
      · exact rfl
      · exact rfl
      · exact rfl
      · exact rfl
      · exact Upd.z
      · omega
      clear hM
      intro w hM
      rw [hset] at hM
      (repeat' (first | (with_reducible refine c_region ?_) | (with_reducible refine s_nil ?_) | (with_reducible refine q_then_n ?_) | ((with_reducible apply s_pure hF); exact rfl; exact rfl; exact rfl; (first | exact trivial | omega | exact ⟨Int.natCast_nonneg _, Int.ofNat_lt.2 (by assumption)⟩ | decide); clear hF a; intro a hF) | (with_reducible refine q_blk_n ?_)))
      exact ⟨m - 1, by omega, k + 1, by omega, hF.sub (by repeat (first | exact Sub.nil | refine Sub.cons rfl (by first | with_reducible rfl | (refine congrArg (Value.int _) ?_; omega) | exact rfl) ?_)), hM⟩
  · obtain rfl : k = 256 := by omega
    have hl0 : ((tabP 0).map (Value.int .u32)).length = 256 := by rw [List.length_map]; exact tabP_len (by omega)
    have hlS : ((tabP 256).map (Value.int .u32)).length = 256 := by rw [List.length_map]; exact tabP_len (by omega)
    have h1S : oneL ((tabP 256).map (Value.int .u32)) = true := oneL_int _
    rw [show tabP 256 = tabS from rfl] at hM hlS h1S
    generalize (tabP 0).map (Value.int .u32) = c0 at *
    generalize tabS.map (Value.int .u32) = cS at *
    (repeat' (first | (with_reducible refine w_seq ?_) | (with_reducible refine c_region ?_) | (with_reducible refine s_nil ?_) | (with_reducible refine q_then_n ?_) | ((with_reducible apply s_pure hF); exact rfl; exact rfl; exact rfl; (first | exact trivial | omega | exact ⟨Int.natCast_nonneg _, Int.ofNat_lt.2 (by assumption)⟩ | decide); clear hF a; intro a hF) | (with_reducible refine w_exit ?_) | (with_reducible refine q_then_x ?_) | (with_reducible refine q_blk_x ?_) | ((with_reducible apply c_false2 hF); exact rfl; (first | with_reducible rfl | (refine congrArg Value.bool ?_; focus (simp; done))))))
    apply s_load hF hM
    · exact rfl
    · exact rfl
    · exact List.mem_cons_self
    · exact rdV_all (m := 256) (by kernel_rfl) hlS
    · exact rfl
    clear hF a
    intro a hF
    apply s_store hF hM
    · exact rfl
    · exact rfl
    · exact rfl
    · exact rfl
    · exact Upd.s Upd.z
    · exact setAt_all _ _ (by rw [hl0, hlS])
    · rw [hlS]; kernel_rfl
    · exact h1S
    clear hM
    intro w hM
    (repeat' (first | (with_reducible refine s_nil ?_) | (with_reducible refine q_then_n ?_) | (with_reducible refine w_ret ?_)))
    apply f_ret Try.results115 hF hM
    · exact RL.cell rfl (List.mem_cons_of_mem _ List.mem_cons_self) (rdV_all (m := 256) (by kernel_rfl) hlS) RL.nil
    exact Ret.mk hM.since rfl
end Go.Proofs.Ytadfdpkhehdikaa


/- checksum: Update, Sum. -/
namespace Go.Proofs.Ytadfdpkhehdikaa
open Go.RowKit Go.Shelf B31 D29
set_option maxRecDepth 100000 in
set_option maxHeartbeats 4000000 in
theorem Update_c (xs : List Int) (hb : ∀ x ∈ xs, 0 ≤ x ∧ x < 256) (hlen : xs.length ≤ 1000000) (ab : Option Addr) (nb cb : Nat) (hn : xs.length = nb) (own : Nat → Prop) (W : World) (hl : ∀ b, own b → b < W.heap.size) (hv : Has own W (RdF (Value.int .u8) ab xs)) :
    Calls Try.prog 85 ⟨[.int .u32 0, .slice ab nb cb]⟩ W (Ret W fun v _ => v = .int .u32 (sumB xs)) := by
  subst hn
  have hM := (Mm.start hl).known hv
  have e1 := fun {own W} hl => registers_c own W hl
  have hlS : (tabS.map (Value.int .u32)).length = 256 := by rw [List.length_map]; exact tabS_len
  have h1S : oneL (tabS.map (Value.int .u32)) = true := oneL_int _
  obtain ⟨cS, hcS⟩ : ∃ cS, tabS.map (Value.int .u32) = cS := ⟨_, rfl⟩
  rw [hcS] at e1 hlS h1S
  refine f_start Try.func85 rfl Try.ntmps85 rfl rfl ?_; intro a hF
  (repeat (first | (with_reducible refine w_seq ?_) | (with_reducible refine c_region ?_) | (with_reducible refine s_nil ?_) | ((with_reducible apply s_call (f := 115) hF hM); exact rfl; exact rfl; exact rfl; exact rfl; exact rfl; exact (e1 hM.lt); clear hF hM a; rintro v w a rfl - hM hF) | (with_reducible refine q_then_n ?_) | ((with_reducible apply s_pure hF); exact rfl; exact rfl; exact rfl; (first | exact trivial | omega | exact ⟨Int.natCast_nonneg _, Int.ofNat_lt.2 (by assumption)⟩ | decide); clear hF a; intro a hF) | ((with_reducible apply s_alloc hF hM); exact rfl; exact rfl; exact rfl; clear hF hM a; intro b w a hM hF)))
  obtain ⟨zs, hzs⟩ : ∃ zs : List Value, zs = (List.replicate 256 (0 : Int)).map (Value.int .u32) := ⟨_, rfl⟩
  have hzl : zs.length = 256 := by rw [hzs]; simp
  replace hM : Mm own W [⟨b, ⟨zs⟩, 205⟩] [] [RdF (Value.int .u8) ab xs] w := by rw [hzs]; exact hM
  clear hzs
  apply s_store hF hM
  · exact rfl
  · exact rfl
  · exact rfl
  · exact rfl
  · exact Upd.z
  · exact setAt_all _ _ (by rw [hzl, hlS])
  · rw [hlS]; kernel_rfl
  · exact h1S
  clear hM
  intro w hM
  rw [← hcS] at hM
  (repeat (first | (with_reducible refine w_seq ?_) | (with_reducible refine c_region ?_) | (with_reducible refine s_nil ?_) | ((with_reducible apply s_notK hF); exact rfl; exact rfl; exact rfl; clear hF a; intro a hF) | (with_reducible refine q_then_n ?_) | ((with_reducible apply s_pure hF); exact rfl; exact rfl; exact rfl; (first | exact trivial | omega | exact ⟨Int.natCast_nonneg _, Int.ofNat_lt.2 (by assumption)⟩ | decide); clear hF a; intro a hF) | (with_reducible refine w_block ?_)))
  refine c_loop (m := xs.length) (fun m a w' => ∃ k : Nat, m + k = xs.length ∧
    Fr 30 [] [(14, .int .i64 k), (13, .int .i64 xs.length), (12, .slice ab xs.length cb), (6, .int .u32 ((xs.take k).foldl upd (bits .xor .u32 4294967295 0))), (5, .pointer (some ⟨b, 0, none⟩))] a ∧
    Mm own W [⟨b, ⟨tabS.map (Value.int .u32)⟩, 205⟩] [] [RdF (Value.int .u8) ab xs] w') ⟨0, by omega, hF.sub (by repeat (first | exact Sub.nil | refine Sub.cons rfl (by first | with_reducible rfl | (refine congrArg (Value.int _) ?_; omega) | exact rfl) ?_)), hM⟩ ?_
  clear hF hM a hcS hlS h1S e1
  rintro m a w' ⟨k, hm, hF, hM⟩
  by_cases hk : k < xs.length
  · obtain ⟨x, hx⟩ := get_of_lt hk
    have htk := take_snoc hx
    have hxb := hb x (List.mem_of_getElem? hx)
    obtain ⟨r, hr⟩ : ∃ r, (xs.take k).foldl upd (bits .xor .u32 4294967295 0) = r := ⟨_, rfl⟩
    have hnx : (xs.take (k + 1)).foldl upd (bits .xor .u32 4294967295 0) = upd r x := by rw [htk, List.foldl_append, hr]; rfl
    have hj := bits_u8 (op := .xor) (x := r % 256) (y := x)
    obtain ⟨j, hjj⟩ : ∃ j, bits .xor .u8 (r % 256) x = j := ⟨_, rfl⟩
    rw [hjj] at hj
    obtain ⟨y, hy⟩ := get_of_lt (l := tabS) (i := j.toNat) (by rw [tabS_len]; omega)
    have hup : upd r x = bits .xor .u32 (r / 256) y := by
      unfold upd
      rw [hjj, List.getD_eq_getElem?_getD, hy]
      rfl
    rw [hr] at hF
    obtain ⟨ad, rfl⟩ : ∃ ad, ab = some ad := rd_some hM (enc := Value.int .u8) (a := ab) (xs := xs) (by (repeat (first | exact List.mem_cons_self | refine List.mem_cons_of_mem _ ?_))) hx
    (repeat' (first | (with_reducible refine w_seq ?_) | (with_reducible refine c_region ?_) | (with_reducible refine s_nil ?_) | ((with_reducible apply s_shr8K hF); exact rfl; exact rfl; exact rfl; exact rfl; clear hF a; intro a hF) | ((with_reducible apply s_xorU hF); exact rfl; exact rfl; exact rfl; exact rfl; clear hF a; intro a hF) | (with_reducible refine q_then_n ?_) | ((with_reducible apply s_pure hF); exact rfl; exact rfl; exact rfl; (first | exact trivial | omega | exact ⟨Int.natCast_nonneg _, Int.ofNat_lt.2 (by assumption)⟩ | decide); clear hF a; intro a hF) | ((with_reducible apply s_loadF hF hM); exact rfl; exact rfl; (repeat (first | exact List.mem_cons_self | refine List.mem_cons_of_mem _ ?_)); exact rfl; exact rfl; (first | with_reducible assumption | (simp only [Int.toNat_natCast]; with_reducible assumption)); clear hF a; intro a hF) | (with_reducible refine w_skip ?_) | (with_reducible refine w_block ?_) | ((with_reducible apply c_dec hF); exact rfl; all_goals intro hc; all_goals (try (exfalso; omega)))))
    rw [hjj] at hF
    (repeat (first | fail))
    apply s_loadX hF hM (enc := Value.int .u32) (zs := tabS) (x := y)
    · exact rfl
    · exact rfl
    · exact List.mem_cons_self
    · exact rfl
    · exact rfl
    · exact hy
    clear hF a
    intro a hF
    (repeat (first | (with_reducible refine c_region ?_) | (with_reducible refine s_nil ?_) | ((with_reducible apply s_xorU hF); exact rfl; exact rfl; exact rfl; exact rfl; clear hF a; intro a hF) | (with_reducible refine q_then_n ?_) | ((with_reducible apply s_pure hF); exact rfl; exact rfl; exact rfl; (first | exact trivial | omega | exact ⟨Int.natCast_nonneg _, Int.ofNat_lt.2 (by assumption)⟩ | decide); clear hF a; intro a hF) | (with_reducible refine q_blk_n ?_)))
    rw [← hup, ← hnx] at hF
    exact ⟨m - 1, by omega, k + 1, by omega, hF.sub (by repeat (first | exact Sub.nil | refine Sub.cons rfl (by first | with_reducible rfl | (refine congrArg (Value.int _) ?_; omega) | exact rfl) ?_)), hM⟩
  · obtain rfl : k = xs.length := by omega
    rw [List.take_of_length_le (Nat.le_refl _)] at hF
    (repeat' (first | (with_reducible refine w_seq ?_) | (with_reducible refine c_region ?_) | (with_reducible refine s_nil ?_) | ((with_reducible apply s_notK hF); exact rfl; exact rfl; exact rfl; clear hF a; intro a hF) | (with_reducible refine q_then_n ?_) | ((with_reducible apply s_pure hF); exact rfl; exact rfl; exact rfl; (first | exact trivial | omega | exact ⟨Int.natCast_nonneg _, Int.ofNat_lt.2 (by assumption)⟩ | decide); clear hF a; intro a hF) | (with_reducible refine w_exit ?_) | (with_reducible refine w_ret ?_) | (with_reducible refine q_then_x ?_) | (with_reducible refine q_blk_x ?_) | ((with_reducible apply c_false2 hF); exact rfl; (first | with_reducible rfl | (refine congrArg Value.bool ?_; focus (simp; done))))))
    (apply f_ret Try.results85 hF hM; (repeat (first | exact RL.nil | (apply RL.tmp; exact rfl) | (apply RL.cell; exact rfl; (repeat (first | exact List.mem_cons_self | refine List.mem_cons_of_mem _ ?_)); exact rfl))); refine Ret.mk hM.since ?_; dsimp only [resV])
    rfl
theorem Sum_c (xs : List Int) (hb : ∀ x ∈ xs, 0 ≤ x ∧ x < 256) (hlen : xs.length ≤ 1000000) (ab : Option Addr) (nb cb : Nat) (hn : xs.length = nb) (own : Nat → Prop) (W : World) (hl : ∀ b, own b → b < W.heap.size) (hv : Has own W (RdF (Value.int .u8) ab xs)) :
    Calls Try.prog 50 ⟨[.slice ab nb cb]⟩ W (Ret W fun v _ => v = .int .u32 (sumB xs)) := by
  have hM := (Mm.start hl).known hv
  refine f_start Try.func50 rfl Try.ntmps50 rfl rfl ?_; intro a hF
  (repeat (first | (with_reducible refine w_seq ?_) | (with_reducible refine c_region ?_) | (with_reducible refine s_nil ?_) | ((with_reducible apply s_call (f := 85) hF hM); exact rfl; exact rfl; exact rfl; exact rfl; exact rfl; exact (Update_c xs hb hlen ab nb cb hn _ _ hM.lt (hM.facts (RdF (Value.int .u8) ab xs) (by (repeat (first | exact List.mem_cons_self | refine List.mem_cons_of_mem _ ?_))))); clear hF hM a; rintro v w a rfl - hM hF) | (with_reducible refine q_then_n ?_) | ((with_reducible apply s_pure hF); exact rfl; exact rfl; exact rfl; (first | exact trivial | omega | exact ⟨Int.natCast_nonneg _, Int.ofNat_lt.2 (by assumption)⟩ | decide); clear hF a; intro a hF) | (with_reducible refine w_ret ?_)))
  (apply f_ret Try.results50 hF hM; (repeat (first | exact RL.nil | (apply RL.tmp; exact rfl) | (apply RL.cell; exact rfl; (repeat (first | exact List.mem_cons_self | refine List.mem_cons_of_mem _ ?_)); exact rfl))); refine Ret.mk hM.since ?_; dsimp only [resV])
end Go.Proofs.Ytadfdpkhehdikaa


/- The sizes that are meant where none are given: a number repeated. -/
namespace Go.Proofs.Ytadfdpkhehdikaa
open Go.RowKit Go.Shelf D29 B31
set_option maxRecDepth 20000 in
theorem mul64_c (c : Nat) (hc : c < 4294967296) (W : World) : Calls Try.prog 141 ⟨[.int .u64 1, .int .u64 c]⟩ W (Ret W fun v _ => v = .tuple #[.int .u64 0, .int .u64 c]) := by
  have hM : Mm (fun _ => False) W [] [] [] W := Mm.start (fun _ h => h.elim)
  refine f_start Try.func141 rfl Try.ntmps141 rfl rfl ?_; intro a hF
  (repeat (first | (with_reducible refine w_seq ?_) | (with_reducible refine c_region ?_) | (with_reducible refine s_nil ?_) | ((with_reducible apply s_and32 hF); exact rfl; exact rfl; exact rfl; exact rfl; omega; clear hF a; intro a hF) | ((with_reducible apply s_shr32 hF); exact rfl; exact rfl; exact rfl; exact rfl; exact rfl; omega; clear hF a; intro a hF) | (with_reducible refine q_then_n ?_) | ((with_reducible apply s_pure hF); exact rfl; exact rfl; exact rfl; (first | exact trivial | omega | exact ⟨Int.natCast_nonneg _, Int.ofNat_lt.2 (by assumption)⟩ | decide); clear hF a; intro a hF) | (with_reducible refine w_ret ?_)))
  (apply f_ret Try.results141 hF hM; (repeat (first | exact RL.nil | (apply RL.tmp; exact rfl) | (apply RL.cell; exact rfl; (repeat (first | exact List.mem_cons_self | refine List.mem_cons_of_mem _ ?_)); exact rfl))); refine Ret.mk hM.since ?_; dsimp only [resV])
  simp
  omega
set_option maxRecDepth 20000 in
theorem mul_c (c : Nat) (hc : c < 4294967296) (x q : Int) (hx : x = 1) (hq : q = c) (W : World) : Calls Try.prog 125 ⟨[.int .u64 x, .int .u64 q]⟩ W (Ret W fun v _ => v = .tuple #[.int .u64 0, .int .u64 c]) := by
  have hM : Mm (fun _ => False) W [] [] [] W := Mm.start (fun _ h => h.elim)
  subst hx hq
  refine f_start Try.func125 rfl Try.ntmps125 rfl rfl ?_; intro a hF
  (repeat' (first | (with_reducible refine w_seq ?_) | (with_reducible refine c_region ?_) | (with_reducible refine s_nil ?_) | ((with_reducible apply s_call (f := 141) hF hM); exact rfl; exact rfl; exact rfl; exact rfl; exact rfl; exact (mul64_c c hc _); clear hF hM a; rintro v w a rfl - hM hF) | (with_reducible refine q_then_n ?_) | ((with_reducible apply s_pure hF); exact rfl; exact rfl; exact rfl; (first | exact trivial | omega | exact ⟨Int.natCast_nonneg _, Int.ofNat_lt.2 (by assumption)⟩ | decide); clear hF a; intro a hF) | (with_reducible refine w_skip ?_) | (with_reducible refine w_ret ?_) | ((with_reducible apply c_false2 hF); exact rfl; (first | with_reducible rfl | (refine congrArg Value.bool ?_; focus (simp; done))))))
  (apply f_ret Try.results125 hF hM; (repeat (first | exact RL.nil | (apply RL.tmp; exact rfl) | (apply RL.cell; exact rfl; (repeat (first | exact List.mem_cons_self | refine List.mem_cons_of_mem _ ?_)); exact rfl))); refine Ret.mk hM.since ?_; dsimp only [resV])
namespace B31
/-- n numbers, the rest zero. -/
def mixI (s : Int) (c n : Nat) : List Int := List.replicate n s ++ List.replicate (c - n) 0
theorem mixI_step {s : Int} {c n q : Nat} (hq : n + q ≤ c) :
    ((mixI s c n).map (Value.int .i64)).take n ++ (List.replicate q s).map (Value.int .i64) ++ ((mixI s c n).map (Value.int .i64)).drop (n + ((List.replicate q s).map (Value.int .i64)).length) = (mixI s c (n + q)).map (Value.int .i64) := by
  rw [List.length_map, List.length_replicate, ← List.map_take, ← List.map_drop, ← List.map_append, ← List.map_append]
  congr 1
  unfold mixI
  rw [List.take_left' (by simp), List.drop_append, List.length_replicate, List.drop_eq_nil_of_le (by simp), List.nil_append, show n + q - n = q by omega, List.drop_replicate, List.replicate_append_replicate]
  congr 2
  omega
theorem mixI_pre {s : Int} {c n q : Nat} (hq : q ≤ n) {i : Nat} {v : Value} (h : ((List.replicate q s).map (Value.int .i64))[i]? = some v) : ((mixI s c n).map (Value.int .i64))[i]? = some v := by
  have e : mixI s c n = List.replicate q s ++ (List.replicate (n - q) s ++ List.replicate (c - n) 0) := by
    unfold mixI
    rw [← List.append_assoc]
    congr 1
    rw [List.replicate_append_replicate]
    congr 1
    omega
  rw [e, List.map_append, List.getElem?_append_left (List.getElem?_eq_some_iff.1 h).1]
  exact h
end B31
theorem zerosL_one (v : Value) : ∀ c, zerosL [v] c = List.replicate c v
  | 0 => rfl
  | c + 1 => by rw [zerosL, zerosL_one v c, List.replicate_succ]; rfl
set_option maxRecDepth 20000 in
theorem repeatI_c (s : Int) (c : Nat) (hc0 : 1 ≤ c) (hc : c ≤ 1000000) (a0 : Option Addr) (c1 : Nat) (own : Nat → Prop) (W : World) (hl : ∀ b, own b → b < W.heap.size) (hv : Has own W (RdF (Value.int .i64) a0 [s])) :
    Calls Try.prog 92 ⟨[.slice a0 1 c1, .int .i64 c]⟩ W (Ret W fun v w' => ∃ a' c', v = .slice a' c c' ∧ Has own w' (RdF (Value.int .i64) a' (List.replicate c s))) := by
  have hM := (Mm.start hl).known hv
  refine f_start Try.func92 rfl Try.ntmps92 rfl rfl ?_; intro a hF
  (repeat' (first | (with_reducible refine w_seq ?_) | (with_reducible refine c_region ?_) | (with_reducible refine s_nil ?_) | ((with_reducible apply s_call (f := 125) hF hM); exact rfl; exact rfl; exact rfl; exact rfl; exact rfl; exact (mul_c c (by omega) _ _ (by omega) (by omega) _); clear hF hM a; rintro v w a rfl - hM hF) | (with_reducible refine q_then_n ?_) | ((with_reducible apply s_pure hF); exact rfl; exact rfl; exact rfl; (first | exact trivial | omega | exact ⟨Int.natCast_nonneg _, Int.ofNat_lt.2 (by assumption)⟩ | decide); clear hF a; intro a hF) | (with_reducible refine w_skip ?_) | ((with_reducible apply c_false2 hF); exact rfl; (first | with_reducible rfl | (refine congrArg Value.bool ?_; focus (simp; done)))) | ((with_reducible apply c_dec hF); exact rfl; all_goals intro hc; all_goals (try (exfalso; omega)))))
  apply s_makeZ c hF hM
  iterate 6 exact rfl
  · omega
  · omega
  · omega
  clear hF hM a
  intro b w a hM hF
  obtain ⟨ad, rfl⟩ := rd_some hM (by (repeat (first | exact List.mem_cons_self | refine List.mem_cons_of_mem _ ?_))) (show [s][0]? = some s from rfl)
  (repeat (first | (with_reducible refine w_seq ?_) | (with_reducible refine c_region ?_) | (with_reducible refine s_nil ?_) | (with_reducible refine q_then_n ?_) | ((with_reducible apply s_pure hF); exact rfl; exact rfl; exact rfl; (first | exact trivial | omega | exact ⟨Int.natCast_nonneg _, Int.ofNat_lt.2 (by assumption)⟩ | decide); clear hF a; intro a hF)))
  refine s_op hF rfl fun K hK => ?_
  have hz : zerosL [.int .i64 0] c = (mixI s c 0).map (Value.int .i64) := by
    rw [zerosL_one]
    unfold mixI
    rw [List.replicate_zero, List.nil_append, Nat.sub_zero, List.map_replicate]
  rw [hz] at hM
  have h1c : Nat.min 1 c = 1 := Nat.min_eq_left hc0
  refine e_copyR hF hM (cs := (List.replicate 1 s).map (Value.int .i64)) (off := 0) rfl rfl rfl ?_ .z ?_ ?_ ?_ ?_
  · intro v hv
    obtain ⟨y, _, rfl⟩ := List.mem_map.1 hv
    rfl
  · rw [h1c]; simp
  · intro i v hi
    have hrd := hM.fact (f := RdF (Value.int .i64) (some ad) [s]) (by (repeat (first | exact List.mem_cons_self | refine List.mem_cons_of_mem _ ?_)))
    rw [List.getElem?_map] at hi
    cases hy : (List.replicate 1 s)[i]? with
    | none => rw [hy] at hi; cases hi
    | some y =>
      rw [hy] at hi
      injection hi with hi
      subst hi
      obtain ⟨b', off', e4, _, e5⟩ := hrd i y hy
      injection e4 with e4
      subst e4
      rw [add_lit]
      exact e5
  · simp; omega
  intro w2 hM
  have hst := mixI_step (s := s) (c := c) (n := 0) (q := 1) (by omega)
  rw [h1c]
  dsimp only [List.set] at hM
  rw [hst] at hM
  refine hK _ _ ?_
  clear hK
  have hF := hF.put (d := 33) rfl (.int .i64 ((1 : Nat) : Int))
  generalize a.put (some 33) _ = a at *
  (repeat (first | (with_reducible refine w_seq ?_) | (with_reducible refine s_nil ?_) | (with_reducible refine q_then_n ?_) | ((with_reducible apply s_pure hF); exact rfl; exact rfl; exact rfl; (first | exact trivial | omega | exact ⟨Int.natCast_nonneg _, Int.ofNat_lt.2 (by assumption)⟩ | decide); clear hF a; intro a hF) | (with_reducible refine w_block ?_)))
  refine c_loop (m := c - 1) (fun m a w' => ∃ k : Nat, m + k = c ∧ 1 ≤ k ∧ k ≤ c ∧ Fr 48 [] [(8, .int .i64 k), (7, .slice (some ⟨b, 0, none⟩) c c)] a ∧
    Mm own W [] [⟨3, 1, .slice (some ⟨b, 0, none⟩) c c, c, (mixI s c k).map (Value.int .i64)⟩] [RdF (Value.int .i64) (some ad) [s]] w') ⟨1, by omega, by omega, by omega, hF.sub (by repeat (first | exact Sub.nil | refine Sub.cons rfl (by first | with_reducible rfl | (refine congrArg (Value.int _) ?_; omega) | exact rfl) ?_)), hM⟩ ?_
  clear hF hM a
  rintro m a w' ⟨k, hm, hk1, hkc, hF, hM⟩
  by_cases hlt : k < c
  · obtain ⟨q, hq⟩ : ∃ q, Nat.min k (c - k) = q := ⟨_, rfl⟩
    have hq1 : q ≤ k := by rw [← hq]; exact Nat.min_le_left _ _
    have hq2 : q ≤ c - k := by rw [← hq]; exact Nat.min_le_right _ _
    have hq3 : 1 ≤ q := by rw [← hq]; exact Nat.le_min.2 ⟨hk1, by omega⟩
    have hone : ∀ v ∈ (List.replicate q s).map (Value.int .i64), v.oneCell' = true := by
      intro v hv
      obtain ⟨y, _, rfl⟩ := List.mem_map.1 hv
      rfl
    have hrl : ((List.replicate q s).map (Value.int .i64)).length = q := by simp
    have hs1 : sadr (some ⟨b, 0, none⟩) k c 1 = some ⟨b, k, none⟩ := by
      unfold sadr
      rw [if_neg (by omega)]
      simp [add_lit]
    have hs2 : sadr (some ⟨b, 0, none⟩) 0 c 1 = some ⟨b, 0, none⟩ := by
      unfold sadr
      rw [if_neg (by omega)]
      simp [add_lit]
    have hst := mixI_step (s := s) (c := c) (n := k) (q := q) (by omega)
    with_reducible refine w_seq ?_
    refine c_cut (fun a' w1 => w1 = w' ∧ Fr 48 [] [(8, .int .i64 k), (7, .slice (some ⟨b, 0, none⟩) c c)] a') ?_ ?_
    · (repeat' (first | (with_reducible refine w_seq ?_) | (with_reducible refine c_region ?_) | (with_reducible refine s_nil ?_) | (with_reducible refine q_then_n ?_) | ((with_reducible apply s_pure hF); exact rfl; exact rfl; exact rfl; (first | exact trivial | omega | exact ⟨Int.natCast_nonneg _, Int.ofNat_lt.2 (by assumption)⟩ | decide); clear hF a; intro a hF) | (with_reducible refine w_skip ?_) | ((with_reducible apply c_dec hF); exact rfl; all_goals intro hc; all_goals (try (exfalso; omega)))))
      exact q_cut ⟨rfl, hF.sub (by repeat (first | exact Sub.nil | refine Sub.cons rfl (by first | with_reducible rfl | (refine congrArg (Value.int _) ?_; omega) | exact rfl) ?_))⟩
    clear hF a
    rintro a w1 ⟨rfl, hF⟩
    with_reducible refine w_block ?_
    refine c_draw (fun i => Nat.ble 10 i) hM ?_; clear hM; intro w hM
    (first | (refine t_pure (i := 0) hF rfl rfl rfl rfl (by kernel_rfl) hM.sm (fun _ _ _ h => h) ?_ ?_; (first | exact trivial | omega | decide); clear hF a; intro a hF))
    (first | (refine t_pure (i := 1) hF rfl rfl rfl rfl (by kernel_rfl) hM.sm (fun _ _ _ h => h) ?_ ?_; (first | exact trivial | omega | decide); clear hF a; intro a hF))
    (first | (refine t_pure (i := 2) hF rfl rfl rfl rfl (by kernel_rfl) hM.sm (fun _ _ _ h => h) ?_ ?_; (first | exact trivial | omega | decide); clear hF a; intro a hF))
    (first | (refine t_pure (i := 3) hF rfl rfl rfl rfl (by kernel_rfl) hM.sm (fun _ _ _ h => h) ?_ ?_; (first | exact trivial | omega | decide); clear hF a; intro a hF))
    replace hF := Fr.same (t := 41) (u := .slice (some ⟨b, k, none⟩) (c - k) (c - k)) hF rfl (by rw [Int.toNat_natCast, hs1]; simp)
    (first | (refine t_pure (i := 4) hF rfl rfl rfl rfl (by kernel_rfl) (hM.sm.sub (fun x hx => by repeat (first | exact hx | refine List.mem_cons_of_mem _ ?_)) (fun _ h => by repeat (first | exact h | refine List.mem_cons_of_mem _ ?_))) (fun _ _ _ h => h) ?_ ?_; (first | exact trivial | omega | decide); clear hF a; intro a hF))
    (first | (refine t_pure (i := 5) hF rfl rfl rfl rfl (by kernel_rfl) (hM.sm.sub (fun x hx => by repeat (first | exact hx | refine List.mem_cons_of_mem _ ?_)) (fun _ h => by repeat (first | exact h | refine List.mem_cons_of_mem _ ?_))) (fun _ _ _ h => h) ?_ ?_; (first | exact trivial | omega | decide); clear hF a; intro a hF))
    (first | (refine t_pure (i := 6) hF rfl rfl rfl rfl (by kernel_rfl) (hM.sm.sub (fun x hx => by repeat (first | exact hx | refine List.mem_cons_of_mem _ ?_)) (fun _ h => by repeat (first | exact h | refine List.mem_cons_of_mem _ ?_))) (fun _ _ _ h => h) ?_ ?_; (first | exact trivial | omega | decide); clear hF a; intro a hF))
    replace hF := Fr.same (t := 44) (u := .slice (some ⟨b, 0, none⟩) k c) hF rfl (by rw [show ((0 : Int)).toNat = 0 from rfl, hs2]; simp)
    refine t_one (i := 7) hF rfl (by kernel_rfl) rfl ?_
    intro K hK
    (refine e_copyR hF hM (cs := (List.replicate q s).map (Value.int .i64)) (off := k) rfl rfl rfl hone .z (by rw [hrl, hq, Nat.mul_one]) (fun i v hi => (hM.mem.own.own _ List.mem_cons_self).cells (g := b) rfl i v (mixI_pre hq1 hi)) (by rw [hrl]; omega) ?_; clear hM; intro w hM; dsimp only [List.set] at hM; rw [hst] at hM; rw [hq]; replace hF := hF.put (d := 45) rfl (.int .i64 (q : Nat)); generalize a.put (some 45) _ = a at *)
    refine hK _ _ (fun _ => (hM.sm.sub (fun x hx => by repeat (first | exact hx | refine List.mem_cons_of_mem _ ?_)) (fun _ h => by repeat (first | exact h | refine List.mem_cons_of_mem _ ?_)))) ?_; clear hK
    (first | (refine t_pure (i := 8) hF rfl rfl rfl rfl (by kernel_rfl) (hM.sm.sub (fun x hx => by repeat (first | exact hx | refine List.mem_cons_of_mem _ ?_)) (fun _ h => by repeat (first | exact h | refine List.mem_cons_of_mem _ ?_))) (fun _ _ _ h => h) ?_ ?_; (first | exact trivial | omega | decide); clear hF a; intro a hF))
    (first | (refine t_pure (i := 9) hF rfl rfl rfl rfl (by kernel_rfl) (hM.sm.sub (fun x hx => by repeat (first | exact hx | refine List.mem_cons_of_mem _ ?_)) (fun _ h => by repeat (first | exact h | refine List.mem_cons_of_mem _ ?_))) (fun _ _ _ h => h) ?_ ?_; (first | exact trivial | omega | decide); clear hF a; intro a hF))
    refine t_done (by kernel_rfl) ?_
    (repeat' (first | (with_reducible refine q_then_n ?_) | (with_reducible refine q_blk_n ?_)))
    exact ⟨m - q, by omega, k + q, by omega, by omega, by omega, hF.sub (by repeat (first | exact Sub.nil | refine Sub.cons rfl (by first | with_reducible rfl | (refine congrArg (Value.int _) ?_; omega) | exact rfl) ?_)), hM⟩
  · obtain rfl : k = c := by omega
    replace hM := hM.freezeN
    (repeat' (first | (with_reducible refine w_seq ?_) | (with_reducible refine c_region ?_) | (with_reducible refine s_nil ?_) | (with_reducible refine q_then_n ?_) | ((with_reducible apply s_pure hF); exact rfl; exact rfl; exact rfl; (first | exact trivial | omega | exact ⟨Int.natCast_nonneg _, Int.ofNat_lt.2 (by assumption)⟩ | decide); clear hF a; intro a hF) | (with_reducible refine w_exit ?_) | (with_reducible refine w_ret ?_) | (with_reducible refine q_then_x ?_) | (with_reducible refine q_blk_x ?_) | ((with_reducible apply c_false2 hF); exact rfl; (first | with_reducible rfl | (refine congrArg Value.bool ?_; focus (simp; done))))))
    (apply f_ret Try.results92 hF hM; (repeat (first | exact RL.nil | (apply RL.tmp; exact rfl) | (apply RL.cell; exact rfl; (repeat (first | exact List.mem_cons_self | refine List.mem_cons_of_mem _ ?_)); exact rfl))); refine Ret.mk hM.since ?_; dsimp only [resV])
    have hO := hM.factOut (f := RdF (Value.int .i64) (some ⟨b, 0, none⟩) (mixI s k k)) (by (repeat (first | exact List.mem_cons_self | refine List.mem_cons_of_mem _ ?_)))
    unfold mixI at hO
    rw [Nat.sub_self, List.replicate_zero, List.append_nil] at hO
    exact ⟨some ⟨b, 0, none⟩, k, rfl, hO⟩
/-- The sizes. -/
abbrev B31.szs : List Int := List.replicate 8 4096
theorem largest_c (own : Nat → Prop) (W : World) (hl : ∀ b, own b → b < W.heap.size) : Calls Try.prog 54 ⟨[]⟩ W (Ret W fun v w' => ∃ a' c', v = .slice a' 8 c' ∧ Has own w' (RdF (Value.int .i64) a' szs)) := by
  have hM := Mm.start hl
  have e1 := fun {own W} a0 c1 hl hv => repeatI_c 4096 8 (by omega) (by omega) a0 c1 own W hl hv
  refine f_start Try.func54 rfl Try.ntmps54 rfl rfl ?_; intro a hF
  (repeat (first | (with_reducible refine w_seq ?_) | (with_reducible refine c_region ?_) | (with_reducible refine s_nil ?_) | (with_reducible refine q_then_n ?_) | ((with_reducible apply s_pure hF); exact rfl; exact rfl; exact rfl; (first | exact trivial | omega | exact ⟨Int.natCast_nonneg _, Int.ofNat_lt.2 (by assumption)⟩ | decide); clear hF a; intro a hF) | ((with_reducible apply s_lit hF hM); exact rfl; exact rfl; exact rfl; exact rfl; clear hF hM a; intro bl w a hM hF)))
  replace hM := hM.freeze
  replace hM := hM.addFact (Has.lit (enc := Value.int .i64) (hM.facts _ List.mem_cons_self) [4096] rfl)
  (((with_reducible apply s_call (f := 92) hF hM); exact rfl; exact rfl; exact rfl; exact rfl; exact rfl; exact (e1 _ _ hM.lt (hM.facts (RdF (Value.int .i64) (some ⟨bl, 0, none⟩) [4096]) (by (repeat (first | with_reducible exact List.mem_cons_self | refine List.mem_cons_of_mem _ ?_))))); clear hF hM a; rintro v w a ⟨a', c', rfl, h5⟩ - hM hF))
  replace hM := hM.addFact h5
  (repeat (first | (with_reducible refine s_nil ?_) | (with_reducible refine q_then_n ?_) | ((with_reducible apply s_pure hF); exact rfl; exact rfl; exact rfl; (first | exact trivial | omega | exact ⟨Int.natCast_nonneg _, Int.ofNat_lt.2 (by assumption)⟩ | decide); clear hF a; intro a hF) | (with_reducible refine w_ret ?_)))
  (apply f_ret Try.results54 hF hM; (repeat (first | exact RL.nil | (apply RL.tmp; exact rfl) | (apply RL.cell; exact rfl; (repeat (first | exact List.mem_cons_self | refine List.mem_cons_of_mem _ ?_)); exact rfl))); refine Ret.mk hM.since ?_; dsimp only [resV])
  exact ⟨a', c', rfl, hM.factOut (f := RdF (Value.int .i64) a' szs) (by (repeat (first | with_reducible exact List.mem_cons_self | refine List.mem_cons_of_mem _ ?_)))⟩
end Go.Proofs.Ytadfdpkhehdikaa


/- Slices made empty, with room; searches in numbers; images of which only the sizes matter. -/
namespace Go.Proofs.Ytadfdpkhehdikaa
open Go.RowKit Go.Shelf D29 B31
section
variable {n : Nat} {ds : List Deferred} {l : List (Nat × Value)} {a : Act} {w w0 : World} {own : Nat → Prop} {bs : List BoxE} {L : List Ent} {Fs : List (World → Prop)}
variable {os rest : List Oper} {Q : Exit → Act → World → Prop} {K : Act → World → Prop}
variable {d : Nat} {op : Op} {ty : TypeId} {pos : String} {af : Array Edge} {g : Option (Nat × Bool)}
/-- A box is a row with room: none of its cells is taken yet. -/
theorem Mm.boxRow0 {b : Nat} {cs : List Value} {e : TypeId} (m : Mm own w0 (⟨b, ⟨cs⟩, e⟩ :: bs) L Fs w) (size c : Nat) (hs : cs.length = c * size) (hn : c ≤ maxLen) :
    Mm own w0 bs (⟨e, size, .slice (some ⟨b, 0, none⟩) 0 c, 0, []⟩ :: L) Fs w := by
  have hbox := m.mem.box _ List.mem_cons_self
  have hnew := m.mem.new _ List.mem_cons_self
  have htwo := m.mem.two
  rw [List.pairwise_cons] at htwo
  refine ⟨⟨m.mem.since, fun x hx => m.mem.box x (List.mem_cons_of_mem _ hx), fun x hx => m.mem.new x (List.mem_cons_of_mem _ hx), htwo.2, ⟨?_, .cons ?_ m.mem.own.apart⟩, ?_⟩, m.low, fun f hf => (m.facts f hf).own_eq ?_⟩
  · intro x hx
    rcases List.mem_cons.1 hx with rfl | hx
    · refine ⟨by simp, .inr ⟨b, c, ⟨cs⟩, rfl, hnew, hbox, Nat.zero_le _, hn, by simpa using hs, ?_⟩⟩
      show cs.take (0 * size) = []
      rw [Nat.zero_mul, List.take_zero]
    · exact m.mem.own.own x hx
  · intro y hy
    right
    intro e2
    exact m.mem.far _ List.mem_cons_self y hy e2.symm
  · intro x hx y hy
    rcases List.mem_cons.1 hy with rfl | hy
    · intro e2
      injection e2 with e2
      exact htwo.1 x hx e2
    · exact m.mem.far x (List.mem_cons_of_mem _ hx) y hy
  · rintro c (h | ⟨x, hx, h⟩ | ⟨y, hy, he⟩)
    · exact .inl h
    · exact .inr (.inl ⟨x, List.mem_cons_of_mem _ hx, h⟩)
    · rcases List.mem_cons.1 hy with rfl | hy
      · injection he with he; exact .inr (.inl ⟨_, List.mem_cons_self, he⟩)
      · exact .inr (.inr ⟨y, hy, he⟩)
/-- A slice made empty, with room. -/
theorem s_make0 {t e : TypeId} {size bytes : Nat} {zs : List Value} {X Y : Operand} {kl kc : IntKind} {zc : Int} (c : Nat) (hF : Fr n ds l a) (hM : Mm own w0 bs L Fs w) (hg : wantO os l g = some true) (hX : ev l X = some (.int kl 0)) (hY : ev l Y = some (.int kc zc)) (he : elO t = some (e, size, bytes)) (hz : (match te e with | some i => cellsO i.zero | none => none) = some zs) (hd : Nat.blt d n = true) (hc : zc = (c : Int)) (hb : (bytes : Int) * (c : Int) ≤ 281474976710656 ∧ (c : Int) ≤ 9223372036854775807)
    (k : ∀ b w' a, Mm own w0 bs (⟨e, size, .slice (some ⟨b, 0, none⟩) 0 c, 0, []⟩ :: L) Fs w' → Fr n ds ((d, .slice (some ⟨b, 0, none⟩) 0 c) :: l) a → wl ⟨os⟩ Q rest a w') : wl ⟨os⟩ Q (⟨some d, .makeSlice t X Y, ty, pos, af, g⟩ :: rest) a w := by
  subst hc
  obtain ⟨e1, e2, i, z, i1, i2, i3, i4, i5⟩ := elO_ok he
  have hzz : z.cells = ⟨zs⟩ := by
    split at hz
    · rename_i i' hi'
      obtain ⟨j, j1, j2, j3, j4⟩ := (te_ok hi').info
      rw [i1] at j1
      injection j1 with j1
      subst j1
      rw [i2] at j2
      injection j2 with j2
      subst j2
      exact cellsO_ok hz
    · cases hz
  have hr := run_make (P := Try.prog) w t e i z e1 i1 i2 kl kc 0 (c : Int) (Int.le_refl _) (by omega) (by rw [i4]; exact hb.1) hb.2
  have hmz : madeCells z.cells (c * i.size) = (zerosL zs c).toArray := by
    have := zeros_eq (z := z.cells) (size := i.size) (len := c) (by rw [i5, i3])
    rw [hzz] at this ⊢
    exact this
  rw [Int.toNat_natCast, hmz] at hr
  refine s_op hF hg fun _ hK => upon_value (v := .slice (some ⟨w.heap.size, 0, none⟩) 0 c) (w' := w.alloc (.cells (zerosL zs c).toArray e)) ?_ (hK _ _ (k _ _ _ ((hM.box ⟨zerosL zs c⟩ e).boxRow0 size c ?_ ?_) (hF.put hd _)))
  · simp [execOp, hF.eval hX, hF.eval hY, hr, Sem.run_bind, Result.andThen]
  · rw [zerosL_len]
    have : zs.length = size := by rw [hzz] at i5; simpa using i5
    rw [this]
  · unfold maxLen
    omega
end
set_option maxRecDepth 20000 in
theorem idxI_c (f : FuncId) (q : Int → Bool) (he : memB entL f = true) (xs : List Int) (n : Nat) (hn : xs.length = n) (htl : n ≤ 1000000) (hf : ∀ t ∈ xs, ∀ (own : Nat → Prop) (W : World), (∀ b, own b → b < W.heap.size) → Calls Try.prog f ⟨[.int .i64 t]⟩ W (Ret W fun v _ => v = .bool (q t))) (a0 : Option Addr) (c0 : Nat) (own : Nat → Prop) (W : World) (hl : ∀ b, own b → b < W.heap.size) (h3 : Has own W (RdF (Value.int .i64) a0 xs)) :
    Calls Try.prog 137 ⟨[.slice a0 n c0, .func (.func f) #[] #[]]⟩ W (Ret W fun v _ => ∃ i : Int, v = .int .i64 i ∧ IdxOf q xs i) := by
  subst hn
  have hM := (Mm.start hl).known h3
  refine f_start Try.func137 rfl Try.ntmps137 rfl rfl ?_; intro a hF
  (repeat (first | (with_reducible refine w_seq ?_) | (with_reducible refine c_region ?_) | (with_reducible refine s_nil ?_) | (with_reducible refine q_then_n ?_) | ((with_reducible apply s_pure hF); exact rfl; exact rfl; exact rfl; (first | exact trivial | omega | exact ⟨Int.natCast_nonneg _, Int.ofNat_lt.2 (by assumption)⟩ | decide); clear hF a; intro a hF) | (with_reducible refine w_block ?_)))
  refine c_loop (m := xs.length) (fun m a w' => ∃ k : Nat, m + k = xs.length ∧ (∀ y ∈ xs.take k, q y = false) ∧
    Fr 19 [] [(8, .int .i64 k), (7, .int .i64 xs.length), (0, .slice a0 xs.length c0), (1, .func (.func f) #[] #[])] a ∧
    Mm own W [] [] [RdF (Value.int .i64) a0 xs] w') ⟨0, by omega, by simp, hF.sub (by repeat (first | exact Sub.nil | refine Sub.cons rfl (by first | with_reducible rfl | (refine congrArg (Value.int _) ?_; omega) | exact rfl) ?_)), hM⟩ ?_
  clear hF hM a
  rintro m a w' ⟨k, hm, hno, hF, hM⟩
  by_cases hk : k < xs.length
  · obtain ⟨t, ht⟩ := get_of_lt hk
    have hfc := hf t (List.mem_of_getElem? ht)
    obtain ⟨ad, rfl⟩ : ∃ ad, a0 = some ad := rd_some hM (enc := Value.int .i64) (a := a0) (xs := xs) (by (repeat (first | exact List.mem_cons_self | refine List.mem_cons_of_mem _ ?_))) ht
    (repeat' (first | (with_reducible refine w_seq ?_) | (with_reducible refine c_region ?_) | (with_reducible refine s_nil ?_) | (with_reducible refine q_then_n ?_) | ((with_reducible apply s_pure hF); exact rfl; exact rfl; exact rfl; (first | exact trivial | omega | exact ⟨Int.natCast_nonneg _, Int.ofNat_lt.2 (by assumption)⟩ | decide); clear hF a; intro a hF) | ((with_reducible apply s_loadF hF hM); exact rfl; exact rfl; (repeat (first | exact List.mem_cons_self | refine List.mem_cons_of_mem _ ?_)); exact rfl; exact rfl; (first | with_reducible assumption | (simp only [Int.toNat_natCast]; with_reducible assumption)); clear hF a; intro a hF) | (with_reducible refine w_skip ?_) | (with_reducible refine w_block ?_) | ((with_reducible apply c_dec hF); exact rfl; all_goals intro hc; all_goals (try (exfalso; omega)))))
    (((with_reducible apply s_callc (f := f) hF hM); exact rfl; exact rfl; exact rfl; exact rfl; exact rfl; (with_reducible assumption); exact rfl; exact (hfc _ _ hM.lt); clear hF hM a; rintro v w a rfl - hM hF))
    cases hq : q t with
    | true =>
      rw [hq] at hF
      (repeat' (first | (with_reducible refine w_seq ?_) | (with_reducible refine c_region ?_) | (with_reducible refine s_nil ?_) | (with_reducible refine q_then_n ?_) | ((with_reducible apply s_pure hF); exact rfl; exact rfl; exact rfl; (first | exact trivial | omega | exact ⟨Int.natCast_nonneg _, Int.ofNat_lt.2 (by assumption)⟩ | decide); clear hF a; intro a hF) | (with_reducible refine w_ret ?_) | (with_reducible refine q_then_r ?_) | (with_reducible refine q_blk_r ?_) | ((with_reducible apply c_true2 hF); exact rfl; (first | with_reducible rfl | (refine congrArg Value.bool ?_; focus (simp; done))))))
      (apply f_ret Try.results137 hF hM; (repeat (first | exact RL.nil | (apply RL.tmp; exact rfl) | (apply RL.cell; exact rfl; (repeat (first | exact List.mem_cons_self | refine List.mem_cons_of_mem _ ?_)); exact rfl))); refine Ret.mk hM.since ?_; dsimp only [resV])
      exact ⟨_, rfl, IdxOf.some ht hq hno⟩
    | false =>
      rw [hq] at hF
      (repeat' (first | (with_reducible refine c_region ?_) | (with_reducible refine s_nil ?_) | (with_reducible refine q_then_n ?_) | ((with_reducible apply s_pure hF); exact rfl; exact rfl; exact rfl; (first | exact trivial | omega | exact ⟨Int.natCast_nonneg _, Int.ofNat_lt.2 (by assumption)⟩ | decide); clear hF a; intro a hF) | (with_reducible refine w_skip ?_) | (with_reducible refine q_blk_n ?_) | ((with_reducible apply c_false2 hF); exact rfl; (first | with_reducible rfl | (refine congrArg Value.bool ?_; focus (simp; done))))))
      exact ⟨m - 1, by omega, k + 1, by omega, pre_succ hno ht hq, hF.sub (by repeat (first | exact Sub.nil | refine Sub.cons rfl (by first | with_reducible rfl | (refine congrArg (Value.int _) ?_; omega) | exact rfl) ?_)), hM⟩
  · rw [List.take_of_length_le (by omega)] at hno
    (repeat' (first | (with_reducible refine w_seq ?_) | (with_reducible refine c_region ?_) | (with_reducible refine s_nil ?_) | (with_reducible refine q_then_n ?_) | ((with_reducible apply s_pure hF); exact rfl; exact rfl; exact rfl; (first | exact trivial | omega | exact ⟨Int.natCast_nonneg _, Int.ofNat_lt.2 (by assumption)⟩ | decide); clear hF a; intro a hF) | (with_reducible refine w_exit ?_) | (with_reducible refine w_ret ?_) | (with_reducible refine q_then_x ?_) | (with_reducible refine q_blk_x ?_) | ((with_reducible apply c_dec hF); exact rfl; all_goals intro hc; all_goals (try (exfalso; omega)))))
    (apply f_ret Try.results137 hF hM; (repeat (first | exact RL.nil | (apply RL.tmp; exact rfl) | (apply RL.cell; exact rfl; (repeat (first | exact List.mem_cons_self | refine List.mem_cons_of_mem _ ?_)); exact rfl))); refine Ret.mk hM.since ?_; dsimp only [resV])
    exact ⟨_, rfl, IdxOf.none hno⟩
theorem conI_c (f : FuncId) (q : Int → Bool) (he : memB entL f = true) (xs : List Int) (n : Nat) (hn : xs.length = n) (htl : n ≤ 1000000) (hf : ∀ t ∈ xs, ∀ (own : Nat → Prop) (W : World), (∀ b, own b → b < W.heap.size) → Calls Try.prog f ⟨[.int .i64 t]⟩ W (Ret W fun v _ => v = .bool (q t))) (a0 : Option Addr) (c0 : Nat) (own : Nat → Prop) (W : World) (hl : ∀ b, own b → b < W.heap.size) (h3 : Has own W (RdF (Value.int .i64) a0 xs)) :
    Calls Try.prog 120 ⟨[.slice a0 n c0, .func (.func f) #[] #[]]⟩ W (Ret W fun v _ => v = .bool (xs.any q)) := by
  have hM := (Mm.start hl).known h3
  refine f_start Try.func120 rfl Try.ntmps120 rfl rfl ?_; intro a hF
  (repeat (first | (with_reducible refine w_seq ?_) | (with_reducible refine c_region ?_) | (with_reducible refine s_nil ?_) | (with_reducible refine q_then_n ?_) | ((with_reducible apply s_pure hF); exact rfl; exact rfl; exact rfl; (first | exact trivial | omega | exact ⟨Int.natCast_nonneg _, Int.ofNat_lt.2 (by assumption)⟩ | decide); clear hF a; intro a hF)))
  (((with_reducible apply s_call (f := 137) hF hM); exact rfl; exact rfl; exact rfl; exact rfl; exact rfl; exact (idxI_c f q he xs n hn htl hf a0 c0 _ _ hM.lt (hM.facts (RdF (Value.int .i64) a0 xs) (by (repeat (first | exact List.mem_cons_self | refine List.mem_cons_of_mem _ ?_))))); clear hF hM a; rintro v w a ⟨i, rfl, hi⟩ - hM hF))
  (repeat (first | (with_reducible refine s_nil ?_) | (with_reducible refine q_then_n ?_) | ((with_reducible apply s_pure hF); exact rfl; exact rfl; exact rfl; (first | exact trivial | omega | exact ⟨Int.natCast_nonneg _, Int.ofNat_lt.2 (by assumption)⟩ | decide); clear hF a; intro a hF) | (with_reducible refine w_ret ?_)))
  (apply f_ret Try.results120 hF hM; (repeat (first | exact RL.nil | (apply RL.tmp; exact rfl) | (apply RL.cell; exact rfl; (repeat (first | exact List.mem_cons_self | refine List.mem_cons_of_mem _ ?_)); exact rfl))); refine Ret.mk hM.since ?_; dsimp only [resV])
  rw [← hi.any]
namespace B31
def badS (n : Int) : Bool := decide (n < 1) || decide (4096 < n)
/-- Slices of sectors, of which only the sizes matter. -/
def encS3 (p : Option Addr × Nat × Nat) : Value := .slice p.1 p.2.1 p.2.2
end B31
theorem badS_c (t : Int) (own : Nat → Prop) (W : World) (hl : ∀ b, own b → b < W.heap.size) : Calls Try.prog 136 ⟨[.int .i64 t]⟩ W (Ret W fun v _ => v = .bool (badS t)) := by
  have hM := Mm.start hl
  unfold badS
  refine f_start Try.func136 rfl Try.ntmps136 rfl rfl ?_; intro a hF
  by_cases h : t < 1
  · rw [decide_eq_true h]
    (repeat' (first | (with_reducible refine w_seq ?_) | (with_reducible refine c_region ?_) | (with_reducible refine s_nil ?_) | (with_reducible refine q_then_n ?_) | ((with_reducible apply s_pure hF); exact rfl; exact rfl; exact rfl; (first | exact trivial | omega | exact ⟨Int.natCast_nonneg _, Int.ofNat_lt.2 (by assumption)⟩ | decide); clear hF a; intro a hF) | (with_reducible refine w_ret ?_) | ((with_reducible apply s_skip hF); exact rfl; exact rfl; clear hF a; intro a hF) | ((fail_if_success ((with_reducible refine g_known true hF ?_ ?_); focus exact rfl)); (fail_if_success ((with_reducible refine g_known false hF ?_ ?_); focus exact rfl)); (with_reducible apply g_dec hF); exact rfl; exact rfl; all_goals (clear hF; intro hc hF); all_goals (try (exfalso; omega)))))
    (apply f_ret Try.results136 hF hM; (repeat (first | exact RL.nil | (apply RL.tmp; exact rfl) | (apply RL.cell; exact rfl; (repeat (first | exact List.mem_cons_self | refine List.mem_cons_of_mem _ ?_)); exact rfl))); refine Ret.mk hM.since ?_; dsimp only [resV])
    rfl
  · rw [decide_eq_false h]
    (repeat' (first | (with_reducible refine w_seq ?_) | (with_reducible refine c_region ?_) | (with_reducible refine s_nil ?_) | (with_reducible refine q_then_n ?_) | ((with_reducible apply s_pure hF); exact rfl; exact rfl; exact rfl; (first | exact trivial | omega | exact ⟨Int.natCast_nonneg _, Int.ofNat_lt.2 (by assumption)⟩ | decide); clear hF a; intro a hF) | (with_reducible refine w_ret ?_) | ((fail_if_success ((with_reducible refine g_known true hF ?_ ?_); focus exact rfl)); (fail_if_success ((with_reducible refine g_known false hF ?_ ?_); focus exact rfl)); (with_reducible apply g_dec hF); exact rfl; exact rfl; all_goals (clear hF; intro hc hF); all_goals (try (exfalso; omega)))))
    (apply f_ret Try.results136 hF hM; (repeat (first | exact RL.nil | (apply RL.tmp; exact rfl) | (apply RL.cell; exact rfl; (repeat (first | exact List.mem_cons_self | refine List.mem_cons_of_mem _ ?_)); exact rfl))); refine Ret.mk hM.since ?_; dsimp only [resV])
    rfl
theorem checkSizes_c (a0 : Option Addr) (c0 : Nat) (own : Nat → Prop) (W : World) (hl : ∀ b, own b → b < W.heap.size) (h : Has own W (RdF (Value.int .i64) a0 szs)) :
    Calls Try.prog 117 ⟨[.slice a0 8 c0]⟩ W (Ret W fun v _ => v = .int .i64 0) := by
  have hM := (Mm.start hl).known h
  have e1 := fun {own W} hl h3 => conI_c 136 badS rfl szs 8 rfl (by omega) (fun t _ own W hl => badS_c t own W hl) a0 c0 own W hl h3
  rw [show szs.any badS = false from by decide] at e1
  refine f_start Try.func117 rfl Try.ntmps117 rfl rfl ?_; intro a hF
  (repeat' (first | (with_reducible refine w_seq ?_) | (with_reducible refine c_region ?_) | (with_reducible refine s_nil ?_) | ((with_reducible apply s_call (f := 120) hF hM); exact rfl; exact rfl; exact rfl; exact rfl; exact rfl; exact (e1 hM.lt (hM.facts (RdF (Value.int .i64) a0 szs) (by (repeat (first | exact List.mem_cons_self | refine List.mem_cons_of_mem _ ?_))))); clear hF hM a; rintro v w a rfl - hM hF) | (with_reducible refine q_then_n ?_) | ((with_reducible apply s_pure hF); exact rfl; exact rfl; exact rfl; (first | exact trivial | omega | exact ⟨Int.natCast_nonneg _, Int.ofNat_lt.2 (by assumption)⟩ | decide); clear hF a; intro a hF) | (with_reducible refine w_skip ?_) | (with_reducible refine w_ret ?_) | ((with_reducible apply c_false2 hF); exact rfl; (first | with_reducible rfl | (refine congrArg Value.bool ?_; focus (simp; done))))))
  (apply f_ret Try.results117 hF hM; (repeat (first | exact RL.nil | (apply RL.tmp; exact rfl) | (apply RL.cell; exact rfl; (repeat (first | exact List.mem_cons_self | refine List.mem_cons_of_mem _ ?_)); exact rfl))); refine Ret.mk hM.since ?_; dsimp only [resV])
end Go.Proofs.Ytadfdpkhehdikaa


/- image.New, Fits: images of which only the sizes matter. -/
namespace Go.Proofs.Ytadfdpkhehdikaa
open Go.RowKit Go.Shelf D29 B31
theorem new1_c (c : Nat) (hc : c ≤ 4096) (own : Nat → Prop) (W : World) (hl : ∀ b, own b → b < W.heap.size) : Calls Try.prog 119 ⟨[.int .i64 c]⟩ W (Ret W fun v _ => ∃ a, v = .slice a c c) := by
  have hM := Mm.start hl
  refine f_start Try.func119 rfl Try.ntmps119 rfl rfl ?_; intro a hF
  (repeat (first | (with_reducible refine w_seq ?_) | (with_reducible refine c_region ?_) | (with_reducible refine s_nil ?_) | (with_reducible refine q_then_n ?_) | ((with_reducible apply s_pure hF); exact rfl; exact rfl; exact rfl; (first | exact trivial | omega | exact ⟨Int.natCast_nonneg _, Int.ofNat_lt.2 (by assumption)⟩ | decide); clear hF a; intro a hF)))
  apply s_makeZ c hF hM
  iterate 6 exact rfl
  · omega
  · omega
  · omega
  clear hF hM a
  intro b w a hM hF
  (repeat (first | (with_reducible refine s_nil ?_) | (with_reducible refine q_then_n ?_) | ((with_reducible apply s_pure hF); exact rfl; exact rfl; exact rfl; (first | exact trivial | omega | exact ⟨Int.natCast_nonneg _, Int.ofNat_lt.2 (by assumption)⟩ | decide); clear hF a; intro a hF) | (with_reducible refine w_ret ?_)))
  (apply f_ret Try.results119 hF hM; (repeat (first | exact RL.nil | (apply RL.tmp; exact rfl) | (apply RL.cell; exact rfl; (repeat (first | exact List.mem_cons_self | refine List.mem_cons_of_mem _ ?_)); exact rfl))); refine Ret.mk hM.since ?_; dsimp only [resV])
  exact ⟨_, rfl⟩
set_option maxRecDepth 20000 in
theorem mapped1_c (a0 : Option Addr) (c0 : Nat) (own : Nat → Prop) (W : World) (hl : ∀ b, own b → b < W.heap.size) (h : Has own W (RdF (Value.int .i64) a0 szs)) :
    Calls Try.prog 118 ⟨[.slice a0 8 c0, .func (.func 119) #[] #[]]⟩ W (Ret W fun v w' => ∃ a' c' im, v = .slice a' 8 c' ∧ im.length = 8 ∧ (∀ q ∈ im, q.2.1 = 4096) ∧ Has own w' (RdF encS3 a' im)) := by
  have hM := (Mm.start hl).known h
  refine f_start Try.func118 rfl Try.ntmps118 rfl rfl ?_; intro a hF
  (repeat (first | (with_reducible refine w_seq ?_) | (with_reducible refine c_region ?_) | (with_reducible refine s_nil ?_) | (with_reducible refine q_then_n ?_) | ((with_reducible apply s_pure hF); exact rfl; exact rfl; exact rfl; (first | exact trivial | omega | exact ⟨Int.natCast_nonneg _, Int.ofNat_lt.2 (by assumption)⟩ | decide); clear hF a; intro a hF)))
  apply s_make0 8 hF hM
  iterate 6 exact rfl
  · omega
  · omega
  clear hF hM a
  intro b w a hM hF
  (repeat (first | (with_reducible refine w_seq ?_) | (with_reducible refine c_region ?_) | (with_reducible refine s_nil ?_) | (with_reducible refine q_then_n ?_) | ((with_reducible apply s_pure hF); exact rfl; exact rfl; exact rfl; (first | exact trivial | omega | exact ⟨Int.natCast_nonneg _, Int.ofNat_lt.2 (by assumption)⟩ | decide); clear hF a; intro a hF) | (with_reducible refine w_block ?_)))
  refine c_loop (m := 8) (fun m a w' => ∃ (k : Nat) (im : List (Option Addr × Nat × Nat)) (ov : Value), m + k = 8 ∧ im.length = k ∧ (∀ q ∈ im, q.2.1 = 4096) ∧
    Fr 25 [] [(13, .int .i64 k), (12, .int .i64 8), (11, .slice a0 8 c0), (5, ov), (1, .func (.func 119) #[] #[])] a ∧
    Mm own W [] [⟨33, 1, ov, k, im.map encS3⟩] [RdF (Value.int .i64) a0 szs] w') ⟨0, [], _, by omega, rfl, fun q hq => by simp at hq, hF.sub (by repeat (first | exact Sub.nil | refine Sub.cons rfl (by first | with_reducible rfl | (refine congrArg (Value.int _) ?_; omega) | exact rfl) ?_)), hM⟩ ?_
  clear hF hM a
  rintro m a w' ⟨k, im, ov, hm, hik, hi4, hF, hM⟩
  by_cases hk : k < 8
  · have hx : szs[k]? = some 4096 := by
      rw [List.getElem?_replicate, if_pos hk]
    obtain ⟨ad, rfl⟩ : ∃ ad, a0 = some ad := rd_some hM (enc := Value.int .i64) (a := a0) (xs := szs) (by (repeat (first | exact List.mem_cons_self | refine List.mem_cons_of_mem _ ?_))) hx
    have e1 := fun {own W} hl => new1_c 4096 (by omega) own W hl
    generalize hsz : szs = zs at *
    obtain ⟨q4, hq4⟩ : ∃ q : Nat, q = 4096 := ⟨_, rfl⟩
    replace hx : zs[k]? = some ((q4 : Nat) : Int) := by rw [hq4]; exact hx
    rw [← hq4] at e1 hi4
    (repeat' (first | (with_reducible refine w_seq ?_) | (with_reducible refine c_region ?_) | (with_reducible refine s_nil ?_) | ((with_reducible apply s_callc (f := 119) hF hM); exact rfl; exact rfl; exact rfl; exact rfl; exact rfl; exact rfl; exact rfl; exact (e1 hM.lt); clear hF hM a; rintro v w a ⟨a2, rfl⟩ - hM hF) | (with_reducible refine q_then_n ?_) | ((with_reducible apply s_pure hF); exact rfl; exact rfl; exact rfl; (first | exact trivial | omega | exact ⟨Int.natCast_nonneg _, Int.ofNat_lt.2 (by assumption)⟩ | decide); clear hF a; intro a hF) | ((with_reducible apply s_loadF hF hM); exact rfl; exact rfl; (repeat (first | exact List.mem_cons_self | refine List.mem_cons_of_mem _ ?_)); exact rfl; exact rfl; (first | with_reducible assumption | (simp only [Int.toNat_natCast]; with_reducible assumption)); clear hF a; intro a hF) | ((with_reducible apply s_lit hF hM); exact rfl; exact rfl; exact rfl; exact rfl; clear hF hM a; intro bl w a hM hF) | ((with_reducible apply s_app hF hM); exact rfl; exact rfl; exact rfl; exact rfl; (repeat (first | exact Kth.z | apply Kth.s)); exact rfl; exact rfl; exact rfl; exact rfl; omega; clear hF hM a; intro g cap w a hM hF; dsimp only [List.set] at hM) | (with_reducible refine w_skip ?_) | (with_reducible refine w_block ?_) | (with_reducible refine q_blk_n ?_) | ((with_reducible apply c_dec hF); exact rfl; all_goals intro hc; all_goals (try (exfalso; omega)))))
    refine ⟨m - 1, by omega, k + 1, im ++ [(a2, q4, q4)], .slice (some ⟨g, 0, none⟩) (k + 1) cap, by omega, by simp; omega, ?_, hF.sub (by repeat (first | exact Sub.nil | refine Sub.cons rfl (by first | with_reducible rfl | (refine congrArg (Value.int _) ?_; omega) | exact rfl) ?_)), ?_⟩
    · intro q hq
      rcases List.mem_append.1 hq with hq | hq
      · rw [hi4 q hq, hq4]
      · rw [List.mem_singleton.1 hq, ← hq4]
    · have hce : (im ++ [(a2, q4, q4)]).map encS3 = im.map encS3 ++ [.slice a2 q4 q4] := by rw [List.map_append]; rfl
      rw [hce]
      exact hM.sub (by first | exact .refl _ | exact .cons _ (.refl _)) (.refl _) (by intro f hf; simp only [List.mem_cons, List.not_mem_nil, or_false] at hf; (repeat (rcases hf with rfl | hf; · (repeat (first | exact List.mem_cons_self | refine List.mem_cons_of_mem _ ?_)))); first | (subst hf; (repeat (first | exact List.mem_cons_self | refine List.mem_cons_of_mem _ ?_)); done) | (repeat (first | exact hf | refine List.mem_cons_of_mem _ ?_)))
  · obtain rfl : k = 8 := by omega
    obtain ⟨av, cv, rfl, hcv, -⟩ := OffR.shape hM (k := 0) rfl (OffR.plain hM List.mem_cons_self)
    replace hM := hM.freezeN
    (repeat' (first | (with_reducible refine w_seq ?_) | (with_reducible refine c_region ?_) | (with_reducible refine s_nil ?_) | (with_reducible refine q_then_n ?_) | ((with_reducible apply s_pure hF); exact rfl; exact rfl; exact rfl; (first | exact trivial | omega | exact ⟨Int.natCast_nonneg _, Int.ofNat_lt.2 (by assumption)⟩ | decide); clear hF a; intro a hF) | (with_reducible refine w_exit ?_) | (with_reducible refine w_ret ?_) | (with_reducible refine q_then_x ?_) | (with_reducible refine q_blk_x ?_) | ((with_reducible apply c_false2 hF); exact rfl; (first | with_reducible rfl | (refine congrArg Value.bool ?_; focus (simp; done))))))
    (apply f_ret Try.results118 hF hM; (repeat (first | exact RL.nil | (apply RL.tmp; exact rfl) | (apply RL.cell; exact rfl; (repeat (first | exact List.mem_cons_self | refine List.mem_cons_of_mem _ ?_)); exact rfl))); refine Ret.mk hM.since ?_; dsimp only [resV])
    exact ⟨av, cv, im, rfl, hik, hi4, hM.factOut (by (repeat (first | exact List.mem_cons_self | refine List.mem_cons_of_mem _ ?_)))⟩
theorem imNew_c (a0 : Option Addr) (c0 : Nat) (own : Nat → Prop) (W : World) (hl : ∀ b, own b → b < W.heap.size) (h : Has own W (RdF (Value.int .i64) a0 szs)) :
    Calls Try.prog 88 ⟨[.slice a0 8 c0]⟩ W (Ret W fun v w' => ∃ a' c' im, v = .tuple #[.slice a' 8 c', .int .i64 0] ∧ im.length = 8 ∧ (∀ q ∈ im, q.2.1 = 4096) ∧ Has own w' (RdF encS3 a' im)) := by
  have hM := (Mm.start hl).known h
  refine f_start Try.func88 rfl Try.ntmps88 rfl rfl ?_; intro a hF
  (repeat' (first | (with_reducible refine w_seq ?_) | (with_reducible refine c_region ?_) | (with_reducible refine s_nil ?_) | ((with_reducible apply s_call (f := 117) hF hM); exact rfl; exact rfl; exact rfl; exact rfl; exact rfl; exact (checkSizes_c a0 c0 _ _ hM.lt (hM.facts (RdF (Value.int .i64) a0 szs) (by (repeat (first | exact List.mem_cons_self | refine List.mem_cons_of_mem _ ?_))))); clear hF hM a; rintro v w a rfl - hM hF) | ((with_reducible apply s_call (f := 118) hF hM); exact rfl; exact rfl; exact rfl; exact rfl; exact rfl; exact (mapped1_c a0 c0 _ _ hM.lt (hM.facts (RdF (Value.int .i64) a0 szs) (by (repeat (first | exact List.mem_cons_self | refine List.mem_cons_of_mem _ ?_))))); clear hF hM a; rintro v w a ⟨a1, c1, im, rfl, h1, h2, h3⟩ - hM hF; replace hM := hM.addFact h3) | (with_reducible refine q_then_n ?_) | ((with_reducible apply s_pure hF); exact rfl; exact rfl; exact rfl; (first | exact trivial | omega | exact ⟨Int.natCast_nonneg _, Int.ofNat_lt.2 (by assumption)⟩ | decide); clear hF a; intro a hF) | (with_reducible refine w_skip ?_) | (with_reducible refine w_ret ?_) | ((with_reducible apply c_false2 hF); exact rfl; (first | with_reducible rfl | (refine congrArg Value.bool ?_; focus (simp; done))))))
  (apply f_ret Try.results88 hF hM; (repeat (first | exact RL.nil | (apply RL.tmp; exact rfl) | (apply RL.cell; exact rfl; (repeat (first | exact List.mem_cons_self | refine List.mem_cons_of_mem _ ?_)); exact rfl))); refine Ret.mk hM.since ?_; dsimp only [resV])
  exact ⟨a1, c1, im, rfl, h1, h2, hM.factOut (by (repeat (first | with_reducible exact List.mem_cons_self | refine List.mem_cons_of_mem _ ?_)))⟩
theorem sizes1_c (a : Option Addr) (n c : Nat) (own : Nat → Prop) (W : World) (hl : ∀ b, own b → b < W.heap.size) : Calls Try.prog 149 ⟨[.slice a n c]⟩ W (Ret W fun v _ => v = .int .i64 n) := by
  have hM := Mm.start hl
  refine f_start Try.func149 rfl Try.ntmps149 rfl rfl ?_; intro a hF
  (repeat (first | (with_reducible refine w_seq ?_) | (with_reducible refine c_region ?_) | (with_reducible refine s_nil ?_) | (with_reducible refine q_then_n ?_) | ((with_reducible apply s_pure hF); exact rfl; exact rfl; exact rfl; (first | exact trivial | omega | exact ⟨Int.natCast_nonneg _, Int.ofNat_lt.2 (by assumption)⟩ | decide); clear hF a; intro a hF) | (with_reducible refine w_ret ?_)))
  (apply f_ret Try.results149 hF hM; (repeat (first | exact RL.nil | (apply RL.tmp; exact rfl) | (apply RL.cell; exact rfl; (repeat (first | exact List.mem_cons_self | refine List.mem_cons_of_mem _ ?_)); exact rfl))); refine Ret.mk hM.since ?_; dsimp only [resV])
section
variable (im : List (Option Addr × Nat × Nat)) (h8 : im.length = 8) (h4 : ∀ q ∈ im, q.2.1 = 4096) (a0 : Option Addr) (c0 : Nat) (own : Nat → Prop) (W : World) (hl : ∀ b, own b → b < W.heap.size) (h : Has own W (RdF encS3 a0 im))
include h8 h4 hl h
set_option maxRecDepth 20000 in
theorem mapped2_c : Calls Try.prog 148 ⟨[.slice a0 8 c0, .func (.func 149) #[] #[]]⟩ W (Ret W fun v w' => ∃ a' c', v = .slice a' 8 c' ∧ Has own w' (RdF (Value.int .i64) a' szs)) := by
  have hM := (Mm.start hl).known h
  refine f_start Try.func148 rfl Try.ntmps148 rfl rfl ?_; intro a hF
  (repeat (first | (with_reducible refine w_seq ?_) | (with_reducible refine c_region ?_) | (with_reducible refine s_nil ?_) | (with_reducible refine q_then_n ?_) | ((with_reducible apply s_pure hF); exact rfl; exact rfl; exact rfl; (first | exact trivial | omega | exact ⟨Int.natCast_nonneg _, Int.ofNat_lt.2 (by assumption)⟩ | decide); clear hF a; intro a hF)))
  apply s_make0 8 hF hM
  iterate 6 exact rfl
  · omega
  · omega
  clear hF hM a
  intro b w a hM hF
  (repeat (first | (with_reducible refine w_seq ?_) | (with_reducible refine c_region ?_) | (with_reducible refine s_nil ?_) | (with_reducible refine q_then_n ?_) | ((with_reducible apply s_pure hF); exact rfl; exact rfl; exact rfl; (first | exact trivial | omega | exact ⟨Int.natCast_nonneg _, Int.ofNat_lt.2 (by assumption)⟩ | decide); clear hF a; intro a hF) | (with_reducible refine w_block ?_)))
  refine c_loop (m := 8) (fun m a w' => ∃ (k : Nat) (ov : Value), m + k = 8 ∧
    Fr 25 [] [(13, .int .i64 k), (12, .int .i64 8), (11, .slice a0 8 c0), (5, ov), (1, .func (.func 149) #[] #[])] a ∧
    Mm own W [] [⟨3, 1, ov, k, (List.replicate k (4096 : Int)).map (Value.int .i64)⟩] [RdF encS3 a0 im] w') ⟨0, _, by omega, hF.sub (by repeat (first | exact Sub.nil | refine Sub.cons rfl (by first | with_reducible rfl | (refine congrArg (Value.int _) ?_; omega) | exact rfl) ?_)), hM⟩ ?_
  clear hF hM a
  rintro m a w' ⟨k, ov, hm, hF, hM⟩
  by_cases hk : k < 8
  · obtain ⟨q, hq⟩ := get_of_lt (l := im) (i := k) (by omega)
    have hq4 := h4 q (List.mem_of_getElem? hq)
    obtain ⟨ad, rfl⟩ : ∃ ad, a0 = some ad := rd_some hM (enc := encS3) (a := a0) (xs := im) (by (repeat (first | exact List.mem_cons_self | refine List.mem_cons_of_mem _ ?_))) hq
    have e1 := fun {own W} hl => sizes1_c q.1 q.2.1 q.2.2 own W hl
    (repeat' (first | (with_reducible refine w_seq ?_) | (with_reducible refine c_region ?_) | (with_reducible refine s_nil ?_) | ((with_reducible apply s_callc (f := 149) hF hM); exact rfl; exact rfl; exact rfl; exact rfl; exact rfl; exact rfl; exact rfl; exact (e1 hM.lt); clear hF hM a; rintro v w a rfl - hM hF) | (with_reducible refine q_then_n ?_) | ((with_reducible apply s_pure hF); exact rfl; exact rfl; exact rfl; (first | exact trivial | omega | exact ⟨Int.natCast_nonneg _, Int.ofNat_lt.2 (by assumption)⟩ | decide); clear hF a; intro a hF) | ((with_reducible apply s_loadF hF hM); exact rfl; exact rfl; (repeat (first | exact List.mem_cons_self | refine List.mem_cons_of_mem _ ?_)); exact rfl; exact rfl; (first | with_reducible assumption | (simp only [Int.toNat_natCast]; with_reducible assumption)); clear hF a; intro a hF) | ((with_reducible apply s_lit hF hM); exact rfl; exact rfl; exact rfl; exact rfl; clear hF hM a; intro bl w a hM hF) | ((with_reducible apply s_app hF hM); exact rfl; exact rfl; exact rfl; exact rfl; (repeat (first | exact Kth.z | apply Kth.s)); exact rfl; exact rfl; exact rfl; exact rfl; omega; clear hF hM a; intro g cap w a hM hF; dsimp only [List.set] at hM) | (with_reducible refine w_skip ?_) | (with_reducible refine w_block ?_) | (with_reducible refine q_blk_n ?_) | ((with_reducible apply c_dec hF); exact rfl; all_goals intro hc; all_goals (try (exfalso; omega)))))
    refine ⟨m - 1, by omega, k + 1, .slice (some ⟨g, 0, none⟩) (k + 1) cap, by omega, hF.sub (by repeat (first | exact Sub.nil | refine Sub.cons rfl (by first | with_reducible rfl | (refine congrArg (Value.int _) ?_; omega) | exact rfl) ?_)), ?_⟩
    have hce : (List.replicate (k + 1) (4096 : Int)).map (Value.int .i64) = (List.replicate k (4096 : Int)).map (Value.int .i64) ++ [.int .i64 q.2.1] := by
      rw [List.replicate_succ', List.map_append, hq4]
      rfl
    rw [hce]
    exact hM.sub (by first | exact .refl _ | exact .cons _ (.refl _)) (.refl _) (by intro f hf; simp only [List.mem_cons, List.not_mem_nil, or_false] at hf; (repeat (rcases hf with rfl | hf; · (repeat (first | exact List.mem_cons_self | refine List.mem_cons_of_mem _ ?_)))); first | (subst hf; (repeat (first | exact List.mem_cons_self | refine List.mem_cons_of_mem _ ?_)); done) | (repeat (first | exact hf | refine List.mem_cons_of_mem _ ?_)))
  · obtain rfl : k = 8 := by omega
    obtain ⟨av, cv, rfl, hcv, -⟩ := OffR.shape hM (k := 0) rfl (OffR.plain hM List.mem_cons_self)
    replace hM := hM.freezeN
    (repeat' (first | (with_reducible refine w_seq ?_) | (with_reducible refine c_region ?_) | (with_reducible refine s_nil ?_) | (with_reducible refine q_then_n ?_) | ((with_reducible apply s_pure hF); exact rfl; exact rfl; exact rfl; (first | exact trivial | omega | exact ⟨Int.natCast_nonneg _, Int.ofNat_lt.2 (by assumption)⟩ | decide); clear hF a; intro a hF) | (with_reducible refine w_exit ?_) | (with_reducible refine w_ret ?_) | (with_reducible refine q_then_x ?_) | (with_reducible refine q_blk_x ?_) | ((with_reducible apply c_false2 hF); exact rfl; (first | with_reducible rfl | (refine congrArg Value.bool ?_; focus (simp; done))))))
    (apply f_ret Try.results148 hF hM; (repeat (first | exact RL.nil | (apply RL.tmp; exact rfl) | (apply RL.cell; exact rfl; (repeat (first | exact List.mem_cons_self | refine List.mem_cons_of_mem _ ?_)); exact rfl))); refine Ret.mk hM.since ?_; dsimp only [resV])
    exact ⟨av, cv, rfl, hM.factOut (by (repeat (first | exact List.mem_cons_self | refine List.mem_cons_of_mem _ ?_)))⟩
theorem imSizes_c : Calls Try.prog 146 ⟨[.slice a0 8 c0]⟩ W (Ret W fun v w' => ∃ a' c', v = .slice a' 8 c' ∧ Has own w' (RdF (Value.int .i64) a' szs)) := by
  have hM := (Mm.start hl).known h
  refine f_start Try.func146 rfl Try.ntmps146 rfl rfl ?_; intro a hF
  (repeat (first | (with_reducible refine w_seq ?_) | (with_reducible refine c_region ?_) | (with_reducible refine s_nil ?_) | ((with_reducible apply s_call (f := 148) hF hM); exact rfl; exact rfl; exact rfl; exact rfl; exact rfl; exact (mapped2_c im h8 h4 a0 c0 _ _ hM.lt (hM.facts (RdF encS3 a0 im) (by (repeat (first | exact List.mem_cons_self | refine List.mem_cons_of_mem _ ?_))))); clear hF hM a; rintro v w a ⟨a1, c1, rfl, h3⟩ - hM hF; replace hM := hM.addFact h3) | (with_reducible refine q_then_n ?_) | ((with_reducible apply s_pure hF); exact rfl; exact rfl; exact rfl; (first | exact trivial | omega | exact ⟨Int.natCast_nonneg _, Int.ofNat_lt.2 (by assumption)⟩ | decide); clear hF a; intro a hF) | (with_reducible refine w_ret ?_)))
  (apply f_ret Try.results146 hF hM; (repeat (first | exact RL.nil | (apply RL.tmp; exact rfl) | (apply RL.cell; exact rfl; (repeat (first | exact List.mem_cons_self | refine List.mem_cons_of_mem _ ?_)); exact rfl))); refine Ret.mk hM.since ?_; dsimp only [resV])
  exact ⟨a1, c1, rfl, hM.factOut (f := RdF (Value.int .i64) a1 szs) (by (repeat (first | with_reducible exact List.mem_cons_self | refine List.mem_cons_of_mem _ ?_)))⟩
theorem imCheck_c : Calls Try.prog 138 ⟨[.slice a0 8 c0]⟩ W (Ret W fun v _ => v = .int .i64 0) := by
  have hM := (Mm.start hl).known h
  refine f_start Try.func138 rfl Try.ntmps138 rfl rfl ?_; intro a hF
  (repeat (first | (with_reducible refine w_seq ?_) | (with_reducible refine c_region ?_) | (with_reducible refine s_nil ?_) | ((with_reducible apply s_call (f := 146) hF hM); exact rfl; exact rfl; exact rfl; exact rfl; exact rfl; exact (imSizes_c im h8 h4 a0 c0 _ _ hM.lt (hM.facts (RdF encS3 a0 im) (by (repeat (first | exact List.mem_cons_self | refine List.mem_cons_of_mem _ ?_))))); clear hF hM a; rintro v w a ⟨a1, c1, rfl, h3⟩ - hM hF; replace hM := hM.addFact h3) | ((with_reducible apply s_call (f := 117) hF hM); exact rfl; exact rfl; exact rfl; exact rfl; exact rfl; exact (checkSizes_c _ _ _ _ hM.lt (hM.facts (RdF (Value.int .i64) _ szs) (by (repeat (first | exact List.mem_cons_self | refine List.mem_cons_of_mem _ ?_))))); clear hF hM a; rintro v w a rfl - hM hF) | (with_reducible refine q_then_n ?_) | ((with_reducible apply s_pure hF); exact rfl; exact rfl; exact rfl; (first | exact trivial | omega | exact ⟨Int.natCast_nonneg _, Int.ofNat_lt.2 (by assumption)⟩ | decide); clear hF a; intro a hF) | (with_reducible refine w_ret ?_)))
  (apply f_ret Try.results138 hF hM; (repeat (first | exact RL.nil | (apply RL.tmp; exact rfl) | (apply RL.cell; exact rfl; (repeat (first | exact List.mem_cons_self | refine List.mem_cons_of_mem _ ?_)); exact rfl))); refine Ret.mk hM.since ?_; dsimp only [resV])
end
end Go.Proofs.Ytadfdpkhehdikaa


/- image.Fits; coalesce.Check; cycle.Check. -/
namespace Go.Proofs.Ytadfdpkhehdikaa
open Go.RowKit Go.Shelf D29 B31
namespace B31
/-- A write. -/
structure Wr where
  v : Int
  s : Int
  x : Dat
/-- A write, where its data lie, and how many places they have. -/
abbrev WP := Wr × Option Addr × Nat
abbrev wrC (p : WP) : List Value := [.int .i64 p.1.v, .int .i64 p.1.s, .slice p.2.1 p.1.x.length p.2.2]
def cellsW (l : List WP) : List Value := (l.map wrC).flatten
theorem wrC_len (l : List WP) : ∀ y ∈ l.map wrC, y.length = 3 := by
  intro y hy
  obtain ⟨p, -, rfl⟩ := List.mem_map.1 hy
  rfl
theorem cellsW_app (l m : List WP) : cellsW (l ++ m) = cellsW l ++ cellsW m := by simp [cellsW]
def wP (l : List WP) : List P := l.map fun t => (⟨0, t.1.x⟩, t.2)
def wms (l : List WP) : List Wr := l.map (·.1)
theorem wms_app (l m : List WP) : wms (l ++ m) = wms l ++ wms m := by simp [wms]
theorem wms_len (l : List WP) : (wms l).length = l.length := by simp [wms]
theorem wP_mem {l : List WP} {t : WP} (h : t ∈ l) : ((⟨0, t.1.x⟩ : Itm), t.2) ∈ wP l := List.mem_map.2 ⟨t, h, rfl⟩
def fitsE (w : Wr) : Int := if w.v < 0 ∨ 8 ≤ w.v then 7 else if w.x.length = 0 then 1 else if w.s < 0 ∨ 4096 - (w.x.length : Int) < w.s then 2 else 0
theorem fitsE_ok {w : Wr} (h : fitsE w = 0) : (0 ≤ w.v ∧ w.v < 8) ∧ 1 ≤ w.x.length ∧ 0 ≤ w.s ∧ w.s + w.x.length ≤ 4096 := by
  unfold fitsE at h
  split at h
  · cases h
  · split at h
    · cases h
    · split at h
      · cases h
      · omega
/-- Whether a write may stand behind another. -/
def behind (x w : Wr) : Prop := ¬ (w.v < x.v ∨ (w.v = x.v ∧ w.s ≤ x.s + x.x.length))
instance (x w : Wr) : Decidable (behind x w) := by unfold behind; exact inferInstance
def chkWs : Option Wr → List Wr → Int
  | _, [] => 0
  | p, w :: r => if fitsE w ≠ 0 then fitsE w else match p with
    | none => chkWs (some w) r
    | some x => if behind x w then chkWs (some w) r else 3
theorem chkWs_cons (p : Option Wr) (w : Wr) (r : List Wr) : chkWs p (w :: r) = if fitsE w ≠ 0 then fitsE w else match p with
    | none => chkWs (some w) r
    | some x => if behind x w then chkWs (some w) r else 3 := by cases p <;> rfl
theorem chkWs_nil (p : Option Wr) : chkWs p [] = 0 := by cases p <;> rfl
theorem wms_drop {ts : List WP} {k : Nat} {t : WP} (h : ts[k]? = some t) : (wms ts).drop k = t.1 :: (wms ts).drop (k + 1) := by
  unfold wms
  obtain ⟨hk, e⟩ := List.getElem?_eq_some_iff.1 h
  rw [List.drop_eq_getElem_cons (by rw [List.length_map]; exact hk), List.getElem_map, e]
def badP (n : Int) : Bool := !decide (0 ≤ n ∧ n ≤ 1073741824)
def posE (l : List Int) : Int := if 8 < l.length then 6 else if l.any badP then 2 else 0
/-- A cycle. -/
structure Cy where
  b : Int
  n : Int
  t : Int
  pos : List Int
  ws : List Wr
def chkC (c : Cy) : Int := if c.b < 0 ∨ c.n ≤ c.b ∨ 1073741824 < c.n then 2 else if ¬ (0 ≤ c.t ∧ c.t ≤ 1073741824) then 24 else if posE c.pos ≠ 0 then posE c.pos else chkWs none c.ws
abbrev cyV (b n t : Int) (ap : Option Addr) (np cp : Nat) (aw : Option Addr) (nw cw : Nat) : Value := .agg #[.int .i64 b, .int .i64 n, .int .i64 t, .slice ap np cp, .slice aw nw cw]
end B31
section
variable (im : List (Option Addr × Nat × Nat)) (h8 : im.length = 8) (h4 : ∀ q ∈ im, q.2.1 = 4096) (a0 : Option Addr) (c0 : Nat)
include h8 h4
set_option maxRecDepth 20000 in
theorem fits_c (v s : Int) (x : Dat) (ax : Option Addr) (xl cx : Nat) (hx : x.length = xl) (hxl : xl ≤ 1000000) (own : Nat → Prop) (W : World) (hl : ∀ b, own b → b < W.heap.size) (h : Has own W (RdF encS3 a0 im)) :
    Calls Try.prog 139 ⟨[.slice a0 8 c0, .agg #[.int .i64 v, .int .i64 s, .slice ax xl cx]]⟩ W (Ret W fun r _ => r = .int .i64 (fitsE ⟨v, s, x⟩)) := by
  have hM := (Mm.start hl).known h
  unfold fitsE
  dsimp only
  rw [hx]
  refine f_start Try.func139 rfl Try.ntmps139 rfl rfl ?_; intro a hF
  by_cases h7 : v < 0 ∨ 8 ≤ v
  · rw [if_pos h7]
    (repeat' (first | (with_reducible refine w_seq ?_) | (with_reducible refine c_region ?_) | (with_reducible refine s_nil ?_) | (with_reducible refine q_then_n ?_) | ((with_reducible apply s_pure hF); exact rfl; exact rfl; exact rfl; (first | exact trivial | omega | exact ⟨Int.natCast_nonneg _, Int.ofNat_lt.2 (by assumption)⟩ | decide); clear hF a; intro a hF) | ((with_reducible apply s_load hF hM); exact rfl; exact rfl; (repeat (first | exact List.mem_cons_self | refine List.mem_cons_of_mem _ ?_)); exact rfl; exact rfl; clear hF a; intro a hF) | ((with_reducible apply s_box hF hM); exact rfl; exact rfl; exact rfl; exact rfl; clear hF hM a; intro b w a hM hF) | (with_reducible refine w_block ?_) | (with_reducible refine w_ret ?_) | (with_reducible refine q_then_r ?_) | (with_reducible refine q_blk_r ?_) | ((with_reducible apply c_true2 hF); exact rfl; (first | with_reducible rfl | (refine congrArg Value.bool ?_; focus (simp; done)))) | ((with_reducible apply s_skip hF); exact rfl; exact rfl; clear hF a; intro a hF) | ((fail_if_success ((with_reducible refine g_known true hF ?_ ?_); focus exact rfl)); (fail_if_success ((with_reducible refine g_known false hF ?_ ?_); focus exact rfl)); (with_reducible apply g_dec hF); exact rfl; exact rfl; all_goals (clear hF; intro hc hF); all_goals (try (exfalso; omega))) | ((with_reducible apply c_dec hF); exact rfl; all_goals intro hc; all_goals (try (exfalso; omega)))))
    all_goals first | (exfalso; omega) | skip
    all_goals (apply f_ret Try.results139 hF hM; (repeat (first | exact RL.nil | (apply RL.tmp; exact rfl) | (apply RL.cell; exact rfl; (repeat (first | exact List.mem_cons_self | refine List.mem_cons_of_mem _ ?_)); exact rfl))); refine Ret.mk hM.since ?_; dsimp only [resV])
  rw [if_neg h7]
  by_cases h1 : xl = 0
  · rw [if_pos h1]
    (repeat' (first | (with_reducible refine w_seq ?_) | (with_reducible refine c_region ?_) | (with_reducible refine s_nil ?_) | (with_reducible refine q_then_n ?_) | ((with_reducible apply s_pure hF); exact rfl; exact rfl; exact rfl; (first | exact trivial | omega | exact ⟨Int.natCast_nonneg _, Int.ofNat_lt.2 (by assumption)⟩ | decide); clear hF a; intro a hF) | ((with_reducible apply s_load hF hM); exact rfl; exact rfl; (repeat (first | exact List.mem_cons_self | refine List.mem_cons_of_mem _ ?_)); exact rfl; exact rfl; clear hF a; intro a hF) | ((with_reducible apply s_box hF hM); exact rfl; exact rfl; exact rfl; exact rfl; clear hF hM a; intro b w a hM hF) | (with_reducible refine w_block ?_) | (with_reducible refine w_ret ?_) | (with_reducible refine q_then_r ?_) | (with_reducible refine q_blk_r ?_) | ((fail_if_success ((with_reducible refine g_known true hF ?_ ?_); focus exact rfl)); (fail_if_success ((with_reducible refine g_known false hF ?_ ?_); focus exact rfl)); (with_reducible apply g_dec hF); exact rfl; exact rfl; all_goals (clear hF; intro hc hF); all_goals (try (exfalso; omega))) | ((with_reducible apply c_dec hF); exact rfl; all_goals intro hc; all_goals (try (exfalso; omega)))))
    all_goals first | (exfalso; omega) | skip
    all_goals (apply f_ret Try.results139 hF hM; (repeat (first | exact RL.nil | (apply RL.tmp; exact rfl) | (apply RL.cell; exact rfl; (repeat (first | exact List.mem_cons_self | refine List.mem_cons_of_mem _ ?_)); exact rfl))); refine Ret.mk hM.since ?_; dsimp only [resV])
  rw [if_neg h1]
  obtain ⟨vn, rfl⟩ : ∃ vn : Nat, v = vn := ⟨v.toNat, by omega⟩
  obtain ⟨q, hq⟩ := get_of_lt (l := im) (i := vn) (by omega)
  have hq4 := h4 q (List.mem_of_getElem? hq)
  obtain ⟨ad, rfl⟩ : ∃ ad, a0 = some ad := rd_some hM (enc := encS3) (a := a0) (xs := im) (by (repeat (first | exact List.mem_cons_self | refine List.mem_cons_of_mem _ ?_))) hq
  obtain ⟨qa, ql, qc⟩ := q
  dsimp only at hq4
  subst hq4
  by_cases hs : s < 0
  · rw [if_pos (Or.inl hs)]
    (repeat' (first | (with_reducible refine w_seq ?_) | (with_reducible refine c_region ?_) | (with_reducible refine s_nil ?_) | (with_reducible refine q_then_n ?_) | ((with_reducible apply s_pure hF); exact rfl; exact rfl; exact rfl; (first | exact trivial | omega | exact ⟨Int.natCast_nonneg _, Int.ofNat_lt.2 (by assumption)⟩ | decide); clear hF a; intro a hF) | ((with_reducible apply s_load hF hM); exact rfl; exact rfl; (repeat (first | exact List.mem_cons_self | refine List.mem_cons_of_mem _ ?_)); exact rfl; exact rfl; clear hF a; intro a hF) | ((with_reducible apply s_box hF hM); exact rfl; exact rfl; exact rfl; exact rfl; clear hF hM a; intro b w a hM hF) | (with_reducible refine w_block ?_) | ((with_reducible apply c_dec hF); exact rfl; all_goals intro hc; all_goals (try (exfalso; omega)))))
    refine c_draw (fun i => Nat.ble 19 i) hM ?_; clear hM; intro w hM
    (first | (refine t_pure (i := 0) hF rfl rfl rfl rfl (by kernel_rfl) hM.sm (fun _ _ _ h => h) ?_ ?_; (first | exact trivial | omega | decide); clear hF a; intro a hF))
    (first | (apply t_load (i := 1) hF rfl rfl rfl; (repeat (first | exact List.mem_cons_self | refine List.mem_cons_of_mem _ ?_)); exact rfl; exact rfl; kernel_rfl; exact hM.sm; exact (fun _ _ _ h => h); clear hF a; intro a hF))
    (first | (refine t_pure (i := 2) hF rfl rfl rfl rfl (by kernel_rfl) hM.sm (fun _ _ _ h => h) ?_ ?_; (first | exact trivial | omega | decide); clear hF a; intro a hF))
    rw [decide_eq_true hs] at hF
    (first | (refine t_pure (i := 3) hF rfl rfl rfl rfl (by kernel_rfl) (hM.sm.sub (fun x hx => by repeat (first | exact hx | refine List.mem_cons_of_mem _ ?_)) (fun _ h => by repeat (first | exact h | refine List.mem_cons_of_mem _ ?_))) (fun _ _ _ h => h) ?_ ?_; (first | exact trivial | omega | decide); clear hF a; intro a hF))
    (first | (refine t_skip (i := 4) hF rfl rfl rfl (by kernel_rfl) (hM.sm.sub (fun x hx => by repeat (first | exact hx | refine List.mem_cons_of_mem _ ?_)) (fun _ h => by repeat (first | exact h | refine List.mem_cons_of_mem _ ?_))) (fun _ _ _ h => h) ?_; clear hF a; intro a hF))
    (first | (refine t_skip (i := 5) hF rfl rfl rfl (by kernel_rfl) (hM.sm.sub (fun x hx => by repeat (first | exact hx | refine List.mem_cons_of_mem _ ?_)) (fun _ h => by repeat (first | exact h | refine List.mem_cons_of_mem _ ?_))) (fun _ _ _ h => h) ?_; clear hF a; intro a hF))
    (first | (refine t_skip (i := 6) hF rfl rfl rfl (by kernel_rfl) (hM.sm.sub (fun x hx => by repeat (first | exact hx | refine List.mem_cons_of_mem _ ?_)) (fun _ h => by repeat (first | exact h | refine List.mem_cons_of_mem _ ?_))) (fun _ _ _ h => h) ?_; clear hF a; intro a hF))
    (first | (refine t_skip (i := 7) hF rfl rfl rfl (by kernel_rfl) (hM.sm.sub (fun x hx => by repeat (first | exact hx | refine List.mem_cons_of_mem _ ?_)) (fun _ h => by repeat (first | exact h | refine List.mem_cons_of_mem _ ?_))) (fun _ _ _ h => h) ?_; clear hF a; intro a hF))
    (first | (refine t_skip (i := 8) hF rfl rfl rfl (by kernel_rfl) (hM.sm.sub (fun x hx => by repeat (first | exact hx | refine List.mem_cons_of_mem _ ?_)) (fun _ h => by repeat (first | exact h | refine List.mem_cons_of_mem _ ?_))) (fun _ _ _ h => h) ?_; clear hF a; intro a hF))
    (first | (refine t_skip (i := 9) hF rfl rfl rfl (by kernel_rfl) (hM.sm.sub (fun x hx => by repeat (first | exact hx | refine List.mem_cons_of_mem _ ?_)) (fun _ h => by repeat (first | exact h | refine List.mem_cons_of_mem _ ?_))) (fun _ _ _ h => h) ?_; clear hF a; intro a hF))
    (first | (refine t_skip (i := 10) hF rfl rfl rfl (by kernel_rfl) (hM.sm.sub (fun x hx => by repeat (first | exact hx | refine List.mem_cons_of_mem _ ?_)) (fun _ h => by repeat (first | exact h | refine List.mem_cons_of_mem _ ?_))) (fun _ _ _ h => h) ?_; clear hF a; intro a hF))
    (first | (refine t_skip (i := 11) hF rfl rfl rfl (by kernel_rfl) (hM.sm.sub (fun x hx => by repeat (first | exact hx | refine List.mem_cons_of_mem _ ?_)) (fun _ h => by repeat (first | exact h | refine List.mem_cons_of_mem _ ?_))) (fun _ _ _ h => h) ?_; clear hF a; intro a hF))
    (first | (refine t_skip (i := 12) hF rfl rfl rfl (by kernel_rfl) (hM.sm.sub (fun x hx => by repeat (first | exact hx | refine List.mem_cons_of_mem _ ?_)) (fun _ h => by repeat (first | exact h | refine List.mem_cons_of_mem _ ?_))) (fun _ _ _ h => h) ?_; clear hF a; intro a hF))
    (first | (refine t_skip (i := 13) hF rfl rfl rfl (by kernel_rfl) (hM.sm.sub (fun x hx => by repeat (first | exact hx | refine List.mem_cons_of_mem _ ?_)) (fun _ h => by repeat (first | exact h | refine List.mem_cons_of_mem _ ?_))) (fun _ _ _ h => h) ?_; clear hF a; intro a hF))
    (first | (refine t_skip (i := 14) hF rfl rfl rfl (by kernel_rfl) (hM.sm.sub (fun x hx => by repeat (first | exact hx | refine List.mem_cons_of_mem _ ?_)) (fun _ h => by repeat (first | exact h | refine List.mem_cons_of_mem _ ?_))) (fun _ _ _ h => h) ?_; clear hF a; intro a hF))
    (first | (refine t_skip (i := 15) hF rfl rfl rfl (by kernel_rfl) (hM.sm.sub (fun x hx => by repeat (first | exact hx | refine List.mem_cons_of_mem _ ?_)) (fun _ h => by repeat (first | exact h | refine List.mem_cons_of_mem _ ?_))) (fun _ _ _ h => h) ?_; clear hF a; intro a hF))
    (first | (refine t_skip (i := 16) hF rfl rfl rfl (by kernel_rfl) (hM.sm.sub (fun x hx => by repeat (first | exact hx | refine List.mem_cons_of_mem _ ?_)) (fun _ h => by repeat (first | exact h | refine List.mem_cons_of_mem _ ?_))) (fun _ _ _ h => h) ?_; clear hF a; intro a hF))
    (first | (refine t_pure (i := 17) hF rfl rfl rfl rfl (by kernel_rfl) (hM.sm.sub (fun x hx => by repeat (first | exact hx | refine List.mem_cons_of_mem _ ?_)) (fun _ h => by repeat (first | exact h | refine List.mem_cons_of_mem _ ?_))) (fun _ _ _ h => h) ?_ ?_; (first | exact trivial | omega | decide); clear hF a; intro a hF))
    (first | (refine t_pure (i := 18) hF rfl rfl rfl rfl (by kernel_rfl) (hM.sm.sub (fun x hx => by repeat (first | exact hx | refine List.mem_cons_of_mem _ ?_)) (fun _ h => by repeat (first | exact h | refine List.mem_cons_of_mem _ ?_))) (fun _ _ _ h => h) ?_ ?_; (first | exact trivial | omega | decide); clear hF a; intro a hF))
    refine t_done (by kernel_rfl) ?_
    (repeat' (first | (with_reducible refine w_seq ?_) | (with_reducible refine c_region ?_) | (with_reducible refine s_nil ?_) | (with_reducible refine q_then_n ?_) | ((with_reducible apply s_pure hF); exact rfl; exact rfl; exact rfl; (first | exact trivial | omega | exact ⟨Int.natCast_nonneg _, Int.ofNat_lt.2 (by assumption)⟩ | decide); clear hF a; intro a hF) | (with_reducible refine w_ret ?_) | (with_reducible refine q_then_r ?_) | (with_reducible refine q_blk_r ?_) | ((with_reducible apply c_true2 hF); exact rfl; (first | with_reducible rfl | (refine congrArg Value.bool ?_; focus (simp; done))))))
    (apply f_ret Try.results139 hF hM; (repeat (first | exact RL.nil | (apply RL.tmp; exact rfl) | (apply RL.cell; exact rfl; (repeat (first | exact List.mem_cons_self | refine List.mem_cons_of_mem _ ?_)); exact rfl))); refine Ret.mk hM.since ?_; dsimp only [resV])
  by_cases hs2 : 4096 - (xl : Int) < s
  · rw [if_pos (Or.inr hs2)]
    (repeat' (first | (with_reducible refine w_seq ?_) | (with_reducible refine c_region ?_) | (with_reducible refine s_nil ?_) | (with_reducible refine q_then_n ?_) | ((with_reducible apply s_pure hF); exact rfl; exact rfl; exact rfl; (first | exact trivial | omega | exact ⟨Int.natCast_nonneg _, Int.ofNat_lt.2 (by assumption)⟩ | decide); clear hF a; intro a hF) | ((with_reducible apply s_load hF hM); exact rfl; exact rfl; (repeat (first | exact List.mem_cons_self | refine List.mem_cons_of_mem _ ?_)); exact rfl; exact rfl; clear hF a; intro a hF) | ((with_reducible apply s_box hF hM); exact rfl; exact rfl; exact rfl; exact rfl; clear hF hM a; intro b w a hM hF) | (with_reducible refine w_block ?_) | ((with_reducible apply c_dec hF); exact rfl; all_goals intro hc; all_goals (try (exfalso; omega)))))
    refine c_draw (fun i => Nat.ble 19 i) hM ?_; clear hM; intro w hM
    (first | (refine t_pure (i := 0) hF rfl rfl rfl rfl (by kernel_rfl) hM.sm (fun _ _ _ h => h) ?_ ?_; (first | exact trivial | omega | decide); clear hF a; intro a hF))
    (first | (apply t_load (i := 1) hF rfl rfl rfl; (repeat (first | exact List.mem_cons_self | refine List.mem_cons_of_mem _ ?_)); exact rfl; exact rfl; kernel_rfl; exact hM.sm; exact (fun _ _ _ h => h); clear hF a; intro a hF))
    (first | (refine t_pure (i := 2) hF rfl rfl rfl rfl (by kernel_rfl) hM.sm (fun _ _ _ h => h) ?_ ?_; (first | exact trivial | omega | decide); clear hF a; intro a hF))
    rw [decide_eq_false hs] at hF
    (first | (refine t_pure (i := 3) hF rfl rfl rfl rfl (by kernel_rfl) (hM.sm.sub (fun x hx => by repeat (first | exact hx | refine List.mem_cons_of_mem _ ?_)) (fun _ h => by repeat (first | exact h | refine List.mem_cons_of_mem _ ?_))) (fun _ _ _ h => h) ?_ ?_; (first | exact trivial | omega | decide); clear hF a; intro a hF))
    (first | (refine t_pure (i := 4) hF rfl rfl rfl rfl (by kernel_rfl) (hM.sm.sub (fun x hx => by repeat (first | exact hx | refine List.mem_cons_of_mem _ ?_)) (fun _ h => by repeat (first | exact h | refine List.mem_cons_of_mem _ ?_))) (fun _ _ _ h => h) ?_ ?_; (first | exact trivial | omega | decide); clear hF a; intro a hF))
    (first | (apply t_load (i := 5) hF rfl rfl rfl; (repeat (first | exact List.mem_cons_self | refine List.mem_cons_of_mem _ ?_)); exact rfl; exact rfl; kernel_rfl; exact (hM.sm.sub (fun x hx => by repeat (first | exact hx | refine List.mem_cons_of_mem _ ?_)) (fun _ h => by repeat (first | exact h | refine List.mem_cons_of_mem _ ?_))); exact (fun _ _ _ h => h); clear hF a; intro a hF))
    (first | (refine t_pure (i := 6) hF rfl rfl rfl rfl (by kernel_rfl) (hM.sm.sub (fun x hx => by repeat (first | exact hx | refine List.mem_cons_of_mem _ ?_)) (fun _ h => by repeat (first | exact h | refine List.mem_cons_of_mem _ ?_))) (fun _ _ _ h => h) ?_ ?_; (first | exact trivial | omega | decide); clear hF a; intro a hF))
    (first | (refine t_pure (i := 7) hF rfl rfl rfl rfl (by kernel_rfl) (hM.sm.sub (fun x hx => by repeat (first | exact hx | refine List.mem_cons_of_mem _ ?_)) (fun _ h => by repeat (first | exact h | refine List.mem_cons_of_mem _ ?_))) (fun _ _ _ h => h) ?_ ?_; (first | exact trivial | omega | decide); clear hF a; intro a hF))
    (first | (apply t_load (i := 8) hF rfl rfl rfl; (repeat (first | exact List.mem_cons_self | refine List.mem_cons_of_mem _ ?_)); exact rfl; exact rfl; kernel_rfl; exact (hM.sm.sub (fun x hx => by repeat (first | exact hx | refine List.mem_cons_of_mem _ ?_)) (fun _ h => by repeat (first | exact h | refine List.mem_cons_of_mem _ ?_))); exact (fun _ _ _ h => h); clear hF a; intro a hF))
    (first | (refine t_pure (i := 9) hF rfl rfl rfl rfl (by kernel_rfl) (hM.sm.sub (fun x hx => by repeat (first | exact hx | refine List.mem_cons_of_mem _ ?_)) (fun _ h => by repeat (first | exact h | refine List.mem_cons_of_mem _ ?_))) (fun _ _ _ h => h) ?_ ?_; (first | exact trivial | omega | decide); clear hF a; intro a hF))
    (first | (apply t_loadF (i := 10) hF rfl rfl rfl; (repeat (first | exact List.mem_cons_self | refine List.mem_cons_of_mem _ ?_)); (first | with_reducible assumption | (simp only [Int.toNat_natCast]; with_reducible assumption)); exact rfl; exact rfl; kernel_rfl; exact (hM.sm.sub (fun x hx => by repeat (first | exact hx | refine List.mem_cons_of_mem _ ?_)) (fun _ h => by repeat (first | exact h | refine List.mem_cons_of_mem _ ?_))); exact (fun _ _ _ h => h); clear hF a; intro a hF))
    unfold encS3 at hF; dsimp only at hF
    (first | (refine t_pure (i := 11) hF rfl rfl rfl rfl (by kernel_rfl) (hM.sm.sub (fun x hx => by repeat (first | exact hx | refine List.mem_cons_of_mem _ ?_)) (fun _ h => by repeat (first | exact h | refine List.mem_cons_of_mem _ ?_))) (fun _ _ _ h => h) ?_ ?_; (first | exact trivial | omega | decide); clear hF a; intro a hF))
    (first | (refine t_pure (i := 12) hF rfl rfl rfl rfl (by kernel_rfl) (hM.sm.sub (fun x hx => by repeat (first | exact hx | refine List.mem_cons_of_mem _ ?_)) (fun _ h => by repeat (first | exact h | refine List.mem_cons_of_mem _ ?_))) (fun _ _ _ h => h) ?_ ?_; (first | exact trivial | omega | decide); clear hF a; intro a hF))
    (first | (apply t_load (i := 13) hF rfl rfl rfl; (repeat (first | exact List.mem_cons_self | refine List.mem_cons_of_mem _ ?_)); exact rfl; exact rfl; kernel_rfl; exact (hM.sm.sub (fun x hx => by repeat (first | exact hx | refine List.mem_cons_of_mem _ ?_)) (fun _ h => by repeat (first | exact h | refine List.mem_cons_of_mem _ ?_))); exact (fun _ _ _ h => h); clear hF a; intro a hF))
    (first | (refine t_pure (i := 14) hF rfl rfl rfl rfl (by kernel_rfl) (hM.sm.sub (fun x hx => by repeat (first | exact hx | refine List.mem_cons_of_mem _ ?_)) (fun _ h => by repeat (first | exact h | refine List.mem_cons_of_mem _ ?_))) (fun _ _ _ h => h) ?_ ?_; (first | exact trivial | omega | decide); clear hF a; intro a hF))
    (first | (refine t_pure (i := 15) hF rfl rfl rfl rfl (by kernel_rfl) (hM.sm.sub (fun x hx => by repeat (first | exact hx | refine List.mem_cons_of_mem _ ?_)) (fun _ h => by repeat (first | exact h | refine List.mem_cons_of_mem _ ?_))) (fun _ _ _ h => h) ?_ ?_; (first | exact trivial | omega | decide); clear hF a; intro a hF))
    (first | (refine t_pure (i := 16) hF rfl rfl rfl rfl (by kernel_rfl) (hM.sm.sub (fun x hx => by repeat (first | exact hx | refine List.mem_cons_of_mem _ ?_)) (fun _ h => by repeat (first | exact h | refine List.mem_cons_of_mem _ ?_))) (fun _ _ _ h => h) ?_ ?_; (first | exact trivial | omega | decide); clear hF a; intro a hF))
    (first | (refine t_pure (i := 17) hF rfl rfl rfl rfl (by kernel_rfl) (hM.sm.sub (fun x hx => by repeat (first | exact hx | refine List.mem_cons_of_mem _ ?_)) (fun _ h => by repeat (first | exact h | refine List.mem_cons_of_mem _ ?_))) (fun _ _ _ h => h) ?_ ?_; (first | exact trivial | omega | decide); clear hF a; intro a hF))
    (first | (refine t_pure (i := 18) hF rfl rfl rfl rfl (by kernel_rfl) (hM.sm.sub (fun x hx => by repeat (first | exact hx | refine List.mem_cons_of_mem _ ?_)) (fun _ h => by repeat (first | exact h | refine List.mem_cons_of_mem _ ?_))) (fun _ _ _ h => h) ?_ ?_; (first | exact trivial | omega | decide); clear hF a; intro a hF))
    refine t_done (by kernel_rfl) ?_
    (repeat' (first | (with_reducible refine w_seq ?_) | (with_reducible refine c_region ?_) | (with_reducible refine s_nil ?_) | (with_reducible refine q_then_n ?_) | ((with_reducible apply s_pure hF); exact rfl; exact rfl; exact rfl; (first | exact trivial | omega | exact ⟨Int.natCast_nonneg _, Int.ofNat_lt.2 (by assumption)⟩ | decide); clear hF a; intro a hF) | (with_reducible refine w_ret ?_) | (with_reducible refine q_then_r ?_) | (with_reducible refine q_blk_r ?_) | ((with_reducible apply c_dec hF); exact rfl; all_goals intro hc; all_goals (try (exfalso; omega)))))
    (apply f_ret Try.results139 hF hM; (repeat (first | exact RL.nil | (apply RL.tmp; exact rfl) | (apply RL.cell; exact rfl; (repeat (first | exact List.mem_cons_self | refine List.mem_cons_of_mem _ ?_)); exact rfl))); refine Ret.mk hM.since ?_; dsimp only [resV])
  · rw [if_neg (by omega)]
    (repeat' (first | (with_reducible refine w_seq ?_) | (with_reducible refine c_region ?_) | (with_reducible refine s_nil ?_) | (with_reducible refine q_then_n ?_) | ((with_reducible apply s_pure hF); exact rfl; exact rfl; exact rfl; (first | exact trivial | omega | exact ⟨Int.natCast_nonneg _, Int.ofNat_lt.2 (by assumption)⟩ | decide); clear hF a; intro a hF) | ((with_reducible apply s_load hF hM); exact rfl; exact rfl; (repeat (first | exact List.mem_cons_self | refine List.mem_cons_of_mem _ ?_)); exact rfl; exact rfl; clear hF a; intro a hF) | ((with_reducible apply s_box hF hM); exact rfl; exact rfl; exact rfl; exact rfl; clear hF hM a; intro b w a hM hF) | (with_reducible refine w_block ?_) | ((with_reducible apply c_dec hF); exact rfl; all_goals intro hc; all_goals (try (exfalso; omega)))))
    refine c_draw (fun i => Nat.ble 19 i) hM ?_; clear hM; intro w hM
    (first | (refine t_pure (i := 0) hF rfl rfl rfl rfl (by kernel_rfl) hM.sm (fun _ _ _ h => h) ?_ ?_; (first | exact trivial | omega | decide); clear hF a; intro a hF))
    (first | (apply t_load (i := 1) hF rfl rfl rfl; (repeat (first | exact List.mem_cons_self | refine List.mem_cons_of_mem _ ?_)); exact rfl; exact rfl; kernel_rfl; exact hM.sm; exact (fun _ _ _ h => h); clear hF a; intro a hF))
    (first | (refine t_pure (i := 2) hF rfl rfl rfl rfl (by kernel_rfl) hM.sm (fun _ _ _ h => h) ?_ ?_; (first | exact trivial | omega | decide); clear hF a; intro a hF))
    rw [decide_eq_false hs] at hF
    (first | (refine t_pure (i := 3) hF rfl rfl rfl rfl (by kernel_rfl) (hM.sm.sub (fun x hx => by repeat (first | exact hx | refine List.mem_cons_of_mem _ ?_)) (fun _ h => by repeat (first | exact h | refine List.mem_cons_of_mem _ ?_))) (fun _ _ _ h => h) ?_ ?_; (first | exact trivial | omega | decide); clear hF a; intro a hF))
    (first | (refine t_pure (i := 4) hF rfl rfl rfl rfl (by kernel_rfl) (hM.sm.sub (fun x hx => by repeat (first | exact hx | refine List.mem_cons_of_mem _ ?_)) (fun _ h => by repeat (first | exact h | refine List.mem_cons_of_mem _ ?_))) (fun _ _ _ h => h) ?_ ?_; (first | exact trivial | omega | decide); clear hF a; intro a hF))
    (first | (apply t_load (i := 5) hF rfl rfl rfl; (repeat (first | exact List.mem_cons_self | refine List.mem_cons_of_mem _ ?_)); exact rfl; exact rfl; kernel_rfl; exact (hM.sm.sub (fun x hx => by repeat (first | exact hx | refine List.mem_cons_of_mem _ ?_)) (fun _ h => by repeat (first | exact h | refine List.mem_cons_of_mem _ ?_))); exact (fun _ _ _ h => h); clear hF a; intro a hF))
    (first | (refine t_pure (i := 6) hF rfl rfl rfl rfl (by kernel_rfl) (hM.sm.sub (fun x hx => by repeat (first | exact hx | refine List.mem_cons_of_mem _ ?_)) (fun _ h => by repeat (first | exact h | refine List.mem_cons_of_mem _ ?_))) (fun _ _ _ h => h) ?_ ?_; (first | exact trivial | omega | decide); clear hF a; intro a hF))
    (first | (refine t_pure (i := 7) hF rfl rfl rfl rfl (by kernel_rfl) (hM.sm.sub (fun x hx => by repeat (first | exact hx | refine List.mem_cons_of_mem _ ?_)) (fun _ h => by repeat (first | exact h | refine List.mem_cons_of_mem _ ?_))) (fun _ _ _ h => h) ?_ ?_; (first | exact trivial | omega | decide); clear hF a; intro a hF))
    (first | (apply t_load (i := 8) hF rfl rfl rfl; (repeat (first | exact List.mem_cons_self | refine List.mem_cons_of_mem _ ?_)); exact rfl; exact rfl; kernel_rfl; exact (hM.sm.sub (fun x hx => by repeat (first | exact hx | refine List.mem_cons_of_mem _ ?_)) (fun _ h => by repeat (first | exact h | refine List.mem_cons_of_mem _ ?_))); exact (fun _ _ _ h => h); clear hF a; intro a hF))
    (first | (refine t_pure (i := 9) hF rfl rfl rfl rfl (by kernel_rfl) (hM.sm.sub (fun x hx => by repeat (first | exact hx | refine List.mem_cons_of_mem _ ?_)) (fun _ h => by repeat (first | exact h | refine List.mem_cons_of_mem _ ?_))) (fun _ _ _ h => h) ?_ ?_; (first | exact trivial | omega | decide); clear hF a; intro a hF))
    (first | (apply t_loadF (i := 10) hF rfl rfl rfl; (repeat (first | exact List.mem_cons_self | refine List.mem_cons_of_mem _ ?_)); (first | with_reducible assumption | (simp only [Int.toNat_natCast]; with_reducible assumption)); exact rfl; exact rfl; kernel_rfl; exact (hM.sm.sub (fun x hx => by repeat (first | exact hx | refine List.mem_cons_of_mem _ ?_)) (fun _ h => by repeat (first | exact h | refine List.mem_cons_of_mem _ ?_))); exact (fun _ _ _ h => h); clear hF a; intro a hF))
    unfold encS3 at hF; dsimp only at hF
    (first | (refine t_pure (i := 11) hF rfl rfl rfl rfl (by kernel_rfl) (hM.sm.sub (fun x hx => by repeat (first | exact hx | refine List.mem_cons_of_mem _ ?_)) (fun _ h => by repeat (first | exact h | refine List.mem_cons_of_mem _ ?_))) (fun _ _ _ h => h) ?_ ?_; (first | exact trivial | omega | decide); clear hF a; intro a hF))
    (first | (refine t_pure (i := 12) hF rfl rfl rfl rfl (by kernel_rfl) (hM.sm.sub (fun x hx => by repeat (first | exact hx | refine List.mem_cons_of_mem _ ?_)) (fun _ h => by repeat (first | exact h | refine List.mem_cons_of_mem _ ?_))) (fun _ _ _ h => h) ?_ ?_; (first | exact trivial | omega | decide); clear hF a; intro a hF))
    (first | (apply t_load (i := 13) hF rfl rfl rfl; (repeat (first | exact List.mem_cons_self | refine List.mem_cons_of_mem _ ?_)); exact rfl; exact rfl; kernel_rfl; exact (hM.sm.sub (fun x hx => by repeat (first | exact hx | refine List.mem_cons_of_mem _ ?_)) (fun _ h => by repeat (first | exact h | refine List.mem_cons_of_mem _ ?_))); exact (fun _ _ _ h => h); clear hF a; intro a hF))
    (first | (refine t_pure (i := 14) hF rfl rfl rfl rfl (by kernel_rfl) (hM.sm.sub (fun x hx => by repeat (first | exact hx | refine List.mem_cons_of_mem _ ?_)) (fun _ h => by repeat (first | exact h | refine List.mem_cons_of_mem _ ?_))) (fun _ _ _ h => h) ?_ ?_; (first | exact trivial | omega | decide); clear hF a; intro a hF))
    (first | (refine t_pure (i := 15) hF rfl rfl rfl rfl (by kernel_rfl) (hM.sm.sub (fun x hx => by repeat (first | exact hx | refine List.mem_cons_of_mem _ ?_)) (fun _ h => by repeat (first | exact h | refine List.mem_cons_of_mem _ ?_))) (fun _ _ _ h => h) ?_ ?_; (first | exact trivial | omega | decide); clear hF a; intro a hF))
    (first | (refine t_pure (i := 16) hF rfl rfl rfl rfl (by kernel_rfl) (hM.sm.sub (fun x hx => by repeat (first | exact hx | refine List.mem_cons_of_mem _ ?_)) (fun _ h => by repeat (first | exact h | refine List.mem_cons_of_mem _ ?_))) (fun _ _ _ h => h) ?_ ?_; (first | exact trivial | omega | decide); clear hF a; intro a hF))
    (first | (refine t_pure (i := 17) hF rfl rfl rfl rfl (by kernel_rfl) (hM.sm.sub (fun x hx => by repeat (first | exact hx | refine List.mem_cons_of_mem _ ?_)) (fun _ h => by repeat (first | exact h | refine List.mem_cons_of_mem _ ?_))) (fun _ _ _ h => h) ?_ ?_; (first | exact trivial | omega | decide); clear hF a; intro a hF))
    (first | (refine t_pure (i := 18) hF rfl rfl rfl rfl (by kernel_rfl) (hM.sm.sub (fun x hx => by repeat (first | exact hx | refine List.mem_cons_of_mem _ ?_)) (fun _ h => by repeat (first | exact h | refine List.mem_cons_of_mem _ ?_))) (fun _ _ _ h => h) ?_ ?_; (first | exact trivial | omega | decide); clear hF a; intro a hF))
    refine t_done (by kernel_rfl) ?_
    (repeat' (first | (with_reducible refine w_seq ?_) | (with_reducible refine c_region ?_) | (with_reducible refine s_nil ?_) | (with_reducible refine q_then_n ?_) | ((with_reducible apply s_pure hF); exact rfl; exact rfl; exact rfl; (first | exact trivial | omega | exact ⟨Int.natCast_nonneg _, Int.ofNat_lt.2 (by assumption)⟩ | decide); clear hF a; intro a hF) | (with_reducible refine w_skip ?_) | (with_reducible refine w_ret ?_) | (with_reducible refine q_blk_n ?_) | ((with_reducible apply c_dec hF); exact rfl; all_goals intro hc; all_goals (try (exfalso; omega)))))
    (apply f_ret Try.results139 hF hM; (repeat (first | exact RL.nil | (apply RL.tmp; exact rfl) | (apply RL.cell; exact rfl; (repeat (first | exact List.mem_cons_self | refine List.mem_cons_of_mem _ ?_)); exact rfl))); refine Ret.mk hM.since ?_; dsimp only [resV])
theorem Fits_c (v s : Int) (x : Dat) (ax : Option Addr) (xl cx : Nat) (hx : x.length = xl) (hxl : xl ≤ 1000000) (own : Nat → Prop) (W : World) (hl : ∀ b, own b → b < W.heap.size) (h : Has own W (RdF encS3 a0 im)) :
    Calls Try.prog 124 ⟨[.slice a0 8 c0, .agg #[.int .i64 v, .int .i64 s, .slice ax xl cx]]⟩ W (Ret W fun r _ => r = .int .i64 (fitsE ⟨v, s, x⟩)) := by
  have hM := (Mm.start hl).known h
  refine f_start Try.func124 rfl Try.ntmps124 rfl rfl ?_; intro a hF
  (repeat' (first | (with_reducible refine w_seq ?_) | (with_reducible refine c_region ?_) | (with_reducible refine s_nil ?_) | ((with_reducible apply s_call (f := 138) hF hM); exact rfl; exact rfl; exact rfl; exact rfl; exact rfl; exact (imCheck_c im h8 h4 a0 c0 _ _ hM.lt (hM.facts (RdF encS3 a0 im) (by (repeat (first | exact List.mem_cons_self | refine List.mem_cons_of_mem _ ?_))))); clear hF hM a; rintro v w a rfl - hM hF) | ((with_reducible apply s_call (f := 139) hF hM); exact rfl; exact rfl; exact rfl; exact rfl; exact rfl; exact (fits_c im h8 h4 a0 c0 v s x ax xl cx hx hxl _ _ hM.lt (hM.facts (RdF encS3 a0 im) (by (repeat (first | exact List.mem_cons_self | refine List.mem_cons_of_mem _ ?_))))); clear hF hM a; rintro v w a rfl - hM hF) | (with_reducible refine q_then_n ?_) | ((with_reducible apply s_pure hF); exact rfl; exact rfl; exact rfl; (first | exact trivial | omega | exact ⟨Int.natCast_nonneg _, Int.ofNat_lt.2 (by assumption)⟩ | decide); clear hF a; intro a hF) | ((with_reducible apply s_load hF hM); exact rfl; exact rfl; (repeat (first | exact List.mem_cons_self | refine List.mem_cons_of_mem _ ?_)); exact rfl; exact rfl; clear hF a; intro a hF) | ((with_reducible apply s_box hF hM); exact rfl; exact rfl; exact rfl; exact rfl; clear hF hM a; intro b w a hM hF) | (with_reducible refine w_skip ?_) | (with_reducible refine w_ret ?_) | ((with_reducible apply c_false2 hF); exact rfl; (first | with_reducible rfl | (refine congrArg Value.bool ?_; focus (simp; done))))))
  (apply f_ret Try.results124 hF hM; (repeat (first | exact RL.nil | (apply RL.tmp; exact rfl) | (apply RL.cell; exact rfl; (repeat (first | exact List.mem_cons_self | refine List.mem_cons_of_mem _ ?_)); exact rfl))); refine Ret.mk hM.since ?_; dsimp only [resV])
theorem fit1_c (v s : Int) (x : Dat) (ax : Option Addr) (xl cx : Nat) (hx : x.length = xl) (hxl : xl ≤ 1000000) (b : Nat) (T : TypeId) (own : Nat → Prop) (W : World) (hl : ∀ b, own b → b < W.heap.size) (h : Has own W (RdF encS3 a0 im)) (hb : Has own W (BxF b [.slice a0 8 c0] T)) :
    Calls Try.prog 123 ⟨[.agg #[.int .i64 v, .int .i64 s, .slice ax xl cx], .pointer (some ⟨b, 0, none⟩)]⟩ W (Ret W fun r _ => r = .int .i64 (fitsE ⟨v, s, x⟩)) := by
  have hM := ((Mm.start hl).known hb).known h
  obtain ⟨b0, hb0⟩ : ∃ b0, b0 = b := ⟨_, rfl⟩
  rw [← hb0] at hM ⊢
  refine f_start Try.func123 rfl Try.ntmps123 rfl rfl ?_; intro a hF
  (repeat (first | (with_reducible refine w_seq ?_) | (with_reducible refine c_region ?_) | (with_reducible refine s_nil ?_) | ((with_reducible apply s_call (f := 124) hF hM); exact rfl; exact rfl; exact rfl; exact rfl; exact rfl; exact (Fits_c im h8 h4 a0 c0 v s x ax xl cx hx hxl _ _ hM.lt (hM.facts (RdF encS3 a0 im) (by (repeat (first | exact List.mem_cons_self | refine List.mem_cons_of_mem _ ?_))))); clear hF hM a; rintro v w a rfl - hM hF) | (with_reducible refine q_then_n ?_) | ((with_reducible apply s_pure hF); exact rfl; exact rfl; exact rfl; (first | exact trivial | omega | exact ⟨Int.natCast_nonneg _, Int.ofNat_lt.2 (by assumption)⟩ | decide); clear hF a; intro a hF) | ((with_reducible apply s_load hF hM); exact rfl; exact rfl; (repeat (first | exact List.mem_cons_self | refine List.mem_cons_of_mem _ ?_)); exact rfl; exact rfl; clear hF a; intro a hF) | ((with_reducible apply s_loadK hF hM); exact rfl; exact rfl; (repeat (first | exact List.mem_cons_self | refine List.mem_cons_of_mem _ ?_)); exact rfl; exact rfl; clear hF a; intro a hF) | ((with_reducible apply s_box hF hM); exact rfl; exact rfl; exact rfl; exact rfl; clear hF hM a; intro b w a hM hF) | (with_reducible refine w_ret ?_)))
  (apply f_ret Try.results123 hF hM; (repeat (first | exact RL.nil | (apply RL.tmp; exact rfl) | (apply RL.cell; exact rfl; (repeat (first | exact List.mem_cons_self | refine List.mem_cons_of_mem _ ?_)); exact rfl))); refine Ret.mk hM.since ?_; dsimp only [resV])
end
end Go.Proofs.Ytadfdpkhehdikaa


/- The arguments of the row of packed cycles: a cycle, a list of numbers. -/
namespace Go.Proofs.Ytadfdpkhehdikaa
open Go.RowKit Go.Shelf Go.ChangeShapes Go.WideShapes Go.ChangeAt D29 B31
section
variable {H : Type} {enc : TypeId × Value → H} {w : World} {r : Reach} {b0 base : Nat} {spare : Nat → Bool} {held : Bool}
theorem ints_arg {v : Value} {d : DataW H} {p : List MemPlace} (hv : Value.okWide Try.prog w r b0 50 v) (h : DataW.Trod enc Try.prog w 0 (fun _ => true) held 50 v d p) :
    ∃ (a : Option Addr) (xs : List Int) (cap : Nat), v = .slice a xs.length cap ∧ Has (fun _ => False) w (RdF (Value.int .i64) a xs) ∧ xs.length ≤ 9223372036854775807 ∧ xs.length ≤ cap ∧ ∀ x ∈ xs, -9223372036854775808 ≤ x ∧ x ≤ 9223372036854775807 := by
  obtain ⟨a1, n1, c1, rfl⟩ := okWide_slice Try.underlying50 hv
  obtain ⟨a, xs, cap, e, hr, l1, l2, hb⟩ := slice_arg Try.underlying50 Try.underlying3 (by kernel_rfl) rfl h
  exact ⟨a, xs, cap, e, Has.reads hr, l1, l2, fun x hx => wf64 (hb x hx)⟩
theorem of_write {n : Nat} {cs : List Value} {y : DataW H × List MemPlace} (h : DataW.trod enc Try.prog w 0 (fun _ => true) held n 163 cs = some y) :
    ∃ q : WP, cs = wrC q ∧ (W8 q.1.x ∧ q.1.x.length ≤ 9223372036854775807 ∧ By8 q.1.x) ∧ Has (fun _ => False) w (RdF (Value.int .u8) q.2.1 q.1.x.flatten) := by
  obtain ⟨xs, m, _, _, hl, hlen, hx⟩ := DataW.trod_struct Try.underlying163 h
  have hl2 : cs.length = 3 := hl.trans (by kernel_rfl)
  have q0 := hx 0 _ rfl
  have q1 := hx 1 _ rfl
  have q2 := hx 2 _ rfl
  match cs, hl2, xs, hlen with
  | [t, u, v], _, [y0, y1, y2], _ =>
    rw [show Try.prog.cellsOf _ = 1 from (by kernel_rfl)] at q0
    rw [show Try.prog.cellsOf _ = 1 from (by kernel_rfl)] at q1
    rw [show Try.prog.cellsOf _ = 1 from (by kernel_rfl)] at q2
    obtain ⟨x0, rfl, _⟩ := of_int Try.underlying3 (c := t) q0
    obtain ⟨x1, rfl, _⟩ := of_int Try.underlying3 (c := u) q1
    obtain ⟨q, rfl, ⟨h2, h3, h4⟩, h5, h6⟩ := of_secs (c := v) q2
    have hm : maxLen = 9223372036854775807 := rfl
    exact ⟨(⟨x0, x1, q.1⟩, q.2), rfl, ⟨h2, by dsimp only; omega, h4⟩, h6⟩
theorem of_writes {n : Nat} {c : Value} {y : DataW H × List MemPlace} (h : DataW.trod enc Try.prog w 0 (fun _ => true) held n 51 [c] = some y) :
    ∃ (a : Option Addr) (cap : Nat) (ws : List WP), c = .slice a ws.length cap ∧ ws.length ≤ 9223372036854775807 ∧ (∀ t ∈ ws, W8 t.1.x ∧ t.1.x.length ≤ 9223372036854775807 ∧ By8 t.1.x) ∧ Has (fun _ => False) w (RdF id a (cellsW ws)) ∧ Has (fun _ => False) w (DatF (wP ws)) := by
  obtain ⟨a, cap, rows, h1, h2, h3, h4, h5⟩ := of_sliceG Try.underlying51 h
  obtain ⟨ws, rfl, h6⟩ := list_of (f := wrC) (Q := fun q => (W8 q.1.x ∧ q.1.x.length ≤ 9223372036854775807 ∧ By8 q.1.x) ∧ Has (fun _ => False) w (RdF (Value.int .u8) q.2.1 q.1.x.flatten)) (l := rows) (by
    intro r hr
    obtain ⟨_, n', y', hy⟩ := h4 r hr
    exact of_write hy)
  rw [List.length_map] at h1 h2
  have hm : maxLen = 9223372036854775807 := rfl
  refine ⟨a, cap, ws, h1, by omega, fun t ht => (h6 t ht).1, Has.reads h5, DatF.all fun p hp => ?_⟩
  obtain ⟨t, ht, rfl⟩ := List.mem_map.1 hp
  exact (h6 t ht).2
theorem cyc_arg {v : Value} {d : DataW H} {p : List MemPlace} (hv : Value.okWide Try.prog w r b0 53 v) (h : DataW.Trod enc Try.prog w 0 (fun _ => true) held 53 v d p) :
    ∃ (cb cn ct : Int) (ap : Option Addr) (cp : Nat) (aw : Option Addr) (cw : Nat) (pos : List Int) (ws : List WP), v = cyV cb cn ct ap pos.length cp aw ws.length cw ∧ pos.length ≤ 9223372036854775807 ∧ ws.length ≤ 9223372036854775807 ∧ (∀ t ∈ ws, W8 t.1.x ∧ t.1.x.length ≤ 9223372036854775807 ∧ By8 t.1.x) ∧ Has (fun _ => False) w (RdF (Value.int .i64) ap pos) ∧ Has (fun _ => False) w (RdF id aw (cellsW ws)) ∧ Has (fun _ => False) w (DatF (wP ws)) := by
  obtain ⟨cs, rfl, hsz⟩ := okWide_struct Try.underlying53 hv
  obtain ⟨fuel, hf⟩ := h
  obtain ⟨xs, m, _, _, hl, hlen, hx⟩ := DataW.trod_struct Try.underlying53 hf
  obtain ⟨cs⟩ := cs
  have hl2 : cs.length = 5 := hl.trans (by kernel_rfl)
  have q0 := hx 0 _ rfl
  have q1 := hx 1 _ rfl
  have q2 := hx 2 _ rfl
  have q3 := hx 3 _ rfl
  have q4 := hx 4 _ rfl
  match cs, hl2, xs, hlen with
  | [u0, u1, u2, u3, u4], _, [y0, y1, y2, y3, y4], _ =>
    rw [show Try.prog.cellsOf _ = 1 from (by kernel_rfl)] at q0
    rw [show Try.prog.cellsOf _ = 1 from (by kernel_rfl)] at q1
    rw [show Try.prog.cellsOf _ = 1 from (by kernel_rfl)] at q2
    rw [show Try.prog.cellsOf _ = 1 from (by kernel_rfl)] at q3
    rw [show Try.prog.cellsOf _ = 1 from (by kernel_rfl)] at q4
    obtain ⟨x0, rfl, _⟩ := of_int Try.underlying3 (c := u0) q0
    obtain ⟨x1, rfl, _⟩ := of_int Try.underlying3 (c := u1) q1
    obtain ⟨x2, rfl, _⟩ := of_int Try.underlying3 (c := u2) q2
    obtain ⟨a, pos, cap, rfl, hr, hl1, -, -⟩ := of_slice Try.underlying50 Try.underlying3 (by kernel_rfl) (c := u3) q3
    obtain ⟨aw, cw, ws, rfl, h1, h2, h3, h4⟩ := of_writes (c := u4) q4
    exact ⟨x0, x1, x2, a, cap, aw, cw, pos, ws, rfl, hl1, h1, h2, Has.reads hr, h3, h4⟩
end
end Go.Proofs.Ytadfdpkhehdikaa


/- coalesce.Check; cycle.Check. -/
namespace Go.Proofs.Ytadfdpkhehdikaa
open Go.RowKit Go.Shelf D29 B31
section
variable (ws : List WP) (hxl : ∀ t ∈ ws, t.1.x.length ≤ 1000000) (aw : Option Addr) (cw nw : Nat) (hn : ws.length = nw) (hn4 : nw ≤ 10000)
include hxl hn hn4
set_option maxRecDepth 20000 in
set_option maxHeartbeats 4000000 in
theorem check22_c (im : List (Option Addr × Nat × Nat)) (h8 : im.length = 8) (h4 : ∀ q ∈ im, q.2.1 = 4096) (a0 : Option Addr) (c0 : Nat) (b0 : Nat) (T : TypeId) (own : Nat → Prop) (W : World) (hl : ∀ b, own b → b < W.heap.size) (h1 : Has own W (RdF id aw (cellsW ws))) (h : Has own W (RdF encS3 a0 im)) (hb : Has own W (BxF b0 [.slice a0 8 c0] T)) :
    Calls Try.prog 122 ⟨[.slice aw nw cw, .func (.func 123) #[] #[.pointer (some ⟨b0, 0, none⟩)]]⟩ W (Ret W fun r _ => r = .int .i64 (chkWs none (wms ws))) := by
  have hM := (((Mm.start hl).known hb).known h).known h1
  subst hn
  refine f_start Try.func122 rfl Try.ntmps122 rfl rfl ?_; intro a hF
  (repeat (first | (with_reducible refine w_seq ?_) | (with_reducible refine c_region ?_) | (with_reducible refine s_nil ?_) | (with_reducible refine q_then_n ?_) | ((with_reducible apply s_pure hF); exact rfl; exact rfl; exact rfl; (first | exact trivial | omega | exact ⟨Int.natCast_nonneg _, Int.ofNat_lt.2 (by assumption)⟩ | decide); clear hF a; intro a hF) | (with_reducible refine w_block ?_)))
  refine c_loop (m := ws.length) (fun m a w' => ∃ (k : Nat) (p : Option Wr), m + k = ws.length ∧ (∀ t ∈ ws.take k, fitsE t.1 = 0) ∧ (k = 0 → p = none) ∧ (∀ x, 0 < k → ws[k - 1]? = some x → p = some x.1) ∧ chkWs none (wms ws) = chkWs p ((wms ws).drop k) ∧
    Fr 53 [] [(11, .int .i64 k), (10, .int .i64 ws.length), (9, .slice aw ws.length cw), (0, .slice aw ws.length cw), (1, .func (.func 123) #[] #[.pointer (some ⟨b0, 0, none⟩)])] a ∧
    Mm own W [] [] [RdF id aw (ws.map wrC).flatten, RdF encS3 a0 im, BxF b0 [.slice a0 8 c0] T] w') ⟨0, none, by omega, by simp, fun _ => rfl, fun _ h => by omega, rfl, hF.sub (by repeat (first | exact Sub.nil | refine Sub.cons rfl (by first | with_reducible rfl | (refine congrArg (Value.int _) ?_; omega) | exact rfl) ?_)), hM⟩ ?_
  clear hF hM a
  rintro m a w' ⟨k, p, hm, hfit, hp0, hp1, hchk, hF, hM⟩
  by_cases hk : k < ws.length
  · obtain ⟨t, ht⟩ := get_of_lt hk
    have htm := List.mem_of_getElem? ht
    have htx := hxl t htm
    rw [wms_drop ht] at hchk
    have hpe : (ws.map wrC)[k]? = some (wrC t) := by rw [List.getElem?_map, ht]; rfl
    have hw3 := wrC_len ws
    have hfit2 : fitsE t.1 = 0 → ∀ y ∈ ws.take (k + 1), fitsE y.1 = 0 := fun h y hy => by
      rw [take_snoc ht] at hy
      rcases List.mem_append.1 hy with hy | hy
      · exact hfit y hy
      · rw [List.mem_singleton.1 hy]; exact h
    obtain ⟨ad, rfl⟩ : ∃ ad, aw = some ad := rd_some hM (enc := id) (a := aw) (xs := (ws.map wrC).flatten) (by (repeat (first | exact List.mem_cons_self | refine List.mem_cons_of_mem _ ?_))) (flat_get (q := 0) hw3 hpe rfl)
    obtain ⟨⟨v, s, x⟩, ax, cx⟩ := t
    obtain ⟨xl, hxq⟩ : ∃ q, x.length = q := ⟨_, rfl⟩
    dsimp only at htx hchk hfit2
    rw [hxq] at htx
    replace hpe : (ws.map wrC)[k]? = some [.int .i64 v, .int .i64 s, .slice ax xl cx] := by rw [hpe, ← hxq]
    have e1 := fun {own W} hl h hb => fit1_c im h8 h4 a0 c0 v s x ax xl cx hxq htx b0 T own W hl h hb
    (repeat (first | (with_reducible refine w_seq ?_) | (with_reducible refine c_region ?_) | (with_reducible refine s_nil ?_) | (with_reducible refine q_then_n ?_) | ((with_reducible apply s_pure hF); exact rfl; exact rfl; exact rfl; (first | exact trivial | omega | exact ⟨Int.natCast_nonneg _, Int.ofNat_lt.2 (by assumption)⟩ | decide); clear hF a; intro a hF)))
    rw [decide_eq_true (show (k : Int) < (ws.length : Int) by omega)] at hF
    (repeat (first | (with_reducible refine w_seq ?_) | (with_reducible refine c_region ?_) | (with_reducible refine s_nil ?_) | ((with_reducible apply s_callc (f := 123) hF hM); exact rfl; exact rfl; exact rfl; exact rfl; exact rfl; exact rfl; exact rfl; exact (e1 hM.lt (hM.facts (RdF encS3 a0 im) (by (repeat (first | exact List.mem_cons_self | refine List.mem_cons_of_mem _ ?_)))) (hM.facts (BxF b0 [.slice a0 8 c0] T) (by (repeat (first | exact List.mem_cons_self | refine List.mem_cons_of_mem _ ?_))))); clear hF hM a; rintro v w a rfl - hM hF) | ((with_reducible apply s_loadE hF hM); exact rfl; exact rfl; (repeat (first | exact List.mem_cons_self | refine List.mem_cons_of_mem _ ?_)); exact rfl; exact rfl; (first | with_reducible assumption | (simp only [Int.toNat_natCast]; with_reducible assumption)); (with_reducible assumption); clear hF a; intro a hF) | (with_reducible refine q_then_n ?_) | ((with_reducible apply s_pure hF); exact rfl; exact rfl; exact rfl; (first | exact trivial | omega | exact ⟨Int.natCast_nonneg _, Int.ofNat_lt.2 (by assumption)⟩ | decide); clear hF a; intro a hF) | ((with_reducible apply s_load hF hM); exact rfl; exact rfl; (repeat (first | exact List.mem_cons_self | refine List.mem_cons_of_mem _ ?_)); exact rfl; exact rfl; clear hF a; intro a hF) | ((with_reducible apply s_store hF hM); exact rfl; exact rfl; exact rfl; exact rfl; (repeat (first | exact Upd.z | apply Upd.s)); exact rfl; exact rfl; exact rfl; clear hM; intro w hM) | ((with_reducible apply s_alloc hF hM); exact rfl; exact rfl; exact rfl; clear hF hM a; intro b w a hM hF) | (with_reducible refine w_skip ?_) | (with_reducible refine w_block ?_) | ((with_reducible apply c_true2 hF); exact rfl; (first | with_reducible rfl | (refine congrArg Value.bool ?_; focus (simp; done))))))
    by_cases he : fitsE ⟨v, s, x⟩ = 0
    case neg =>
      rw [chkWs_cons, if_pos he] at hchk
      rw [hchk]
      generalize fitsE ⟨v, s, x⟩ = e at *
      (repeat' (first | (with_reducible refine w_seq ?_) | (with_reducible refine c_region ?_) | (with_reducible refine s_nil ?_) | (with_reducible refine q_then_n ?_) | ((with_reducible apply s_pure hF); exact rfl; exact rfl; exact rfl; (first | exact trivial | omega | exact ⟨Int.natCast_nonneg _, Int.ofNat_lt.2 (by assumption)⟩ | decide); clear hF a; intro a hF) | (with_reducible refine w_ret ?_) | (with_reducible refine q_then_r ?_) | (with_reducible refine q_blk_r ?_) | ((with_reducible apply c_dec hF); exact rfl; all_goals intro hc; all_goals (try (exfalso; omega)))))
      (apply f_ret Try.results122 hF hM; (repeat (first | exact RL.nil | (apply RL.tmp; exact rfl) | (apply RL.cell; exact rfl; (repeat (first | exact List.mem_cons_self | refine List.mem_cons_of_mem _ ?_)); exact rfl))); refine Ret.mk hM.since ?_; dsimp only [resV])
    rw [he] at hF
    rw [chkWs_cons, if_neg (by simp [he])] at hchk
    by_cases hk0 : k = 0
    · subst hk0
      rw [hp0 rfl] at hchk
      (repeat' (first | (with_reducible refine w_seq ?_) | (with_reducible refine c_region ?_) | (with_reducible refine s_nil ?_) | (with_reducible refine q_then_n ?_) | ((with_reducible apply s_pure hF); exact rfl; exact rfl; exact rfl; (first | exact trivial | omega | exact ⟨Int.natCast_nonneg _, Int.ofNat_lt.2 (by assumption)⟩ | decide); clear hF a; intro a hF) | (with_reducible refine w_skip ?_) | (with_reducible refine w_exit ?_) | (with_reducible refine q_then_x ?_) | (with_reducible refine q_blk_x ?_) | ((with_reducible apply c_true2 hF); exact rfl; (first | with_reducible rfl | (refine congrArg Value.bool ?_; focus (simp; done)))) | ((with_reducible apply c_false2 hF); exact rfl; (first | with_reducible rfl | (refine congrArg Value.bool ?_; focus (simp; done))))))
      refine ⟨m - 1, by omega, 1, some ⟨v, s, x⟩, by omega, hfit2 he, fun h => by omega, fun y _ hy => ?_, hchk, hF.sub (by repeat (first | exact Sub.nil | refine Sub.cons rfl (by first | with_reducible rfl | (refine congrArg (Value.int _) ?_; omega) | exact rfl) ?_)), hM.sub (List.nil_sublist _) (.refl _) (by intro f hf; simp only [List.mem_cons, List.not_mem_nil, or_false] at hf; (repeat (rcases hf with rfl | hf; · (repeat (first | exact List.mem_cons_self | refine List.mem_cons_of_mem _ ?_)))); first | (subst hf; (repeat (first | exact List.mem_cons_self | refine List.mem_cons_of_mem _ ?_)); done) | (repeat (first | exact hf | refine List.mem_cons_of_mem _ ?_)))⟩
      have : ws[0]? = some y := hy
      rw [ht] at this
      injection this with this
      rw [← this]
    · obtain ⟨u, hu⟩ := get_of_lt (l := ws) (i := k - 1) (by omega)
      have hue := hp1 u (by omega) hu
      rw [hue] at hchk
      dsimp only at hchk
      have huf := fitsE_ok (hfit u (by
        have : (ws.take k)[k - 1]? = some u := by rw [List.getElem?_take, if_pos (by omega)]; exact hu
        exact List.mem_of_getElem? this))
      have hpu : (ws.map wrC)[((k : Int) - 1).toNat]? = some (wrC u) := by rw [show ((k : Int) - 1).toNat = k - 1 by omega, List.getElem?_map, hu]; rfl
      obtain ⟨⟨v', s', x'⟩, ax', cx'⟩ := u
      obtain ⟨xl', hxq'⟩ : ∃ q, x'.length = q := ⟨_, rfl⟩
      dsimp only at huf hchk
      rw [hxq'] at huf
      replace hpu : (ws.map wrC)[((k : Int) - 1).toNat]? = some [.int .i64 v', .int .i64 s', .slice ax' xl' cx'] := by rw [hpu, ← hxq']
      have hbd : behind ⟨v', s', x'⟩ ⟨v, s, x⟩ ↔ ¬ (v < v' ∨ (v = v' ∧ s ≤ s' + xl')) := by
        unfold behind
        dsimp only
        rw [hxq']
      have hnx : ∀ y : WP, 0 < k + 1 → ws[k + 1 - 1]? = some y → some (⟨v, s, x⟩ : Wr) = some y.1 := fun y _ hy => by
        rw [Nat.add_sub_cancel, ht] at hy
        injection hy with hy
        rw [← hy]
      by_cases hb : v < v' ∨ (v = v' ∧ s ≤ s' + xl')
      · rw [if_neg (fun h => hbd.1 h hb)] at hchk
        rw [hchk]
        (repeat' (first | (with_reducible refine w_seq ?_) | (with_reducible refine c_region ?_) | (with_reducible refine s_nil ?_) | ((with_reducible apply s_loadE hF hM); exact rfl; exact rfl; (repeat (first | exact List.mem_cons_self | refine List.mem_cons_of_mem _ ?_)); exact rfl; exact rfl; (first | with_reducible assumption | (simp only [Int.toNat_natCast]; with_reducible assumption)); (with_reducible assumption); clear hF a; intro a hF) | (with_reducible refine q_then_n ?_) | ((with_reducible apply s_pure hF); exact rfl; exact rfl; exact rfl; (first | exact trivial | omega | exact ⟨Int.natCast_nonneg _, Int.ofNat_lt.2 (by assumption)⟩ | decide); clear hF a; intro a hF) | ((with_reducible apply s_load hF hM); exact rfl; exact rfl; (repeat (first | exact List.mem_cons_self | refine List.mem_cons_of_mem _ ?_)); exact rfl; exact rfl; clear hF a; intro a hF) | ((with_reducible apply s_store hF hM); exact rfl; exact rfl; exact rfl; exact rfl; (repeat (first | exact Upd.z | apply Upd.s)); exact rfl; exact rfl; exact rfl; clear hM; intro w hM) | ((with_reducible apply s_alloc hF hM); exact rfl; exact rfl; exact rfl; clear hF hM a; intro b w a hM hF) | (with_reducible refine w_skip ?_) | (with_reducible refine w_ret ?_) | (with_reducible refine q_then_r ?_) | (with_reducible refine q_blk_r ?_) | ((with_reducible apply c_true2 hF); exact rfl; (first | with_reducible rfl | (refine congrArg Value.bool ?_; focus (simp; done)))) | ((with_reducible apply c_false2 hF); exact rfl; (first | with_reducible rfl | (refine congrArg Value.bool ?_; focus (simp; done)))) | ((with_reducible apply s_skip hF); exact rfl; exact rfl; clear hF a; intro a hF) | ((fail_if_success ((with_reducible refine g_known true hF ?_ ?_); focus exact rfl)); (fail_if_success ((with_reducible refine g_known false hF ?_ ?_); focus exact rfl)); (with_reducible apply g_dec hF); exact rfl; exact rfl; all_goals (clear hF; intro hc hF); all_goals (try (exfalso; omega))) | ((with_reducible apply c_dec hF); exact rfl; all_goals intro hc; all_goals (try (exfalso; omega)))))
        all_goals first | (exfalso; omega) | skip
        all_goals (apply f_ret Try.results122 hF hM; (repeat (first | exact RL.nil | (apply RL.tmp; exact rfl) | (apply RL.cell; exact rfl; (repeat (first | exact List.mem_cons_self | refine List.mem_cons_of_mem _ ?_)); exact rfl))); refine Ret.mk hM.since ?_; dsimp only [resV])
      · rw [if_pos (hbd.2 hb)] at hchk
        (repeat' (first | (with_reducible refine w_seq ?_) | (with_reducible refine c_region ?_) | (with_reducible refine s_nil ?_) | ((with_reducible apply s_loadE hF hM); exact rfl; exact rfl; (repeat (first | exact List.mem_cons_self | refine List.mem_cons_of_mem _ ?_)); exact rfl; exact rfl; (first | with_reducible assumption | (simp only [Int.toNat_natCast]; with_reducible assumption)); (with_reducible assumption); clear hF a; intro a hF) | (with_reducible refine q_then_n ?_) | ((with_reducible apply s_pure hF); exact rfl; exact rfl; exact rfl; (first | exact trivial | omega | exact ⟨Int.natCast_nonneg _, Int.ofNat_lt.2 (by assumption)⟩ | decide); clear hF a; intro a hF) | ((with_reducible apply s_load hF hM); exact rfl; exact rfl; (repeat (first | exact List.mem_cons_self | refine List.mem_cons_of_mem _ ?_)); exact rfl; exact rfl; clear hF a; intro a hF) | ((with_reducible apply s_store hF hM); exact rfl; exact rfl; exact rfl; exact rfl; (repeat (first | exact Upd.z | apply Upd.s)); exact rfl; exact rfl; exact rfl; clear hM; intro w hM) | ((with_reducible apply s_alloc hF hM); exact rfl; exact rfl; exact rfl; clear hF hM a; intro b w a hM hF) | (with_reducible refine w_skip ?_) | (with_reducible refine q_blk_n ?_) | ((with_reducible apply c_false2 hF); exact rfl; (first | with_reducible rfl | (refine congrArg Value.bool ?_; focus (simp; done)))) | ((with_reducible apply s_skip hF); exact rfl; exact rfl; clear hF a; intro a hF) | ((fail_if_success ((with_reducible refine g_known true hF ?_ ?_); focus exact rfl)); (fail_if_success ((with_reducible refine g_known false hF ?_ ?_); focus exact rfl)); (with_reducible apply g_dec hF); exact rfl; exact rfl; all_goals (clear hF; intro hc hF); all_goals (try (exfalso; omega))) | ((with_reducible apply c_dec hF); exact rfl; all_goals intro hc; all_goals (try (exfalso; omega)))))
        all_goals first | (exfalso; omega) | skip
        all_goals exact ⟨m - 1, by omega, k + 1, some ⟨v, s, x⟩, by omega, hfit2 he, fun h => by omega, hnx, hchk, hF.sub (by repeat (first | exact Sub.nil | refine Sub.cons rfl (by first | with_reducible rfl | (refine congrArg (Value.int _) ?_; omega) | exact rfl) ?_)), hM.sub (List.nil_sublist _) (.refl _) (by intro f hf; simp only [List.mem_cons, List.not_mem_nil, or_false] at hf; (repeat (rcases hf with rfl | hf; · (repeat (first | exact List.mem_cons_self | refine List.mem_cons_of_mem _ ?_)))); first | (subst hf; (repeat (first | exact List.mem_cons_self | refine List.mem_cons_of_mem _ ?_)); done) | (repeat (first | exact hf | refine List.mem_cons_of_mem _ ?_)))⟩
  · rw [List.drop_of_length_le (by rw [wms_len]; omega)] at hchk
    rw [hchk]
    (repeat' (first | (with_reducible refine w_seq ?_) | (with_reducible refine c_region ?_) | (with_reducible refine s_nil ?_) | (with_reducible refine q_then_n ?_) | ((with_reducible apply s_pure hF); exact rfl; exact rfl; exact rfl; (first | exact trivial | omega | exact ⟨Int.natCast_nonneg _, Int.ofNat_lt.2 (by assumption)⟩ | decide); clear hF a; intro a hF) | (with_reducible refine w_exit ?_) | (with_reducible refine w_ret ?_) | (with_reducible refine q_then_x ?_) | (with_reducible refine q_blk_x ?_) | ((with_reducible apply c_dec hF); exact rfl; all_goals intro hc; all_goals (try (exfalso; omega)))))
    (apply f_ret Try.results122 hF hM; (repeat (first | exact RL.nil | (apply RL.tmp; exact rfl) | (apply RL.cell; exact rfl; (repeat (first | exact List.mem_cons_self | refine List.mem_cons_of_mem _ ?_)); exact rfl))); refine Ret.mk hM.since ?_; dsimp only [resV])
    rw [chkWs_nil]
theorem coCheck_c (as_ : Option Addr) (cs : Nat) (own : Nat → Prop) (W : World) (hl : ∀ b, own b → b < W.heap.size) (h1 : Has own W (RdF id aw (cellsW ws))) (h2 : Has own W (RdF (Value.int .i64) as_ szs)) :
    Calls Try.prog 91 ⟨[.slice aw nw cw, .slice as_ 8 cs]⟩ W (Ret W fun r _ => r = .int .i64 (chkWs none (wms ws))) := by
  have hM := ((Mm.start hl).known h2).known h1
  refine f_start Try.func91 rfl Try.ntmps91 rfl rfl ?_; intro a hF
  (repeat (first | (with_reducible refine w_seq ?_) | (with_reducible refine c_region ?_) | (with_reducible refine s_nil ?_) | ((with_reducible apply s_call (f := 88) hF hM); exact rfl; exact rfl; exact rfl; exact rfl; exact rfl; exact (imNew_c as_ cs _ _ hM.lt (hM.facts (RdF (Value.int .i64) as_ szs) (by (repeat (first | exact List.mem_cons_self | refine List.mem_cons_of_mem _ ?_))))); clear hF hM a; rintro v w a ⟨a1, c1, im, rfl, k1, k2, k3⟩ - hM hF; replace hM := hM.addFact k3) | (with_reducible refine q_then_n ?_) | ((with_reducible apply s_pure hF); exact rfl; exact rfl; exact rfl; (first | exact trivial | omega | exact ⟨Int.natCast_nonneg _, Int.ofNat_lt.2 (by assumption)⟩ | decide); clear hF a; intro a hF) | ((with_reducible apply s_store hF hM); exact rfl; exact rfl; exact rfl; exact rfl; (repeat (first | exact Upd.z | apply Upd.s)); exact rfl; exact rfl; exact rfl; clear hM; intro w hM) | ((with_reducible apply s_alloc hF hM); exact rfl; exact rfl; exact rfl; clear hF hM a; intro b w a hM hF) | (with_reducible refine w_skip ?_) | ((with_reducible apply c_false2 hF); exact rfl; (first | with_reducible rfl | (refine congrArg Value.bool ?_; focus (simp; done))))))
  replace hM := hM.freeze
  have e1 := fun {own W} b0 T hl h1 h hb => check22_c ws hxl aw cw nw hn hn4 im k1 k2 a1 c1 b0 T own W hl h1 h hb
  (repeat' (first | (with_reducible refine s_nil ?_) | ((with_reducible apply s_call (f := 122) hF hM); exact rfl; exact rfl; exact rfl; exact rfl; exact rfl; exact (e1 _ _ hM.lt (hM.facts (RdF id aw (cellsW ws)) (by (repeat (first | exact List.mem_cons_self | refine List.mem_cons_of_mem _ ?_)))) (hM.facts (RdF encS3 a1 im) (by (repeat (first | exact List.mem_cons_self | refine List.mem_cons_of_mem _ ?_)))) (hM.facts _ List.mem_cons_self)); clear hF hM a; rintro v w a rfl - hM hF) | (with_reducible refine q_then_n ?_) | ((with_reducible apply s_pure hF); exact rfl; exact rfl; exact rfl; (first | exact trivial | omega | exact ⟨Int.natCast_nonneg _, Int.ofNat_lt.2 (by assumption)⟩ | decide); clear hF a; intro a hF) | (with_reducible refine w_ret ?_)))
  (apply f_ret Try.results91 hF hM; (repeat (first | exact RL.nil | (apply RL.tmp; exact rfl) | (apply RL.cell; exact rfl; (repeat (first | exact List.mem_cons_self | refine List.mem_cons_of_mem _ ?_)); exact rfl))); refine Ret.mk hM.since ?_; dsimp only [resV])
end
theorem in_c (x lo hi : Int) (own : Nat → Prop) (W : World) (hl : ∀ b, own b → b < W.heap.size) : Calls Try.prog 89 ⟨[.int .i64 x, .int .i64 lo, .int .i64 hi]⟩ W (Ret W fun v _ => v = .bool (decide (lo ≤ x ∧ x ≤ hi))) := by
  have hM := Mm.start hl
  refine f_start Try.func89 rfl Try.ntmps89 rfl rfl ?_; intro a hF
  by_cases h : lo ≤ x
  · rw [show decide (lo ≤ x ∧ x ≤ hi) = decide (x ≤ hi) from decide_eq_decide.2 ⟨fun h => h.2, fun k => ⟨h, k⟩⟩]
    (repeat (first | (with_reducible refine w_seq ?_) | (with_reducible refine c_region ?_) | (with_reducible refine s_nil ?_) | (with_reducible refine q_then_n ?_) | ((with_reducible apply s_pure hF); exact rfl; exact rfl; exact rfl; (first | exact trivial | omega | exact ⟨Int.natCast_nonneg _, Int.ofNat_lt.2 (by assumption)⟩ | decide); clear hF a; intro a hF)))
    rw [decide_eq_true h] at hF
    (repeat (first | (with_reducible refine s_nil ?_) | (with_reducible refine q_then_n ?_) | ((with_reducible apply s_pure hF); exact rfl; exact rfl; exact rfl; (first | exact trivial | omega | exact ⟨Int.natCast_nonneg _, Int.ofNat_lt.2 (by assumption)⟩ | decide); clear hF a; intro a hF) | (with_reducible refine w_ret ?_)))
    (apply f_ret Try.results89 hF hM; (repeat (first | exact RL.nil | (apply RL.tmp; exact rfl) | (apply RL.cell; exact rfl; (repeat (first | exact List.mem_cons_self | refine List.mem_cons_of_mem _ ?_)); exact rfl))); refine Ret.mk hM.since ?_; dsimp only [resV])
  · rw [show decide (lo ≤ x ∧ x ≤ hi) = false from decide_eq_false fun k => h k.1]
    (repeat (first | (with_reducible refine w_seq ?_) | (with_reducible refine c_region ?_) | (with_reducible refine s_nil ?_) | (with_reducible refine q_then_n ?_) | ((with_reducible apply s_pure hF); exact rfl; exact rfl; exact rfl; (first | exact trivial | omega | exact ⟨Int.natCast_nonneg _, Int.ofNat_lt.2 (by assumption)⟩ | decide); clear hF a; intro a hF)))
    rw [decide_eq_false h] at hF
    (repeat (first | (with_reducible refine s_nil ?_) | (with_reducible refine q_then_n ?_) | ((with_reducible apply s_pure hF); exact rfl; exact rfl; exact rfl; (first | exact trivial | omega | exact ⟨Int.natCast_nonneg _, Int.ofNat_lt.2 (by assumption)⟩ | decide); clear hF a; intro a hF) | (with_reducible refine w_ret ?_) | ((with_reducible apply s_skip hF); exact rfl; exact rfl; clear hF a; intro a hF)))
    (apply f_ret Try.results89 hF hM; (repeat (first | exact RL.nil | (apply RL.tmp; exact rfl) | (apply RL.cell; exact rfl; (repeat (first | exact List.mem_cons_self | refine List.mem_cons_of_mem _ ?_)); exact rfl))); refine Ret.mk hM.since ?_; dsimp only [resV])
theorem posi1_c (x : Int) (own : Nat → Prop) (W : World) (hl : ∀ b, own b → b < W.heap.size) : Calls Try.prog 121 ⟨[.int .i64 x]⟩ W (Ret W fun v _ => v = .bool (badP x)) := by
  have hM := Mm.start hl
  refine f_start Try.func121 rfl Try.ntmps121 rfl rfl ?_; intro a hF
  (repeat (first | (with_reducible refine w_seq ?_) | (with_reducible refine c_region ?_) | (with_reducible refine s_nil ?_) | ((with_reducible apply s_call (f := 89) hF hM); exact rfl; exact rfl; exact rfl; exact rfl; exact rfl; exact (in_c x 0 1073741824 _ _ hM.lt); clear hF hM a; rintro v w a rfl - hM hF) | (with_reducible refine q_then_n ?_) | ((with_reducible apply s_pure hF); exact rfl; exact rfl; exact rfl; (first | exact trivial | omega | exact ⟨Int.natCast_nonneg _, Int.ofNat_lt.2 (by assumption)⟩ | decide); clear hF a; intro a hF) | (with_reducible refine w_ret ?_)))
  (apply f_ret Try.results121 hF hM; (repeat (first | exact RL.nil | (apply RL.tmp; exact rfl) | (apply RL.cell; exact rfl; (repeat (first | exact List.mem_cons_self | refine List.mem_cons_of_mem _ ?_)); exact rfl))); refine Ret.mk hM.since ?_; dsimp only [resV])
  rfl
theorem positions_c (xs : List Int) (n : Nat) (hn : xs.length = n) (hn4 : n ≤ 1000000) (a0 : Option Addr) (c0 : Nat) (own : Nat → Prop) (W : World) (hl : ∀ b, own b → b < W.heap.size) (h : Has own W (RdF (Value.int .i64) a0 xs)) :
    Calls Try.prog 90 ⟨[.slice a0 n c0, .int .i64 0]⟩ W (Ret W fun v _ => v = .int .i64 (posE xs)) := by
  have hM := (Mm.start hl).known h
  have e1 := fun {own W} hl h => conI_c 121 badP rfl xs n hn hn4 (fun t _ own W hl => posi1_c t own W hl) a0 c0 own W hl h
  unfold posE
  rw [hn]
  refine f_start Try.func90 rfl Try.ntmps90 rfl rfl ?_; intro a hF
  by_cases h8 : 8 < n
  · rw [if_pos h8]
    (repeat (first | (with_reducible refine w_seq ?_) | (with_reducible refine c_region ?_) | (with_reducible refine s_nil ?_) | ((with_reducible apply s_call (f := 89) hF hM); exact rfl; exact rfl; exact rfl; exact rfl; exact rfl; exact (in_c n 0 8 _ _ hM.lt); clear hF hM a; rintro v w a rfl - hM hF) | (with_reducible refine q_then_n ?_) | ((with_reducible apply s_pure hF); exact rfl; exact rfl; exact rfl; (first | exact trivial | omega | exact ⟨Int.natCast_nonneg _, Int.ofNat_lt.2 (by assumption)⟩ | decide); clear hF a; intro a hF)))
    rw [decide_eq_false (show ¬ (0 ≤ (n : Int) ∧ (n : Int) ≤ 8) by omega)] at hF
    (repeat' (first | (with_reducible refine w_seq ?_) | (with_reducible refine c_region ?_) | (with_reducible refine s_nil ?_) | (with_reducible refine q_then_n ?_) | ((with_reducible apply s_pure hF); exact rfl; exact rfl; exact rfl; (first | exact trivial | omega | exact ⟨Int.natCast_nonneg _, Int.ofNat_lt.2 (by assumption)⟩ | decide); clear hF a; intro a hF) | (with_reducible refine w_ret ?_) | (with_reducible refine q_then_r ?_) | ((with_reducible apply c_true2 hF); exact rfl; (first | with_reducible rfl | (refine congrArg Value.bool ?_; focus (simp; done))))))
    (apply f_ret Try.results90 hF hM; (repeat (first | exact RL.nil | (apply RL.tmp; exact rfl) | (apply RL.cell; exact rfl; (repeat (first | exact List.mem_cons_self | refine List.mem_cons_of_mem _ ?_)); exact rfl))); refine Ret.mk hM.since ?_; dsimp only [resV])
  · rw [if_neg h8]
    (repeat (first | (with_reducible refine w_seq ?_) | (with_reducible refine c_region ?_) | (with_reducible refine s_nil ?_) | ((with_reducible apply s_call (f := 89) hF hM); exact rfl; exact rfl; exact rfl; exact rfl; exact rfl; exact (in_c n 0 8 _ _ hM.lt); clear hF hM a; rintro v w a rfl - hM hF) | (with_reducible refine q_then_n ?_) | ((with_reducible apply s_pure hF); exact rfl; exact rfl; exact rfl; (first | exact trivial | omega | exact ⟨Int.natCast_nonneg _, Int.ofNat_lt.2 (by assumption)⟩ | decide); clear hF a; intro a hF)))
    rw [decide_eq_true (show 0 ≤ (n : Int) ∧ (n : Int) ≤ 8 by omega)] at hF
    cases hany : xs.any badP with
    | true =>
      rw [hany] at e1
      (repeat' (first | (with_reducible refine w_seq ?_) | (with_reducible refine c_region ?_) | (with_reducible refine s_nil ?_) | ((with_reducible apply s_call (f := 120) hF hM); exact rfl; exact rfl; exact rfl; exact rfl; exact rfl; exact (e1 hM.lt (hM.facts (RdF (Value.int .i64) a0 xs) (by (repeat (first | exact List.mem_cons_self | refine List.mem_cons_of_mem _ ?_))))); clear hF hM a; rintro v w a rfl - hM hF) | (with_reducible refine q_then_n ?_) | ((with_reducible apply s_pure hF); exact rfl; exact rfl; exact rfl; (first | exact trivial | omega | exact ⟨Int.natCast_nonneg _, Int.ofNat_lt.2 (by assumption)⟩ | decide); clear hF a; intro a hF) | (with_reducible refine w_skip ?_) | (with_reducible refine w_ret ?_) | (with_reducible refine q_then_r ?_) | ((with_reducible apply c_true2 hF); exact rfl; (first | with_reducible rfl | (refine congrArg Value.bool ?_; focus (simp; done)))) | ((with_reducible apply c_false2 hF); exact rfl; (first | with_reducible rfl | (refine congrArg Value.bool ?_; focus (simp; done))))))
      (apply f_ret Try.results90 hF hM; (repeat (first | exact RL.nil | (apply RL.tmp; exact rfl) | (apply RL.cell; exact rfl; (repeat (first | exact List.mem_cons_self | refine List.mem_cons_of_mem _ ?_)); exact rfl))); refine Ret.mk hM.since ?_; dsimp only [resV])
      rfl
    | false =>
      rw [hany] at e1
      (repeat' (first | (with_reducible refine w_seq ?_) | (with_reducible refine c_region ?_) | (with_reducible refine s_nil ?_) | ((with_reducible apply s_call (f := 120) hF hM); exact rfl; exact rfl; exact rfl; exact rfl; exact rfl; exact (e1 hM.lt (hM.facts (RdF (Value.int .i64) a0 xs) (by (repeat (first | exact List.mem_cons_self | refine List.mem_cons_of_mem _ ?_))))); clear hF hM a; rintro v w a rfl - hM hF) | (with_reducible refine q_then_n ?_) | ((with_reducible apply s_pure hF); exact rfl; exact rfl; exact rfl; (first | exact trivial | omega | exact ⟨Int.natCast_nonneg _, Int.ofNat_lt.2 (by assumption)⟩ | decide); clear hF a; intro a hF) | (with_reducible refine w_skip ?_) | (with_reducible refine w_ret ?_) | ((with_reducible apply c_false2 hF); exact rfl; (first | with_reducible rfl | (refine congrArg Value.bool ?_; focus (simp; done))))))
      (apply f_ret Try.results90 hF hM; (repeat (first | exact RL.nil | (apply RL.tmp; exact rfl) | (apply RL.cell; exact rfl; (repeat (first | exact List.mem_cons_self | refine List.mem_cons_of_mem _ ?_)); exact rfl))); refine Ret.mk hM.since ?_; dsimp only [resV])
      rfl
end Go.Proofs.Ytadfdpkhehdikaa


/- cycle.Check. -/
namespace Go.Proofs.Ytadfdpkhehdikaa
open Go.RowKit Go.Shelf D29 B31
section
variable (cb cn ct : Int) (pos : List Int) (ws : List WP) (hxl : ∀ t ∈ ws, t.1.x.length ≤ 1000000) (ap aw : Option Addr) (np cp nw cw : Nat) (hnp : pos.length = np) (hnp4 : np ≤ 1000000) (hn : ws.length = nw) (hn4 : nw ≤ 10000) (own : Nat → Prop) (W : World) (hl : ∀ b, own b → b < W.heap.size) (h1 : Has own W (RdF id aw (cellsW ws))) (h2 : Has own W (RdF (Value.int .i64) ap pos))
include hxl hnp hnp4 hn hn4 hl h1 h2
set_option maxRecDepth 20000 in
set_option maxHeartbeats 4000000 in
theorem cyCheck_c (as_ : Option Addr) (cs : Nat) (h3 : Has own W (RdF (Value.int .i64) as_ szs)) :
    Calls Try.prog 53 ⟨[cyV cb cn ct ap np cp aw nw cw, .slice as_ 8 cs]⟩ W (Ret W fun r _ => r = .int .i64 (chkC ⟨cb, cn, ct, pos, wms ws⟩)) := by
  have hM := (((Mm.start hl).known h3).known h2).known h1
  unfold chkC
  dsimp only
  refine f_start Try.func53 rfl Try.ntmps53 rfl rfl ?_; intro a hF
  (repeat (first | (with_reducible refine w_seq ?_) | (with_reducible refine c_region ?_) | (with_reducible refine s_nil ?_) | ((with_reducible apply s_call (f := 88) hF hM); exact rfl; exact rfl; exact rfl; exact rfl; exact rfl; exact (imNew_c as_ cs _ _ hM.lt (hM.facts (RdF (Value.int .i64) as_ szs) (by (repeat (first | exact List.mem_cons_self | refine List.mem_cons_of_mem _ ?_))))); clear hF hM a; rintro v w a ⟨a1, c1, im, rfl, -, -, -⟩ - hM hF) | (with_reducible refine q_then_n ?_) | ((with_reducible apply s_pure hF); exact rfl; exact rfl; exact rfl; (first | exact trivial | omega | exact ⟨Int.natCast_nonneg _, Int.ofNat_lt.2 (by assumption)⟩ | decide); clear hF a; intro a hF) | ((with_reducible apply s_load hF hM); exact rfl; exact rfl; (repeat (first | exact List.mem_cons_self | refine List.mem_cons_of_mem _ ?_)); exact rfl; exact rfl; clear hF a; intro a hF) | ((with_reducible apply s_box hF hM); exact rfl; exact rfl; exact rfl; exact rfl; clear hF hM a; intro b w a hM hF) | (with_reducible refine w_skip ?_) | (with_reducible refine w_block ?_) | ((with_reducible apply c_false2 hF); exact rfl; (first | with_reducible rfl | (refine congrArg Value.bool ?_; focus (simp; done))))))
  by_cases hr : cb < 0 ∨ cn ≤ cb ∨ 1073741824 < cn
  · rw [if_pos hr]
    (repeat' (first | (with_reducible refine w_seq ?_) | (with_reducible refine c_region ?_) | (with_reducible refine s_nil ?_) | (with_reducible refine q_then_n ?_) | ((with_reducible apply s_pure hF); exact rfl; exact rfl; exact rfl; (first | exact trivial | omega | exact ⟨Int.natCast_nonneg _, Int.ofNat_lt.2 (by assumption)⟩ | decide); clear hF a; intro a hF) | ((with_reducible apply s_load hF hM); exact rfl; exact rfl; (repeat (first | exact List.mem_cons_self | refine List.mem_cons_of_mem _ ?_)); exact rfl; exact rfl; clear hF a; intro a hF) | (with_reducible refine w_ret ?_) | (with_reducible refine q_then_r ?_) | (with_reducible refine q_blk_r ?_) | ((with_reducible apply c_true2 hF); exact rfl; (first | with_reducible rfl | (refine congrArg Value.bool ?_; focus (simp; done)))) | ((with_reducible apply s_skip hF); exact rfl; exact rfl; clear hF a; intro a hF) | ((fail_if_success ((with_reducible refine g_known true hF ?_ ?_); focus exact rfl)); (fail_if_success ((with_reducible refine g_known false hF ?_ ?_); focus exact rfl)); (with_reducible apply g_dec hF); exact rfl; exact rfl; all_goals (clear hF; intro hc hF); all_goals (try (exfalso; omega))) | ((with_reducible apply c_dec hF); exact rfl; all_goals intro hc; all_goals (try (exfalso; omega)))))
    all_goals first | (exfalso; omega) | skip
    all_goals (apply f_ret Try.results53 hF hM; (repeat (first | exact RL.nil | (apply RL.tmp; exact rfl) | (apply RL.cell; exact rfl; (repeat (first | exact List.mem_cons_self | refine List.mem_cons_of_mem _ ?_)); exact rfl))); refine Ret.mk hM.since ?_; dsimp only [resV])
  rw [if_neg hr]
  by_cases ht : 0 ≤ ct ∧ ct ≤ 1073741824
  case neg =>
    rw [if_pos ht]
    (repeat' (first | (with_reducible refine w_seq ?_) | (with_reducible refine c_region ?_) | (with_reducible refine s_nil ?_) | ((with_reducible apply s_call (f := 89) hF hM); exact rfl; exact rfl; exact rfl; exact rfl; exact rfl; exact (in_c ct 0 1073741824 _ _ hM.lt); clear hF hM a; rintro v w a rfl - hM hF; rw [decide_eq_false ht] at hF) | (with_reducible refine q_then_n ?_) | ((with_reducible apply s_pure hF); exact rfl; exact rfl; exact rfl; (first | exact trivial | omega | exact ⟨Int.natCast_nonneg _, Int.ofNat_lt.2 (by assumption)⟩ | decide); clear hF a; intro a hF) | ((with_reducible apply s_load hF hM); exact rfl; exact rfl; (repeat (first | exact List.mem_cons_self | refine List.mem_cons_of_mem _ ?_)); exact rfl; exact rfl; clear hF a; intro a hF) | (with_reducible refine w_ret ?_) | (with_reducible refine q_then_r ?_) | (with_reducible refine q_blk_r ?_) | ((with_reducible apply c_true2 hF); exact rfl; (first | with_reducible rfl | (refine congrArg Value.bool ?_; focus (simp; done)))) | ((fail_if_success ((with_reducible refine g_known true hF ?_ ?_); focus exact rfl)); (fail_if_success ((with_reducible refine g_known false hF ?_ ?_); focus exact rfl)); (with_reducible apply g_dec hF); exact rfl; exact rfl; all_goals (clear hF; intro hc hF); all_goals (try (exfalso; omega))) | ((with_reducible apply c_dec hF); exact rfl; all_goals intro hc; all_goals (try (exfalso; omega)))))
    all_goals first | (exfalso; omega) | skip
    all_goals (apply f_ret Try.results53 hF hM; (repeat (first | exact RL.nil | (apply RL.tmp; exact rfl) | (apply RL.cell; exact rfl; (repeat (first | exact List.mem_cons_self | refine List.mem_cons_of_mem _ ?_)); exact rfl))); refine Ret.mk hM.since ?_; dsimp only [resV])
  rw [if_neg (by simpa using ht)]
  have e1 := fun {own W} hl h => positions_c pos np hnp hnp4 ap cp own W hl h
  have e2 := fun {own W} hl h1 h2 => coCheck_c ws hxl aw cw nw hn hn4 as_ cs own W hl h1 h2
  by_cases hp : posE pos = 0
  case neg =>
    rw [if_pos hp]
    generalize posE pos = e at *
    (repeat' (first | (with_reducible refine w_seq ?_) | (with_reducible refine c_region ?_) | (with_reducible refine s_nil ?_) | ((with_reducible apply s_call (f := 89) hF hM); exact rfl; exact rfl; exact rfl; exact rfl; exact rfl; exact (in_c ct 0 1073741824 _ _ hM.lt); clear hF hM a; rintro v w a rfl - hM hF; rw [decide_eq_true ht] at hF) | ((with_reducible apply s_call (f := 90) hF hM); exact rfl; exact rfl; exact rfl; exact rfl; exact rfl; exact (e1 hM.lt (hM.facts (RdF (Value.int .i64) ap pos) (by (repeat (first | exact List.mem_cons_self | refine List.mem_cons_of_mem _ ?_))))); clear hF hM a; rintro v w a rfl - hM hF) | (with_reducible refine q_then_n ?_) | ((with_reducible apply s_pure hF); exact rfl; exact rfl; exact rfl; (first | exact trivial | omega | exact ⟨Int.natCast_nonneg _, Int.ofNat_lt.2 (by assumption)⟩ | decide); clear hF a; intro a hF) | ((with_reducible apply s_load hF hM); exact rfl; exact rfl; (repeat (first | exact List.mem_cons_self | refine List.mem_cons_of_mem _ ?_)); exact rfl; exact rfl; clear hF a; intro a hF) | (with_reducible refine w_skip ?_) | (with_reducible refine w_ret ?_) | (with_reducible refine q_then_r ?_) | (with_reducible refine q_blk_n ?_) | ((with_reducible apply c_false2 hF); exact rfl; (first | with_reducible rfl | (refine congrArg Value.bool ?_; focus (simp; done)))) | ((fail_if_success ((with_reducible refine g_known true hF ?_ ?_); focus exact rfl)); (fail_if_success ((with_reducible refine g_known false hF ?_ ?_); focus exact rfl)); (with_reducible apply g_dec hF); exact rfl; exact rfl; all_goals (clear hF; intro hc hF); all_goals (try (exfalso; omega))) | ((with_reducible apply c_dec hF); exact rfl; all_goals intro hc; all_goals (try (exfalso; omega)))))
    all_goals first | (exfalso; omega) | skip
    all_goals (apply f_ret Try.results53 hF hM; (repeat (first | exact RL.nil | (apply RL.tmp; exact rfl) | (apply RL.cell; exact rfl; (repeat (first | exact List.mem_cons_self | refine List.mem_cons_of_mem _ ?_)); exact rfl))); refine Ret.mk hM.since ?_; dsimp only [resV])
  rw [if_neg (by simp [hp])]
  rw [hp] at e1
  (repeat' (first | (with_reducible refine w_seq ?_) | (with_reducible refine c_region ?_) | (with_reducible refine s_nil ?_) | ((with_reducible apply s_call (f := 89) hF hM); exact rfl; exact rfl; exact rfl; exact rfl; exact rfl; exact (in_c ct 0 1073741824 _ _ hM.lt); clear hF hM a; rintro v w a rfl - hM hF; rw [decide_eq_true ht] at hF) | ((with_reducible apply s_call (f := 90) hF hM); exact rfl; exact rfl; exact rfl; exact rfl; exact rfl; exact (e1 hM.lt (hM.facts (RdF (Value.int .i64) ap pos) (by (repeat (first | exact List.mem_cons_self | refine List.mem_cons_of_mem _ ?_))))); clear hF hM a; rintro v w a rfl - hM hF) | ((with_reducible apply s_call (f := 91) hF hM); exact rfl; exact rfl; exact rfl; exact rfl; exact rfl; exact (e2 hM.lt (hM.facts (RdF id aw (cellsW ws)) (by (repeat (first | exact List.mem_cons_self | refine List.mem_cons_of_mem _ ?_)))) (hM.facts (RdF (Value.int .i64) as_ szs) (by (repeat (first | exact List.mem_cons_self | refine List.mem_cons_of_mem _ ?_))))); clear hF hM a; rintro v w a rfl - hM hF) | (with_reducible refine q_then_n ?_) | ((with_reducible apply s_pure hF); exact rfl; exact rfl; exact rfl; (first | exact trivial | omega | exact ⟨Int.natCast_nonneg _, Int.ofNat_lt.2 (by assumption)⟩ | decide); clear hF a; intro a hF) | ((with_reducible apply s_load hF hM); exact rfl; exact rfl; (repeat (first | exact List.mem_cons_self | refine List.mem_cons_of_mem _ ?_)); exact rfl; exact rfl; clear hF a; intro a hF) | (with_reducible refine w_skip ?_) | (with_reducible refine w_ret ?_) | (with_reducible refine q_blk_n ?_) | ((with_reducible apply c_false2 hF); exact rfl; (first | with_reducible rfl | (refine congrArg Value.bool ?_; focus (simp; done)))) | ((fail_if_success ((with_reducible refine g_known true hF ?_ ?_); focus exact rfl)); (fail_if_success ((with_reducible refine g_known false hF ?_ ?_); focus exact rfl)); (with_reducible apply g_dec hF); exact rfl; exact rfl; all_goals (clear hF; intro hc hF); all_goals (try (exfalso; omega))) | ((with_reducible apply c_dec hF); exact rfl; all_goals intro hc; all_goals (try (exfalso; omega)))))
  all_goals first | (exfalso; omega) | skip
  all_goals (apply f_ret Try.results53 hF hM; (repeat (first | exact RL.nil | (apply RL.tmp; exact rfl) | (apply RL.cell; exact rfl; (repeat (first | exact List.mem_cons_self | refine List.mem_cons_of_mem _ ?_)); exact rfl))); refine Ret.mk hM.since ?_; dsimp only [resV])
end
end Go.Proofs.Ytadfdpkhehdikaa


/- wire: writes are put. -/
namespace Go.Proofs.Ytadfdpkhehdikaa
open Go.RowKit Go.Shelf D29 B31
namespace B31
def putsW (v s : Nat) (x : Dat) : List Int := puts v ++ (puts s ++ putsS x)
def putW (w : Wr) : List Int := putsW w.v.toNat w.s.toNat w.x
def putWs (l : List Wr) : List Int := puts l.length ++ (l.map putW).flatten
theorem putsS_len {l : Dat} (h8 : W8 l) (hl : l.length ≤ 1000000) : (putsS l).length ≤ 8 + 8 * l.length := by
  have hp0 : (puts l.length).length ≤ 8 := puts_len 7 l.length (by omega)
  have hf := flat_len h8
  unfold putsS
  rw [List.length_append]
  omega
theorem putW_len {w : Wr} (h8 : W8 w.x) (hl : w.x.length ≤ 4096) (hv : w.v.toNat ≤ 9007199254740991) (hs : w.s.toNat ≤ 9007199254740991) : (putW w).length ≤ 32800 := by
  have h1 := puts_len8 hv
  have h2 := puts_len8 hs
  have h3 := putsS_len h8 (by omega)
  unfold putW putsW
  rw [List.length_append, List.length_append]
  omega
end B31
set_option maxRecDepth 20000 in
set_option maxHeartbeats 4000000 in
theorem putS_m (l : Dat) (hl8 : W8 l) (hl6 : l.length ≤ 1000000) (a1 : Option Addr) (n c1 : Nat) (hn : l.length = n) {own : Nat → Prop} {w0 W : World} {bs : List BoxE} {L : List Ent} {Fs : List (World → Prop)} {m : Nat} {v : Value} {xs : List Value} (hM : Mm own w0 bs (⟨5, 1, v, m, xs⟩ :: L) (RdF (Value.int .u8) a1 l.flatten :: Fs) W) (hm : m ≤ 1000000000) :
    Calls Try.prog 112 ⟨[v, .slice a1 n c1, .func (.func 113) #[] #[]]⟩ W (Rtn fun u w' => ∃ a' c', u = .slice a' (m + (putsS l).length) c' ∧ Mm own w0 bs (⟨5, 1, .slice a' (m + (putsS l).length) c', m + (putsS l).length, xs ++ (putsS l).map (Value.int .u8)⟩ :: L) (RdF (Value.int .u8) a1 l.flatten :: Fs) w') := by
  subst hn
  have hp0 : (puts l.length).length ≤ 8 := puts_len 7 l.length (by omega)
  refine f_start Try.func112 rfl Try.ntmps112 rfl rfl ?_; intro a hF
  (repeat' (first | (with_reducible refine w_seq ?_) | (with_reducible refine c_region ?_) | (with_reducible refine s_nil ?_) | ((with_reducible apply s_callM (f := 93) hF); exact rfl; exact rfl; exact rfl; exact rfl; exact rfl; exact (putInt_m l.length (by omega) hM .z (by omega)); clear hF hM a; rintro v w a ⟨a2, c2, rfl, hM⟩ hF; dsimp only [List.set] at hM) | (with_reducible refine q_then_n ?_) | ((with_reducible apply s_pure hF); exact rfl; exact rfl; exact rfl; (first | exact trivial | omega | exact ⟨Int.natCast_nonneg _, Int.ofNat_lt.2 (by assumption)⟩ | decide); clear hF a; intro a hF) | (with_reducible refine w_block ?_)))
  refine c_loop (m := l.length) (fun z a w' => ∃ (k : Nat) (q : Nat) (a2 : Option Addr) (c2 : Nat), z + k = l.length ∧ q = (puts l.length ++ (l.take k).flatten).length ∧ q ≤ 8 + 8 * k ∧
    Fr 25 [] [(15, .int .i64 k), (14, .int .i64 l.length), (13, .slice a1 l.length c1), (0, .slice a2 (m + q) c2), (2, .func (.func 113) #[] #[])] a ∧
    Mm own w0 bs (⟨5, 1, .slice a2 (m + q) c2, m + q, xs ++ (puts l.length ++ (l.take k).flatten).map (Value.int .u8)⟩ :: L) (RdF (Value.int .u8) a1 l.flatten :: Fs) w')
    ⟨0, (puts l.length).length, a2, c2, by omega, by simp, by omega, hF.sub (by repeat (first | exact Sub.nil | refine Sub.cons rfl (by first | with_reducible rfl | (refine congrArg (Value.int _) ?_; omega) | exact rfl) ?_)), by simpa using hM⟩ ?_
  clear hF hM a
  rintro z a w' ⟨k, q, a2, c2, hz, hq, hq8, hF, hM⟩
  by_cases hk : k < l.length
  · obtain ⟨s, hs⟩ := get_of_lt hk
    have hs8 := hl8 s (List.mem_of_getElem? hs)
    have hw1 : ∀ y ∈ l, y.length = 8 := hl8
    obtain ⟨ad, rfl⟩ : ∃ ad, a1 = some ad := rd_some hM (enc := Value.int .u8) (a := a1) (xs := l.flatten) (by (repeat (first | exact List.mem_cons_self | refine List.mem_cons_of_mem _ ?_))) (flat_get (q := 0) hl8 hs (List.getElem?_eq_getElem (by omega)))
    have hst := flat_take8 hs
    obtain ⟨x0, x1, x2, x3, x4, x5, x6, x7, rfl⟩ := len8 hs8
    (repeat' (first | (with_reducible refine w_seq ?_) | (with_reducible refine c_region ?_) | (with_reducible refine s_nil ?_) | ((with_reducible apply s_callcM (f := 113) hF); exact rfl; exact rfl; exact rfl; exact rfl; exact rfl; exact rfl; exact rfl; exact (putSector_m x0 x1 x2 x3 x4 x5 x6 x7 hM (by omega)); clear hF hM a; rintro v w a ⟨a3, c3, rfl, hM⟩ hF) | ((with_reducible apply s_loadS hF hM); exact rfl; exact rfl; (repeat (first | exact List.mem_cons_self | refine List.mem_cons_of_mem _ ?_)); exact rfl; exact rfl; (first | with_reducible assumption | (simp only [Int.toNat_natCast]; with_reducible assumption)); (with_reducible assumption); clear hF a; intro a hF) | (with_reducible refine q_then_n ?_) | ((with_reducible apply s_pure hF); exact rfl; exact rfl; exact rfl; (first | exact trivial | omega | exact ⟨Int.natCast_nonneg _, Int.ofNat_lt.2 (by assumption)⟩ | decide); clear hF a; intro a hF) | ((with_reducible apply s_load hF hM); exact rfl; exact rfl; (repeat (first | exact List.mem_cons_self | refine List.mem_cons_of_mem _ ?_)); exact rfl; exact rfl; clear hF a; intro a hF) | ((with_reducible apply s_store hF hM); exact rfl; exact rfl; exact rfl; exact rfl; (repeat (first | exact Upd.z | apply Upd.s)); exact rfl; exact rfl; exact rfl; clear hM; intro w hM) | ((with_reducible apply s_alloc hF hM); exact rfl; exact rfl; exact rfl; clear hF hM a; intro b w a hM hF) | (with_reducible refine w_skip ?_) | (with_reducible refine w_block ?_) | (with_reducible refine q_blk_n ?_) | ((with_reducible apply c_dec hF); exact rfl; all_goals intro hc; all_goals (try (exfalso; omega)))))
    rw [Nat.add_assoc] at hF
    refine ⟨z - 1, by omega, k + 1, q + 8, a3, c3, by omega, ?_, by omega, hF.sub (by repeat (first | exact Sub.nil | refine Sub.cons rfl (by first | with_reducible rfl | (refine congrArg (Value.int _) ?_; omega) | exact rfl) ?_)), ?_⟩
    · rw [hst, hq]; simp; omega
    · rw [hst]
      rw [List.append_assoc, ← List.map_append, Nat.add_assoc] at hM
      replace hM := hM.sub (List.sublist_cons_self _ _) (.refl _) (fun _ h => h)
      simpa using hM
  · obtain rfl : k = l.length := by omega
    (repeat' (first | (with_reducible refine w_seq ?_) | (with_reducible refine c_region ?_) | (with_reducible refine s_nil ?_) | (with_reducible refine q_then_n ?_) | ((with_reducible apply s_pure hF); exact rfl; exact rfl; exact rfl; (first | exact trivial | omega | exact ⟨Int.natCast_nonneg _, Int.ofNat_lt.2 (by assumption)⟩ | decide); clear hF a; intro a hF) | (with_reducible refine w_exit ?_) | (with_reducible refine w_ret ?_) | (with_reducible refine q_then_x ?_) | (with_reducible refine q_blk_x ?_) | ((with_reducible apply c_false2 hF); exact rfl; (first | with_reducible rfl | (refine congrArg Value.bool ?_; focus (simp; done))))))
    (apply f_ret Try.results112 hF hM; (repeat (first | exact RL.nil | (apply RL.tmp; exact rfl) | (apply RL.cell; exact rfl; (repeat (first | exact List.mem_cons_self | refine List.mem_cons_of_mem _ ?_)); exact rfl))); refine Both.mk ?_; try dsimp only [resV])
    rw [List.take_of_length_le (Nat.le_refl _)] at hq hM
    have e : puts l.length ++ l.flatten = putsS l := rfl
    rw [e] at hq hM
    subst hq
    exact ⟨a2, c2, rfl, hM⟩
set_option maxRecDepth 20000 in
set_option maxHeartbeats 4000000 in
theorem putWrite_m (p s : Nat) (hp : p ≤ 9007199254740991) (hs : s ≤ 9007199254740991) (l : Dat) (hl8 : W8 l) (hl6 : l.length ≤ 1000000) (a1 : Option Addr) (n c1 : Nat) (hn : l.length = n) {own : Nat → Prop} {w0 W : World} {bs : List BoxE} {L : List Ent} {Fs : List (World → Prop)} {m : Nat} {v : Value} {xs : List Value} (hM : Mm own w0 bs (⟨5, 1, v, m, xs⟩ :: L) (RdF (Value.int .u8) a1 l.flatten :: Fs) W) (hm : m ≤ 100000000) :
    Calls Try.prog 95 ⟨[v, .agg #[.int .i64 p, .int .i64 s, .slice a1 n c1]]⟩ W (Rtn fun u w' => ∃ a' c', u = .slice a' (m + (putsW p s l).length) c' ∧ Mm own w0 bs (⟨5, 1, .slice a' (m + (putsW p s l).length) c', m + (putsW p s l).length, xs ++ (putsW p s l).map (Value.int .u8)⟩ :: L) (RdF (Value.int .u8) a1 l.flatten :: Fs) w') := by
  have hp0 := puts_len8 hp
  have hs0 := puts_len8 hs
  refine f_start Try.func95 rfl Try.ntmps95 rfl rfl ?_; intro a hF
  (repeat (first | (with_reducible refine w_seq ?_) | (with_reducible refine c_region ?_) | (with_reducible refine s_nil ?_) | (with_reducible refine q_then_n ?_) | ((with_reducible apply s_pure hF); exact rfl; exact rfl; exact rfl; (first | exact trivial | omega | exact ⟨Int.natCast_nonneg _, Int.ofNat_lt.2 (by assumption)⟩ | decide); clear hF a; intro a hF) | ((with_reducible apply s_box hF hM); exact rfl; exact rfl; exact rfl; exact rfl; clear hF hM a; intro b w a hM hF)))
  refine c_draw (fun i => Nat.ble 11 i) hM ?_; clear hM; intro w hM
  (first | (refine t_pure (i := 0) hF rfl rfl rfl rfl (by kernel_rfl) hM.sm (fun _ _ _ h => h) ?_ ?_; (first | exact trivial | omega | decide); clear hF a; intro a hF))
  (first | (refine t_pure (i := 1) hF rfl rfl rfl rfl (by kernel_rfl) hM.sm (fun _ _ _ h => h) ?_ ?_; (first | exact trivial | omega | decide); clear hF a; intro a hF))
  (first | (apply t_load (i := 2) hF rfl rfl rfl; (repeat (first | exact List.mem_cons_self | refine List.mem_cons_of_mem _ ?_)); exact rfl; exact rfl; kernel_rfl; exact hM.sm; exact (fun _ _ _ h => h); clear hF a; intro a hF))
  (first | (refine t_pure (i := 4) hF rfl rfl rfl rfl (by kernel_rfl) hM.sm (fun _ _ _ h => h) ?_ ?_; (first | exact trivial | omega | decide); clear hF a; intro a hF))
  (first | (apply t_load (i := 5) hF rfl rfl rfl; (repeat (first | exact List.mem_cons_self | refine List.mem_cons_of_mem _ ?_)); exact rfl; exact rfl; kernel_rfl; exact hM.sm; exact (fun _ _ _ h => h); clear hF a; intro a hF))
  (first | (refine t_pure (i := 7) hF rfl rfl rfl rfl (by kernel_rfl) hM.sm (fun _ _ _ h => h) ?_ ?_; (first | exact trivial | omega | decide); clear hF a; intro a hF))
  (first | (apply t_load (i := 8) hF rfl rfl rfl; (repeat (first | exact List.mem_cons_self | refine List.mem_cons_of_mem _ ?_)); exact rfl; exact rfl; kernel_rfl; exact hM.sm; exact (fun _ _ _ h => h); clear hF a; intro a hF))
  refine t_one (i := 3) hF rfl (by kernel_rfl) rfl ?_
  intro K hK
  (apply x_callM hF; exact rfl; exact rfl; exact rfl; exact rfl; exact (putInt_m p hp hM .z (by omega)); clear hF hM a; rintro v w a ⟨a2, c2, rfl, hM⟩ hF)
  dsimp only [List.set] at hM
  refine hK _ _ (fun _ => (hM.sm.sub (fun x hx => by repeat (first | exact hx | refine List.mem_cons_of_mem _ ?_)) (fun _ h => by repeat (first | exact h | refine List.mem_cons_of_mem _ ?_)))) ?_; clear hK
  refine t_one (i := 6) hF rfl (by kernel_rfl) rfl ?_
  intro K hK
  (apply x_callM hF; exact rfl; exact rfl; exact rfl; exact rfl; exact (putInt_m s hs hM .z (by omega)); clear hF hM a; rintro v w a ⟨a3, c3, rfl, hM⟩ hF)
  dsimp only [List.set] at hM
  refine hK _ _ (fun _ => (hM.sm.sub (fun x hx => by repeat (first | exact hx | refine List.mem_cons_of_mem _ ?_)) (fun _ h => by repeat (first | exact h | refine List.mem_cons_of_mem _ ?_)))) ?_; clear hK
  refine t_one (i := 9) hF rfl (by kernel_rfl) rfl ?_
  intro K hK
  (apply x_callM hF; exact rfl; exact rfl; exact rfl; exact rfl; exact (putS_m l hl8 hl6 a1 n c1 hn hM (by omega)); clear hF hM a; rintro v w a ⟨a4, c4, rfl, hM⟩ hF)
  refine hK _ _ (fun _ => (hM.sm.sub (fun x hx => by repeat (first | exact hx | refine List.mem_cons_of_mem _ ?_)) (fun _ h => by repeat (first | exact h | refine List.mem_cons_of_mem _ ?_)))) ?_; clear hK
  (first | (refine t_pure (i := 10) hF rfl rfl rfl rfl (by kernel_rfl) (hM.sm.sub (fun x hx => by repeat (first | exact hx | refine List.mem_cons_of_mem _ ?_)) (fun _ h => by repeat (first | exact h | refine List.mem_cons_of_mem _ ?_))) (fun _ _ _ h => h) ?_ ?_; (first | exact trivial | omega | decide); clear hF a; intro a hF))
  refine t_done (by kernel_rfl) ?_
  (repeat (first | (with_reducible refine q_then_n ?_) | (with_reducible refine w_ret ?_)))
  (apply f_ret Try.results95 hF hM; (repeat (first | exact RL.nil | (apply RL.tmp; exact rfl) | (apply RL.cell; exact rfl; (repeat (first | exact List.mem_cons_self | refine List.mem_cons_of_mem _ ?_)); exact rfl))); refine Both.mk ?_; try dsimp only [resV])
  have e : m + (puts p).length + (puts s).length + (putsS l).length = m + (putsW p s l).length := by unfold putsW; rw [List.length_append, List.length_append]; omega
  rw [e] at hM ⊢
  refine ⟨_, _, rfl, ?_⟩
  replace hM := hM.sub (List.sublist_cons_self _ _) (.refl _) (fun _ h => h)
  have e2 : (putsW p s l).map (Value.int .u8) = (puts p).map (Value.int .u8) ++ ((puts s).map (Value.int .u8) ++ (putsS l).map (Value.int .u8)) := by unfold putsW; simp
  rw [e2]
  simpa only [List.append_assoc] using hM
end Go.Proofs.Ytadfdpkhehdikaa


/- wire.PutWrites; cycle.Encode. -/
namespace Go.Proofs.Ytadfdpkhehdikaa
open Go.RowKit Go.Shelf D29 B31
namespace B31
def WsOk (l : List WP) : Prop := ∀ t ∈ l, (0 ≤ t.1.v ∧ t.1.v ≤ 9007199254740991) ∧ (0 ≤ t.1.s ∧ t.1.s ≤ 9007199254740991) ∧ W8 t.1.x ∧ t.1.x.length ≤ 4096
end B31
set_option maxRecDepth 20000 in
set_option maxHeartbeats 4000000 in
theorem putWrites_m (ts : List WP) (hts : WsOk ts) (hn4 : ts.length ≤ 2000) (al : Option Addr) (n cl : Nat) (hn : ts.length = n) {own : Nat → Prop} {w0 W : World} {bs : List BoxE} {L : List Ent} {Fs : List (World → Prop)} {m : Nat} {v : Value} {xs : List Value} (hM : Mm own w0 bs (⟨5, 1, v, m, xs⟩ :: L) (RdF id al (cellsW ts) :: DatF (wP ts) :: Fs) W) (hm : m ≤ 10000000) :
    Calls Try.prog 94 ⟨[v, .slice al n cl, .func (.func 95) #[] #[]]⟩ W (Rtn fun u w' => ∃ a' c', u = .slice a' (m + (putWs (wms ts)).length) c' ∧ Mm own w0 bs (⟨5, 1, .slice a' (m + (putWs (wms ts)).length) c', m + (putWs (wms ts)).length, xs ++ (putWs (wms ts)).map (Value.int .u8)⟩ :: L) (RdF id al (cellsW ts) :: DatF (wP ts) :: Fs) w') := by
  subst hn
  have hp0 : (puts ts.length).length ≤ 8 := puts_len 7 ts.length (by omega)
  refine f_start Try.func94 rfl Try.ntmps94 rfl rfl ?_; intro a hF
  (repeat' (first | (with_reducible refine w_seq ?_) | (with_reducible refine c_region ?_) | (with_reducible refine s_nil ?_) | ((with_reducible apply s_callM (f := 93) hF); exact rfl; exact rfl; exact rfl; exact rfl; exact rfl; exact (putInt_m ts.length (by omega) hM .z (by omega)); clear hF hM a; rintro v w a ⟨a2, c2, rfl, hM⟩ hF; dsimp only [List.set] at hM) | (with_reducible refine q_then_n ?_) | ((with_reducible apply s_pure hF); exact rfl; exact rfl; exact rfl; (first | exact trivial | omega | exact ⟨Int.natCast_nonneg _, Int.ofNat_lt.2 (by assumption)⟩ | decide); clear hF a; intro a hF) | (with_reducible refine w_block ?_)))
  obtain ⟨B, hB⟩ : ∃ B, B = puts ts.length := ⟨_, rfl⟩
  rw [← hB] at hM hp0 hF
  refine c_loop (m := ts.length) (fun z a w' => ∃ (k : Nat) (q : Nat) (T : List Int) (a2 : Option Addr) (c2 : Nat), z + k = ts.length ∧ T = B ++ ((wms (ts.take k)).map putW).flatten ∧ q = T.length ∧ q ≤ 8 + 32800 * k ∧
    Fr 25 [] [(15, .int .i64 k), (14, .int .i64 ts.length), (13, .slice al ts.length cl), (0, .slice a2 (m + q) c2), (2, .func (.func 95) #[] #[])] a ∧
    Mm own w0 bs (⟨5, 1, .slice a2 (m + q) c2, m + q, xs ++ T.map (Value.int .u8)⟩ :: L) (RdF id al (ts.map wrC).flatten :: DatF (wP ts) :: Fs) w')
    ⟨0, B.length, B, a2, c2, by omega, by simp [wms], rfl, by omega, hF.sub (by repeat (first | exact Sub.nil | refine Sub.cons rfl (by first | with_reducible rfl | (refine congrArg (Value.int _) ?_; omega) | exact rfl) ?_)), by simpa [cellsW] using hM⟩ ?_
  clear hF hM a
  rintro z a w' ⟨k, q, T, a2, c2, hz, hT, hq, hq8, hF, hM⟩
  by_cases hk : k < ts.length
  · obtain ⟨t, ht⟩ := get_of_lt hk
    have htm := List.mem_of_getElem? ht
    obtain ⟨hv, hs, hx8, hx4⟩ := hts t htm
    have htr := dat_one (hM.facts (DatF (wP ts)) (by (repeat (first | exact List.mem_cons_self | refine List.mem_cons_of_mem _ ?_)))) (wP_mem htm)
    have hpe : (ts.map wrC)[k]? = some (wrC t) := by rw [List.getElem?_map, ht]; rfl
    have hw3 := wrC_len ts
    have hst : B ++ ((wms (ts.take (k + 1))).map putW).flatten = T ++ putW t.1 := by
      rw [take_snoc ht, hT, List.append_assoc]
      simp [wms]
    have hpl := putW_len hx8 hx4 (by omega) (by omega)
    obtain ⟨ad, rfl⟩ : ∃ ad, al = some ad := rd_some hM (enc := id) (a := al) (xs := (ts.map wrC).flatten) (by (repeat (first | exact List.mem_cons_self | refine List.mem_cons_of_mem _ ?_))) (flat_get (q := 0) hw3 hpe rfl)
    replace hM := hM.addFact htr
    obtain ⟨⟨v, s, x⟩, ax, cx⟩ := t
    dsimp only at hv hs hx8 hx4 hM
    obtain ⟨vn, rfl⟩ : ∃ n : Nat, v = n := ⟨v.toNat, by omega⟩
    obtain ⟨sn, rfl⟩ : ∃ n : Nat, s = n := ⟨s.toNat, by omega⟩
    obtain ⟨xl, hxq⟩ : ∃ q, x.length = q := ⟨_, rfl⟩
    replace hpe : (ts.map wrC)[k]? = some [.int .i64 vn, .int .i64 sn, .slice ax xl cx] := by rw [hpe, ← hxq]
    have e : putsW vn sn x = putW ⟨vn, sn, x⟩ := rfl
    obtain ⟨P, hP⟩ : ∃ P, P = putW ⟨vn, sn, x⟩ := ⟨_, rfl⟩
    dsimp only at hst hpl
    rw [← hP] at hst hpl e
    (repeat' (first | (with_reducible refine w_seq ?_) | (with_reducible refine c_region ?_) | (with_reducible refine s_nil ?_) | ((with_reducible apply s_callcM (f := 95) hF); exact rfl; exact rfl; exact rfl; exact rfl; exact rfl; exact rfl; exact rfl; exact (putWrite_m vn sn (by omega) (by omega) x hx8 (by omega) ax xl cx hxq hM (by omega)); clear hF hM a; rintro v w a ⟨a3, c3, rfl, hM⟩ hF; rw [e] at hF hM) | ((with_reducible apply s_loadE hF hM); exact rfl; exact rfl; (repeat (first | exact List.mem_cons_self | refine List.mem_cons_of_mem _ ?_)); exact rfl; exact rfl; (first | with_reducible assumption | (simp only [Int.toNat_natCast]; with_reducible assumption)); (with_reducible assumption); clear hF a; intro a hF) | (with_reducible refine q_then_n ?_) | ((with_reducible apply s_pure hF); exact rfl; exact rfl; exact rfl; (first | exact trivial | omega | exact ⟨Int.natCast_nonneg _, Int.ofNat_lt.2 (by assumption)⟩ | decide); clear hF a; intro a hF) | ((with_reducible apply s_load hF hM); exact rfl; exact rfl; (repeat (first | exact List.mem_cons_self | refine List.mem_cons_of_mem _ ?_)); exact rfl; exact rfl; clear hF a; intro a hF) | ((with_reducible apply s_store hF hM); exact rfl; exact rfl; exact rfl; exact rfl; (repeat (first | exact Upd.z | apply Upd.s)); exact rfl; exact rfl; exact rfl; clear hM; intro w hM) | ((with_reducible apply s_alloc hF hM); exact rfl; exact rfl; exact rfl; clear hF hM a; intro b w a hM hF) | (with_reducible refine w_skip ?_) | (with_reducible refine w_block ?_) | (with_reducible refine q_blk_n ?_) | ((with_reducible apply c_dec hF); exact rfl; all_goals intro hc; all_goals (try (exfalso; omega)))))
    rw [Nat.add_assoc] at hF hM
    refine ⟨z - 1, by omega, k + 1, q + P.length, T ++ P, a3, c3, by omega, hst.symm, by rw [List.length_append]; omega, by omega, hF.sub (by repeat (first | exact Sub.nil | refine Sub.cons rfl (by first | with_reducible rfl | (refine congrArg (Value.int _) ?_; omega) | exact rfl) ?_)), ?_⟩
    rw [List.map_append, ← List.append_assoc]
    exact hM.sub (List.sublist_cons_self _ _) (.refl _) (fun _ h => List.mem_cons_of_mem _ h)
  · obtain rfl : k = ts.length := by omega
    (repeat' (first | (with_reducible refine w_seq ?_) | (with_reducible refine c_region ?_) | (with_reducible refine s_nil ?_) | (with_reducible refine q_then_n ?_) | ((with_reducible apply s_pure hF); exact rfl; exact rfl; exact rfl; (first | exact trivial | omega | exact ⟨Int.natCast_nonneg _, Int.ofNat_lt.2 (by assumption)⟩ | decide); clear hF a; intro a hF) | (with_reducible refine w_exit ?_) | (with_reducible refine w_ret ?_) | (with_reducible refine q_then_x ?_) | (with_reducible refine q_blk_x ?_) | ((with_reducible apply c_false2 hF); exact rfl; (first | with_reducible rfl | (refine congrArg Value.bool ?_; focus (simp; done))))))
    (apply f_ret Try.results94 hF hM; (repeat (first | exact RL.nil | (apply RL.tmp; exact rfl) | (apply RL.cell; exact rfl; (repeat (first | exact List.mem_cons_self | refine List.mem_cons_of_mem _ ?_)); exact rfl))); refine Both.mk ?_; try dsimp only [resV])
    rw [List.take_of_length_le (Nat.le_refl _)] at hT
    have e : T = putWs (wms ts) := by rw [hT, hB]; unfold putWs; rw [wms_len]
    rw [e] at hq hM
    subst hq
    exact ⟨a2, c2, rfl, hM⟩
theorem PutWrites_c (ts : List WP) (hts : WsOk ts) (hn4 : ts.length ≤ 2000) (al : Option Addr) (n cl : Nat) (hn : ts.length = n) (ys : List Int) (a0 : Option Addr) (m c0 : Nat) (hm : ys.length = m) (hm6 : m ≤ 1000000) (own : Nat → Prop) (W : World) (hl : ∀ b, own b → b < W.heap.size) (hv : Has own W (RdF (Value.int .u8) a0 ys)) (h1 : Has own W (RdF id al (cellsW ts))) (h2 : Has own W (DatF (wP ts))) :
    Calls Try.prog 56 ⟨[.slice a0 m c0, .slice al n cl]⟩ W (Ret W fun v w' => ∃ a' c', v = .slice a' (m + (putWs (wms ts)).length) c' ∧ Has own w' (RdF (Value.int .u8) a' (ys ++ putWs (wms ts))) ∧ m + (putWs (wms ts)).length ≤ c') := by
  have hM := (((Mm.start hl).known hv).known h2).known h1
  refine f_start Try.func56 rfl Try.ntmps56 rfl rfl ?_; intro a hF
  (repeat' (first | (with_reducible refine w_seq ?_) | (with_reducible refine c_region ?_) | (with_reducible refine s_nil ?_) | ((with_reducible apply s_callO (f := 68) hF); exact rfl; exact rfl; exact rfl; exact rfl; exact rfl; exact (cloneB_z a0 c0 ys m hm _ _ hM.lt (hM.facts (RdF (Value.int .u8) a0 ys) (by (repeat (first | exact List.mem_cons_self | refine List.mem_cons_of_mem _ ?_)))) (by omega)); clear hF a; rintro v wn a ⟨a2, c2, rfl, hO⟩ hS hF; replace hM := hM.addRows hS hO; clear hS hO; dsimp only [List.cons_append, List.nil_append] at hM) | ((with_reducible apply s_callM (f := 94) hF); exact rfl; exact rfl; exact rfl; exact rfl; exact rfl; exact (putWrites_m ts hts hn4 al n cl hn hM (by omega)); clear hF hM a; rintro v w a ⟨a3, c3, rfl, hM⟩ hF) | (with_reducible refine q_then_n ?_) | ((with_reducible apply s_pure hF); exact rfl; exact rfl; exact rfl; (first | exact trivial | omega | exact ⟨Int.natCast_nonneg _, Int.ofNat_lt.2 (by assumption)⟩ | decide); clear hF a; intro a hF) | (with_reducible refine w_ret ?_)))
  rw [← List.map_append] at hM
  (apply f_ret Try.results56 hF hM; (repeat (first | exact RL.nil | (apply RL.tmp; exact rfl) | (apply RL.cell; exact rfl; (repeat (first | exact List.mem_cons_self | refine List.mem_cons_of_mem _ ?_)); exact rfl))); refine Ret.mk hM.since ?_; dsimp only [resV])
  exact ⟨a3, c3, rfl, hM.rowFact List.mem_cons_self, row_capC hM (i := 0) rfl⟩
end Go.Proofs.Ytadfdpkhehdikaa


/- cycle.Encode. -/
namespace Go.Proofs.Ytadfdpkhehdikaa
open Go.RowKit Go.Shelf D29 B31
namespace B31
def hdB (l : List Int) : List Int := (l.map fun x => puts x.toNat).flatten
theorem hdB_step {l : List Int} {k : Nat} {x : Int} (h : l[k]? = some x) : hdB (l.take (k + 1)) = hdB (l.take k) ++ puts x.toNat := putsL_step h
/-- The bytes of a cycle. -/
def encB (c : Cy) : List Int := hdB [c.b, c.n, c.t] ++ putsL c.pos ++ putWs c.ws
theorem chkC_ok {c : Cy} (h : chkC c = 0) : (0 ≤ c.b ∧ c.b < c.n ∧ c.n ≤ 1073741824) ∧ (0 ≤ c.t ∧ c.t ≤ 1073741824) ∧ posE c.pos = 0 ∧ chkWs none c.ws = 0 := by
  unfold chkC at h
  split at h
  · cases h
  · split at h
    · cases h
    · split at h
      · rename_i h1; exact absurd h h1
      · rename_i h1 h2 h3
        refine ⟨by omega, by omega, ?_, h⟩
        exact Classical.byContradiction fun k => h3 k
theorem posE_ok {l : List Int} (h : posE l = 0) : l.length ≤ 8 ∧ ∀ x ∈ l, 0 ≤ x ∧ x ≤ 1073741824 := by
  unfold posE at h
  split at h
  · cases h
  · split at h
    · cases h
    · rename_i h1 h2
      refine ⟨by omega, fun x hx => ?_⟩
      rw [List.any_eq_true] at h2
      have := fun k => h2 ⟨x, hx, k⟩
      unfold badP at this
      simpa using this
theorem chkWs_ok : ∀ (l : List Wr) (p : Option Wr) (_ : chkWs p l = 0), ∀ w ∈ l, fitsE w = 0
  | [], _, _ => fun w hw => by cases hw
  | x :: r, p, h => fun w hw => by
    rw [chkWs_cons] at h
    split at h
    · rename_i h1; exact absurd h h1
    · rename_i h1
      rcases List.mem_cons.1 hw with rfl | hw
      · exact Classical.byContradiction fun k => h1 k
      · cases p with
        | none => exact chkWs_ok r _ h w hw
        | some y =>
          dsimp only at h
          split at h
          · exact chkWs_ok r _ h w hw
          · cases h
theorem hdB_len {l : List Int} (h : ∀ x ∈ l, 0 ≤ x ∧ x ≤ 1073741824) : (hdB l).length ≤ 8 * l.length := flat_len8 fun x hx => by have := h x hx; omega
theorem putWs_len : ∀ (l : List Wr) (_ : ∀ w ∈ l, (putW w).length ≤ 216), ((l.map putW).flatten).length ≤ 216 * l.length
  | [], _ => by simp
  | w :: l, h => by
    have h1 := h w List.mem_cons_self
    have h2 := putWs_len l fun y hy => h y (List.mem_cons_of_mem _ hy)
    simp only [List.map_cons, List.flatten_cons, List.length_append, List.length_cons]
    omega
/-- The bounds of the writes. -/
def FewW (l : List Wr) : Prop := l.length ≤ 40 ∧ ∀ w ∈ l, W8 w.x ∧ w.x.length ≤ 24
theorem putW_len24 {w : Wr} (h8 : W8 w.x) (hl : w.x.length ≤ 24) (hf : fitsE w = 0) : (putW w).length ≤ 216 := by
  have := fitsE_ok hf
  have h1 := puts_len8 (n := w.v.toNat) (by omega)
  have h2 := puts_len8 (n := w.s.toNat) (by omega)
  have h3 := putsS_len h8 (by omega)
  unfold putW putsW
  rw [List.length_append, List.length_append]
  omega
theorem encB_len {c : Cy} (h : chkC c = 0) (hf : FewW c.ws) : (encB c).length ≤ 8800 := by
  obtain ⟨h1, h2, h3, h4⟩ := chkC_ok h
  obtain ⟨h5, h6⟩ := posE_ok h3
  have k1 : (hdB [c.b, c.n, c.t]).length ≤ 8 * 3 := hdB_len (l := [c.b, c.n, c.t]) (fun x hx => by
    simp only [List.mem_cons, List.not_mem_nil, or_false] at hx
    rcases hx with rfl | rfl | rfl <;> omega)
  have k2 := flat_len8 (l := c.pos) fun x hx => by have := h6 x hx; omega
  have k3 := puts_len8 (n := c.pos.length) (by omega)
  have k4 := puts_len8 (n := c.ws.length) (by have := hf.1; omega)
  have k5 := putWs_len c.ws fun w hw => putW_len24 (hf.2 w hw).1 (hf.2 w hw).2 (chkWs_ok _ _ h4 w hw)
  have := hf.1
  unfold encB putsL putWs
  simp only [List.length_append]
  omega
end B31
section
variable (cb cn ct : Int) (pos : List Int) (ws : List WP) (hfw : FewW (wms ws)) (ap aw : Option Addr) (np cp nw cw : Nat) (hnp : pos.length = np) (hnp4 : np ≤ 1000000) (hn : ws.length = nw) (own : Nat → Prop) (W : World) (hl : ∀ b, own b → b < W.heap.size) (h1 : Has own W (RdF id aw (cellsW ws))) (h2 : Has own W (RdF (Value.int .i64) ap pos)) (h3 : Has own W (DatF (wP ws)))
include hfw hnp hnp4 hn hl h1 h2
set_option maxRecDepth 20000 in
set_option maxHeartbeats 4000000 in
theorem Encode_err (hc : chkC ⟨cb, cn, ct, pos, wms ws⟩ ≠ 0) :
    Calls Try.prog 20 ⟨[cyV cb cn ct ap np cp aw nw cw]⟩ W (Ret W fun r _ => r = .tuple #[.slice none 0 0, .int .i64 (chkC ⟨cb, cn, ct, pos, wms ws⟩)]) := by
  have hM := ((Mm.start hl).known h2).known h1
  have hx : ∀ t ∈ ws, t.1.x.length ≤ 1000000 := fun t ht => by have := (hfw.2 t.1 (List.mem_map.2 ⟨t, ht, rfl⟩)).2; omega
  have hn4 : nw ≤ 10000 := by have := hfw.1; rw [wms_len] at this; omega
  have e1 := fun {own W} as_ cs hl h1 h2 h3 => cyCheck_c cb cn ct pos ws hx ap aw np cp nw cw hnp hnp4 hn hn4 own W hl h1 h2 as_ cs h3
  generalize chkC ⟨cb, cn, ct, pos, wms ws⟩ = e at *
  refine f_start Try.func20 rfl Try.ntmps20 rfl rfl ?_; intro a hF
  (repeat (first | (with_reducible refine w_seq ?_) | (with_reducible refine c_region ?_) | (with_reducible refine s_nil ?_) | (with_reducible refine q_then_n ?_) | ((with_reducible apply s_pure hF); exact rfl; exact rfl; exact rfl; (first | exact trivial | omega | exact ⟨Int.natCast_nonneg _, Int.ofNat_lt.2 (by assumption)⟩ | decide); clear hF a; intro a hF) | ((with_reducible apply s_box hF hM); exact rfl; exact rfl; exact rfl; exact rfl; clear hF hM a; intro b w a hM hF)))
  refine c_draw (fun i => Nat.ble 4 i) hM ?_; clear hM; intro w hM
  (first | (apply t_load (i := 0) hF rfl rfl rfl; (repeat (first | exact List.mem_cons_self | refine List.mem_cons_of_mem _ ?_)); exact rfl; exact rfl; kernel_rfl; exact hM.sm; exact (fun _ _ _ h => h); clear hF a; intro a hF))
  refine t_one (i := 1) hF rfl (by kernel_rfl) rfl ?_
  intro K hK
  (apply x_call hF hM; exact rfl; exact rfl; exact rfl; exact rfl; exact (largest_c _ _ hM.lt); clear hF hM a; rintro v w a ⟨a1, c1, rfl, k1⟩ - hM hF)
  replace hM := hM.addFact k1
  refine hK _ _ (fun _ => (hM.sm.sub (fun x hx => by repeat (first | exact hx | refine List.mem_cons_of_mem _ ?_)) (fun _ h => by repeat (first | exact h | refine List.mem_cons_of_mem _ ?_)))) ?_; clear hK
  refine t_one (i := 2) hF rfl (by kernel_rfl) rfl ?_
  intro K hK
  (apply x_call hF hM; exact rfl; exact rfl; exact rfl; exact rfl; exact (e1 a1 c1 hM.lt (hM.facts (RdF id aw (cellsW ws)) (by (repeat (first | exact List.mem_cons_self | refine List.mem_cons_of_mem _ ?_)))) (hM.facts (RdF (Value.int .i64) ap pos) (by (repeat (first | exact List.mem_cons_self | refine List.mem_cons_of_mem _ ?_)))) (hM.facts (RdF (Value.int .i64) a1 szs) (by (repeat (first | exact List.mem_cons_self | refine List.mem_cons_of_mem _ ?_))))); clear hF hM a; rintro v w a rfl - hM hF)
  refine hK _ _ (fun _ => (hM.sm.sub (fun x hx => by repeat (first | exact hx | refine List.mem_cons_of_mem _ ?_)) (fun _ h => by repeat (first | exact h | refine List.mem_cons_of_mem _ ?_)))) ?_; clear hK
  (first | (refine t_pure (i := 3) hF rfl rfl rfl rfl (by kernel_rfl) (hM.sm.sub (fun x hx => by repeat (first | exact hx | refine List.mem_cons_of_mem _ ?_)) (fun _ h => by repeat (first | exact h | refine List.mem_cons_of_mem _ ?_))) (fun _ _ _ h => h) ?_ ?_; (first | exact trivial | omega | decide); clear hF a; intro a hF))
  refine t_done (by kernel_rfl) ?_
  (repeat' (first | (with_reducible refine w_seq ?_) | (with_reducible refine c_region ?_) | (with_reducible refine s_nil ?_) | (with_reducible refine q_then_n ?_) | ((with_reducible apply s_pure hF); exact rfl; exact rfl; exact rfl; (first | exact trivial | omega | exact ⟨Int.natCast_nonneg _, Int.ofNat_lt.2 (by assumption)⟩ | decide); clear hF a; intro a hF) | (with_reducible refine w_ret ?_) | (with_reducible refine q_then_r ?_) | ((with_reducible apply c_dec hF); exact rfl; all_goals intro hc; all_goals (try (exfalso; omega)))))
  (apply f_ret Try.results20 hF hM; (repeat (first | exact RL.nil | (apply RL.tmp; exact rfl) | (apply RL.cell; exact rfl; (repeat (first | exact List.mem_cons_self | refine List.mem_cons_of_mem _ ?_)); exact rfl))); refine Ret.mk hM.since ?_; dsimp only [resV])
include h3
set_option maxRecDepth 20000 in
set_option maxHeartbeats 4000000 in
theorem Encode_ok (hc : chkC ⟨cb, cn, ct, pos, wms ws⟩ = 0) :
    Calls Try.prog 20 ⟨[cyV cb cn ct ap np cp aw nw cw]⟩ W (Ret W fun r w' => ∃ a' n' c', n' = (encB ⟨cb, cn, ct, pos, wms ws⟩).length ∧ r = .tuple #[.slice a' n' c', .int .i64 0] ∧ Has own w' (RdF (Value.int .u8) a' (encB ⟨cb, cn, ct, pos, wms ws⟩)) ∧ n' ≤ c') := by
  have hM := (((Mm.start hl).known h3).known h2).known h1
  have hx : ∀ t ∈ ws, t.1.x.length ≤ 1000000 := fun t ht => by have := (hfw.2 t.1 (List.mem_map.2 ⟨t, ht, rfl⟩)).2; omega
  have hn4 : nw ≤ 10000 := by have := hfw.1; rw [wms_len] at this; omega
  have hn40 : ws.length ≤ 40 := by have := hfw.1; rw [wms_len] at this; omega
  have e1 := fun {own W} as_ cs hl h1 h2 h3 => cyCheck_c cb cn ct pos ws hx ap aw np cp nw cw hnp hnp4 hn hn4 own W hl h1 h2 as_ cs h3
  rw [hc] at e1
  subst hnp
  have hlen := encB_len hc hfw
  obtain ⟨q1, q2, q3, q4⟩ := chkC_ok hc
  obtain ⟨q5, q6⟩ := posE_ok q3
  have hwo : WsOk ws := fun t ht => by
    have hm : t.1 ∈ wms ws := List.mem_map.2 ⟨t, ht, rfl⟩
    have := fitsE_ok (chkWs_ok _ _ q4 _ hm)
    have := hfw.2 _ hm
    exact ⟨by omega, by omega, this.1, by omega⟩
  dsimp only at q1 q2 q5 q6
  obtain ⟨l, hl3⟩ : ∃ l, l = [cb, cn, ct] := ⟨_, rfl⟩
  have hlb : ∀ x ∈ l, 0 ≤ x ∧ x ≤ 1073741824 := by
    subst hl3
    intro x hx
    simp only [List.mem_cons, List.not_mem_nil, or_false] at hx
    rcases hx with rfl | rfl | rfl <;> omega
  have hl3n : l.length = 3 := by rw [hl3]; rfl
  have hhl := hdB_len hlb
  refine f_start Try.func20 rfl Try.ntmps20 rfl rfl ?_; intro a hF
  (repeat (first | (with_reducible refine w_seq ?_) | (with_reducible refine c_region ?_) | (with_reducible refine s_nil ?_) | (with_reducible refine q_then_n ?_) | ((with_reducible apply s_pure hF); exact rfl; exact rfl; exact rfl; (first | exact trivial | omega | exact ⟨Int.natCast_nonneg _, Int.ofNat_lt.2 (by assumption)⟩ | decide); clear hF a; intro a hF) | ((with_reducible apply s_box hF hM); exact rfl; exact rfl; exact rfl; exact rfl; clear hF hM a; intro b w a hM hF)))
  refine c_draw (fun i => Nat.ble 4 i) hM ?_; clear hM; intro w hM
  (first | (apply t_load (i := 0) hF rfl rfl rfl; (repeat (first | exact List.mem_cons_self | refine List.mem_cons_of_mem _ ?_)); exact rfl; exact rfl; kernel_rfl; exact hM.sm; exact (fun _ _ _ h => h); clear hF a; intro a hF))
  refine t_one (i := 1) hF rfl (by kernel_rfl) rfl ?_
  intro K hK
  (apply x_call hF hM; exact rfl; exact rfl; exact rfl; exact rfl; exact (largest_c _ _ hM.lt); clear hF hM a; rintro v w a ⟨a1, c1, rfl, k1⟩ - hM hF)
  replace hM := hM.addFact k1
  refine hK _ _ (fun _ => (hM.sm.sub (fun x hx => by repeat (first | exact hx | refine List.mem_cons_of_mem _ ?_)) (fun _ h => by repeat (first | exact h | refine List.mem_cons_of_mem _ ?_)))) ?_; clear hK
  refine t_one (i := 2) hF rfl (by kernel_rfl) rfl ?_
  intro K hK
  (apply x_call hF hM; exact rfl; exact rfl; exact rfl; exact rfl; exact (e1 a1 c1 hM.lt (hM.facts (RdF id aw (cellsW ws)) (by (repeat (first | exact List.mem_cons_self | refine List.mem_cons_of_mem _ ?_)))) (hM.facts (RdF (Value.int .i64) ap pos) (by (repeat (first | exact List.mem_cons_self | refine List.mem_cons_of_mem _ ?_)))) (hM.facts (RdF (Value.int .i64) a1 szs) (by (repeat (first | exact List.mem_cons_self | refine List.mem_cons_of_mem _ ?_))))); clear hF hM a; rintro v w a rfl - hM hF)
  refine hK _ _ (fun _ => (hM.sm.sub (fun x hx => by repeat (first | exact hx | refine List.mem_cons_of_mem _ ?_)) (fun _ h => by repeat (first | exact h | refine List.mem_cons_of_mem _ ?_)))) ?_; clear hK
  (first | (refine t_pure (i := 3) hF rfl rfl rfl rfl (by kernel_rfl) (hM.sm.sub (fun x hx => by repeat (first | exact hx | refine List.mem_cons_of_mem _ ?_)) (fun _ h => by repeat (first | exact h | refine List.mem_cons_of_mem _ ?_))) (fun _ _ _ h => h) ?_ ?_; (first | exact trivial | omega | decide); clear hF a; intro a hF))
  refine t_done (by kernel_rfl) ?_
  (repeat' (first | (with_reducible refine w_seq ?_) | (with_reducible refine c_region ?_) | (with_reducible refine s_nil ?_) | ((with_reducible apply s_lit hF hM); exact rfl; exact rfl; exact rfl; exact rfl; clear hF hM a; intro bl w a hM hF; replace hM := Mm.freeze hM) | (with_reducible refine q_then_n ?_) | ((with_reducible apply s_pure hF); exact rfl; exact rfl; exact rfl; (first | exact trivial | omega | exact ⟨Int.natCast_nonneg _, Int.ofNat_lt.2 (by assumption)⟩ | decide); clear hF a; intro a hF) | ((with_reducible apply s_load hF hM); exact rfl; exact rfl; (repeat (first | exact List.mem_cons_self | refine List.mem_cons_of_mem _ ?_)); exact rfl; exact rfl; clear hF a; intro a hF) | (with_reducible refine w_skip ?_) | (with_reducible refine w_block ?_) | ((with_reducible apply c_false2 hF); exact rfl; (first | with_reducible rfl | (refine congrArg Value.bool ?_; focus (simp; done))))))
  replace hM := hM.addFact (Has.ints (hM.facts _ List.mem_cons_self) l (by rw [hl3]; rfl))
  replace hM := hM.addFact (RdF.nil : Has _ _ (RdF (Value.int .u8) none ([] : List Int)))
  refine c_loop (m := l.length) (fun z a w' => ∃ (k q : Nat) (T : List Int) (a2 : Option Addr) (c2 : Nat), z + k = l.length ∧ T = hdB (l.take k) ∧ T.length = q ∧ q ≤ 8 * k ∧
    Fr 41 [] [(22, .int .i64 k), (21, .int .i64 (3 : Nat)), (20, .slice (some ⟨bl, 0, none⟩) 3 3), (5, .slice a2 q c2), (1, .pointer (some ⟨b, 0, none⟩))] a ∧
    Mm own W [⟨b, ⟨[.int .i64 cb, .int .i64 cn, .int .i64 ct, .slice ap pos.length cp, .slice aw nw cw]⟩, 53⟩] [] [RdF (Value.int .u8) a2 T, RdF (Value.int .i64) (some ⟨bl, 0, none⟩) l, RdF id aw (cellsW ws), RdF (Value.int .i64) ap pos, DatF (wP ws)] w')
    ⟨0, 0, [], none, 0, by omega, rfl, rfl, by omega, hF.sub (by repeat (first | exact Sub.nil | refine Sub.cons rfl (by first | with_reducible rfl | (refine congrArg (Value.int _) ?_; omega) | exact rfl) ?_)), hM.sub (.refl _) (.refl _) (by intro f hf; simp only [List.mem_cons, List.not_mem_nil, or_false] at hf; (repeat (rcases hf with rfl | hf; · (repeat (first | exact List.mem_cons_self | refine List.mem_cons_of_mem _ ?_)))); first | (subst hf; (repeat (first | exact List.mem_cons_self | refine List.mem_cons_of_mem _ ?_)); done) | (repeat (first | exact hf | refine List.mem_cons_of_mem _ ?_)))⟩ ?_
  clear hF hM a
  rintro z a w' ⟨k, q, T, a2, c2, hz, hT, hTl, hq, hF, hM⟩
  by_cases hk : k < l.length
  · obtain ⟨x, hx⟩ := get_of_lt hk
    have hxb := hlb x (List.mem_of_getElem? hx)
    have hp := puts_len8 (n := x.toNat) (by omega)
    have hst := hdB_step hx
    rw [← hT] at hst
    obtain ⟨xn, hxn⟩ : ∃ xn : Nat, x = xn := ⟨x.toNat, by omega⟩
    subst hxn
    rw [Int.toNat_natCast] at hst hp
    (repeat' (first | (with_reducible refine w_seq ?_) | (with_reducible refine c_region ?_) | (with_reducible refine s_nil ?_) | ((with_reducible apply s_callO (f := 55) hF); exact rfl; exact rfl; exact rfl; exact rfl; exact rfl; exact (PutInt_z xn _ rfl (by omega) a2 c2 T q hTl _ _ hM.lt (hM.facts (RdF (Value.int .u8) a2 T) (by (repeat (first | with_reducible exact List.mem_cons_self | refine List.mem_cons_of_mem _ ?_)))) (by omega)); clear hF a; rintro v wn a ⟨a3, c3, rfl, hO⟩ hS hF; replace hM := hM.addRows hS hO; clear hS hO; dsimp only [List.cons_append, List.nil_append] at hM; replace hM := hM.freezeN) | (with_reducible refine q_then_n ?_) | ((with_reducible apply s_pure hF); exact rfl; exact rfl; exact rfl; (first | exact trivial | omega | exact ⟨Int.natCast_nonneg _, Int.ofNat_lt.2 (by assumption)⟩ | decide); clear hF a; intro a hF) | ((with_reducible apply s_loadF hF hM); exact rfl; exact rfl; (repeat (first | exact List.mem_cons_self | refine List.mem_cons_of_mem _ ?_)); exact rfl; exact rfl; (first | with_reducible assumption | (simp only [Int.toNat_natCast]; with_reducible assumption)); clear hF a; intro a hF) | (with_reducible refine w_skip ?_) | (with_reducible refine w_block ?_) | (with_reducible refine q_blk_n ?_) | ((with_reducible apply c_dec hF); exact rfl; all_goals intro hc; all_goals (try (exfalso; omega)))))
    refine ⟨z - 1, by omega, k + 1, q + (puts xn).length, T ++ puts xn, a3, c3, by omega, hst.symm, by rw [List.length_append]; omega, by omega, hF.sub (by repeat (first | exact Sub.nil | refine Sub.cons rfl (by first | with_reducible rfl | (refine congrArg (Value.int _) ?_; omega) | exact rfl) ?_)), hM.sub (.refl _) (.refl _) (by intro f hf; simp only [List.mem_cons, List.not_mem_nil, or_false] at hf; (repeat (rcases hf with rfl | hf; · (repeat (first | exact List.mem_cons_self | refine List.mem_cons_of_mem _ ?_)))); first | (subst hf; (repeat (first | exact List.mem_cons_self | refine List.mem_cons_of_mem _ ?_)); done) | (repeat (first | exact hf | refine List.mem_cons_of_mem _ ?_)))⟩
  · obtain rfl : k = l.length := by omega
    rw [List.take_of_length_le (Nat.le_refl _)] at hT
    obtain ⟨E, hE⟩ : ∃ E, E = encB ⟨cb, cn, ct, pos, wms ws⟩ := ⟨_, rfl⟩
    have hE2 : T ++ putsL pos ++ putWs (wms ws) = E := by rw [hE, hT, hl3]; rfl
    rw [← hE] at hlen ⊢
    have hEl : q + (putsL pos).length + (putWs (wms ws)).length = E.length := by rw [← hE2, List.length_append, List.length_append]; omega
    clear hT hE
    (repeat' (first | (with_reducible refine w_seq ?_) | (with_reducible refine c_region ?_) | (with_reducible refine s_nil ?_) | (with_reducible refine q_then_n ?_) | ((with_reducible apply s_pure hF); exact rfl; exact rfl; exact rfl; (first | exact trivial | omega | exact ⟨Int.natCast_nonneg _, Int.ofNat_lt.2 (by assumption)⟩ | decide); clear hF a; intro a hF) | (with_reducible refine w_exit ?_) | (with_reducible refine q_then_x ?_) | (with_reducible refine q_blk_x ?_) | ((with_reducible apply c_dec hF); exact rfl; all_goals intro hc; all_goals (try (exfalso; omega)))))
    refine c_draw (fun i => Nat.ble 8 i) hM ?_; clear hM; intro w hM
    (first | (refine t_pure (i := 0) hF rfl rfl rfl rfl (by kernel_rfl) hM.sm (fun _ _ _ h => h) ?_ ?_; (first | exact trivial | omega | decide); clear hF a; intro a hF))
    (first | (refine t_pure (i := 1) hF rfl rfl rfl rfl (by kernel_rfl) hM.sm (fun _ _ _ h => h) ?_ ?_; (first | exact trivial | omega | decide); clear hF a; intro a hF))
    (first | (apply t_load (i := 2) hF rfl rfl rfl; (repeat (first | exact List.mem_cons_self | refine List.mem_cons_of_mem _ ?_)); exact rfl; exact rfl; kernel_rfl; exact hM.sm; exact (fun _ _ _ h => h); clear hF a; intro a hF))
    (first | (refine t_pure (i := 4) hF rfl rfl rfl rfl (by kernel_rfl) hM.sm (fun _ _ _ h => h) ?_ ?_; (first | exact trivial | omega | decide); clear hF a; intro a hF))
    (first | (apply t_load (i := 5) hF rfl rfl rfl; (repeat (first | exact List.mem_cons_self | refine List.mem_cons_of_mem _ ?_)); exact rfl; exact rfl; kernel_rfl; exact hM.sm; exact (fun _ _ _ h => h); clear hF a; intro a hF))
    refine t_one (i := 3) hF rfl (by kernel_rfl) rfl ?_
    intro K hK
    (apply x_call hF hM; exact rfl; exact rfl; exact rfl; exact rfl; exact (PutInts_c pos (fun x hx => by have := q6 x hx; omega) (by omega) T (by omega) a2 ap q c2 cp hTl _ _ hM.lt (hM.facts (RdF (Value.int .u8) a2 T) (by (repeat (first | with_reducible exact List.mem_cons_self | refine List.mem_cons_of_mem _ ?_)))) (hM.facts (RdF (Value.int .i64) ap pos) (by (repeat (first | with_reducible exact List.mem_cons_self | refine List.mem_cons_of_mem _ ?_))))); clear hF hM a; rintro v w a ⟨a3, c3, rfl, k3, k4⟩ - hM hF)
    replace hM := hM.addFact k3
    refine hK _ _ (fun _ => (hM.sm.sub (fun x hx => by repeat (first | exact hx | refine List.mem_cons_of_mem _ ?_)) (fun _ h => by repeat (first | exact h | refine List.mem_cons_of_mem _ ?_)))) ?_; clear hK
    refine t_one (i := 6) hF rfl (by kernel_rfl) rfl ?_
    intro K hK
    (apply x_call hF hM; exact rfl; exact rfl; exact rfl; exact rfl; exact (PutWrites_c ws hwo (by omega) aw nw cw hn (T ++ putsL pos) a3 _ c3 (by rw [List.length_append]; omega) (by omega) _ _ hM.lt (hM.facts (RdF (Value.int .u8) a3 (T ++ putsL pos)) (by (repeat (first | with_reducible exact List.mem_cons_self | refine List.mem_cons_of_mem _ ?_)))) (hM.facts (RdF id aw (cellsW ws)) (by (repeat (first | with_reducible exact List.mem_cons_self | refine List.mem_cons_of_mem _ ?_)))) (hM.facts (DatF (wP ws)) (by (repeat (first | with_reducible exact List.mem_cons_self | refine List.mem_cons_of_mem _ ?_))))); clear hF hM a; rintro v w a ⟨a4, c4, rfl, k5, k6⟩ - hM hF)
    replace hM := hM.addFact k5
    refine hK _ _ (fun _ => (hM.sm.sub (fun x hx => by repeat (first | exact hx | refine List.mem_cons_of_mem _ ?_)) (fun _ h => by repeat (first | exact h | refine List.mem_cons_of_mem _ ?_)))) ?_; clear hK
    (first | (refine t_pure (i := 7) hF rfl rfl rfl rfl (by kernel_rfl) (hM.sm.sub (fun x hx => by repeat (first | exact hx | refine List.mem_cons_of_mem _ ?_)) (fun _ h => by repeat (first | exact h | refine List.mem_cons_of_mem _ ?_))) (fun _ _ _ h => h) ?_ ?_; (first | exact trivial | omega | decide); clear hF a; intro a hF))
    refine t_done (by kernel_rfl) ?_
    (repeat' (first | (with_reducible refine w_seq ?_) | (with_reducible refine c_region ?_) | (with_reducible refine s_nil ?_) | (with_reducible refine q_then_n ?_) | ((with_reducible apply s_pure hF); exact rfl; exact rfl; exact rfl; (first | exact trivial | omega | exact ⟨Int.natCast_nonneg _, Int.ofNat_lt.2 (by assumption)⟩ | decide); clear hF a; intro a hF) | (with_reducible refine w_skip ?_) | (with_reducible refine w_ret ?_) | ((with_reducible apply c_dec hF); exact rfl; all_goals intro hc; all_goals (try (exfalso; omega)))))
    (apply f_ret Try.results20 hF hM; (repeat (first | exact RL.nil | (apply RL.tmp; exact rfl) | (apply RL.cell; exact rfl; (repeat (first | exact List.mem_cons_self | refine List.mem_cons_of_mem _ ?_)); exact rfl))); refine Ret.mk hM.since ?_; dsimp only [resV])
    have k7 := hM.facts (RdF (Value.int .u8) a4 (T ++ putsL pos ++ putWs (wms ws))) (by (repeat (first | with_reducible exact List.mem_cons_self | refine List.mem_cons_of_mem _ ?_)))
    rw [hE2] at k7
    exact ⟨a4, _, c4, hEl, rfl, k7.own_eq (fun _ h => .inl h), k6⟩
end
end Go.Proofs.Ytadfdpkhehdikaa


/- Ranges over functions in one memory: the loop's record as a fact. -/
namespace Go.Proofs.Ytadfdpkhehdikaa
open Go.RowKit Go.Shelf D29
namespace B31
section
variable {n : Nat} {ds : List Deferred} {l : List (Nat × Value)} {a : Act} {w w' w0 : World} {own : Nat → Prop} {bs : List BoxE} {L : List Ent} {Fs : List (World → Prop)}
variable {os rest : List Oper} {Q : Exit → Act → World → Prop} {K : Act → World → Prop}
/-- The record of a loop over a function. -/
abbrev recL (st : LoopState) (fn : FuncId) (tm : Array Value) (ps : Array Tmp) (asg bd : Code) (D : Nat) : Loop := { state := st, pending := none, fn := fn, tmps := tm, params := ps, assign := asg, body := bd, defers := D }
def LpF (lp : Nat) (r : Loop) : World → Prop := fun w => w.heap[lp]? = some (.loop r)
theorem Nb.lp {b lp : Nat} {r : Loop} (h : lp ≠ b) : Nb b (LpF lp r) := fun _ _ _ _ _ k => (World.putObj_heap_other h).trans k
theorem Nb.dfd {b D : Nat} (h : D ≠ b) : Nb b (DefF D) := fun _ _ _ _ _ k => (World.putObj_heap_other h).trans k
theorem Mm.addLp (m : Mm own w0 bs L Fs w) {D : Nat} {r : Loop} (h : w.heap[D]? = some (.loop r)) (hD : w0.heap.size ≤ D) : Mm own w0 bs L (LpF D r :: Fs) w := by
  refine m.addFact ⟨fun b => b = D, ?_, fun w' hk _ => (hk D rfl).trans h⟩
  rintro b rfl
  refine ⟨(Array.getElem?_eq_some_iff.1 h).1, ?_⟩
  rintro (h1 | ⟨x, hx, rfl⟩ | ⟨y, hy, he⟩)
  · have := m.low b h1; omega
  · rw [show w.heap[x.b]? = _ from m.mem.box x hx] at h; cases h
  · obtain ⟨_, k⟩ := m.mem.own.own y hy
    rcases k with ⟨k, _⟩ | ⟨g, cap, cur, e1, e2, e3, r⟩
    · rw [k] at he; cases he
    · rw [e1] at he
      injection he with he
      have he : g = b := he
      subst he
      rw [e3] at h; cases h
theorem Mm.lpLt (m : Mm own w0 bs L Fs w) {lp : Nat} {r : Loop} (h : LpF lp r ∈ Fs) : lp < w.heap.size := (Array.getElem?_eq_some_iff.1 (m.fact h)).1
theorem Mm.turnL (m : Mm own w0 bs L Fs w) {lp : Nat} {r : Loop} (h : LpF lp r ∈ Fs) {Fs' : List (World → Prop)} (hs : ∀ f ∈ Fs', f ∈ Fs) (hb : w0.heap.size ≤ lp) (hn : ∀ f ∈ Fs', Nb lp f) (r' : Loop) : Mm own w0 bs L (LpF lp r' :: Fs') (w.putObj lp (.loop r')) := by
  have hk : w.heap[lp]? = some (.loop r) := m.fact h
  have m' : Mm own w0 bs L Fs' (w.putObj lp (.loop r')) := (m.sub (.refl _) (.refl _) hs).turnN (grownBy_putObj' w lp _) (fun r e => by cases e; exact ⟨hb, _, hk, rfl⟩) (fun r e => by cases e; exact hn)
  exact Mm.addLp m' (World.putObj_heap_same (Array.getElem?_eq_some_iff.1 hk).1) hb
/-- A range over a function that stands in no round: what the iterator owes. -/
theorem c_rangeO {g : Operand} {ps : Array Tmp} {assign body : Code} {gf : Nat} {lb : List Value} (hF : Fr n [] l a) (hg : ev l g = some (.func (.func gf) #[] ⟨lb⟩)) (he : memB entL gf = true) (hM : Mm own w0 bs L Fs w)
    (h : ∀ (D : Nat) (fn : FuncId) (tm : Array Value) (rc : LoopState → Loop) (W1 : World), (rc = fun st => recL st fn tm ps assign body D) → w0.heap.size ≤ D → w.heap.size ≤ D → Fr n [] l ⟨tm, []⟩ → Mm own w0 bs L (LpF (D + 1) (rc .ready) :: DefF D :: Fs) W1 →
      Calls Try.prog gf ⟨.func (.yield (D + 1)) #[] #[] :: lb⟩ W1 (Rtn fun _ W3 => ∃ bs' L' Fs', Mm own w0 bs' L' (LpF (D + 1) (rc .ready) :: Fs') W3 ∧ (∀ f ∈ Fs', Nb (D + 1) f) ∧ ∀ a' w4, Fr n (markL D) l a' → Mm own w0 bs' L' Fs' w4 → Q .normal a' w4)) :
    Wk none (Code.rangeFunc g ps assign body) Q a w := by
  refine (wpIn_wide (n := 1)).1 (wpIn_rangeFunc ?_)
  intro fn _
  have hsz := hM.since.size
  have hat : (⟨a.tmps, []⟩ : Act) = a := by
    have := hF.defs
    obtain ⟨t, d⟩ := a
    dsimp only at this
    rw [this]
  have m1 : Mm own w0 bs L (DefF w.heap.size :: Fs) (w.alloc (.deferred (some []))) := Mm.addDef (hM.keep (Since.alloc (.refl _) _)) (World.alloc_heap_new w _) hsz
  have m2 : Mm own w0 bs L (LpF (w.heap.size + 1) (recL .ready fn a.tmps ps assign body w.heap.size) :: DefF w.heap.size :: Fs) ((w.alloc (.deferred (some []))).alloc (.loop (recL .ready fn a.tmps ps assign body w.heap.size))) :=
    Mm.addLp (m1.keep (Since.alloc (.refl _) _)) (by have := World.alloc_heap_new (w.alloc (.deferred (some []))) (.loop (recL .ready fn a.tmps ps assign body w.heap.size)); rwa [World.size_alloc] at this) (by omega)
  have hC := h w.heap.size fn a.tmps _ _ rfl hsz (Nat.le_refl _) (by rw [hat]; exact hF) m2
  obtain ⟨W1, hW1⟩ : ∃ W1, (w.alloc (.deferred (some []))).alloc (.loop (recL .ready fn a.tmps ps assign body w.heap.size)) = W1 := ⟨_, rfl⟩
  rw [hW1] at m2 hC
  refine ⟨w.heap.size + 1, [{ target := .collected w.heap.size, args := #[] }], W1, { target := .fn (.func gf) ⟨lb⟩, args := #[.func (.yield (w.heap.size + 1)) #[] #[]] }, W1, gf,
    #[.func (.yield (w.heap.size + 1)) #[] #[]] ++ ⟨lb⟩, W1, by rw [← hW1]; exact run_enterLoop_outer _ _ _ _ _, ?_, ?_, ?_, fun hz => by simp [Fence.wide] at hz, ?_⟩
  · simp only [resolve, hF.eval hg]
    simp [go_sem]
  · intro f' hf'; trivial
  · simp [invoke, go_sem, entL_ok (memB_ok he)]
  · refine callsIn_wide.2 ?_
    have e1 : (#[.func (.yield (w.heap.size + 1)) #[] #[]] ++ ⟨lb⟩ : Array Value) = ⟨.func (.yield (w.heap.size + 1)) #[] #[] :: lb⟩ := by simp
    rw [e1]
    refine hC.mono ?_
    rintro e W3 h3
    cases e with
    | returned v =>
      obtain ⟨bs', L', Fs', hM3, hn3, hq⟩ := h3
      have hk := hM3.fact (f := LpF (w.heap.size + 1) _) List.mem_cons_self
      have m4 := (hM3.sub (.refl _) (.refl _) (fun f hf => List.mem_cons_of_mem _ hf)).turnN (Fs := Fs') (grownBy_putObj' W3 (w.heap.size + 1) (.loop { recL .ready fn a.tmps ps assign body w.heap.size with state := .exhausted })) (fun r e => by cases e; exact ⟨by omega, _, hk, rfl⟩) (fun r e => by cases e; exact hn3)
      exact ⟨none, _, run_endLoop hk (by simp), hq _ _ ⟨hF.size, by show _ :: a.defers = _; rw [hF.defs]; rfl, hF.get⟩ m4⟩
    | panicked c => exact h3.elim
    | outgrown => exact h3.elim
/-- A call of yield: the round of the loop's body. -/
theorem y_atM {lp D : Nat} {fn : FuncId} {tm : Array Value} {rc : LoopState → Loop} {ps : Array Tmp} {asg bd : Code} {vs : List Value} {R : Ending → World → Prop} {l1 l2 : List (Nat × Value)} {Fs0 : List (World → Prop)} (m : Nat) (hrc : rc = fun st => recL st fn tm ps asg bd D) (hl : w0.heap.size ≤ lp) (hsz : vs.length = ps.size) (hM : Mm own w0 bs L Fs0 w) (h0 : LpF lp (rc .ready) ∈ Fs0) (hs : ∀ f ∈ Fs, f ∈ Fs0) (hn : ∀ f ∈ Fs, Nb lp f)
    (hF : Fr n [] l1 ⟨(ps.zip ⟨vs⟩).foldl (fun t (p, v) => t.setIfInBounds p v) tm, []⟩)
    (hassign : ∀ (k : Nat) (a : Act), Fr n [] l1 a → Wk (some (lp, k)) asg (Cut fun a' W' => W' = w ∧ Fr n [] l2 a') a w)
    (hbody : ∀ (k : Nat) (a : Act) (W : World), Fr n [] l2 a → Mm own w0 bs L (LpF lp (rc .busy) :: Fs) W → Wk (some (lp, k)) bd (Cut fun _ w3 => ∃ bs' L' Fs1 Fs', Mm own w0 bs' L' Fs1 w3 ∧ LpF lp (rc .busy) ∈ Fs1 ∧ (∀ f ∈ Fs', f ∈ Fs1) ∧ (∀ f ∈ Fs', Nb lp f) ∧ ∀ w4, Mm own w0 bs' L' (LpF lp (rc .ready) :: Fs') w4 → R (.returned (.bool true)) w4) a W) :
    YieldAt Fence.wide m Try.prog lp ⟨vs⟩ w R := by
  subst hrc
  have hk : w.heap[lp]? = some (.loop (recL .ready fn tm ps asg bd D)) := hM.fact h0
  refine ⟨fn, _, asg, bd, run_yield hk (by simpa using hsz), roundIn_of_wpIn trivial ?_⟩
  refine wpIn_mono (hassign m _ hF) ?_
  intro e a' W' hq
  cases e <;> first | exact hq.elim | skip
  obtain ⟨rfl, hF2⟩ := hq
  refine ⟨_, run_beginRound hk rfl, ?_⟩
  have m2 := Mm.turnL hM h0 hs hl hn (recL .busy fn tm ps asg bd D)
  refine wpIn_mono (hbody m a' _ hF2 m2) ?_
  intro e a3 w3 hq
  cases e <;> first | exact hq.elim | skip
  obtain ⟨bs', L', Fs1, Fs', hM3, hk3, hs3, hn3, hq⟩ := hq
  exact ⟨_, _, run_endRound none (hM3.fact hk3), hq _ (Mm.turnL hM3 hk3 hs3 hl hn3 (recL .ready fn tm ps asg bd D))⟩
theorem fr_two {p q : Tmp} {u v : Value} {tm : Array Value} (hF : Fr n [] l ⟨tm, []⟩) (hp : Nat.blt p n = true) (hq : Nat.blt q n = true) : Fr n [] ((q, v) :: (p, u) :: l) ⟨((#[p, q] : Array Tmp).zip ⟨[u, v]⟩).foldl (fun t (p, v) => t.setIfInBounds p v) tm, []⟩ := by
  have h1 := (hF.put hp u).put hq v
  simpa [Act.put] using h1
theorem fr_one {p : Tmp} {u : Value} {tm : Array Value} (hF : Fr n [] l ⟨tm, []⟩) (hp : Nat.blt p n = true) : Fr n [] ((p, u) :: l) ⟨((#[p] : Array Tmp).zip ⟨[u]⟩).foldl (fun t (p, v) => t.setIfInBounds p v) tm, []⟩ := by
  have h1 := hF.put hp u
  simpa [Act.put] using h1
/-- A call of yield in the body of a loop over a function. -/
theorem wl_preR {l0 m : Nat} {ops : Array Oper} {Q : Exit → Act → World → Prop} {J : Act → World → Prop} {rest : List Oper} (hJ : ∀ a w, J a w → wpListIn (Fence.wide.inRound l0) m Try.prog ops Q rest a w) : ∀ {pre : List Oper} {a : Act} {w : World}, pre.all noDefer = true → wl ops (Exit.then J Q) pre a w → wpListIn (Fence.wide.inRound l0) m Try.prog ops Q (pre ++ rest) a w
  | [], a, w, _, h => hJ a w h
  | o :: pre, a, w, hd, h => by
    rw [List.all_cons, Bool.and_eq_true] at hd
    unfold wl at h
    rw [List.cons_append]
    unfold wpListIn
    split
    · rename_i hw
      rw [if_pos hw] at h
      exact op_in hd.1 (upon_no (fun c a w h => h) (fun a w h => h) (Oper.wp_mono (fun _ _ h' => wl_preR hJ hd.2 h') h))
    · rename_i hw
      rw [if_neg hw] at h
      exact ⟨fun _ _ => trivial, wl_preR hJ hd.2 h⟩
theorem c_yieldR (k : Nat) {l0 m : Nat} {id d : Nat} {X : Operand} {as_ : List Operand} {ts : Array TypeId} {ty : TypeId} {pos : String} {af : Array Edge} (ho : os.drop k = ⟨some d, .call ⟨.value X, ⟨as_⟩, ts⟩, ty, pos, af, none⟩ :: rest) (hd : Nat.blt d n = true) (hnd : os.all noDefer = true)
    (h : wl ⟨os⟩ (Exit.then (fun a w => ∃ l vs lp R, Fr n ds l a ∧ ev l X = some (.func (.yield lp) #[] #[]) ∧ evL l as_ = some vs ∧ (∀ m, YieldAt Fence.wide m Try.prog lp ⟨vs⟩ w R) ∧
      ∀ e w', R e w' → ∃ v, e = .returned v ∧ ∀ a', Fr n ds ((d, v) :: l) a' → wl ⟨os⟩ Q rest a' w') Q) (os.take k) a w) : Wk (some (l0, m)) (Code.region id ⟨os⟩ false) Q a w := by
  refine wpIn_region_list ?_
  have hnp : (os.take k).all noDefer = true := by
    rw [List.all_eq_true] at hnd ⊢
    exact fun o h => hnd o (List.mem_of_mem_take h)
  have hnr : rest.all noDefer = true := by
    rw [List.all_eq_true] at hnd ⊢
    exact fun o h => hnd o (List.mem_of_mem_drop (i := k) (by rw [ho]; exact List.mem_cons_of_mem _ h))
  have key : wpListIn (Fence.wide.inRound l0) m Try.prog ⟨os⟩ Q (os.take k ++ os.drop k) a w := by
    rw [ho]
    refine wl_preR ?_ hnp h
    rintro a w ⟨l, vs, lp, R, hF, hX, ha, hy0, hk⟩
    obtain ⟨fn, tmps, assign, body, hy, hR⟩ := hy0 (m - 1)
    unfold wpListIn
    rw [if_pos (by simp [Region.wanted])]
    refine ⟨fun _ _ => trivial, ?_⟩
    have h1 := hF.evalL ha
    have he : (Oper.semAt (Fence.wide.inRound l0).round a.eval ⟨some d, .call ⟨.value X, ⟨as_⟩, ts⟩, ty, pos, af, none⟩).run Try.prog w = .ok (.round lp fn tmps assign body) w := by
      have hs : Oper.semAt (Fence.wide.inRound l0).round a.eval ⟨some d, .call ⟨.value X, ⟨as_⟩, ts⟩, ty, pos, af, none⟩ = execOp a.eval ⟨some d, .call ⟨.value X, ⟨as_⟩, ts⟩, ty, pos, af, none⟩ := rfl
      rw [hs]
      simp [execOp, resolve, hF.eval hX, Deferred.ofValue, invoke, h1, Sem.run_bind, Result.andThen, hy]
    rw [he, Oper.uponIn_round]
    refine ⟨fun hz => by simp [Fence.wide] at hz, ?_⟩
    have hR2 : RoundIn (Fence.wide.inRound l0) (m - 1) Try.prog lp fn tmps assign body w R := hR
    refine RoundIn.mono hR2 ?_
    intro e w' hr
    obtain ⟨v, rfl, hk2⟩ := hk e w' hr
    exact wl_in hnr (hk2 _ (hF.put hd v))
  rwa [List.take_append_drop] at key
end
end B31
end Go.Proofs.Ytadfdpkhehdikaa

