/- Texts of this seat, one behind the other: U7 Gv U8 Ard Gw Gx Gy Gz Ma D1 D2. -/
import Derived.Test.YtocgpllmfdnfjaaQ1
import Derived.Recover
import Derived.Test.YtocgpllmfdnfjaaQ0
import Derived.Laws.StructEq
import Derived.RangeFuncRecord
import Derived.RangeFuncOwn
import Derived.MapKept
import Derived.ArgAppend
set_option linter.unusedSimpArgs false
set_option linter.unusedVariables false
set_option linter.unusedSectionVars false
set_option maxRecDepth 3000
/- runlength: a group of a reader. -/
namespace Go.Proofs.Ytocgpllmfdnfjaa
open Go.RowKit Go.Shelf
/-- The first c sectors of bytes. -/
def chunks : Nat → List Int → List (List Int)
  | 0, _ => []
  | c + 1, ys => ys.take 8 :: chunks c (ys.drop 8)
theorem chunks_len : ∀ (c : Nat) (ys : List Int), (chunks c ys).length = c
  | 0, _ => rfl
  | c + 1, ys => by rw [chunks, List.length_cons, chunks_len c]
theorem chunks_succ : ∀ (c : Nat) (ys : List Int), chunks (c + 1) ys = chunks c ys ++ [(ys.drop (8 * c)).take 8]
  | 0, ys => by simp [chunks]
  | c + 1, ys => by
    rw [chunks, chunks_succ c, chunks, List.cons_append, List.drop_drop, show 8 + 8 * c = 8 * (c + 1) by omega]
theorem cons8 {xs : List Int} (h8 : 8 ≤ xs.length) : ∃ x0 x1 x2 x3 x4 x5 x6 x7 r, xs = x0 :: x1 :: x2 :: x3 :: x4 :: x5 :: x6 :: x7 :: r := by
  match xs, h8 with
  | x0 :: x1 :: x2 :: x3 :: x4 :: x5 :: x6 :: x7 :: r, _ => exact ⟨x0, x1, x2, x3, x4, x5, x6, x7, r, rfl⟩
theorem row_some {own : Nat → Prop} {w w0 : World} {bs : List BoxE} {L : List Ent} {Fs : List (World → Prop)} (hM : Mm own w0 bs L Fs w) {e : TypeId} {size : Nat} {a : Option Addr} {m c : Nat} {xs : List Value} (h : (⟨e, size, .slice a m c, m, xs⟩ : Ent) ∈ L) (h0 : 0 < m) : ∃ g, a = some ⟨g, 0, none⟩ := by
  rcases (hM.mem.own.own _ h).2 with ⟨h1, h2⟩ | ⟨g, cap, cur, h1, _⟩
  · have h3 : m = 0 := h2
    omega
  · simp only [Value.slice.injEq] at h1
    exact ⟨g, h1.1⟩
theorem rep_len (s : List Int) (hs : s.length = 8) (c : Nat) : (((List.replicate c s).flatten).map (Value.int .u8)).length = c * 8 := by
  rw [List.length_map, flat_len (fun y hy => by rw [List.eq_of_mem_replicate hy]; exact hs), List.length_replicate]
theorem one_map (l : List Int) : ∀ v ∈ l.map (Value.int .u8), v.oneCell' = true := by
  intro v hv
  obtain ⟨y, _, rfl⟩ := List.mem_map.1 hv
  rfl
/-- A group that is read: what is left, and the list. -/
def grpD (most : Nat) (xs : List Int) (ls : List (List Int)) : Except Int (List Int × List (List Int)) :=
  if (rdNum xs).2.1 ≠ 0 then .error (rdNum xs).2.1 else
  let n := (rdNum xs).1.toNat
  let ys := xs.drop (rdNum xs).2.2
  if 2 < n % 4 ∨ n / 4 = 0 then .error 3
  else if (most : Int) - ls.length < (n / 4 : Nat) then .error 5
  else if n % 4 = 0 then (if ys.length < 8 * (n / 4) then .error 10 else .ok (ys.drop (8 * (n / 4)), ls ++ chunks (n / 4) ys))
  else if n % 4 = 1 then (if ys.length < 8 then .error 10 else .ok (ys.drop 8, ls ++ List.replicate (n / 4) (ys.take 8)))
  else .ok (ys, ls ++ List.replicate (n / 4) zr)
theorem rdN_nn : ∀ (f i : Nat) (n : Int) (xs : List Int), 0 ≤ n → (∀ x ∈ xs, 0 ≤ x ∧ x < 256) → 0 ≤ (rdN xs f i n).1 ∧ (rdN xs f i n).1 ≤ 9007199254740991
  | 0, _, _, _, _, _ => by simp [rdN]
  | f + 1, i, n, xs, hn, hx => by
    rw [rdN]
    split
    · simp
    · rename_i b hb
      have hb0 := hx b (List.mem_of_getElem? hb)
      have hp : (0 : Int) ≤ b % 128 * 128 ^ i := Int.mul_nonneg (by omega) (Int.pow_nonneg (by decide))
      split
      · exact rdN_nn f (i + 1) _ xs (by omega) hx
      · split
        · simp
        · rename_i h
          simp only
          omega
section
variable (xs : List Int) (hxb : ∀ x ∈ xs, 0 ≤ x ∧ x < 256) (hlen : xs.length ≤ 1000000) (a0 : Option Addr) (c0 : Nat) (hc0 : xs.length ≤ c0) (most : Nat) (hmost : most ≤ 4096) (ls : List (List Int)) (hls : W8 ls) (hlm : ls.length ≤ most) {own : Nat → Prop} {w0 W : World} {bs : List BoxE} {L : List Ent} {Fs : List (World → Prop)} {b : Nat} {ov : Value}
  (hM : Mm own w0 (⟨b, ⟨[.slice a0 xs.length c0, .int .i64 most, ov]⟩, 96⟩ :: bs) (⟨44, 8, ov, ls.length, ls.flatten.map (Value.int .u8)⟩ :: L) (RdF (Value.int .u8) a0 xs :: Fs) W)
include hxb hlen hc0 hmost hls hlm hM
def GrpR (own : Nat → Prop) (w0 : World) (bs : List BoxE) (L : List Ent) (Fs : List (World → Prop)) (b most : Nat) (xs : List Int) (ls : List (List Int)) (w' : World) : Prop :=
  ∃ zs ls' a1 c1 ov', grpD most xs ls = .ok (zs, ls') ∧ zs.length ≤ c1 ∧ Mm own w0 (⟨b, ⟨[.slice a1 zs.length c1, .int .i64 most, ov']⟩, 96⟩ :: bs) (⟨44, 8, ov', ls'.length, ls'.flatten.map (Value.int .u8)⟩ :: L) (RdF (Value.int .u8) a1 zs :: Fs) w'
def GrpE (own : Nat → Prop) (w0 : World) (bs : List BoxE) (b most : Nat) (xs : List Int) (ls : List (List Int)) (c : List PanicEntry) (w' : World) : Prop :=
  ∃ e bs' L' Fs', grpD most xs ls = .error e ∧ c = fail e ∧ Mm own w0 (⟨b, bs', 96⟩ :: bs) L' Fs' w'
set_option maxRecDepth 20000 in
theorem group_c : Calls Try.prog 53 ⟨[.pointer (some ⟨b, 0, none⟩)]⟩ W (Both (fun _ w' => GrpR own w0 bs L Fs b most xs ls w') (GrpE own w0 bs b most xs ls)) := by
  by_cases he : (rdNum xs).2.1 = 0
  · obtain ⟨N, hN⟩ : ∃ N : Nat, (rdNum xs).1 = N := ⟨(rdNum xs).1.toNat, by have := (rdN_nn 8 0 0 xs (by omega) hxb).1; unfold rdNum; omega⟩
    have hNb : N ≤ 9007199254740991 := by have := (rdN_nn 8 0 0 xs (by omega) hxb).2; unfold rdNum at hN; omega
    obtain ⟨ao, co, rfl⟩ : ∃ ao co, ov = .slice ao ls.length co := by
      rcases (hM.mem.own.own _ List.mem_cons_self).2 with ⟨h1, h2⟩ | ⟨g, cap, cur, h1, _⟩
      · exact ⟨none, 0, by rw [show ls.length = 0 from h2]; exact h1⟩
      · exact ⟨_, _, h1⟩
    have hD : grpD most xs ls = (if 2 < N % 4 ∨ N / 4 = 0 then .error 3
      else if (most : Int) - ls.length < (N / 4 : Nat) then .error 5
      else if N % 4 = 0 then (if (xs.drop (rdNum xs).2.2).length < 8 * (N / 4) then .error 10 else .ok ((xs.drop (rdNum xs).2.2).drop (8 * (N / 4)), ls ++ chunks (N / 4) (xs.drop (rdNum xs).2.2)))
      else if N % 4 = 1 then (if (xs.drop (rdNum xs).2.2).length < 8 then .error 10 else .ok ((xs.drop (rdNum xs).2.2).drop 8, ls ++ List.replicate (N / 4) ((xs.drop (rdNum xs).2.2).take 8)))
      else .ok (xs.drop (rdNum xs).2.2, ls ++ List.replicate (N / 4) zr)) := by
      unfold grpD
      rw [if_neg (by simp [he]), hN, Int.toNat_natCast]
    refine f_start Try.func53 rfl Try.ntmps53 rfl rfl ?_; intro a hF
    (repeat' (first | (with_reducible refine w_seq ?_) | (with_reducible refine c_region ?_) | (with_reducible refine s_nil ?_) | ((with_reducible apply s_callM (f := 60) hF); exact rfl; exact rfl; exact rfl; exact rfl; exact rfl; exact (rnum_ok xs hxb hlen a0 c0 hc0 hM he); clear hF hM a; rintro v w a ⟨rfl, a1, c1, hc1, hM⟩ hF; rw [hN] at hF) | ((with_reducible apply s_pan hF); exact rfl; exact rfl; exact rfl) | (with_reducible refine q_then_p ?_) | (with_reducible refine q_then_n ?_) | ((with_reducible apply s_pure hF); exact rfl; exact rfl; exact rfl; (first | exact trivial | omega | exact ⟨Int.natCast_nonneg _, Int.ofNat_lt.2 (by assumption)⟩ | decide); clear hF a; intro a hF) | (with_reducible refine w_skip ?_) | ((with_reducible apply c_true2 hF); exact rfl; (first | with_reducible rfl | (refine congrArg Value.bool ?_; focus (simp; done)))) | ((with_reducible apply s_skip hF); exact rfl; exact rfl; clear hF a; intro a hF) | ((with_reducible apply g_dec hF); exact rfl; exact rfl; all_goals (clear hF; intro hc hF); all_goals (try (exfalso; omega))) | ((with_reducible apply c_dec hF); exact rfl; all_goals intro hc; all_goals (try (exfalso; omega)))))
    · rw [if_pos (.inl (by omega))] at hD
      refine f_panic hF ?_
      exact Both.panic ⟨3, _, _, _, hD, rfl, hM⟩
    · rw [if_pos (.inr (by omega))] at hD
      refine f_panic hF ?_
      exact Both.panic ⟨3, _, _, _, hD, rfl, hM⟩
    have hk2 : N % 4 ≤ 2 := by omega
    have hc2 : 1 ≤ N / 4 := by omega
    rw [if_neg (by omega)] at hD
    rw [show (N : Int) % 4 = ((N % 4 : Nat) : Int) by omega, show (N : Int) / 4 = ((N / 4 : Nat) : Int) by omega] at hF
    have hys : (xs.drop (rdNum xs).2.2).length ≤ 1000000 := by rw [List.length_drop]; omega
    have hyb : ∀ y ∈ xs.drop (rdNum xs).2.2, 0 ≤ y ∧ y < 256 := fun y hy => hxb y (List.mem_of_mem_drop hy)
    have hM2 := hM.sub (Fs' := RdF (Value.int .u8) a1 (xs.drop (rdNum xs).2.2) :: Fs) (.refl _) (.refl _) (fun f hf => by rcases List.mem_cons.1 hf with rfl | hf; exact List.mem_cons_self; exact List.mem_cons_of_mem _ (List.mem_cons_of_mem _ hf))
    clear hM
    have hM := hM2
    clear hM2
    generalize xs.drop (rdNum xs).2.2 = ys at *
    have hNn : N / 4 ≤ N := Nat.div_le_self _ _
    generalize hkd : N % 4 = kd at *
    generalize hcn : N / 4 = cn at *
    refine c_draw (fun i => Nat.ble 12 i) hM ?_; clear hM; intro w hM
    (first | (refine t_pure (i := 0) hF rfl rfl rfl rfl (by kernel_rfl) hM.sm (fun _ _ _ h => h) ?_ ?_; (first | exact trivial | omega | decide); clear hF a; intro a hF))
    (first | (refine t_pure (i := 1) hF rfl rfl rfl rfl (by kernel_rfl) hM.sm (fun _ _ _ h => h) ?_ ?_; (first | exact trivial | omega | decide); clear hF a; intro a hF))
    (first | (refine t_pure (i := 2) hF rfl rfl rfl rfl (by kernel_rfl) hM.sm (fun _ _ _ h => h) ?_ ?_; (first | exact trivial | omega | decide); clear hF a; intro a hF))
    (first | (refine t_pure (i := 3) hF rfl rfl rfl rfl (by kernel_rfl) hM.sm (fun _ _ _ h => h) ?_ ?_; (first | exact trivial | omega | decide); clear hF a; intro a hF))
    (first | (apply t_load (i := 4) hF rfl rfl rfl; (repeat (first | exact List.mem_cons_self | refine List.mem_cons_of_mem _ ?_)); exact rfl; exact rfl; kernel_rfl; exact hM.sm; exact (fun _ _ _ h => h); clear hF a; intro a hF))
    (first | (refine t_pure (i := 5) hF rfl rfl rfl rfl (by kernel_rfl) hM.sm (fun _ _ _ h => h) ?_ ?_; (first | exact trivial | omega | decide); clear hF a; intro a hF))
    (first | (refine t_pure (i := 6) hF rfl rfl rfl rfl (by kernel_rfl) hM.sm (fun _ _ _ h => h) ?_ ?_; (first | exact trivial | omega | decide); clear hF a; intro a hF))
    (first | (refine t_pure (i := 7) hF rfl rfl rfl rfl (by kernel_rfl) hM.sm (fun _ _ _ h => h) ?_ ?_; (first | exact trivial | omega | decide); clear hF a; intro a hF))
    (first | (apply t_load (i := 8) hF rfl rfl rfl; (repeat (first | exact List.mem_cons_self | refine List.mem_cons_of_mem _ ?_)); exact rfl; exact rfl; kernel_rfl; exact hM.sm; exact (fun _ _ _ h => h); clear hF a; intro a hF))
    (first | (refine t_pure (i := 9) hF rfl rfl rfl rfl (by kernel_rfl) hM.sm (fun _ _ _ h => h) ?_ ?_; (first | exact trivial | omega | decide); clear hF a; intro a hF))
    (first | (refine t_pure (i := 10) hF rfl rfl rfl rfl (by kernel_rfl) hM.sm (fun _ _ _ h => h) ?_ ?_; (first | exact trivial | omega | decide); clear hF a; intro a hF))
    (first | (refine t_pure (i := 11) hF rfl rfl rfl rfl (by kernel_rfl) hM.sm (fun _ _ _ h => h) ?_ ?_; (first | exact trivial | omega | decide); clear hF a; intro a hF))
    refine t_done (by kernel_rfl) ?_
    (repeat' (first | (with_reducible refine w_seq ?_) | (with_reducible refine c_region ?_) | (with_reducible refine s_nil ?_) | ((with_reducible apply s_pan hF); exact rfl; exact rfl; exact rfl) | (with_reducible refine q_then_p ?_) | ((with_reducible apply s_appZ hF hM); exact rfl; exact rfl; exact rfl; exact rfl; exact rfl; exact rfl; exact rfl; (repeat (first | exact Kth.z | apply Kth.s)); exact rfl; omega; omega; clear hF hM a; intro g cap w a hM hF; dsimp only [List.set] at hM) | (with_reducible refine q_then_n ?_) | ((with_reducible apply s_pure hF); exact rfl; exact rfl; exact rfl; (first | exact trivial | omega | exact ⟨Int.natCast_nonneg _, Int.ofNat_lt.2 (by assumption)⟩ | decide); clear hF a; intro a hF) | ((with_reducible apply s_load hF hM); exact rfl; exact rfl; (repeat (first | exact List.mem_cons_self | refine List.mem_cons_of_mem _ ?_)); exact rfl; exact rfl; clear hF a; intro a hF) | ((with_reducible apply s_store hF hM); exact rfl; exact rfl; exact rfl; exact rfl; (repeat (first | exact Upd.z | apply Upd.s)); exact rfl; exact rfl; exact rfl; clear hM; intro w hM) | (with_reducible refine w_skip ?_) | (with_reducible refine w_block ?_) | (with_reducible refine q_blk_n ?_) | ((with_reducible apply c_dec hF); exact rfl; all_goals intro hc; all_goals (try (exfalso; omega)))))
    · rw [if_pos (by omega)] at hD
      refine f_panic hF ?_
      exact Both.panic ⟨5, _, _, _, hD, rfl, hM⟩
    · rw [if_neg (by omega), if_pos (by omega)] at hD
      refine c_loop (m := cn) (fun m a w' => ∃ (j : Nat) (zs : List Int) (n2 : Nat) (a2 : Option Addr) (c2 : Nat) (ov2 : Value), m + j = cn ∧ zs = ys.drop (8 * j) ∧ 8 * j ≤ ys.length ∧ zs.length ≤ c2 ∧ n2 = ls.length + j ∧
        Fr 81 [] [(48, .int .i64 j), (47, .int .i64 cn), (0, .pointer (some ⟨b, 0, none⟩))] a ∧
        Mm own w0 (⟨b, ⟨[.slice a2 zs.length c2, .int .i64 most, ov2]⟩, 96⟩ :: bs) (⟨44, 8, ov2, n2, (ls ++ chunks j ys).flatten.map (Value.int .u8)⟩ :: L) (RdF (Value.int .u8) a2 zs :: Fs) w')
        ⟨0, ys, ls.length, a1, c1, _, by omega, rfl, by omega, hc1, rfl, hF.sub (by repeat (first | exact Sub.nil | refine Sub.cons rfl (by first | with_reducible rfl | (refine congrArg (Value.int _) ?_; omega) | exact rfl) ?_)), by rw [chunks, List.append_nil]; exact hM⟩ ?_
      clear hF hM a
      rintro m a w' ⟨j, zs, n2, a2, c2, ov2, hm, hz, hj8, hc2', hn2, hF, hM⟩
      have hzl : zs.length = ys.length - 8 * j := by rw [hz, List.length_drop]
      have hzb : ∀ y ∈ zs, 0 ≤ y ∧ y < 256 := fun y hy => hyb y (List.mem_of_mem_drop (hz ▸ hy))
      by_cases hjc : j < cn
      · by_cases h8 : 8 ≤ zs.length
        · have hch := chunks_succ j ys
          rw [← hz] at hch
          have hz2 : zs.drop 8 = ys.drop (8 * (j + 1)) := by rw [hz, List.drop_drop]; congr 1
          obtain ⟨x0, x1, x2, x3, x4, x5, x6, x7, r, rfl⟩ := cons8 h8
          (repeat' (first | (with_reducible refine w_seq ?_) | (with_reducible refine c_region ?_) | (with_reducible refine s_nil ?_) | (with_reducible refine q_then_n ?_) | ((with_reducible apply s_pure hF); exact rfl; exact rfl; exact rfl; (first | exact trivial | omega | exact ⟨Int.natCast_nonneg _, Int.ofNat_lt.2 (by assumption)⟩ | decide); clear hF a; intro a hF) | (with_reducible refine w_skip ?_) | (with_reducible refine w_block ?_) | ((with_reducible apply c_dec hF); exact rfl; all_goals intro hc; all_goals (try (exfalso; omega)))))
          refine c_drawS (fun i => Nat.ble 13 i) (fun x hx => List.mem_cons_of_mem _ (hx)) hM ?_; clear hM; intro w hM
          (first | (refine t_pure (i := 0) hF rfl rfl rfl rfl (by kernel_rfl) (hM.sm.sub (fun x hx => by repeat (first | exact hx | refine List.mem_cons_of_mem _ ?_)) (fun _ h => by repeat (first | exact h | refine List.mem_cons_of_mem _ ?_))) (fun _ _ _ h => h) ?_ ?_; (first | exact trivial | omega | decide); clear hF a; intro a hF))
          (first | (refine t_pure (i := 1) hF rfl rfl rfl rfl (by kernel_rfl) (hM.sm.sub (fun x hx => by repeat (first | exact hx | refine List.mem_cons_of_mem _ ?_)) (fun _ h => by repeat (first | exact h | refine List.mem_cons_of_mem _ ?_))) (fun _ _ _ h => h) ?_ ?_; (first | exact trivial | omega | decide); clear hF a; intro a hF))
          (first | (refine t_pure (i := 2) hF rfl rfl rfl rfl (by kernel_rfl) (hM.sm.sub (fun x hx => by repeat (first | exact hx | refine List.mem_cons_of_mem _ ?_)) (fun _ h => by repeat (first | exact h | refine List.mem_cons_of_mem _ ?_))) (fun _ _ _ h => h) ?_ ?_; (first | exact trivial | omega | decide); clear hF a; intro a hF))
          (first | (refine t_pure (i := 3) hF rfl rfl rfl rfl (by kernel_rfl) (hM.sm.sub (fun x hx => by repeat (first | exact hx | refine List.mem_cons_of_mem _ ?_)) (fun _ h => by repeat (first | exact h | refine List.mem_cons_of_mem _ ?_))) (fun _ _ _ h => h) ?_ ?_; (first | exact trivial | omega | decide); clear hF a; intro a hF))
          (first | (refine t_pure (i := 5) hF rfl rfl rfl rfl (by kernel_rfl) (hM.sm.sub (fun x hx => by repeat (first | exact hx | refine List.mem_cons_of_mem _ ?_)) (fun _ h => by repeat (first | exact h | refine List.mem_cons_of_mem _ ?_))) (fun _ _ _ h => h) ?_ ?_; (first | exact trivial | omega | decide); clear hF a; intro a hF))
          (first | (refine t_pure (i := 6) hF rfl rfl rfl rfl (by kernel_rfl) (hM.sm.sub (fun x hx => by repeat (first | exact hx | refine List.mem_cons_of_mem _ ?_)) (fun _ h => by repeat (first | exact h | refine List.mem_cons_of_mem _ ?_))) (fun _ _ _ h => h) ?_ ?_; (first | exact trivial | omega | decide); clear hF a; intro a hF))
          (first | (refine t_pure (i := 7) hF rfl rfl rfl rfl (by kernel_rfl) (hM.sm.sub (fun x hx => by repeat (first | exact hx | refine List.mem_cons_of_mem _ ?_)) (fun _ h => by repeat (first | exact h | refine List.mem_cons_of_mem _ ?_))) (fun _ _ _ h => h) ?_ ?_; (first | exact trivial | omega | decide); clear hF a; intro a hF))
          refine t_two (i := 4) (j := 8) hF rfl rfl (by kernel_rfl) rfl rfl ?_ ?_
          ·
            intro K hK
            (first | (refine x_pure hF hM rfl rfl ?_ ?_; (first | exact trivial | omega | decide); clear hF a; intro a hF) | (apply x_load hF hM rfl; (repeat (first | exact List.mem_cons_self | refine List.mem_cons_of_mem _ ?_)); exact rfl; exact rfl; clear hF a; intro a hF))
            refine hK _ _ (fun _ => (hM.sm.sub (fun x hx => by repeat (first | exact hx | refine List.mem_cons_of_mem _ ?_)) (fun _ h => by repeat (first | exact h | refine List.mem_cons_of_mem _ ?_)))) ?_; clear hK
            refine t_one (i := 8) hF rfl (by kernel_rfl) rfl ?_
            intro K hK
            (refine x_callM (f := 61) hF rfl rfl rfl rfl (sec_ok _ hzb (by omega) a2 c2 hc2' hM h8) ?_; clear hF hM a; rintro v w a ⟨rfl, a3, c3, hc3, hM⟩ hF)
            refine hK _ _ (fun _ => (hM.sm.sub (fun x hx => by repeat (first | exact hx | refine List.mem_cons_of_mem _ ?_)) (fun _ h => by repeat (first | exact h | refine List.mem_cons_of_mem _ ?_)))) ?_; clear hK
            refine t_one (i := 9) hF rfl (by kernel_rfl) rfl ?_
            intro K hK
            (refine x_lit hF hM rfl rfl rfl ?_; clear hF hM a; intro bl w a hM hF)
            refine hK _ _ (fun _ => (hM.sm.sub (fun x hx => by repeat (first | exact hx | refine List.mem_cons_of_mem _ ?_)) (fun _ h => by repeat (first | exact h | refine List.mem_cons_of_mem _ ?_)))) ?_; clear hK
            refine t_one (i := 10) hF rfl (by kernel_rfl) rfl ?_
            intro K hK
            (apply x_app hF hM rfl rfl rfl; (repeat (first | exact List.mem_cons_self | refine List.mem_cons_of_mem _ ?_)); (repeat (first | exact Kth.z | apply Kth.s)); exact rfl; exact rfl; exact rfl; exact rfl; omega; clear hF hM a; intro g cap w a hM hF; dsimp only [List.set] at hM)
            refine hK _ _ (fun _ => (hM.sm.sub (fun x hx => by repeat (first | exact hx | refine List.mem_cons_of_mem _ ?_)) (fun _ h => by repeat (first | exact h | refine List.mem_cons_of_mem _ ?_)))) ?_; clear hK
            (first | (refine t_pure (i := 11) hF rfl rfl rfl rfl (by kernel_rfl) (hM.sm.sub (fun x hx => by repeat (first | exact hx | refine List.mem_cons_of_mem _ ?_)) (fun _ h => by repeat (first | exact h | refine List.mem_cons_of_mem _ ?_))) (fun _ _ _ h => h) ?_ ?_; (first | exact trivial | omega | decide); clear hF a; intro a hF))
            (first | (refine t_pure (i := 12) hF rfl rfl rfl rfl (by kernel_rfl) (hM.sm.sub (fun x hx => by repeat (first | exact hx | refine List.mem_cons_of_mem _ ?_)) (fun _ h => by repeat (first | exact h | refine List.mem_cons_of_mem _ ?_))) (fun _ _ _ h => h) ?_ ?_; (first | exact trivial | omega | decide); clear hF a; intro a hF))
            refine t_one (i := 13) hF rfl (by kernel_rfl) rfl ?_
            intro K hK
            (apply x_store hF hM rfl rfl rfl; (repeat (first | exact Upd.z | apply Upd.s)); exact rfl; exact rfl; exact rfl; clear hF hM a; intro w a hM hF)
            refine hK _ _ (fun h => by cases h) ?_; clear hK
            refine t_done (by kernel_rfl) ?_
            (repeat' (first | (with_reducible refine c_region ?_) | (with_reducible refine s_nil ?_) | (with_reducible refine q_then_n ?_) | ((with_reducible apply s_pure hF); exact rfl; exact rfl; exact rfl; (first | exact trivial | omega | exact ⟨Int.natCast_nonneg _, Int.ofNat_lt.2 (by assumption)⟩ | decide); clear hF a; intro a hF) | (with_reducible refine q_blk_n ?_)))
            refine ⟨m - 1, by omega, j + 1, _, n2 + 1, a3, c3, .slice (some ⟨g, 0, none⟩) (n2 + 1) cap, by omega, hz2, by omega, hc3, by omega, hF.sub (by repeat (first | exact Sub.nil | refine Sub.cons rfl (by first | with_reducible rfl | (refine congrArg (Value.int _) ?_; omega) | exact rfl) ?_)), ?_⟩
            rw [hch, ← List.append_assoc, List.flatten_append, List.map_append]
            exact hM.sub (.cons _ (.refl _)) (.refl _) (fun f hf => by rcases List.mem_cons.1 hf with rfl | hf; exact List.mem_cons_self; exact List.mem_cons_of_mem _ (List.mem_cons_of_mem _ hf))
          ·
            intro K hK
            (refine x_callM (f := 61) hF rfl rfl rfl rfl (sec_ok _ hzb (by omega) a2 c2 hc2' hM h8) ?_; clear hF hM a; rintro v w a ⟨rfl, a3, c3, hc3, hM⟩ hF)
            refine hK _ _ (fun _ => (hM.sm.sub (fun x hx => by repeat (first | exact hx | refine List.mem_cons_of_mem _ ?_)) (fun _ h => by repeat (first | exact h | refine List.mem_cons_of_mem _ ?_)))) ?_; clear hK
            refine t_two (i := 4) (j := 9) hF rfl rfl (by kernel_rfl) rfl rfl ?_ ?_
            ·
              intro K hK
              (first | (refine x_pure hF hM rfl rfl ?_ ?_; (first | exact trivial | omega | decide); clear hF a; intro a hF) | (apply x_load hF hM rfl; (repeat (first | exact List.mem_cons_self | refine List.mem_cons_of_mem _ ?_)); exact rfl; exact rfl; clear hF a; intro a hF))
              refine hK _ _ (fun _ => (hM.sm.sub (fun x hx => by repeat (first | exact hx | refine List.mem_cons_of_mem _ ?_)) (fun _ h => by repeat (first | exact h | refine List.mem_cons_of_mem _ ?_)))) ?_; clear hK
              refine t_one (i := 9) hF rfl (by kernel_rfl) rfl ?_
              intro K hK
              (refine x_lit hF hM rfl rfl rfl ?_; clear hF hM a; intro bl w a hM hF)
              refine hK _ _ (fun _ => (hM.sm.sub (fun x hx => by repeat (first | exact hx | refine List.mem_cons_of_mem _ ?_)) (fun _ h => by repeat (first | exact h | refine List.mem_cons_of_mem _ ?_)))) ?_; clear hK
              refine t_one (i := 10) hF rfl (by kernel_rfl) rfl ?_
              intro K hK
              (apply x_app hF hM rfl rfl rfl; (repeat (first | exact List.mem_cons_self | refine List.mem_cons_of_mem _ ?_)); (repeat (first | exact Kth.z | apply Kth.s)); exact rfl; exact rfl; exact rfl; exact rfl; omega; clear hF hM a; intro g cap w a hM hF; dsimp only [List.set] at hM)
              refine hK _ _ (fun _ => (hM.sm.sub (fun x hx => by repeat (first | exact hx | refine List.mem_cons_of_mem _ ?_)) (fun _ h => by repeat (first | exact h | refine List.mem_cons_of_mem _ ?_)))) ?_; clear hK
              (first | (refine t_pure (i := 11) hF rfl rfl rfl rfl (by kernel_rfl) (hM.sm.sub (fun x hx => by repeat (first | exact hx | refine List.mem_cons_of_mem _ ?_)) (fun _ h => by repeat (first | exact h | refine List.mem_cons_of_mem _ ?_))) (fun _ _ _ h => h) ?_ ?_; (first | exact trivial | omega | decide); clear hF a; intro a hF))
              (first | (refine t_pure (i := 12) hF rfl rfl rfl rfl (by kernel_rfl) (hM.sm.sub (fun x hx => by repeat (first | exact hx | refine List.mem_cons_of_mem _ ?_)) (fun _ h => by repeat (first | exact h | refine List.mem_cons_of_mem _ ?_))) (fun _ _ _ h => h) ?_ ?_; (first | exact trivial | omega | decide); clear hF a; intro a hF))
              refine t_one (i := 13) hF rfl (by kernel_rfl) rfl ?_
              intro K hK
              (apply x_store hF hM rfl rfl rfl; (repeat (first | exact Upd.z | apply Upd.s)); exact rfl; exact rfl; exact rfl; clear hF hM a; intro w a hM hF)
              refine hK _ _ (fun h => by cases h) ?_; clear hK
              refine t_done (by kernel_rfl) ?_
              (repeat' (first | (with_reducible refine c_region ?_) | (with_reducible refine s_nil ?_) | (with_reducible refine q_then_n ?_) | ((with_reducible apply s_pure hF); exact rfl; exact rfl; exact rfl; (first | exact trivial | omega | exact ⟨Int.natCast_nonneg _, Int.ofNat_lt.2 (by assumption)⟩ | decide); clear hF a; intro a hF) | (with_reducible refine q_blk_n ?_)))
              refine ⟨m - 1, by omega, j + 1, _, n2 + 1, a3, c3, .slice (some ⟨g, 0, none⟩) (n2 + 1) cap, by omega, hz2, by omega, hc3, by omega, hF.sub (by repeat (first | exact Sub.nil | refine Sub.cons rfl (by first | with_reducible rfl | (refine congrArg (Value.int _) ?_; omega) | exact rfl) ?_)), ?_⟩
              rw [hch, ← List.append_assoc, List.flatten_append, List.map_append]
              exact hM.sub (.cons _ (.refl _)) (.refl _) (fun f hf => by rcases List.mem_cons.1 hf with rfl | hf; exact List.mem_cons_self; exact List.mem_cons_of_mem _ (List.mem_cons_of_mem _ hf))
            ·
              intro K hK
              (refine x_lit hF hM rfl rfl rfl ?_; clear hF hM a; intro bl w a hM hF)
              refine hK _ _ (fun _ => (hM.sm.sub (fun x hx => by repeat (first | exact hx | refine List.mem_cons_of_mem _ ?_)) (fun _ h => by repeat (first | exact h | refine List.mem_cons_of_mem _ ?_)))) ?_; clear hK
              refine t_one (i := 4) hF rfl (by kernel_rfl) rfl ?_
              intro K hK
              (first | (refine x_pure hF hM rfl rfl ?_ ?_; (first | exact trivial | omega | decide); clear hF a; intro a hF) | (apply x_load hF hM rfl; (repeat (first | exact List.mem_cons_self | refine List.mem_cons_of_mem _ ?_)); exact rfl; exact rfl; clear hF a; intro a hF))
              refine hK _ _ (fun _ => (hM.sm.sub (fun x hx => by repeat (first | exact hx | refine List.mem_cons_of_mem _ ?_)) (fun _ h => by repeat (first | exact h | refine List.mem_cons_of_mem _ ?_)))) ?_; clear hK
              refine t_one (i := 10) hF rfl (by kernel_rfl) rfl ?_
              intro K hK
              (apply x_app hF hM rfl rfl rfl; (repeat (first | exact List.mem_cons_self | refine List.mem_cons_of_mem _ ?_)); (repeat (first | exact Kth.z | apply Kth.s)); exact rfl; exact rfl; exact rfl; exact rfl; omega; clear hF hM a; intro g cap w a hM hF; dsimp only [List.set] at hM)
              refine hK _ _ (fun _ => (hM.sm.sub (fun x hx => by repeat (first | exact hx | refine List.mem_cons_of_mem _ ?_)) (fun _ h => by repeat (first | exact h | refine List.mem_cons_of_mem _ ?_)))) ?_; clear hK
              (first | (refine t_pure (i := 11) hF rfl rfl rfl rfl (by kernel_rfl) (hM.sm.sub (fun x hx => by repeat (first | exact hx | refine List.mem_cons_of_mem _ ?_)) (fun _ h => by repeat (first | exact h | refine List.mem_cons_of_mem _ ?_))) (fun _ _ _ h => h) ?_ ?_; (first | exact trivial | omega | decide); clear hF a; intro a hF))
              (first | (refine t_pure (i := 12) hF rfl rfl rfl rfl (by kernel_rfl) (hM.sm.sub (fun x hx => by repeat (first | exact hx | refine List.mem_cons_of_mem _ ?_)) (fun _ h => by repeat (first | exact h | refine List.mem_cons_of_mem _ ?_))) (fun _ _ _ h => h) ?_ ?_; (first | exact trivial | omega | decide); clear hF a; intro a hF))
              refine t_one (i := 13) hF rfl (by kernel_rfl) rfl ?_
              intro K hK
              (apply x_store hF hM rfl rfl rfl; (repeat (first | exact Upd.z | apply Upd.s)); exact rfl; exact rfl; exact rfl; clear hF hM a; intro w a hM hF)
              refine hK _ _ (fun h => by cases h) ?_; clear hK
              refine t_done (by kernel_rfl) ?_
              (repeat' (first | (with_reducible refine c_region ?_) | (with_reducible refine s_nil ?_) | (with_reducible refine q_then_n ?_) | ((with_reducible apply s_pure hF); exact rfl; exact rfl; exact rfl; (first | exact trivial | omega | exact ⟨Int.natCast_nonneg _, Int.ofNat_lt.2 (by assumption)⟩ | decide); clear hF a; intro a hF) | (with_reducible refine q_blk_n ?_)))
              refine ⟨m - 1, by omega, j + 1, _, n2 + 1, a3, c3, .slice (some ⟨g, 0, none⟩) (n2 + 1) cap, by omega, hz2, by omega, hc3, by omega, hF.sub (by repeat (first | exact Sub.nil | refine Sub.cons rfl (by first | with_reducible rfl | (refine congrArg (Value.int _) ?_; omega) | exact rfl) ?_)), ?_⟩
              rw [hch, ← List.append_assoc, List.flatten_append, List.map_append]
              exact hM.sub (.cons _ (.refl _)) (.refl _) (fun f hf => by rcases List.mem_cons.1 hf with rfl | hf; exact List.mem_cons_self; exact List.mem_cons_of_mem _ (List.mem_cons_of_mem _ hf))
        · rw [if_pos (by omega)] at hD
          (repeat' (first | (with_reducible refine w_seq ?_) | (with_reducible refine c_region ?_) | (with_reducible refine s_nil ?_) | (with_reducible refine q_then_n ?_) | ((with_reducible apply s_pure hF); exact rfl; exact rfl; exact rfl; (first | exact trivial | omega | exact ⟨Int.natCast_nonneg _, Int.ofNat_lt.2 (by assumption)⟩ | decide); clear hF a; intro a hF) | (with_reducible refine w_skip ?_) | (with_reducible refine w_block ?_) | ((with_reducible apply c_dec hF); exact rfl; all_goals intro hc; all_goals (try (exfalso; omega)))))
          refine c_drawS (fun i => Nat.ble 13 i) (fun x hx => List.mem_cons_of_mem _ (hx)) hM ?_; clear hM; intro w hM
          (first | (refine t_pure (i := 0) hF rfl rfl rfl rfl (by kernel_rfl) (hM.sm.sub (fun x hx => by repeat (first | exact hx | refine List.mem_cons_of_mem _ ?_)) (fun _ h => by repeat (first | exact h | refine List.mem_cons_of_mem _ ?_))) (fun _ _ _ h => h) ?_ ?_; (first | exact trivial | omega | decide); clear hF a; intro a hF))
          (first | (refine t_pure (i := 1) hF rfl rfl rfl rfl (by kernel_rfl) (hM.sm.sub (fun x hx => by repeat (first | exact hx | refine List.mem_cons_of_mem _ ?_)) (fun _ h => by repeat (first | exact h | refine List.mem_cons_of_mem _ ?_))) (fun _ _ _ h => h) ?_ ?_; (first | exact trivial | omega | decide); clear hF a; intro a hF))
          (first | (refine t_pure (i := 2) hF rfl rfl rfl rfl (by kernel_rfl) (hM.sm.sub (fun x hx => by repeat (first | exact hx | refine List.mem_cons_of_mem _ ?_)) (fun _ h => by repeat (first | exact h | refine List.mem_cons_of_mem _ ?_))) (fun _ _ _ h => h) ?_ ?_; (first | exact trivial | omega | decide); clear hF a; intro a hF))
          (first | (refine t_pure (i := 3) hF rfl rfl rfl rfl (by kernel_rfl) (hM.sm.sub (fun x hx => by repeat (first | exact hx | refine List.mem_cons_of_mem _ ?_)) (fun _ h => by repeat (first | exact h | refine List.mem_cons_of_mem _ ?_))) (fun _ _ _ h => h) ?_ ?_; (first | exact trivial | omega | decide); clear hF a; intro a hF))
          (first | (refine t_pure (i := 5) hF rfl rfl rfl rfl (by kernel_rfl) (hM.sm.sub (fun x hx => by repeat (first | exact hx | refine List.mem_cons_of_mem _ ?_)) (fun _ h => by repeat (first | exact h | refine List.mem_cons_of_mem _ ?_))) (fun _ _ _ h => h) ?_ ?_; (first | exact trivial | omega | decide); clear hF a; intro a hF))
          (first | (refine t_pure (i := 6) hF rfl rfl rfl rfl (by kernel_rfl) (hM.sm.sub (fun x hx => by repeat (first | exact hx | refine List.mem_cons_of_mem _ ?_)) (fun _ h => by repeat (first | exact h | refine List.mem_cons_of_mem _ ?_))) (fun _ _ _ h => h) ?_ ?_; (first | exact trivial | omega | decide); clear hF a; intro a hF))
          (first | (refine t_pure (i := 7) hF rfl rfl rfl rfl (by kernel_rfl) (hM.sm.sub (fun x hx => by repeat (first | exact hx | refine List.mem_cons_of_mem _ ?_)) (fun _ h => by repeat (first | exact h | refine List.mem_cons_of_mem _ ?_))) (fun _ _ _ h => h) ?_ ?_; (first | exact trivial | omega | decide); clear hF a; intro a hF))
          refine t_two (i := 4) (j := 8) hF rfl rfl (by kernel_rfl) rfl rfl ?_ ?_
          ·
            intro K hK
            (first | (refine x_pure hF hM rfl rfl ?_ ?_; (first | exact trivial | omega | decide); clear hF a; intro a hF) | (apply x_load hF hM rfl; (repeat (first | exact List.mem_cons_self | refine List.mem_cons_of_mem _ ?_)); exact rfl; exact rfl; clear hF a; intro a hF))
            refine hK _ _ (fun _ => (hM.sm.sub (fun x hx => by repeat (first | exact hx | refine List.mem_cons_of_mem _ ?_)) (fun _ h => by repeat (first | exact h | refine List.mem_cons_of_mem _ ?_)))) ?_; clear hK
            refine t_one (i := 8) hF rfl (by kernel_rfl) rfl ?_
            intro K hK
            (refine x_callB (f := 61) hF rfl rfl rfl rfl (sec_err _ hzb (by omega) a2 c2 hc2' hM (by omega)) (fun c w a hE hF => ?_) (fun _ _ _ h => h.elim); obtain ⟨rfl, bs1, Fs1, hM⟩ := hE; (repeat' (first | (with_reducible refine q_then_p ?_) | (with_reducible refine q_blk_p ?_))); refine f_panic hF ?_; exact Both.panic ⟨10, _, _, _, hD, rfl, hM⟩)
          ·
            intro K hK
            (refine x_callB (f := 61) hF rfl rfl rfl rfl (sec_err _ hzb (by omega) a2 c2 hc2' hM (by omega)) (fun c w a hE hF => ?_) (fun _ _ _ h => h.elim); obtain ⟨rfl, bs1, Fs1, hM⟩ := hE; (repeat' (first | (with_reducible refine q_then_p ?_) | (with_reducible refine q_blk_p ?_))); refine f_panic hF ?_; exact Both.panic ⟨10, _, _, _, hD, rfl, hM⟩)
      · obtain rfl : j = cn := by omega
        rw [if_neg (by omega), ← hz] at hD
        (repeat' (first | (with_reducible refine w_seq ?_) | (with_reducible refine c_region ?_) | (with_reducible refine s_nil ?_) | (with_reducible refine q_then_n ?_) | ((with_reducible apply s_pure hF); exact rfl; exact rfl; exact rfl; (first | exact trivial | omega | exact ⟨Int.natCast_nonneg _, Int.ofNat_lt.2 (by assumption)⟩ | decide); clear hF a; intro a hF) | (with_reducible refine w_exit ?_) | (with_reducible refine q_then_x ?_) | (with_reducible refine q_blk_n ?_) | (with_reducible refine q_blk_x ?_) | ((with_reducible apply c_false2 hF); exact rfl; (first | with_reducible rfl | (refine congrArg Value.bool ?_; focus (simp; done))))))
        apply f_end Try.results53 hF hM
        (repeat (first | exact RL.nil | (apply RL.tmp; exact rfl) | (apply RL.cell; exact rfl; (repeat (first | exact List.mem_cons_self | refine List.mem_cons_of_mem _ ?_)); exact rfl)))
        refine Both.mk ?_
        refine ⟨zs, _, a2, c2, ov2, hD, hc2', ?_⟩
        rw [List.length_append, chunks_len, ← hn2]
        exact hM
    · rw [if_neg (by omega), if_neg (by omega), if_pos (by omega)] at hD
      by_cases h8 : 8 ≤ ys.length
      · rw [if_neg (by omega)] at hD
        obtain ⟨x0, x1, x2, x3, x4, x5, x6, x7, r, rfl⟩ := cons8 h8
        refine c_drawS (fun i => Nat.ble 15 i) (fun x hx => List.mem_cons_of_mem _ (hx)) hM ?_; clear hM; intro w hM
        (first | (refine t_pure (i := 0) hF rfl rfl rfl rfl (by kernel_rfl) (hM.sm.sub (fun x hx => by repeat (first | exact hx | refine List.mem_cons_of_mem _ ?_)) (fun _ h => by repeat (first | exact h | refine List.mem_cons_of_mem _ ?_))) (fun _ _ _ h => h) ?_ ?_; (first | exact trivial | omega | decide); clear hF a; intro a hF))
        (first | (refine t_pure (i := 1) hF rfl rfl rfl rfl (by kernel_rfl) (hM.sm.sub (fun x hx => by repeat (first | exact hx | refine List.mem_cons_of_mem _ ?_)) (fun _ h => by repeat (first | exact h | refine List.mem_cons_of_mem _ ?_))) (fun _ _ _ h => h) ?_ ?_; (first | exact trivial | omega | decide); clear hF a; intro a hF))
        (first | (refine t_pure (i := 2) hF rfl rfl rfl rfl (by kernel_rfl) (hM.sm.sub (fun x hx => by repeat (first | exact hx | refine List.mem_cons_of_mem _ ?_)) (fun _ h => by repeat (first | exact h | refine List.mem_cons_of_mem _ ?_))) (fun _ _ _ h => h) ?_ ?_; (first | exact trivial | omega | decide); clear hF a; intro a hF))
        (first | (refine t_pure (i := 3) hF rfl rfl rfl rfl (by kernel_rfl) (hM.sm.sub (fun x hx => by repeat (first | exact hx | refine List.mem_cons_of_mem _ ?_)) (fun _ h => by repeat (first | exact h | refine List.mem_cons_of_mem _ ?_))) (fun _ _ _ h => h) ?_ ?_; (first | exact trivial | omega | decide); clear hF a; intro a hF))
        (first | (refine t_pure (i := 5) hF rfl rfl rfl rfl (by kernel_rfl) (hM.sm.sub (fun x hx => by repeat (first | exact hx | refine List.mem_cons_of_mem _ ?_)) (fun _ h => by repeat (first | exact h | refine List.mem_cons_of_mem _ ?_))) (fun _ _ _ h => h) ?_ ?_; (first | exact trivial | omega | decide); clear hF a; intro a hF))
        (first | (refine t_pure (i := 6) hF rfl rfl rfl rfl (by kernel_rfl) (hM.sm.sub (fun x hx => by repeat (first | exact hx | refine List.mem_cons_of_mem _ ?_)) (fun _ h => by repeat (first | exact h | refine List.mem_cons_of_mem _ ?_))) (fun _ _ _ h => h) ?_ ?_; (first | exact trivial | omega | decide); clear hF a; intro a hF))
        (first | (refine t_pure (i := 7) hF rfl rfl rfl rfl (by kernel_rfl) (hM.sm.sub (fun x hx => by repeat (first | exact hx | refine List.mem_cons_of_mem _ ?_)) (fun _ h => by repeat (first | exact h | refine List.mem_cons_of_mem _ ?_))) (fun _ _ _ h => h) ?_ ?_; (first | exact trivial | omega | decide); clear hF a; intro a hF))
        (first | (refine t_pure (i := 10) hF rfl rfl rfl rfl (by kernel_rfl) (hM.sm.sub (fun x hx => by repeat (first | exact hx | refine List.mem_cons_of_mem _ ?_)) (fun _ h => by repeat (first | exact h | refine List.mem_cons_of_mem _ ?_))) (fun _ _ _ h => h) ?_ ?_; (first | exact trivial | omega | decide); clear hF a; intro a hF))
        refine t_two (i := 4) (j := 8) hF rfl rfl (by kernel_rfl) rfl rfl ?_ ?_
        ·
          intro K hK
          (first | (refine x_pure hF hM rfl rfl ?_ ?_; (first | exact trivial | omega | decide); clear hF a; intro a hF) | (apply x_load hF hM rfl; (repeat (first | exact List.mem_cons_self | refine List.mem_cons_of_mem _ ?_)); exact rfl; exact rfl; clear hF a; intro a hF))
          refine hK _ _ (fun _ => (hM.sm.sub (fun x hx => by repeat (first | exact hx | refine List.mem_cons_of_mem _ ?_)) (fun _ h => by repeat (first | exact h | refine List.mem_cons_of_mem _ ?_)))) ?_; clear hK
          refine t_one (i := 8) hF rfl (by kernel_rfl) rfl ?_
          intro K hK
          (refine x_callM (f := 61) hF rfl rfl rfl rfl (sec_ok _ hyb hys a1 c1 hc1 hM h8) ?_; clear hF hM a; rintro v w a ⟨rfl, a3, c3, hc3, hM⟩ hF)
          refine hK _ _ (fun _ => (hM.sm.sub (fun x hx => by repeat (first | exact hx | refine List.mem_cons_of_mem _ ?_)) (fun _ h => by repeat (first | exact h | refine List.mem_cons_of_mem _ ?_)))) ?_; clear hK
          refine t_one (i := 9) hF rfl (by kernel_rfl) rfl ?_
          intro K hK
          (refine x_lit hF hM rfl rfl rfl ?_; clear hF hM a; intro bl w a hM hF; replace hM := Mm.freeze hM; replace hM := hM.addFact (Has.lit (hM.facts _ List.mem_cons_self) (enc := Value.int .u8) [x0, x1, x2, x3, x4, x5, x6, x7] rfl))
          refine hK _ _ (fun _ => (hM.sm.sub (fun x hx => by repeat (first | exact hx | refine List.mem_cons_of_mem _ ?_)) (fun _ h => by repeat (first | exact h | refine List.mem_cons_of_mem _ ?_)))) ?_; clear hK
          refine t_one (i := 11) hF rfl (by kernel_rfl) rfl ?_
          intro K hK
          (apply x_callO hF; exact rfl; exact rfl; exact rfl; exact rfl; exact (repeat_c [x0, x1, x2, x3, x4, x5, x6, x7] rfl cn hc2 (by omega) (some ⟨bl, 0, none⟩) 1 _ _ hM.lt (hM.facts _ List.mem_cons_self)); clear hF a; rintro v wn a ⟨a5, c5, rfl, hO⟩ hS hF; replace hM := hM.addRows hS hO; clear hS hO; dsimp only [List.cons_append, List.nil_append] at hM)
          refine hK _ _ (fun _ => (hM.sm.sub (fun x hx => by repeat (first | exact hx | refine List.mem_cons_of_mem _ ?_)) (fun _ h => by repeat (first | exact h | refine List.mem_cons_of_mem _ ?_)))) ?_; clear hK
          refine t_one (i := 12) hF rfl (by kernel_rfl) rfl ?_
          intro K hK
          (obtain ⟨g5, rfl⟩ := row_some hM List.mem_cons_self (by omega); refine e_app hF hM (ys := ((List.replicate cn [x0, x1, x2, x3, x4, x5, x6, x7]).flatten).map (Value.int .u8)) rfl rfl rfl (.s .z) (rep_len _ rfl cn) (fun i u hi => (hM.mem.own.own _ List.mem_cons_self).cells (g := g5) rfl i u hi) (one_map _) (by omega) (by omega) ?_; clear hM; intro g cap w hM; dsimp only [List.set] at hM; replace hF := hF.put (d := 78) rfl (.slice (some ⟨g, 0, none⟩) (ls.length + cn) cap); generalize a.put (some 78) _ = a at *)
          refine hK _ _ (fun _ => (hM.sm.sub (fun x hx => by repeat (first | exact hx | refine List.mem_cons_of_mem _ ?_)) (fun _ h => by repeat (first | exact h | refine List.mem_cons_of_mem _ ?_)))) ?_; clear hK
          (first | (refine t_pure (i := 13) hF rfl rfl rfl rfl (by kernel_rfl) (hM.sm.sub (fun x hx => by repeat (first | exact hx | refine List.mem_cons_of_mem _ ?_)) (fun _ h => by repeat (first | exact h | refine List.mem_cons_of_mem _ ?_))) (fun _ _ _ h => h) ?_ ?_; (first | exact trivial | omega | decide); clear hF a; intro a hF))
          (first | (refine t_pure (i := 14) hF rfl rfl rfl rfl (by kernel_rfl) (hM.sm.sub (fun x hx => by repeat (first | exact hx | refine List.mem_cons_of_mem _ ?_)) (fun _ h => by repeat (first | exact h | refine List.mem_cons_of_mem _ ?_))) (fun _ _ _ h => h) ?_ ?_; (first | exact trivial | omega | decide); clear hF a; intro a hF))
          refine t_one (i := 15) hF rfl (by kernel_rfl) rfl ?_
          intro K hK
          (apply x_store hF hM rfl rfl rfl; (repeat (first | exact Upd.z | apply Upd.s)); exact rfl; exact rfl; exact rfl; clear hF hM a; intro w a hM hF)
          refine hK _ _ (fun h => by cases h) ?_; clear hK
          refine t_done (by kernel_rfl) ?_
          (repeat' (first | (with_reducible refine q_blk_n ?_)))
          apply f_end Try.results53 hF hM
          · (repeat (first | exact RL.nil | (apply RL.tmp; exact rfl) | (apply RL.cell; exact rfl; (repeat (first | exact List.mem_cons_self | refine List.mem_cons_of_mem _ ?_)); exact rfl)))
          refine Both.mk ?_
          refine ⟨_, _, a3, c3, .slice (some ⟨g, 0, none⟩) (ls.length + cn) cap, hD, hc3, ?_⟩
          rw [List.length_append, List.length_replicate, List.flatten_append, List.map_append]
          exact hM.sub (.refl _) (.cons _ (.refl _)) (fun f hf => by rcases List.mem_cons.1 hf with rfl | hf; exact (by (repeat (first | exact List.mem_cons_self | refine List.mem_cons_of_mem _ ?_))); exact List.mem_cons_of_mem _ (List.mem_cons_of_mem _ (List.mem_cons_of_mem _ (List.mem_cons_of_mem _ hf))))
        ·
          intro K hK
          (refine x_callM (f := 61) hF rfl rfl rfl rfl (sec_ok _ hyb hys a1 c1 hc1 hM h8) ?_; clear hF hM a; rintro v w a ⟨rfl, a3, c3, hc3, hM⟩ hF)
          refine hK _ _ (fun _ => (hM.sm.sub (fun x hx => by repeat (first | exact hx | refine List.mem_cons_of_mem _ ?_)) (fun _ h => by repeat (first | exact h | refine List.mem_cons_of_mem _ ?_)))) ?_; clear hK
          refine t_two (i := 4) (j := 9) hF rfl rfl (by kernel_rfl) rfl rfl ?_ ?_
          ·
            intro K hK
            (first | (refine x_pure hF hM rfl rfl ?_ ?_; (first | exact trivial | omega | decide); clear hF a; intro a hF) | (apply x_load hF hM rfl; (repeat (first | exact List.mem_cons_self | refine List.mem_cons_of_mem _ ?_)); exact rfl; exact rfl; clear hF a; intro a hF))
            refine hK _ _ (fun _ => (hM.sm.sub (fun x hx => by repeat (first | exact hx | refine List.mem_cons_of_mem _ ?_)) (fun _ h => by repeat (first | exact h | refine List.mem_cons_of_mem _ ?_)))) ?_; clear hK
            refine t_one (i := 9) hF rfl (by kernel_rfl) rfl ?_
            intro K hK
            (refine x_lit hF hM rfl rfl rfl ?_; clear hF hM a; intro bl w a hM hF; replace hM := Mm.freeze hM; replace hM := hM.addFact (Has.lit (hM.facts _ List.mem_cons_self) (enc := Value.int .u8) [x0, x1, x2, x3, x4, x5, x6, x7] rfl))
            refine hK _ _ (fun _ => (hM.sm.sub (fun x hx => by repeat (first | exact hx | refine List.mem_cons_of_mem _ ?_)) (fun _ h => by repeat (first | exact h | refine List.mem_cons_of_mem _ ?_)))) ?_; clear hK
            refine t_one (i := 11) hF rfl (by kernel_rfl) rfl ?_
            intro K hK
            (apply x_callO hF; exact rfl; exact rfl; exact rfl; exact rfl; exact (repeat_c [x0, x1, x2, x3, x4, x5, x6, x7] rfl cn hc2 (by omega) (some ⟨bl, 0, none⟩) 1 _ _ hM.lt (hM.facts _ List.mem_cons_self)); clear hF a; rintro v wn a ⟨a5, c5, rfl, hO⟩ hS hF; replace hM := hM.addRows hS hO; clear hS hO; dsimp only [List.cons_append, List.nil_append] at hM)
            refine hK _ _ (fun _ => (hM.sm.sub (fun x hx => by repeat (first | exact hx | refine List.mem_cons_of_mem _ ?_)) (fun _ h => by repeat (first | exact h | refine List.mem_cons_of_mem _ ?_)))) ?_; clear hK
            refine t_one (i := 12) hF rfl (by kernel_rfl) rfl ?_
            intro K hK
            (obtain ⟨g5, rfl⟩ := row_some hM List.mem_cons_self (by omega); refine e_app hF hM (ys := ((List.replicate cn [x0, x1, x2, x3, x4, x5, x6, x7]).flatten).map (Value.int .u8)) rfl rfl rfl (.s .z) (rep_len _ rfl cn) (fun i u hi => (hM.mem.own.own _ List.mem_cons_self).cells (g := g5) rfl i u hi) (one_map _) (by omega) (by omega) ?_; clear hM; intro g cap w hM; dsimp only [List.set] at hM; replace hF := hF.put (d := 78) rfl (.slice (some ⟨g, 0, none⟩) (ls.length + cn) cap); generalize a.put (some 78) _ = a at *)
            refine hK _ _ (fun _ => (hM.sm.sub (fun x hx => by repeat (first | exact hx | refine List.mem_cons_of_mem _ ?_)) (fun _ h => by repeat (first | exact h | refine List.mem_cons_of_mem _ ?_)))) ?_; clear hK
            (first | (refine t_pure (i := 13) hF rfl rfl rfl rfl (by kernel_rfl) (hM.sm.sub (fun x hx => by repeat (first | exact hx | refine List.mem_cons_of_mem _ ?_)) (fun _ h => by repeat (first | exact h | refine List.mem_cons_of_mem _ ?_))) (fun _ _ _ h => h) ?_ ?_; (first | exact trivial | omega | decide); clear hF a; intro a hF))
            (first | (refine t_pure (i := 14) hF rfl rfl rfl rfl (by kernel_rfl) (hM.sm.sub (fun x hx => by repeat (first | exact hx | refine List.mem_cons_of_mem _ ?_)) (fun _ h => by repeat (first | exact h | refine List.mem_cons_of_mem _ ?_))) (fun _ _ _ h => h) ?_ ?_; (first | exact trivial | omega | decide); clear hF a; intro a hF))
            refine t_one (i := 15) hF rfl (by kernel_rfl) rfl ?_
            intro K hK
            (apply x_store hF hM rfl rfl rfl; (repeat (first | exact Upd.z | apply Upd.s)); exact rfl; exact rfl; exact rfl; clear hF hM a; intro w a hM hF)
            refine hK _ _ (fun h => by cases h) ?_; clear hK
            refine t_done (by kernel_rfl) ?_
            (repeat' (first | (with_reducible refine q_blk_n ?_)))
            apply f_end Try.results53 hF hM
            · (repeat (first | exact RL.nil | (apply RL.tmp; exact rfl) | (apply RL.cell; exact rfl; (repeat (first | exact List.mem_cons_self | refine List.mem_cons_of_mem _ ?_)); exact rfl)))
            refine Both.mk ?_
            refine ⟨_, _, a3, c3, .slice (some ⟨g, 0, none⟩) (ls.length + cn) cap, hD, hc3, ?_⟩
            rw [List.length_append, List.length_replicate, List.flatten_append, List.map_append]
            exact hM.sub (.refl _) (.cons _ (.refl _)) (fun f hf => by rcases List.mem_cons.1 hf with rfl | hf; exact (by (repeat (first | exact List.mem_cons_self | refine List.mem_cons_of_mem _ ?_))); exact List.mem_cons_of_mem _ (List.mem_cons_of_mem _ (List.mem_cons_of_mem _ (List.mem_cons_of_mem _ hf))))
          ·
            intro K hK
            (refine x_lit hF hM rfl rfl rfl ?_; clear hF hM a; intro bl w a hM hF; replace hM := Mm.freeze hM; replace hM := hM.addFact (Has.lit (hM.facts _ List.mem_cons_self) (enc := Value.int .u8) [x0, x1, x2, x3, x4, x5, x6, x7] rfl))
            refine hK _ _ (fun _ => (hM.sm.sub (fun x hx => by repeat (first | exact hx | refine List.mem_cons_of_mem _ ?_)) (fun _ h => by repeat (first | exact h | refine List.mem_cons_of_mem _ ?_)))) ?_; clear hK
            refine t_two (i := 4) (j := 11) hF rfl rfl (by kernel_rfl) rfl rfl ?_ ?_
            ·
              intro K hK
              (first | (refine x_pure hF hM rfl rfl ?_ ?_; (first | exact trivial | omega | decide); clear hF a; intro a hF) | (apply x_load hF hM rfl; (repeat (first | exact List.mem_cons_self | refine List.mem_cons_of_mem _ ?_)); exact rfl; exact rfl; clear hF a; intro a hF))
              refine hK _ _ (fun _ => (hM.sm.sub (fun x hx => by repeat (first | exact hx | refine List.mem_cons_of_mem _ ?_)) (fun _ h => by repeat (first | exact h | refine List.mem_cons_of_mem _ ?_)))) ?_; clear hK
              refine t_one (i := 11) hF rfl (by kernel_rfl) rfl ?_
              intro K hK
              (apply x_callO hF; exact rfl; exact rfl; exact rfl; exact rfl; exact (repeat_c [x0, x1, x2, x3, x4, x5, x6, x7] rfl cn hc2 (by omega) (some ⟨bl, 0, none⟩) 1 _ _ hM.lt (hM.facts _ List.mem_cons_self)); clear hF a; rintro v wn a ⟨a5, c5, rfl, hO⟩ hS hF; replace hM := hM.addRows hS hO; clear hS hO; dsimp only [List.cons_append, List.nil_append] at hM)
              refine hK _ _ (fun _ => (hM.sm.sub (fun x hx => by repeat (first | exact hx | refine List.mem_cons_of_mem _ ?_)) (fun _ h => by repeat (first | exact h | refine List.mem_cons_of_mem _ ?_)))) ?_; clear hK
              refine t_one (i := 12) hF rfl (by kernel_rfl) rfl ?_
              intro K hK
              (obtain ⟨g5, rfl⟩ := row_some hM List.mem_cons_self (by omega); refine e_app hF hM (ys := ((List.replicate cn [x0, x1, x2, x3, x4, x5, x6, x7]).flatten).map (Value.int .u8)) rfl rfl rfl (.s .z) (rep_len _ rfl cn) (fun i u hi => (hM.mem.own.own _ List.mem_cons_self).cells (g := g5) rfl i u hi) (one_map _) (by omega) (by omega) ?_; clear hM; intro g cap w hM; dsimp only [List.set] at hM; replace hF := hF.put (d := 78) rfl (.slice (some ⟨g, 0, none⟩) (ls.length + cn) cap); generalize a.put (some 78) _ = a at *)
              refine hK _ _ (fun _ => (hM.sm.sub (fun x hx => by repeat (first | exact hx | refine List.mem_cons_of_mem _ ?_)) (fun _ h => by repeat (first | exact h | refine List.mem_cons_of_mem _ ?_)))) ?_; clear hK
              (first | (refine t_pure (i := 13) hF rfl rfl rfl rfl (by kernel_rfl) (hM.sm.sub (fun x hx => by repeat (first | exact hx | refine List.mem_cons_of_mem _ ?_)) (fun _ h => by repeat (first | exact h | refine List.mem_cons_of_mem _ ?_))) (fun _ _ _ h => h) ?_ ?_; (first | exact trivial | omega | decide); clear hF a; intro a hF))
              (first | (refine t_pure (i := 14) hF rfl rfl rfl rfl (by kernel_rfl) (hM.sm.sub (fun x hx => by repeat (first | exact hx | refine List.mem_cons_of_mem _ ?_)) (fun _ h => by repeat (first | exact h | refine List.mem_cons_of_mem _ ?_))) (fun _ _ _ h => h) ?_ ?_; (first | exact trivial | omega | decide); clear hF a; intro a hF))
              refine t_one (i := 15) hF rfl (by kernel_rfl) rfl ?_
              intro K hK
              (apply x_store hF hM rfl rfl rfl; (repeat (first | exact Upd.z | apply Upd.s)); exact rfl; exact rfl; exact rfl; clear hF hM a; intro w a hM hF)
              refine hK _ _ (fun h => by cases h) ?_; clear hK
              refine t_done (by kernel_rfl) ?_
              (repeat' (first | (with_reducible refine q_blk_n ?_)))
              apply f_end Try.results53 hF hM
              · (repeat (first | exact RL.nil | (apply RL.tmp; exact rfl) | (apply RL.cell; exact rfl; (repeat (first | exact List.mem_cons_self | refine List.mem_cons_of_mem _ ?_)); exact rfl)))
              refine Both.mk ?_
              refine ⟨_, _, a3, c3, .slice (some ⟨g, 0, none⟩) (ls.length + cn) cap, hD, hc3, ?_⟩
              rw [List.length_append, List.length_replicate, List.flatten_append, List.map_append]
              exact hM.sub (.refl _) (.cons _ (.refl _)) (fun f hf => by rcases List.mem_cons.1 hf with rfl | hf; exact (by (repeat (first | exact List.mem_cons_self | refine List.mem_cons_of_mem _ ?_))); exact List.mem_cons_of_mem _ (List.mem_cons_of_mem _ (List.mem_cons_of_mem _ (List.mem_cons_of_mem _ hf))))
            ·
              intro K hK
              (apply x_callO hF; exact rfl; exact rfl; exact rfl; exact rfl; exact (repeat_c [x0, x1, x2, x3, x4, x5, x6, x7] rfl cn hc2 (by omega) (some ⟨bl, 0, none⟩) 1 _ _ hM.lt (hM.facts _ List.mem_cons_self)); clear hF a; rintro v wn a ⟨a5, c5, rfl, hO⟩ hS hF; replace hM := hM.addRows hS hO; clear hS hO; dsimp only [List.cons_append, List.nil_append] at hM)
              refine hK _ _ (fun _ => (hM.sm.sub (fun x hx => by repeat (first | exact hx | refine List.mem_cons_of_mem _ ?_)) (fun _ h => by repeat (first | exact h | refine List.mem_cons_of_mem _ ?_)))) ?_; clear hK
              refine t_one (i := 4) hF rfl (by kernel_rfl) rfl ?_
              intro K hK
              (first | (refine x_pure hF hM rfl rfl ?_ ?_; (first | exact trivial | omega | decide); clear hF a; intro a hF) | (apply x_load hF hM rfl; (repeat (first | exact List.mem_cons_self | refine List.mem_cons_of_mem _ ?_)); exact rfl; exact rfl; clear hF a; intro a hF))
              refine hK _ _ (fun _ => (hM.sm.sub (fun x hx => by repeat (first | exact hx | refine List.mem_cons_of_mem _ ?_)) (fun _ h => by repeat (first | exact h | refine List.mem_cons_of_mem _ ?_)))) ?_; clear hK
              refine t_one (i := 12) hF rfl (by kernel_rfl) rfl ?_
              intro K hK
              (obtain ⟨g5, rfl⟩ := row_some hM List.mem_cons_self (by omega); refine e_app hF hM (ys := ((List.replicate cn [x0, x1, x2, x3, x4, x5, x6, x7]).flatten).map (Value.int .u8)) rfl rfl rfl (.s .z) (rep_len _ rfl cn) (fun i u hi => (hM.mem.own.own _ List.mem_cons_self).cells (g := g5) rfl i u hi) (one_map _) (by omega) (by omega) ?_; clear hM; intro g cap w hM; dsimp only [List.set] at hM; replace hF := hF.put (d := 78) rfl (.slice (some ⟨g, 0, none⟩) (ls.length + cn) cap); generalize a.put (some 78) _ = a at *)
              refine hK _ _ (fun _ => (hM.sm.sub (fun x hx => by repeat (first | exact hx | refine List.mem_cons_of_mem _ ?_)) (fun _ h => by repeat (first | exact h | refine List.mem_cons_of_mem _ ?_)))) ?_; clear hK
              (first | (refine t_pure (i := 13) hF rfl rfl rfl rfl (by kernel_rfl) (hM.sm.sub (fun x hx => by repeat (first | exact hx | refine List.mem_cons_of_mem _ ?_)) (fun _ h => by repeat (first | exact h | refine List.mem_cons_of_mem _ ?_))) (fun _ _ _ h => h) ?_ ?_; (first | exact trivial | omega | decide); clear hF a; intro a hF))
              (first | (refine t_pure (i := 14) hF rfl rfl rfl rfl (by kernel_rfl) (hM.sm.sub (fun x hx => by repeat (first | exact hx | refine List.mem_cons_of_mem _ ?_)) (fun _ h => by repeat (first | exact h | refine List.mem_cons_of_mem _ ?_))) (fun _ _ _ h => h) ?_ ?_; (first | exact trivial | omega | decide); clear hF a; intro a hF))
              refine t_one (i := 15) hF rfl (by kernel_rfl) rfl ?_
              intro K hK
              (apply x_store hF hM rfl rfl rfl; (repeat (first | exact Upd.z | apply Upd.s)); exact rfl; exact rfl; exact rfl; clear hF hM a; intro w a hM hF)
              refine hK _ _ (fun h => by cases h) ?_; clear hK
              refine t_done (by kernel_rfl) ?_
              (repeat' (first | (with_reducible refine q_blk_n ?_)))
              apply f_end Try.results53 hF hM
              · (repeat (first | exact RL.nil | (apply RL.tmp; exact rfl) | (apply RL.cell; exact rfl; (repeat (first | exact List.mem_cons_self | refine List.mem_cons_of_mem _ ?_)); exact rfl)))
              refine Both.mk ?_
              refine ⟨_, _, a3, c3, .slice (some ⟨g, 0, none⟩) (ls.length + cn) cap, hD, hc3, ?_⟩
              rw [List.length_append, List.length_replicate, List.flatten_append, List.map_append]
              exact hM.sub (.refl _) (.cons _ (.refl _)) (fun f hf => by rcases List.mem_cons.1 hf with rfl | hf; exact (by (repeat (first | exact List.mem_cons_self | refine List.mem_cons_of_mem _ ?_))); exact List.mem_cons_of_mem _ (List.mem_cons_of_mem _ (List.mem_cons_of_mem _ (List.mem_cons_of_mem _ hf))))
      · rw [if_pos (by omega)] at hD
        refine c_drawS (fun i => Nat.ble 15 i) (fun x hx => List.mem_cons_of_mem _ (hx)) hM ?_; clear hM; intro w hM
        (first | (refine t_pure (i := 0) hF rfl rfl rfl rfl (by kernel_rfl) (hM.sm.sub (fun x hx => by repeat (first | exact hx | refine List.mem_cons_of_mem _ ?_)) (fun _ h => by repeat (first | exact h | refine List.mem_cons_of_mem _ ?_))) (fun _ _ _ h => h) ?_ ?_; (first | exact trivial | omega | decide); clear hF a; intro a hF))
        (first | (refine t_pure (i := 1) hF rfl rfl rfl rfl (by kernel_rfl) (hM.sm.sub (fun x hx => by repeat (first | exact hx | refine List.mem_cons_of_mem _ ?_)) (fun _ h => by repeat (first | exact h | refine List.mem_cons_of_mem _ ?_))) (fun _ _ _ h => h) ?_ ?_; (first | exact trivial | omega | decide); clear hF a; intro a hF))
        (first | (refine t_pure (i := 2) hF rfl rfl rfl rfl (by kernel_rfl) (hM.sm.sub (fun x hx => by repeat (first | exact hx | refine List.mem_cons_of_mem _ ?_)) (fun _ h => by repeat (first | exact h | refine List.mem_cons_of_mem _ ?_))) (fun _ _ _ h => h) ?_ ?_; (first | exact trivial | omega | decide); clear hF a; intro a hF))
        (first | (refine t_pure (i := 3) hF rfl rfl rfl rfl (by kernel_rfl) (hM.sm.sub (fun x hx => by repeat (first | exact hx | refine List.mem_cons_of_mem _ ?_)) (fun _ h => by repeat (first | exact h | refine List.mem_cons_of_mem _ ?_))) (fun _ _ _ h => h) ?_ ?_; (first | exact trivial | omega | decide); clear hF a; intro a hF))
        (first | (refine t_pure (i := 5) hF rfl rfl rfl rfl (by kernel_rfl) (hM.sm.sub (fun x hx => by repeat (first | exact hx | refine List.mem_cons_of_mem _ ?_)) (fun _ h => by repeat (first | exact h | refine List.mem_cons_of_mem _ ?_))) (fun _ _ _ h => h) ?_ ?_; (first | exact trivial | omega | decide); clear hF a; intro a hF))
        (first | (refine t_pure (i := 6) hF rfl rfl rfl rfl (by kernel_rfl) (hM.sm.sub (fun x hx => by repeat (first | exact hx | refine List.mem_cons_of_mem _ ?_)) (fun _ h => by repeat (first | exact h | refine List.mem_cons_of_mem _ ?_))) (fun _ _ _ h => h) ?_ ?_; (first | exact trivial | omega | decide); clear hF a; intro a hF))
        (first | (refine t_pure (i := 7) hF rfl rfl rfl rfl (by kernel_rfl) (hM.sm.sub (fun x hx => by repeat (first | exact hx | refine List.mem_cons_of_mem _ ?_)) (fun _ h => by repeat (first | exact h | refine List.mem_cons_of_mem _ ?_))) (fun _ _ _ h => h) ?_ ?_; (first | exact trivial | omega | decide); clear hF a; intro a hF))
        (first | (refine t_pure (i := 10) hF rfl rfl rfl rfl (by kernel_rfl) (hM.sm.sub (fun x hx => by repeat (first | exact hx | refine List.mem_cons_of_mem _ ?_)) (fun _ h => by repeat (first | exact h | refine List.mem_cons_of_mem _ ?_))) (fun _ _ _ h => h) ?_ ?_; (first | exact trivial | omega | decide); clear hF a; intro a hF))
        refine t_two (i := 4) (j := 8) hF rfl rfl (by kernel_rfl) rfl rfl ?_ ?_
        ·
          intro K hK
          (first | (refine x_pure hF hM rfl rfl ?_ ?_; (first | exact trivial | omega | decide); clear hF a; intro a hF) | (apply x_load hF hM rfl; (repeat (first | exact List.mem_cons_self | refine List.mem_cons_of_mem _ ?_)); exact rfl; exact rfl; clear hF a; intro a hF))
          refine hK _ _ (fun _ => (hM.sm.sub (fun x hx => by repeat (first | exact hx | refine List.mem_cons_of_mem _ ?_)) (fun _ h => by repeat (first | exact h | refine List.mem_cons_of_mem _ ?_)))) ?_; clear hK
          refine t_one (i := 8) hF rfl (by kernel_rfl) rfl ?_
          intro K hK
          (refine x_callB (f := 61) hF rfl rfl rfl rfl (sec_err _ hyb hys a1 c1 hc1 hM (by omega)) (fun c w a hE hF => ?_) (fun _ _ _ h => h.elim); obtain ⟨rfl, bs1, Fs1, hM⟩ := hE; (repeat' (first | (with_reducible refine q_blk_p ?_))); refine f_panic hF ?_; exact Both.panic ⟨10, _, _, _, hD, rfl, hM⟩)
        ·
          intro K hK
          (refine x_callB (f := 61) hF rfl rfl rfl rfl (sec_err _ hyb hys a1 c1 hc1 hM (by omega)) (fun c w a hE hF => ?_) (fun _ _ _ h => h.elim); obtain ⟨rfl, bs1, Fs1, hM⟩ := hE; (repeat' (first | (with_reducible refine q_blk_p ?_))); refine f_panic hF ?_; exact Both.panic ⟨10, _, _, _, hD, rfl, hM⟩)
    · rw [if_neg (by omega), if_neg (by omega), if_neg (by omega)] at hD
      apply f_end Try.results53 hF hM
      · (repeat (first | exact RL.nil | (apply RL.tmp; exact rfl) | (apply RL.cell; exact rfl; (repeat (first | exact List.mem_cons_self | refine List.mem_cons_of_mem _ ?_)); exact rfl)))
      refine Both.mk ?_
      refine ⟨ys, _, a1, c1, .slice (some ⟨g, 0, none⟩) (ls.length + cn) cap, hD, hc1, ?_⟩
      have hz : zerosL [.int .u8 0, .int .u8 0, .int .u8 0, .int .u8 0, .int .u8 0, .int .u8 0, .int .u8 0, .int .u8 0] cn = ((List.replicate cn zr).flatten).map (Value.int .u8) := zerosL_ints (k := .u8) (m := 8) cn
      rw [List.length_append, List.length_replicate, List.flatten_append, List.map_append, ← hz]
      exact hM
  · refine f_start Try.func53 rfl Try.ntmps53 rfl rfl ?_; intro a hF
    (repeat' (first | (with_reducible refine w_seq ?_) | (with_reducible refine c_region ?_) | ((with_reducible apply s_callB (f := 60) hF); exact rfl; exact rfl; exact rfl; exact rfl; exact rfl; exact (rnum_err xs hxb hlen a0 c0 hc0 hM he); rotate_left; (intro _ _ _ h; exact h.elim); clear hF hM a; rintro c w a ⟨rfl, bs1, Fs1, hM⟩ hF) | (with_reducible refine q_then_p ?_) | ((with_reducible apply s_pure hF); exact rfl; exact rfl; exact rfl; (first | exact trivial | omega | exact ⟨Int.natCast_nonneg _, Int.ofNat_lt.2 (by assumption)⟩ | decide); clear hF a; intro a hF)))
    refine f_panic hF ?_
    exact Both.panic ⟨_, _, _, _, by unfold grpD; rw [if_pos he], rfl, hM⟩
end
end Go.Proofs.Ytocgpllmfdnfjaa

/- Deferred calls and recover. -/
namespace Go.Proofs.Ytocgpllmfdnfjaa
open Go.RowKit Go.Shelf
section
variable {n : Nat} {ds : List Deferred} {l : List (Nat × Value)} {a : Act} {w w' w0 : World} {own : Nat → Prop} {bs : List BoxE} {L : List Ent} {Fs : List (World → Prop)}
variable {os rest : List Oper} {Q : Exit → Act → World → Prop} {K : Act → World → Prop}
variable {d : Nat} {op : Op} {ty : TypeId} {pos : String} {af : Array Edge} {g : Option (Nat × Bool)}
/-- A deferred call of a closure. -/
def defF (f : FuncId) (ca : List Value) : Deferred := { target := .fn (.func f) ⟨ca⟩, args := #[] }
theorem s_defer {f : FuncId} {X : Operand} {ts : Array TypeId} {ca : List Value} (hF : Fr n ds l a) (hg : wantO os l g = some true) (hX : ev l X = some (.func (.func f) #[] ⟨ca⟩))
    (kk : ∀ a, Fr n (defF f ca :: ds) l a → wl ⟨os⟩ Q rest a w) : wl ⟨os⟩ Q (⟨none, .defer ⟨.value X, ⟨[]⟩, ts⟩, ty, pos, af, g⟩ :: rest) a w := by
  refine s_op hF hg fun K hK => ?_
  have hr : (execOp a.eval ⟨none, .defer ⟨.value X, ⟨[]⟩, ts⟩, ty, pos, af, g⟩).run Try.prog w = .ok (.defer (defF f ca)) w := by
    simp [execOp, resolve, hF.eval hX, Deferred.ofValue, Sem.run_bind, Result.andThen, defF]
  unfold Oper.wp
  rw [hr]
  refine hK _ _ (kk _ ⟨hF.size, ?_, hF.get⟩)
  show _ :: a.defers = _
  rw [hF.defs]
theorem f_startD {f : FuncId} {fn : Func} {c : Code} {vs : List Value} {R : Ending → World → Prop} (hf : Try.prog.funcs[f]? = some fn) (hb : fn.body = some c) (hn : fn.ntmps = n) (hl : Nat.ble vs.length n = true) (hs : startO 0 vs = some l)
    (k : ∀ a, Fr n [] l a → Wk none c (bodyPostD Try.prog fn R) a w) : Calls Try.prog f ⟨vs⟩ w R := by
  have := Fr.start (vs := vs) hn hl
  rw [startO_ok hs] at this
  exact calls_of_wp_defers hf hb (k _ this)
/-- One deferred closure is left to run. -/
theorem leave1 {fn : Func} {R : Ending → World → Prop} {fd : FuncId} {ca : List Value} {u : FrameMode} (hdef : a.defers = [defF fd ca]) (hu : u ≠ .run) (he : memB entL fd = true)
    (hD : CallsD Try.prog fd ⟨ca⟩ u w fun e u' w' => (∃ v, e = .returned v) ∧ settle u' = .returning ∧ ∃ rv, (results fn a.tmps).run Try.prog w' = .ok rv w' ∧ R (.returned rv) w') : Leaves Try.prog fn a.tmps R a.defers u w := by
  rw [hdef]
  refine ⟨hu, .func fd, ⟨ca⟩, fd, ⟨ca⟩, rfl, ?_, ?_⟩
  · have := entL_ok (memB_ok he) ⟨ca⟩ w
    simp [defF, invoke, Sem.run_bind, this]
  · intro c cs hc
    obtain ⟨e, u', w', fr, ⟨⟨v, rfl⟩, h2, rv, h3, h4⟩, h5⟩ := hD c cs hc
    refine ⟨_, u', w', fr, ?_, h5⟩
    show Leaves Try.prog fn a.tmps R [] (settle u') w'
    rw [h2]
    exact ⟨rv, h3, h4⟩
theorem f_retD {fn : Func} {R : Ending → World → Prop} {fd : FuncId} {ca : List Value} (hF : Fr n [defF fd ca] l a) (he : memB entL fd = true)
    (hD : CallsD Try.prog fd ⟨ca⟩ .returning w fun e u' w' => (∃ v, e = .returned v) ∧ settle u' = .returning ∧ ∃ rv, (results fn a.tmps).run Try.prog w' = .ok rv w' ∧ R (.returned rv) w') : bodyPostD Try.prog fn R .ret a w :=
  leave1 hF.defs (fun h => by cases h) he hD
theorem f_panicD {fn : Func} {R : Ending → World → Prop} {fd : FuncId} {ca : List Value} {c : List PanicEntry} (hF : Fr n [defF fd ca] l a) (he : memB entL fd = true)
    (hD : CallsD Try.prog fd ⟨ca⟩ (.panicking c) w fun e u' w' => (∃ v, e = .returned v) ∧ settle u' = .returning ∧ ∃ rv, (results fn a.tmps).run Try.prog w' = .ok rv w' ∧ R (.returned rv) w') : bodyPostD Try.prog fn R (.panic c) a w :=
  leave1 hF.defs (fun h => by cases h) he hD
theorem CallsD.mono {P : Program} {f : FuncId} {args : Array Value} {u : FrameMode} {w : World} {R R' : Ending → FrameMode → World → Prop} (h : CallsD P f args u w R) (hr : ∀ e u w, R e u w → R' e u w) : CallsD P f args u w R' := by
  intro c cs hc
  obtain ⟨e, u', w', fr, h1, h2⟩ := h c cs hc
  exact ⟨e, u', w', fr, hr _ _ _ h1, h2⟩
/-! recover -/
theorem wl_opsS {QS : Exit → Act → List Frame → World → Prop} {cs : List Frame} {ops : Array Oper} : ∀ {rest : List Oper} {k : Nat} {a : Act} {w : World}, (∀ j, rest[j]? = ops[k + j]?) → wl ops (fun e a w => QS e a cs w) rest a w → wpOpsS Try.prog ops QS (List.range' k rest.length) a cs w
  | [], _, _, _, _, h => h
  | o :: rest, k, a, w, hr, h => by
    have h0 : ops[k]? = some o := by simpa using (hr 0).symm
    have hr' : ∀ j, rest[j]? = ops[k + 1 + j]? := fun j => by have := hr (j + 1); simpa [Nat.add_assoc, Nat.add_comm 1 j] using this
    unfold wl at h
    rw [List.length_cons, List.range'_succ, wpOpsS, h0]
    simp only
    split
    · rename_i hw
      rw [if_pos hw] at h
      unfold Oper.wp at h
      generalize (execOp a.eval o).run Try.prog w = r at h ⊢
      cases r with
      | ok x w' =>
        cases x <;> simp only [Oper.upon] at h ⊢ <;> first
          | exact wl_opsS hr' h
          | exact h.elim
          | (refine Calls.mono h ?_; intro e w' h; cases e <;> first | exact wl_opsS hr' h | exact h)
          | (intro c cs'; obtain ⟨v, w', h1, h2⟩ := h c cs'; exact ⟨v, w', wl_opsS hr' h1, h2⟩)
      | halt x w' => cases x <;> simp only [Oper.upon] at h ⊢ <;> first | exact h | exact h.elim
    · rename_i hw
      rw [if_neg hw] at h
      exact wl_opsS hr' h
/-- A region that begins with recover. -/
theorem c_recover {QS : Exit → Act → List Frame → World → Prop} {cs cs' : List Frame} {v : Value} {id : Nat} {ts : Array TypeId} (hF : Fr n ds l a) (hd : Nat.blt d n = true) (hv : (recoverD cs = some (v, cs')) ∨ (recoverD cs = none ∧ v = .nilIface ∧ cs' = cs))
    (h : ∀ a, Fr n ds ((d, v) :: l) a → wl ⟨⟨some d, .call ⟨.builtin .recover, ⟨[]⟩, ts⟩, ty, pos, af, none⟩ :: rest⟩ (fun e a w => QS e a cs' w) rest a w) :
    (Code.region id ⟨⟨some d, .call ⟨.builtin .recover, ⟨[]⟩, ts⟩, ty, pos, af, none⟩ :: rest⟩ false).wpS Try.prog QS a cs w := by
  refine wpS_region ?_
  have hl : (⟨⟨some d, .call ⟨.builtin .recover, ⟨[]⟩, ts⟩, ty, pos, af, none⟩ :: rest⟩ : Array Oper).size = rest.length + 1 := by simp
  rw [hl, List.range_eq_range', List.range'_succ, wpOpsS]
  simp only [List.getElem?_toArray, List.getElem?_cons_zero, Region.wanted, if_true]
  have hx : (execOp a.eval ⟨some d, .call ⟨.builtin .recover, ⟨[]⟩, ts⟩, ty, pos, af, none⟩).run Try.prog w = .ok .recover w := by
    simp [execOp, resolve, invoke, builtin, Sem.run_bind, Result.andThen]
  rw [hx]
  simp only
  have hk := wl_opsS (k := 1) (QS := QS) (cs := cs') (ops := ⟨⟨some d, .call ⟨.builtin .recover, ⟨[]⟩, ts⟩, ty, pos, af, none⟩ :: rest⟩) (rest := rest) (fun j => by simp [Nat.add_comm 1 j]) (h _ (hF.put hd v))
  rcases hv with hv | ⟨hv, rfl, rfl⟩
  · rw [hv]; exact hk
  · rw [hv]; exact hk
theorem f_startS {f : FuncId} {fn : Func} {c : Code} {vs : List Value} {u : FrameMode} {R : Ending → FrameMode → World → Prop} (hf : Try.prog.funcs[f]? = some fn) (hb : fn.body = some c) (hn : fn.ntmps = n) (hl : Nat.ble vs.length n = true) (hs : startO 0 vs = some l)
    (k : ∀ (c₀ : Frame) (cs : List Frame), c₀.mode = u → ∀ a, Fr n [] l a → c.wpS Try.prog (bodyPostS Try.prog fn c₀ cs R) a (c₀ :: cs) w) : CallsD Try.prog f ⟨vs⟩ u w R := by
  have := Fr.start (vs := vs) hn hl
  rw [startO_ok hs] at this
  exact callsD_of_wpS hf hb fun c₀ cs hc => k c₀ cs hc _ this
/-- A type assertion that holds. -/
def plainT (t : TypeId) : Bool := match tyD t with
  | some (.interface _) => false
  | some _ => true
  | none => false
theorem s_tas {X : Operand} {t xt : TypeId} {v : Value} (hF : Fr n ds l a) (hg : wantO os l g = some true) (hX : ev l X = some (.iface t v)) (ht : plainT t = true) (hd : Nat.blt d n = true)
    (kk : ∀ a, Fr n ds ((d, .tuple #[v, .bool true]) :: l) a → wl ⟨os⟩ Q rest a w) : wl ⟨os⟩ Q (⟨some d, .typeAssert X xt t true, ty, pos, af, g⟩ :: rest) a w := by
  refine s_op hF hg fun _ hK => upon_value (v := .tuple #[v, .bool true]) ?_ (hK _ _ (kk _ (hF.put hd _)))
  unfold plainT at ht
  cases hq : tyD t with
  | none => rw [hq] at ht; cases ht
  | some D =>
    rw [hq] at ht
    simp only [execOp, hF.eval hX]
    cases D <;> simp [Instr.typeAssert, Sem.run_bind, tyD_run hq, Result.andThen] at ht ⊢
end
end Go.Proofs.Ytocgpllmfdnfjaa

/- runlength: Decode. -/
namespace Go.Proofs.Ytocgpllmfdnfjaa
open Go.RowKit Go.Shelf
section
variable {n : Nat} {ds : List Deferred} {l : List (Nat × Value)} {a : Act} {w w0 : World} {own : Nat → Prop} {bs : List BoxE} {L : List Ent} {Fs : List (World → Prop)}
/-- The one deferred closure runs, and the results are read. -/
theorem f_leaveD {fn : Func} {rs : List ResultVar} {vs : List Value} {R : Ending → World → Prop} {fd : FuncId} {ca : List Value} {u : FrameMode} (hr : fn.results = ⟨rs⟩) (hF : Fr n [defF fd ca] l a) (he : memB entL fd = true) (hv : RL l bs rs vs) (hu : u ≠ .run)
    (hD : CallsD Try.prog fd ⟨ca⟩ u w fun e u' w' => (∃ v, e = .returned v) ∧ settle u' = .returning ∧ Mm own w0 bs L Fs w') (hR : ∀ w', Mm own w0 bs L Fs w' → R (.returned (resV vs)) w') : Leaves Try.prog fn a.tmps R a.defers u w :=
  leave1 hF.defs hu he (hD.mono fun _ _ _ ⟨h1, h2, h3⟩ => ⟨h1, h2, _, f_res hr hF h3 hv, hR _ h3⟩)
/-- A row of cells, as a fact. -/
theorem Mm.rowF {α : Type} {enc : α → Value} (m : Mm own w0 bs L Fs w) {e : TypeId} {size : Nat} {ao : Option Addr} {k c : Nat} {xs : List α} (h : (⟨e, size, .slice ao k c, k, xs.map enc⟩ : Ent) ∈ L) : Has own w (RdF enc ao xs) := by
  have ho := m.mem.own.own _ h
  refine RdF.has ?_ ?_
  · intro i x hx
    obtain ⟨hlen, hr⟩ := ho
    rcases hr with ⟨h1, h2⟩ | ⟨g, cap, cur, h1, h2, h3, h4⟩
    · simp only at hlen h2
      rw [h2, Nat.zero_mul, List.length_map] at hlen
      have := (List.getElem?_eq_some_iff.1 hx).1
      omega
    · simp only [Value.slice.injEq] at h1
      obtain ⟨rfl, _, rfl⟩ := h1
      have hc := (m.mem.own.own _ h).cells (g := g) rfl i (enc x) (by simp [hx])
      rw [add_lit] at hc
      exact ⟨g, 0, rfl, (Array.getElem?_eq_some_iff.1 h3).1, hc⟩
  · rintro ad rfl hn
    have h1 := m.mem.own.lt h ad.block rfl
    have := m.low _ hn
    omega
end
section
variable {own : Nat → Prop} {w0 w : World} {L : List Ent} {Fs : List (World → Prop)} {b4 b5 : Nat} {v4 : Value} {e5 : Int}
set_option maxRecDepth 20000 in
theorem dec1_panic (e : Int) (hM : Mm own w0 [⟨b5, ⟨[.int .i64 e5]⟩, 27⟩, ⟨b4, ⟨[v4]⟩, 33⟩] L Fs w) : CallsD Try.prog 52 ⟨[.pointer (some ⟨b4, 0, none⟩), .pointer (some ⟨b5, 0, none⟩)]⟩ (.panicking (fail e)) w
    fun e' u' w' => (∃ v, e' = .returned v) ∧ settle u' = .returning ∧ Mm own w0 [⟨b5, ⟨[.int .i64 e]⟩, 27⟩, ⟨b4, ⟨[.slice none 0 0]⟩, 33⟩] L Fs w' := by
  refine f_startS Try.func52 rfl Try.ntmps52 rfl rfl ?_; intro c₀ cs hmode a hF
  have hrec : recoverD (c₀ :: cs) = some (.iface 90 (.agg #[.int .i64 e]), { c₀ with mode := .panicking [{ v := .iface 90 (.agg #[.int .i64 e]), recovered := true }] } :: cs) := by
    rw [recoverD]
    simp only [hmode, fail]
  refine wpS_seq ?_
  apply c_recover hF
  · exact rfl
  · exact .inl hrec
  clear hF a
  intro a hF
  (repeat (first | (with_reducible refine s_nil ?_) | ((with_reducible apply s_pure hF); exact rfl; exact rfl; exact rfl; (first | exact trivial | omega | exact ⟨Int.natCast_nonneg _, Int.ofNat_lt.2 (by assumption)⟩ | decide); clear hF a; intro a hF)))
  show Code.wpS _ _ _ _ _ _
  refine wpS_of_wp ?_
  show Wk none _ _ _ _
  (repeat' (first | (with_reducible refine w_seq ?_) | (with_reducible refine c_region ?_) | (with_reducible refine s_nil ?_) | ((with_reducible apply s_tas hF); exact rfl; exact rfl; exact rfl; exact rfl; clear hF a; intro a hF) | ((with_reducible apply s_eqn hF); exact rfl; exact rfl; exact rfl; exact rfl; exact rfl; exact rfl; clear hF a; intro a hF) | (with_reducible refine q_then_n ?_) | ((with_reducible apply s_pure hF); exact rfl; exact rfl; exact rfl; (first | exact trivial | omega | exact ⟨Int.natCast_nonneg _, Int.ofNat_lt.2 (by assumption)⟩ | decide); clear hF a; intro a hF) | ((with_reducible apply s_load hF hM); exact rfl; exact rfl; (repeat (first | exact List.mem_cons_self | refine List.mem_cons_of_mem _ ?_)); exact rfl; exact rfl; clear hF a; intro a hF) | ((with_reducible apply s_store hF hM); exact rfl; exact rfl; exact rfl; exact rfl; (repeat (first | exact Upd.z | apply Upd.s)); exact rfl; exact rfl; exact rfl; clear hM; intro w hM) | ((with_reducible apply s_alloc hF hM); exact rfl; exact rfl; exact rfl; clear hF hM a; intro b w a hM hF) | ((with_reducible apply c_true2 hF); exact rfl; (first | with_reducible rfl | (refine congrArg Value.bool ?_; focus (simp; done))))))
  refine ⟨hF.defs, _, rfl, _, f_res (rs := []) (vs := []) rfl hF hM .nil, ⟨_, rfl⟩, rfl, ?_⟩
  exact hM.sub (.cons _ (.refl _)) (.refl _) (fun _ h => h)
set_option maxRecDepth 20000 in
theorem dec1_ret {bs : List BoxE} (p4 p5 : Value) (hM : Mm own w0 bs L Fs w) : CallsD Try.prog 52 ⟨[p4, p5]⟩ .returning w
    fun e' u' w' => (∃ v, e' = .returned v) ∧ settle u' = .returning ∧ Mm own w0 bs L Fs w' := by
  refine f_startS Try.func52 rfl Try.ntmps52 rfl rfl ?_; intro c₀ cs hmode a hF
  have hrec : recoverD (c₀ :: cs) = none := by
    rw [recoverD]
    simp only [hmode]
  refine wpS_seq ?_
  apply c_recover hF
  · exact rfl
  · exact .inr ⟨hrec, rfl, rfl⟩
  clear hF a
  intro a hF
  (repeat (first | (with_reducible refine s_nil ?_) | ((with_reducible apply s_pure hF); exact rfl; exact rfl; exact rfl; (first | exact trivial | omega | exact ⟨Int.natCast_nonneg _, Int.ofNat_lt.2 (by assumption)⟩ | decide); clear hF a; intro a hF)))
  show Code.wpS _ _ _ _ _ _
  refine wpS_of_wp ?_
  show Wk none _ _ _ _
  (repeat' (first | (with_reducible refine w_seq ?_) | (with_reducible refine c_region ?_) | (with_reducible refine s_nil ?_) | ((with_reducible apply s_eqn hF); exact rfl; exact rfl; exact rfl; exact rfl; exact rfl; exact rfl; clear hF a; intro a hF) | (with_reducible refine q_then_n ?_) | ((with_reducible apply s_pure hF); exact rfl; exact rfl; exact rfl; (first | exact trivial | omega | exact ⟨Int.natCast_nonneg _, Int.ofNat_lt.2 (by assumption)⟩ | decide); clear hF a; intro a hF) | (with_reducible refine w_skip ?_) | ((with_reducible apply c_false2 hF); exact rfl; (first | with_reducible rfl | (refine congrArg Value.bool ?_; focus (simp; done))))))
  refine ⟨hF.defs, .returning, ?_, _, f_res (rs := []) (vs := []) rfl hF hM .nil, ⟨_, rfl⟩, rfl, hM⟩
  rw [← hmode]
end
/-- All groups that are read. -/
def decF (most : Nat) : Nat → List Int → List (List Int) → Except Int (List (List Int))
  | 0, _, ls => .ok ls
  | f + 1, xs, ls => if xs.length = 0 then .ok ls else match grpD most xs ls with
    | .error e => .error e
    | .ok (zs, ls') => decF most f zs ls'
/-- What Decode answers. -/
def dec (most : Nat) (b : List Int) : Except Int (List (List Int)) := match decF most b.length b [] with
  | .error e => .error e
  | .ok ls => if enc ls = b then .ok ls else .error 3
theorem decF_err {most f : Nat} {xs : List Int} {ls : List (List Int)} {e : Int} (h0 : xs.length ≠ 0) (h : grpD most xs ls = .error e) : decF most (f + 1) xs ls = .error e := by
  rw [decF, if_neg h0, h]
theorem decF_ok {most f : Nat} {xs zs : List Int} {ls ls' : List (List Int)} (h0 : xs.length ≠ 0) (h : grpD most xs ls = .ok (zs, ls')) : decF most (f + 1) xs ls = decF most f zs ls' := by
  rw [decF, if_neg h0, h]
theorem decF_nil {most f : Nat} {xs : List Int} {ls : List (List Int)} (h0 : xs.length = 0) : decF most f xs ls = .ok ls := by
  cases f with
  | zero => rfl
  | succ f => rw [decF, if_pos h0]
theorem dec_err {most : Nat} {b : List Int} {e : Int} (h : decF most b.length b [] = .error e) : dec most b = .error e := by unfold dec; rw [h]
theorem dec_ok {most : Nat} {b : List Int} {ls : List (List Int)} (h : decF most b.length b [] = .ok ls) : dec most b = if enc ls = b then .ok ls else .error 3 := by unfold dec; rw [h]
theorem rdN_used : ∀ (f i : Nat) (n : Int) (xs : List Int), (rdN xs f i n).2.1 = 0 → i + 1 ≤ (rdN xs f i n).2.2 ∧ (rdN xs f i n).2.2 ≤ xs.length ∧ (rdN xs f i n).2.2 ≤ i + f
  | 0, _, _, _, h => by rw [rdN] at h; cases h
  | f + 1, i, n, xs, h => by
    cases hb : xs[i]? with
    | none => rw [rdN_none hb] at h; cases h
    | some b =>
      rw [rdN_some hb] at h ⊢
      have := (List.getElem?_eq_some_iff.1 hb).1
      split
      · rename_i h1
        rw [if_pos h1] at h
        have := rdN_used f (i + 1) _ xs h
        omega
      · rename_i h1
        rw [if_neg h1] at h
        split
        · rename_i h2
          rw [if_pos h2] at h
          cases h
        · simp only
          omega
theorem chunks_8 : ∀ (c : Nat) (ys : List Int), 8 * c ≤ ys.length → W8 (chunks c ys)
  | 0, _, _ => by intro y hy; cases hy
  | c + 1, ys, h => by
    intro y hy
    rw [chunks] at hy
    rcases List.mem_cons.1 hy with rfl | hy
    · rw [List.length_take]; omega
    · exact chunks_8 c (ys.drop 8) (by rw [List.length_drop]; omega) y hy
theorem W8.app {l m : List (List Int)} (h : W8 l) (k : W8 m) : W8 (l ++ m) := fun y hy => (List.mem_append.1 hy).elim (h y) (k y)
theorem W8.rep {s : List Int} (h : s.length = 8) (c : Nat) : W8 (List.replicate c s) := fun y hy => by rw [List.eq_of_mem_replicate hy]; exact h
def By (xs : List Int) : Prop := ∀ x ∈ xs, 0 ≤ x ∧ x < 256
/-- Sectors of bytes. -/
def B8 (l : List (List Int)) : Prop := ∀ s ∈ l, By s
theorem By.take {xs : List Int} (h : By xs) (k : Nat) : By (xs.take k) := fun x hx => h x (List.mem_of_mem_take hx)
theorem By.drop {xs : List Int} (h : By xs) (k : Nat) : By (xs.drop k) := fun x hx => h x (List.mem_of_mem_drop hx)
theorem B8.app {l m : List (List Int)} (h : B8 l) (k : B8 m) : B8 (l ++ m) := fun y hy => (List.mem_append.1 hy).elim (h y) (k y)
theorem B8.rep {s : List Int} (h : By s) (c : Nat) : B8 (List.replicate c s) := fun y hy => by rw [List.eq_of_mem_replicate hy]; exact h
theorem B8.flat {l : List (List Int)} (h : B8 l) : By l.flatten := fun x hx => by
  obtain ⟨s, hs, hx⟩ := List.mem_flatten.1 hx
  exact h s hs x hx
theorem chunks_B : ∀ (c : Nat) (ys : List Int), By ys → B8 (chunks c ys)
  | 0, _, _ => by intro y hy; cases hy
  | c + 1, ys, h => by
    intro y hy
    rw [chunks] at hy
    rcases List.mem_cons.1 hy with rfl | hy
    · exact h.take 8
    · exact chunks_B c (ys.drop 8) (h.drop 8) y hy
theorem zr_By : By zr := by intro x hx; simp at hx; omega
theorem puts_By (n : Nat) : By (puts n) := by
  induction n using Nat.strongRecOn with
  | _ n ih =>
    by_cases h : n < 128
    · rw [puts_lt h]
      intro x hx
      simp at hx
      omega
    · rw [puts_ge h]
      intro x hx
      rcases List.mem_cons.1 hx with rfl | hx
      · omega
      · exact ih (n / 128) (by omega) x hx
theorem enc_bytes {l : List (List Int)} (h : B8 l) : By (enc l) := by
  intro x hx
  unfold enc at hx
  obtain ⟨i, _, hx⟩ := List.mem_flatMap.1 hx
  unfold encG encS at hx
  rcases List.mem_append.1 hx with hx | hx
  · exact puts_By _ x hx
  · exact B8.flat (fun s hs => h s (List.mem_of_mem_drop (List.mem_of_mem_take hs))) x hx
/-- What a group that is read leaves. -/
theorem grpD_ok {most : Nat} {xs zs : List Int} {ls ls' : List (List Int)} (h : grpD most xs ls = .ok (zs, ls')) : ∃ k, 1 ≤ k ∧ k ≤ xs.length ∧ zs = xs.drop k ∧ ls'.length ≤ most ∧ ls.length < ls'.length ∧ (W8 ls → W8 ls') ∧ (By xs → B8 ls → B8 ls') := by
  unfold grpD at h
  split at h
  · cases h
  rename_i he
  have he : (rdNum xs).2.1 = 0 := by simpa using he
  have hu := rdN_used 8 0 0 xs he
  rw [show rdN xs 8 0 0 = rdNum xs from rfl] at hu
  simp only at h
  generalize (rdNum xs).1.toNat = N at h
  generalize (rdNum xs).2.2 = k at h hu
  split at h
  · cases h
  rename_i h1
  split at h
  · cases h
  rename_i h2
  have hd := List.length_drop (i := k) (l := xs)
  split at h
  · split at h
    · cases h
    · rename_i h3 h4
      injection h with h
      injection h with ha hb
      subst ha hb
      refine ⟨k + 8 * (N / 4), by omega, by omega, by rw [List.drop_drop], ?_, ?_, fun hw => hw.app (chunks_8 _ _ (by omega)), fun hx hb => hb.app (chunks_B _ _ (hx.drop _))⟩
      · rw [List.length_append, chunks_len]; omega
      · rw [List.length_append, chunks_len]; omega
  · split at h
    · split at h
      · cases h
      · rename_i h3 h4 h5
        injection h with h
        injection h with ha hb
        subst ha hb
        refine ⟨k + 8, by omega, by omega, by rw [List.drop_drop], ?_, ?_, fun hw => hw.app (W8.rep (by rw [List.length_take]; omega) _), fun hx hb => hb.app (B8.rep ((hx.drop _).take _) _)⟩
        · rw [List.length_append, List.length_replicate]; omega
        · rw [List.length_append, List.length_replicate]; omega
    · injection h with h
      injection h with ha hb
      subst ha hb
      refine ⟨k, by omega, by omega, rfl, ?_, ?_, fun hw => hw.app (W8.rep rfl _), fun hx hb => hb.app (B8.rep zr_By _)⟩
      · rw [List.length_append, List.length_replicate]; omega
      · rw [List.length_append, List.length_replicate]; omega
section
variable (xs : List Int) (hxb : ∀ x ∈ xs, 0 ≤ x ∧ x < 256) (hlen : xs.length ≤ 1000000) (a0 : Option Addr) (c0 : Nat) (hc0 : xs.length ≤ c0) (most : Nat) (hmost : most ≤ 4096) (ls : List (List Int)) (hls : W8 ls) (hlm : ls.length ≤ most) {own : Nat → Prop} {w0 W : World} {bs : List BoxE} {L : List Ent} {Fs : List (World → Prop)} {b : Nat} {ov : Value}
  (hM : Mm own w0 (⟨b, ⟨[.slice a0 xs.length c0, .int .i64 most, ov]⟩, 96⟩ :: bs) (⟨44, 8, ov, ls.length, ls.flatten.map (Value.int .u8)⟩ :: L) (RdF (Value.int .u8) a0 xs :: Fs) W)
include hxb hlen hc0 hmost hls hlm hM
theorem group_ok {zs : List Int} {ls' : List (List Int)} (h : grpD most xs ls = .ok (zs, ls')) : Calls Try.prog 53 ⟨[.pointer (some ⟨b, 0, none⟩)]⟩ W (Rtn fun _ w' => ∃ a1 c1 ov', zs.length ≤ c1 ∧ Mm own w0 (⟨b, ⟨[.slice a1 zs.length c1, .int .i64 most, ov']⟩, 96⟩ :: bs) (⟨44, 8, ov', ls'.length, ls'.flatten.map (Value.int .u8)⟩ :: L) (RdF (Value.int .u8) a1 zs :: Fs) w') := by
  refine (group_c xs hxb hlen a0 c0 hc0 most hmost ls hls hlm hM).mono ?_
  intro e w' he
  cases e with
  | returned v =>
    obtain ⟨zs2, ls2, a1, c1, ov', h1, h2, h3⟩ := he
    rw [h] at h1
    injection h1 with h1
    injection h1 with h4 h5
    subst h4 h5
    exact ⟨a1, c1, ov', h2, h3⟩
  | panicked c =>
    obtain ⟨e, bs', L', Fs', h1, _⟩ := he
    rw [h] at h1
    cases h1
  | outgrown => exact he
theorem group_err {e : Int} (h : grpD most xs ls = .error e) : Calls Try.prog 53 ⟨[.pointer (some ⟨b, 0, none⟩)]⟩ W (Both (fun _ _ => False) fun c w' => c = fail e ∧ ∃ bs' L' Fs', Mm own w0 (⟨b, bs', 96⟩ :: bs) L' Fs' w') := by
  refine (group_c xs hxb hlen a0 c0 hc0 most hmost ls hls hlm hM).mono ?_
  intro e' w' he
  cases e' with
  | returned v =>
    obtain ⟨zs2, ls2, a1, c1, ov', h1, h2, h3⟩ := he
    rw [h] at h1
    cases h1
  | panicked c =>
    obtain ⟨e2, bs', L', Fs', h1, h2, h3⟩ := he
    rw [h] at h1
    injection h1 with h1
    subst h1
    exact ⟨h2, bs', L', Fs', h3⟩
  | outgrown => exact he
end
/-- The bound that Decode takes. -/
def mst (most : Int) : Nat := (min (max most 0) 4096).toNat
def DecR (W : World) (r : Except Int (List (List Int))) (v : Value) (w' : World) : Prop := match r with
  | .error e => v = .tuple #[.slice none 0 0, .int .i64 e]
  | .ok ls => ∃ a' c', v = .tuple #[.slice a' ls.length c', .int .i64 0] ∧ Owns w' W.heap.size [⟨44, 8, .slice a' ls.length c', ls.length, ls.flatten.map (Value.int .u8)⟩]
set_option maxRecDepth 20000 in
theorem Decode_c (xb : List Int) (hxb : ∀ x ∈ xb, 0 ≤ x ∧ x < 256) (hlen : xb.length ≤ 1000000) (most : Int) (a0 : Option Addr) (c0 : Nat) (hc0 : xb.length ≤ c0) (own : Nat → Prop) (W : World) (hl : ∀ b, own b → b < W.heap.size) (hv : Has own W (RdF (Value.int .u8) a0 xb)) :
    Calls Try.prog 38 ⟨[.slice a0 xb.length c0, .int .i64 most]⟩ W (Ret W (DecR W (dec (mst most) xb))) := by
  have hM := (Mm.start hl).known hv
  obtain ⟨mo, hmo⟩ : ∃ mo : Nat, mst most = mo := ⟨_, rfl⟩
  have hmo2 : min (max most 0) 4096 = (mo : Int) := by unfold mst at hmo; omega
  have hmo3 : mo ≤ 4096 := by omega
  rw [hmo]
  refine f_startD Try.func38 rfl Try.ntmps38 rfl rfl ?_; intro a hF
  (repeat (first | (with_reducible refine w_seq ?_) | (with_reducible refine c_region ?_) | (with_reducible refine s_nil ?_) | ((with_reducible apply s_defer hF); exact rfl; exact rfl; clear hF a; intro a hF) | (with_reducible refine q_then_n ?_) | ((with_reducible apply s_pure hF); exact rfl; exact rfl; exact rfl; (first | exact trivial | omega | exact ⟨Int.natCast_nonneg _, Int.ofNat_lt.2 (by assumption)⟩ | decide); clear hF a; intro a hF) | ((with_reducible apply s_alloc hF hM); exact rfl; exact rfl; exact rfl; clear hF hM a; intro b w a hM hF) | ((with_reducible apply s_box hF hM); exact rfl; exact rfl; exact rfl; exact rfl; clear hF hM a; intro b w a hM hF) | (with_reducible refine w_block ?_)))
  rename_i b4 _ b5 _
  rw [hmo2] at hM
  replace hM := dup0 (hM.nilRow 44 8)
  refine c_loop (m := xb.length) (fun m a w' => ∃ (xs : List Int) (ls : List (List Int)) (a1 : Option Addr) (c1 : Nat) (ov : Value), xs.length ≤ m ∧ xs.length ≤ xb.length ∧ (∀ x ∈ xs, 0 ≤ x ∧ x < 256) ∧ xs.length ≤ c1 ∧ W8 ls ∧ B8 ls ∧ ls.length ≤ mo ∧ decF mo xb.length xb [] = decF mo m xs ls ∧
    Fr 36 [defF 52 [.pointer (some ⟨b4, 0, none⟩), .pointer (some ⟨b5, 0, none⟩)]] [(6, .pointer (some ⟨b, 0, none⟩)), (0, .slice a0 xb.length c0), (4, .pointer (some ⟨b4, 0, none⟩)), (5, .pointer (some ⟨b5, 0, none⟩))] a ∧
    Mm own W [⟨b, ⟨[.slice a1 xs.length c1, .int .i64 mo, ov]⟩, 96⟩, ⟨b5, ⟨[.int .i64 0]⟩, 27⟩, ⟨b4, ⟨[.slice none 0 0]⟩, 33⟩] [⟨44, 8, ov, ls.length, ls.flatten.map (Value.int .u8)⟩] [RdF (Value.int .u8) a1 xs, RdF (Value.int .u8) a0 xb] w')
    ⟨xb, [], a0, c0, _, Nat.le_refl _, Nat.le_refl _, hxb, hc0, (by intro y hy; cases hy), (by intro y hy; cases hy), Nat.zero_le _, rfl, hF.sub (by repeat (first | exact Sub.nil | refine Sub.cons rfl (by first | with_reducible rfl | (refine congrArg (Value.int _) ?_; omega) | exact rfl) ?_)), hM⟩ ?_
  clear hF hM a
  rintro m a w' ⟨xs, ls, a1, c1, ov, hm, hxl, hxb1, hc1, hls, hlB, hlm, hdec, hF, hM⟩
  by_cases h0 : xs.length = 0
  · rw [decF_nil h0] at hdec
    have hD := dec_ok hdec
    obtain ⟨ao, co, rfl⟩ : ∃ ao co, ov = .slice ao ls.length co := by
      rcases (hM.mem.own.own _ List.mem_cons_self).2 with ⟨h1, h2⟩ | ⟨g, cap, cur, h1, _⟩
      · exact ⟨none, 0, by rw [show ls.length = 0 from h2]; exact h1⟩
      · exact ⟨_, _, h1⟩
    have hcap := row_capB hM List.mem_cons_self
    have henc := encL_len hls (by omega) (grp ls) (by have := grpF_len (l := ls) ls.length 0; unfold grp; omega)
    have hencb := enc_bytes hlB
    (repeat' (first | (with_reducible refine w_seq ?_) | (with_reducible refine c_region ?_) | (with_reducible refine s_nil ?_) | ((with_reducible apply s_callO (f := 35) hF); exact rfl; exact rfl; exact rfl; exact rfl; exact rfl; exact (Encode_c ls hls (by omega) ao co hcap own _ (fun b h => hM.lt b (.inl h)) (hM.rowF List.mem_cons_self)); clear hF a; rintro v wn a ⟨a2, c2, rfl, hO⟩ hS hF; replace hM := hM.addRows hS hO; clear hS hO; dsimp only [List.cons_append, List.nil_append] at hM) | ((with_reducible apply s_call (f := 13) hF hM); exact rfl; exact rfl; exact rfl; exact rfl; exact rfl; exact (equalB_c (enc ls) xb hencb hxb a2 a0 _ _ c2 c0 rfl rfl own _ (fun b h => hM.lt b (.inl h)) (hM.rowF List.mem_cons_self) ((hM.facts (RdF (Value.int .u8) a0 xb) (by (repeat (first | exact List.mem_cons_self | refine List.mem_cons_of_mem _ ?_)))).own_eq (fun _ h => .inl h))); clear hF hM a; rintro v w a rfl - hM hF) | (with_reducible refine q_then_n ?_) | ((with_reducible apply s_pure hF); exact rfl; exact rfl; exact rfl; (first | exact trivial | omega | exact ⟨Int.natCast_nonneg _, Int.ofNat_lt.2 (by assumption)⟩ | decide); clear hF a; intro a hF) | ((with_reducible apply s_load hF hM); exact rfl; exact rfl; (repeat (first | exact List.mem_cons_self | refine List.mem_cons_of_mem _ ?_)); exact rfl; exact rfl; clear hF a; intro a hF) | ((with_reducible apply s_store hF hM); exact rfl; exact rfl; exact rfl; exact rfl; (repeat (first | exact Upd.z | apply Upd.s)); exact rfl; exact rfl; exact rfl; clear hM; intro w hM) | (with_reducible refine w_skip ?_) | (with_reducible refine w_exit ?_) | (with_reducible refine w_ret ?_) | (with_reducible refine q_then_x ?_) | (with_reducible refine q_then_r ?_) | (with_reducible refine q_blk_x ?_) | ((with_reducible apply c_dec hF); exact rfl; all_goals intro hc; all_goals (try (exfalso; omega))) | ((with_reducible apply c_ndec hF); exact rfl; all_goals intro hc; all_goals (try (exfalso; omega)))))
    · have hne : enc ls ≠ xb := by assumption
      rw [if_neg hne] at hD
      rw [hD]
      apply f_leaveD (hr := Try.results38) (hF := hF) (he := rfl) (hu := fun h => by cases h) (hD := (dec1_ret _ _ hM))
      · (repeat (first | exact RL.nil | (apply RL.tmp; exact rfl) | (apply RL.cell; exact rfl; (repeat (first | exact List.mem_cons_self | refine List.mem_cons_of_mem _ ?_)); exact rfl)))
      intro w' hM'
      exact Ret.mk hM'.since rfl
    · have he : enc ls = xb := by assumption
      rw [if_pos he] at hD
      rw [hD]
      apply f_leaveD (hr := Try.results38) (hF := hF) (he := rfl) (hu := fun h => by cases h) (hD := (dec1_ret _ _ hM))
      · (repeat (first | exact RL.nil | (apply RL.tmp; exact rfl) | (apply RL.cell; exact rfl; (repeat (first | exact List.mem_cons_self | refine List.mem_cons_of_mem _ ?_)); exact rfl)))
      intro w' hM'
      exact Ret.mk hM'.since ⟨ao, co, rfl, (hM'.sub (.refl _) (.cons _ (.refl _)) (fun _ h => h)).mem.own⟩
  · obtain ⟨m, rfl⟩ : ∃ m', m = m' + 1 := ⟨m - 1, by omega⟩
    cases hg : grpD mo xs ls with
    | error e =>
      rw [decF_err h0 hg] at hdec
      rw [dec_err hdec]
      (repeat' (first | (with_reducible refine w_seq ?_) | (with_reducible refine c_region ?_) | (with_reducible refine s_nil ?_) | ((with_reducible apply s_callB (f := 53) hF); exact rfl; exact rfl; exact rfl; exact rfl; exact rfl; exact (group_err xs hxb1 (by omega) a1 c1 hc1 mo hmo3 ls hls hlm hM hg); rotate_left; (intro _ _ _ h; exact h.elim); clear hF hM a; rintro c w a ⟨rfl, bs1, L1, Fs1, hM⟩ hF) | (with_reducible refine q_then_p ?_) | (with_reducible refine q_blk_p ?_) | (with_reducible refine q_then_n ?_) | ((with_reducible apply s_pure hF); exact rfl; exact rfl; exact rfl; (first | exact trivial | omega | exact ⟨Int.natCast_nonneg _, Int.ofNat_lt.2 (by assumption)⟩ | decide); clear hF a; intro a hF) | ((with_reducible apply s_load hF hM); exact rfl; exact rfl; (repeat (first | exact List.mem_cons_self | refine List.mem_cons_of_mem _ ?_)); exact rfl; exact rfl; clear hF a; intro a hF) | (with_reducible refine w_skip ?_) | (with_reducible refine w_block ?_) | ((with_reducible apply c_dec hF); exact rfl; all_goals intro hc; all_goals (try (exfalso; omega)))))
      apply f_leaveD (hr := Try.results38) (hF := hF) (he := rfl) (hu := fun h => by cases h) (hD := (dec1_panic e (hM.sub (.cons _ (.refl _)) (.refl _) (fun _ h => h))))
      · (repeat (first | exact RL.nil | (apply RL.tmp; exact rfl) | (apply RL.cell; exact rfl; (repeat (first | exact List.mem_cons_self | refine List.mem_cons_of_mem _ ?_)); exact rfl)))
      intro w' hM'
      exact Ret.mk hM'.since rfl
    | ok p =>
      obtain ⟨zs, ls'⟩ := p
      rw [decF_ok h0 hg] at hdec
      obtain ⟨k, hk1, hk2, rfl, hk4, hk5, hk6, hk7⟩ := grpD_ok hg
      (repeat' (first | (with_reducible refine w_seq ?_) | (with_reducible refine c_region ?_) | (with_reducible refine s_nil ?_) | ((with_reducible apply s_callM (f := 53) hF); exact rfl; exact rfl; exact rfl; exact rfl; exact rfl; exact (group_ok xs hxb1 (by omega) a1 c1 hc1 mo hmo3 ls hls hlm hM hg); clear hF hM a; rintro v w a ⟨a3, c3, ov3, hc3, hM⟩ hF) | (with_reducible refine q_then_n ?_) | ((with_reducible apply s_pure hF); exact rfl; exact rfl; exact rfl; (first | exact trivial | omega | exact ⟨Int.natCast_nonneg _, Int.ofNat_lt.2 (by assumption)⟩ | decide); clear hF a; intro a hF) | ((with_reducible apply s_load hF hM); exact rfl; exact rfl; (repeat (first | exact List.mem_cons_self | refine List.mem_cons_of_mem _ ?_)); exact rfl; exact rfl; clear hF a; intro a hF) | (with_reducible refine w_skip ?_) | (with_reducible refine w_block ?_) | (with_reducible refine q_blk_n ?_) | ((with_reducible apply c_dec hF); exact rfl; all_goals intro hc; all_goals (try (exfalso; omega)))))
      have hdl := List.length_drop (i := k) (l := xs)
      exact ⟨m, by omega, xs.drop k, ls', a3, c3, ov3, by omega, by omega, fun x hx => hxb1 x (List.mem_of_mem_drop hx), hc3, hk6 hls, hk7 hxb1 hlB, hk4, hdec, hF.sub (by repeat (first | exact Sub.nil | refine Sub.cons rfl (by first | with_reducible rfl | (refine congrArg (Value.int _) ?_; omega) | exact rfl) ?_)), hM⟩
end Go.Proofs.Ytocgpllmfdnfjaa

/- Arguments of the rows of layer 6. -/
namespace Go.Proofs.Ytocgpllmfdnfjaa
open Go.RowKit Go.Shelf Go.ChangeShapes Go.WideShapes Go.ChangeAt
section
variable {H : Type} {enc : TypeId × Value → H} {w : World} {r : Reach} {b0 base : Nat} {spare : Nat → Bool} {held : Bool}
theorem u8_wf {x : Int} (h : (Lit.int .u8 x).wf = true) : 0 ≤ x ∧ x < 256 := by have := Go.bounds_u8 h; omega
theorem secs_arg {v : Value} {d : DataW H} {p : List MemPlace} (hv : Value.okWide Try.prog w r b0 33 v) (h : DataW.Trod enc Try.prog w 0 (fun _ => true) held 33 v d p) :
    ∃ (a : Option Addr) (cap : Nat) (ls : List (List Int)), v = .slice a ls.length cap ∧ ls.length ≤ cap ∧ W8 ls ∧ B8 ls ∧ Has (fun _ => False) w (RdF (Value.int .u8) a ls.flatten) := by
  obtain ⟨a1, n1, c1, rfl⟩ := okWide_slice Try.underlying33 hv
  obtain ⟨fuel, hf⟩ := h
  obtain ⟨a, cap, ls, h1, h2, h3, h4, h5⟩ := of_arrs Try.underlying33 Try.underlying44 Try.underlying5 (by kernel_rfl) (by kernel_rfl) hf
  exact ⟨a, cap, ls, h1, h2, fun s hs => (h4 s hs).1, fun s hs x hx => u8_wf ((h4 s hs).2 x hx), Has.reads h5⟩
theorem bytes_arg {v : Value} {d : DataW H} {p : List MemPlace} (hv : Value.okWide Try.prog w r b0 22 v) (h : DataW.Trod enc Try.prog w 0 (fun _ => true) held 22 v d p) :
    ∃ (a : Option Addr) (xs : List Int) (cap : Nat), v = .slice a xs.length cap ∧ Has (fun _ => False) w (RdF (Value.int .u8) a xs) ∧ xs.length ≤ cap ∧ By xs ∧ xs.length ≤ 9223372036854775807 := by
  obtain ⟨a1, n1, c1, rfl⟩ := okWide_slice Try.underlying22 hv
  obtain ⟨a, xs, cap, e, hr, l1, l2, hb⟩ := slice_arg Try.underlying22 Try.underlying5 (by kernel_rfl) rfl h
  exact ⟨a, xs, cap, e, Has.reads hr, l2, fun x hx => u8_wf (hb x hx), l1⟩
end
end Go.Proofs.Ytocgpllmfdnfjaa

/- Rows of any size that are read from then on; structs of two numbers compared. -/
namespace Go.Proofs.Ytocgpllmfdnfjaa
open Go.RowKit Go.Shelf
section
variable {n : Nat} {ds : List Deferred} {l : List (Nat × Value)} {a : Act} {w w' w0 : World} {own : Nat → Prop} {bs : List BoxE} {L : List Ent} {Fs : List (World → Prop)}
variable {os rest : List Oper} {Q : Exit → Act → World → Prop} {K : Act → World → Prop}
variable {d : Nat} {op : Op} {ty : TypeId} {pos : String} {af : Array Edge} {g : Option (Nat × Bool)}
theorem own_readsN {α : Type} {enc : α → Value} {base : Nat} {e : TypeId} {size k c : Nat} {ao : Option Addr} {xs : List α} (ho : w.ownsRow base e size (.slice ao k c) k (xs.map enc)) : Reads enc w ao xs := by
  intro i x hx
  have hlen := ho.1
  rcases ho.2 with ⟨h1, h2⟩ | ⟨g, cap, cur, h1, h2, h3, h4⟩
  · rw [h2, Nat.zero_mul, List.length_map] at hlen
    have := (List.getElem?_eq_some_iff.1 hx).1
    omega
  · simp only [Value.slice.injEq] at h1
    obtain ⟨rfl, _, rfl⟩ := h1
    have hc := ho.cells (g := g) rfl i (enc x) (by simp [hx])
    rw [add_lit] at hc
    exact ⟨g, 0, rfl, (Array.getElem?_eq_some_iff.1 h3).1, hc⟩
/-- A row that is only read from then on, whatever its elements. -/
theorem Mm.freezeN {α : Type} {enc : α → Value} {e : TypeId} {size : Nat} {ao : Option Addr} {m c : Nat} {xs : List α} (m0 : Mm own w0 bs (⟨e, size, .slice ao m c, m, xs.map enc⟩ :: L) Fs w) : Mm own w0 bs L (RdF enc ao xs :: Fs) w := by
  have hrd := own_readsN (m0.mem.own.own _ List.mem_cons_self)
  refine (m0.sub (.refl _) (List.sublist_cons_self _ _) (fun _ h => h)).addFact (RdF.has hrd ?_)
  rintro ad rfl
  have hob : (Value.slice (some ad) m c).ownBlock = some ad.block := rfl
  rintro (h | ⟨x, hx, hx2⟩ | ⟨y, hy, hy2⟩)
  · have h2 := m0.low _ h
    have h3 := (m0.mem.own.lt List.mem_cons_self _ hob).1
    omega
  · exact m0.mem.far x hx _ List.mem_cons_self (by rw [hob, hx2])
  · have hp := m0.mem.own.apart
    rw [List.pairwise_cons] at hp
    rcases hp.1 y hy with h | h
    · rw [show (Value.slice (some ad) m c).ownBlock = none from h] at hob; cases hob
    · exact h (hob.trans hy2.symm)
/-- An element of a row, stored, whatever its size. -/
theorem e_storeN {T e : TypeId} {size : Nat} {X Y : Operand} {ad : Addr} {j : Int} {m c k : Nat} {xs vs : List Value} {v : Value} {dst : Option Tmp} (hF : Fr n ds l a) (hM : Mm own w0 bs L Fs w) (hX : ev l X = some (.pointer (some (adr ad j size)))) (hL : Kth L k ⟨e, size, .slice (some ad) m c, m, xs⟩) (hY : ev l Y = some v) (hv : cellsO v = some vs)
    (hT : tyS T = some vs.length) (h1 : oneL vs = true) (hz : vs.length = size) (hj : j.toNat < m)
    (kk : ∀ w', Mm own w0 bs (L.set k ⟨e, size, .slice (some ad) m c, m, xs.take (j.toNat * size) ++ vs ++ xs.drop (j.toNat * size + vs.length)⟩) Fs w' → K (a.put dst undef) w') :
    (⟨dst, .store T X Y, ty, pos, af, g⟩ : Oper).wp Try.prog a w K Q := by
  obtain ⟨gb, rfl⟩ := row_zero (hM.mem.own.get hL.get)
  have hadr : adr ⟨gb, 0, none⟩ j size = ⟨gb, j.toNat * size, none⟩ := by
    unfold adr
    rw [add_lit, Nat.zero_add]
  rw [hadr] at hX
  have hfit : j.toNat * size + vs.length ≤ m * size := by
    rw [hz]
    have : (j.toNat + 1) * size ≤ m * size := Nat.mul_le_mul_right _ hj
    rwa [Nat.add_mul, Nat.one_mul] at this
  obtain ⟨cur, hc1, hc2, hm⟩ := hM.rowTo hL.get (j.toNat * size) vs hfit
  have hst := run_storeCells_at Try.prog gb (j.toNat * size) e vs 0 cur w hc1 (by simpa using hc2) (oneL_ok h1)
  simp only [Nat.add_zero] at hst
  refine upon_skip' (w' := w.setRow gb (cur.toList.take (j.toNat * size) ++ vs ++ cur.toList.drop (j.toNat * size + vs.length)).toArray) ?_ (kk _ hm)
  simp only [execOp, Instr.storeAt, Sem.run_bind, hF.eval hX, hF.eval hY, Instr.sureAddr, storeVar, cellsO_ok hv, tyS_run hT, Result.andThen, Sem.run_pure, List.toList_toArray, hst]
  simp [hst, Result.andThen]
theorem s_storeN {T e : TypeId} {size : Nat} {X Y : Operand} {ad : Addr} {j : Int} {m c k : Nat} {xs vs : List Value} {v : Value} {dst : Option Tmp} (hF : Fr n ds l a) (hM : Mm own w0 bs L Fs w) (hg : wantO os l g = some true) (hX : ev l X = some (.pointer (some (adr ad j size)))) (hL : Kth L k ⟨e, size, .slice (some ad) m c, m, xs⟩) (hY : ev l Y = some v) (hv : cellsO v = some vs)
    (hT : tyS T = some vs.length) (h1 : oneL vs = true) (hz : vs.length = size) (hj : j.toNat < m)
    (kk : ∀ w', Mm own w0 bs (L.set k ⟨e, size, .slice (some ad) m c, m, xs.take (j.toNat * size) ++ vs ++ xs.drop (j.toNat * size + vs.length)⟩) Fs w' → wl ⟨os⟩ Q rest a w') :
    wl ⟨os⟩ Q (⟨none, .store T X Y, ty, pos, af, g⟩ :: rest) a w :=
  s_op hF hg fun _ hK => e_storeN hF hM hX hL hY hv hT h1 hz hj fun w' h => hK _ _ (kk w' h)
/-- Structs of two numbers. -/
theorem e_eqE {t t' : TypeId} {X Y : Operand} {k : IntKind} {x0 x1 y0 y1 : Int} {f0 f1 : Field} {op : BinOp} {v : Bool} (hF : Fr n ds l a) (hX : ev l X = some (.agg #[.int k x0, .int k x1])) (hY : ev l Y = some (.agg #[.int k y0, .int k y1])) (ht : tyD t = some (.struct ⟨[f0, f1]⟩)) (hs : Try.prog.stoodInHeld t = false) (hg : Try.prog.eqGuardType Try.prog.depth t = false)
    (h0 : f0.name ≠ "_" ∧ tyD f0.type = some (.int k) ∧ sclO f0.type = some () ∧ f0.offset = 0) (h1 : f1.name ≠ "_" ∧ tyD f1.type = some (.int k) ∧ sclO f1.type = some () ∧ f1.offset = 1) (hv : neqB op (decide (x0 = y0 ∧ x1 = y1)) = some v) (w : World) {dst : Option Tmp} :
    (execOp a.eval ⟨dst, .binOp op t X Y t', ty, pos, af, g⟩).run Try.prog w = .ok (.value (.bool v)) w := by
  have hfs : Try.prog.fieldsOf t = ⟨[f0, f1]⟩ := by unfold Program.fieldsOf; rw [tyD_ok ht]
  have he : (Op.equal t (.agg #[.int k x0, .int k x1]) (.agg #[.int k y0, .int k y1])).run Try.prog w = .ok (decide (x0 = y0 ∧ x1 = y1)) w := by
    unfold Op.equal Op.maxDepth
    rw [show (10000 : Nat) = 9999 + 1 from rfl, run_equalIn_struct w 9999 t _ _ (by rw [hfs]; exact tyD_ok ht) hs, hfs]
    obtain ⟨a1, a2, a3, a4⟩ := h0
    obtain ⟨b1, b2, b3, b4⟩ := h1
    have p1 := part_scl (k := k) (xs := [x0, x1]) (i := 0) a3 rfl w
    have p2 := part_scl (k := k) (xs := [y0, y1]) (i := 0) a3 rfl w
    have p3 := part_scl (k := k) (xs := [x0, x1]) (i := 1) b3 rfl w
    have p4 := part_scl (k := k) (xs := [y0, y1]) (i := 1) b3 rfl w
    simp only [List.map_cons, List.map_nil] at p1 p2 p3 p4
    have q1 := equalIn_int (k := k) (x := x0) (y := y0) a2 9998 w
    have q2 := equalIn_int (k := k) (x := x1) (y := y1) b2 9998 w
    rw [show 9998 + 1 = 9999 from rfl] at q1 q2
    simp only [Op.eqFields, ne_eq, a1, b1, not_false_eq_true, if_true, a4, b4, Sem.run_bind, p1, p2, p3, p4, q1, q2, Result.andThen_ok]
    by_cases e0 : x0 = y0
    · subst e0
      by_cases e1 : x1 = y1
      · subst e1
        simp [Sem.run_bind, p1, p2, p3, p4, q1, q2, Result.andThen]
      · simp [e1, Sem.run_bind, p1, p2, p3, p4, q1, q2, Result.andThen]
    · simp [e0, Sem.run_bind, p1, p2, p3, p4, q1, q2, Result.andThen]
  unfold neqB at hv
  split at hv
  · injection hv with hv; subst hv
    simp [execOp, hF.eval hX, hF.eval hY, eqGuard, Sem.run_bind, Result.andThen, hg, binOp, he]
  · injection hv with hv; subst hv
    simp [execOp, hF.eval hX, hF.eval hY, eqGuard, Sem.run_bind, Result.andThen, hg, binOp, he]
  · cases hv
theorem t_eqE {tail : Nat → Bool} {fuel i : Nat} {listed : Array Bool} {bs0 : List BoxE} {Fs0 : List (World → Prop)} {t t' : TypeId} {X Y : Operand} {k : IntKind} {x0 x1 y0 y1 : Int} {f0 f1 : Field} {op : BinOp} {v : Bool} (hF : Fr n ds l a) (hi : getO os i = some ⟨some d, .binOp op t X Y t', ty, pos, af, g⟩) (hg : wantO os l g = some true) (hX : ev l X = some (.agg #[.int k x0, .int k x1])) (hY : ev l Y = some (.agg #[.int k y0, .int k y1])) (ht : tyD t = some (.struct ⟨[f0, f1]⟩)) (hs : Try.prog.stoodInHeld t = false) (hq : Try.prog.eqGuardType Try.prog.depth t = false)
    (h0 : f0.name ≠ "_" ∧ tyD f0.type = some (.int k) ∧ sclO f0.type = some () ∧ f0.offset = 0) (h1 : f1.name ≠ "_" ∧ tyD f1.type = some (.int k) ∧ sclO f1.type = some () ∧ f1.offset = 1) (hv : neqB op (decide (x0 = y0 ∧ x1 = y1)) = some v) (hd : Nat.blt d n = true) (hb : takeB os tail listed i = true) (hS : Sm bs0 Fs0 w) (hQ : ∀ c a w, Q (.panic c) (a.put (some d) (.bool v)) w → Q (.panic c) a w)
    (kk : ∀ a, Fr n ds ((d, .bool v) :: l) a → wpAnyT Try.prog .any ⟨os⟩ Q (Sm bs0 Fs0) tail fuel (listed.setIfInBounds i true) a w) : wpAnyT Try.prog .any ⟨os⟩ Q (Sm bs0 Fs0) tail (fuel + 1) listed a w :=
  t_take hi hb hQ (.inl ⟨wantO_ok (o := ⟨some d, .binOp op t X Y t', ty, pos, af, g⟩) hF hg, fun w _ => e_eqE hF hX hY ht hs hq h0 h1 hv w⟩) hS (kk _ (hF.put hd _))
end
end Go.Proofs.Ytocgpllmfdnfjaa

/- Comparisons of truth values and of nil in drawn regions. -/
namespace Go.Proofs.Ytocgpllmfdnfjaa
open Go.RowKit Go.Shelf
section
variable {n : Nat} {ds : List Deferred} {l : List (Nat × Value)} {a : Act} {w w' w0 : World} {own : Nat → Prop} {bs : List BoxE} {L : List Ent} {Fs : List (World → Prop)}
variable {os rest : List Oper} {Q : Exit → Act → World → Prop} {K : Act → World → Prop}
variable {d : Nat} {op : Op} {ty : TypeId} {pos : String} {af : Array Edge} {g : Option (Nat × Bool)}
theorem t_eqn {tail : Nat → Bool} {fuel i : Nat} {listed : Array Bool} {bs0 : List BoxE} {Fs0 : List (World → Prop)} {t t' : TypeId} {X Y : Operand} {x y v : Value} {b : Bool} {op : BinOp} (hF : Fr n ds l a) (hi : getO os i = some ⟨some d, .binOp op t X Y t', ty, pos, af, g⟩) (hg : wantO os l g = some true) (hX : ev l X = some x) (hY : ev l Y = some y) (he : eqO t X Y x y = some b) (hv : eqV op b = some v) (hd : Nat.blt d n = true) (hb : takeB os tail listed i = true) (hS : Sm bs0 Fs0 w) (hQ : ∀ c a w, Q (.panic c) (a.put (some d) v) w → Q (.panic c) a w)
    (k : ∀ a, Fr n ds ((d, v) :: l) a → wpAnyT Try.prog .any ⟨os⟩ Q (Sm bs0 Fs0) tail fuel (listed.setIfInBounds i true) a w) : wpAnyT Try.prog .any ⟨os⟩ Q (Sm bs0 Fs0) tail (fuel + 1) listed a w :=
  t_take hi hb hQ (.inl ⟨wantO_ok (o := ⟨some d, .binOp op t X Y t', ty, pos, af, g⟩) hF hg, fun w _ => e_eqn hF hX hY he hv w⟩) hS (k _ (hF.put hd v))
end
end Go.Proofs.Ytocgpllmfdnfjaa

/- Maps that a call has made. -/
namespace Go.Proofs.Ytocgpllmfdnfjaa
open Go.RowKit Go.Shelf
section
variable {n : Nat} {ds : List Deferred} {l : List (Nat × Value)} {a : Act} {w w' w0 : World} {own : Nat → Prop} {bs : List BoxE} {L : List Ent} {Fs : List (World → Prop)}
variable {os rest : List Oper} {Q : Exit → Act → World → Prop} {K : Act → World → Prop}
variable {d : Nat} {op : Op} {ty : TypeId} {pos : String} {af : Array Edge} {g : Option (Nat × Bool)}
/-- A block that holds a map. -/
def MpF (b : Nat) (es : List MapEntry) (c : Nat) : World → Prop := fun w => w.heap[b]? = some (.map es.toArray c)
/-- A fact that does not look at maps. -/
def Cf (f : World → Prop) : Prop := ∀ (w : World) (b : Nat) (es : Array MapEntry) (c : Nat) (o : Obj), w.heap[b]? = some (.map es c) → f w → f (w.putObj b o)
theorem cell_put {w : World} {b : Nat} {es : Array MapEntry} {c : Nat} {o : Obj} {ad : Addr} {v : Value} (h : w.heap[b]? = some (.map es c)) (hc : w.cell? ad = some v) : (w.putObj b o).cell? ad = some v := by
  refine (World.cell?_of_block (World.putObj_heap_other ?_)).trans hc
  intro e
  unfold World.cell? at hc
  rw [e, h] at hc
  simp at hc
theorem Cf.rd {α : Type} {enc : α → Value} {ao : Option Addr} {xs : List α} : Cf (RdF enc ao xs) := by
  intro w b es c o h hr i x hx
  obtain ⟨b', off, e, hb, hc⟩ := hr i x hx
  exact ⟨b', off, e, by rw [World.putObj_size]; exact hb, cell_put h hc⟩
theorem Cf.bx {b : Nat} {cs : List Value} {T : TypeId} : Cf (BxF b cs T) := by
  intro w b' es c o h hb
  refine Box.of_block hb (World.putObj_heap_other ?_)
  intro e
  subst e
  rw [show w.heap[b]? = _ from hb] at h
  cases h
theorem Mm.notOwn (m : Mm own w0 bs L Fs w) {b : Nat} {o : Obj} (hb : w0.heap.size ≤ b) (hk : w.heap[b]? = some o) (hc : o.isCells = false) : ¬ ownOf own bs L b := by
  rintro (h | ⟨x, hx, rfl⟩ | ⟨y, hy, he⟩)
  · have := m.low b h; omega
  · rw [show w.heap[x.b]? = _ from m.mem.box x hx] at hk
    injection hk with hk; subst hk; cases hc
  · obtain ⟨_, r⟩ := m.mem.own.own y hy
    rcases r with ⟨r, _⟩ | ⟨g, cap, cur, e1, e2, e3, r⟩
    · rw [r] at he; cases he
    · rw [e1] at he
      injection he with he
      have he : g = b := he
      subst he
      rw [e3] at hk
      injection hk with hk; subst hk; cases hc
theorem put_put {w : World} {b : Nat} {o o2 : Obj} (h : w.heap[b]? = some o2) : (w.putObj b o).putObj b o2 = w := by
  unfold World.putObj
  have : (w.heap.setIfInBounds b o).setIfInBounds b o2 = w.heap := by
    apply Array.ext_getElem?
    intro i
    rw [Array.getElem?_setIfInBounds]
    by_cases e : b = i
    · subst e
      rw [if_pos rfl]
      have := (Array.getElem?_eq_some_iff.1 h).1
      simp [this, h]
      rw [Array.getElem?_eq_getElem this] at h
      injection h with h
      exact h.symm
    · rw [if_neg e, Array.getElem?_setIfInBounds, if_neg e]
  simp only [this]
/-- A map changed. -/
theorem Mm.mapTo (m : Mm own w0 bs L Fs w) {b : Nat} {es : Array MapEntry} {c : Nat} (hb : w0.heap.size ≤ b) (hk : w.heap[b]? = some (.map es c)) (hcf : ∀ f ∈ Fs, Cf f) (es' : List MapEntry) (c' : Nat) : Mm own w0 bs L (MpF b es' c' :: Fs) (w.putObj b (.map es'.toArray c')) := by
  have hno := m.notOwn hb hk rfl
  have hlt := (Array.getElem?_eq_some_iff.1 hk).1
  have m' : Mm own w0 bs L [] (w.putObj b (.map es'.toArray c')) := m.turn (grownBy_putObj' w b _) (fun r e => by cases e; exact ⟨hb, _, hk, rfl⟩)
  refine ⟨m'.mem, m'.low, fun f hf => ?_⟩
  rcases List.mem_cons.1 hf with rfl | hf
  · refine ⟨fun x => x = b, fun x hx => ⟨by subst hx; rw [World.putObj_size]; exact hlt, by subst hx; exact hno⟩, fun w2 h2 _ => (h2 b rfl).trans (World.putObj_heap_same hlt)⟩
  · obtain ⟨S, s1, s2⟩ := m.facts f hf
    refine ⟨fun x => S x ∧ x ≠ b, fun x hx => ⟨by rw [World.putObj_size]; exact (s1 x hx.1).1, (s1 x hx.1).2⟩, fun w2 h2 hz => ?_⟩
    rw [World.putObj_size] at hz
    have hb2 : w2.heap[b]? = some w2.heap[b] := Array.getElem?_eq_getElem (by omega)
    have h3 : f (w2.putObj b (.map es c)) := by
      refine s2 _ (fun x hx => ?_) (by rw [World.putObj_size]; exact hz)
      by_cases e : x = b
      · subst e; rw [World.putObj_heap_same (by omega), hk]
      · rw [World.putObj_heap_other e, h2 x ⟨hx, e⟩, World.putObj_heap_other e]
    have h4 := hcf f hf _ b es c w2.heap[b] (World.putObj_heap_same (by omega)) h3
    rw [put_put hb2] at h4
    exact h4
/-! Keys -/
def ent {α : Type} (ek : α → Value) (p : α × Value × Nat) : MapEntry := ⟨ek p.1, p.2.1, p.2.2⟩
def pfind {α : Type} [DecidableEq α] (x : α) : List (α × Value × Nat) → Nat → Option (Nat × Value)
  | [], _ => none
  | p :: r, i => if x = p.1 then some (i, p.2.1) else pfind x r (i + 1)
structure KeyOk {α : Type} [DecidableEq α] (kt : TypeId) (ek : α → Value) (A : α → Prop) : Prop where
  check : ∀ b x w, A x → (Instr.checkKey b 10000 kt (ek x)).run Try.prog w = .ok () w
  find : ∀ x ps w, A x → (∀ p ∈ ps, A p.1) → (Instr.findKey kt (ek x) (ps.map (ent ek))).run Try.prog w = .ok (pfind x ps 0) w
  same : ∀ x, A x → Instr.sameBits 10000 (ek x) (ek x) = true
theorem findNow_int {k : IntKind} (x : Int) : ∀ (ps : List (Int × Value × Nat)) (i : Nat), Instr.findNow (.int k) (.int k x) (ps.map (ent (Value.int k))) i = some (pfind x ps i)
  | [], i => by simp [Instr.findNow, pfind]
  | p :: ps, i => by
    have ih := findNow_int (k := k) x ps (i + 1)
    rw [List.map_cons, Instr.findNow, pfind]
    by_cases h : x = p.1
    · simp [ent, Instr.sameNow, h]
    · simp only [ent, Instr.sameNow, if_true, h, if_false]
      rw [show (x == p.1) = false from by simpa using h]
      exact ih
theorem keyOk_int {kt : TypeId} {k : IntKind} (h : tyD kt = some (.int k)) : KeyOk (α := Int) kt (Value.int k) (fun _ => True) := by
  refine ⟨fun b x w _ => ?_, fun x ps w _ _ => ?_, fun x _ => ?_⟩
  · rw [show (10000 : Nat) = 9999 + 1 from rfl, Instr.checkKey]
    simp only [Sem.run_bind, tyD_run h, Result.andThen]
    rfl
  · unfold Instr.findKey
    simp only [Sem.run_bind, tyD_run h, Result.andThen, findNow_int]
    rfl
  · rw [show (10000 : Nat) = 9999 + 1 from rfl, Instr.sameBits]
    simp
theorem sameBits_ints {k : IntKind} (m : Nat) (xs : List Int) : Instr.sameBits (m + 2) (.agg (xs.map (Value.int k)).toArray) (.agg (xs.map (Value.int k)).toArray) = true := by
  rw [Instr.sameBits]
  simp only [beq_self_eq_true, Bool.true_and]
  rw [List.all_eq_true]
  rintro ⟨u, v⟩ h
  have key : ∀ (l : List Value), (u, v) ∈ l.zip l → u = v := by
    intro l
    induction l with
    | nil => intro h; simp at h
    | cons x l ih =>
      intro h
      rw [List.zip_cons_cons] at h
      rcases List.mem_cons.1 h with e | h
      · injection e with e1 e2; rw [e1, e2]
      · exact ih h
  have e := key _ h
  subst e
  have hm := (List.of_mem_zip h).1
  obtain ⟨x, _, rfl⟩ := List.mem_map.1 hm
  rw [Instr.sameBits]
  simp
theorem check_arr {kt e : TypeId} {k : IntKind} {m : Nat} (h1 : tyD kt = some (.array m e)) (h2 : tyD e = some (.int k)) (h3 : tyS e = some 1) (hs : sclO e = some ()) (b : Bool) (xs : List Int) (hx : xs.length = m) (w : World) : (Instr.checkKey b 10000 kt (.agg (xs.map (Value.int k)).toArray)).run Try.prog w = .ok () w := by
  rw [show (10000 : Nat) = 9998 + 1 + 1 from rfl, Instr.checkKey]
  simp only [Sem.run_bind, tyD_run h1, Result.andThen]
  rw [Std.Legacy.Range.forIn_eq_forIn_range']
  have hr : (List.range' [:m].start [:m].size [:m].step) = List.range' 0 m := by simp [Std.Legacy.Range.size]
  rw [hr]
  have key : ∀ q i, i + q = m → (forIn (List.range' i q) PUnit.unit fun (i : Nat) (_ : PUnit) => (do
      let s ← sizeOf e
      let v ← part e (xs.map (Value.int k)).toArray (i * s)
      Instr.checkKey b (9998 + 1) e v
      pure (ForInStep.yield PUnit.unit) : Sem _)).run Try.prog w = .ok PUnit.unit w := by
    intro q
    induction q with
    | zero => intro i _; simp
    | succ q ih =>
      intro i hi
      have p1 := part_scl (k := k) hs (List.getElem?_eq_getElem (l := xs) (i := i) (by omega)) w
      have p2 : (Instr.checkKey b (9998 + 1) e (.int k xs[i])).run Try.prog w = .ok () w := by
        rw [Instr.checkKey]
        simp only [Sem.run_bind, tyD_run h2, Result.andThen]
        rfl
      rw [List.range'_succ, List.forIn_cons]
      simp only [Sem.run_bind, tyS_run h3, Result.andThen, Nat.mul_one, p1, p2, Sem.run_pure]
      exact ih (i + 1) (by omega)
  rw [key m 0 (by omega)]
  rfl
theorem findAsk_arr {kt e : TypeId} {k : IntKind} {m : Nat} (h1 : tyD kt = some (.array m e)) (h2 : tyD e = some (.int k)) (h3 : tyS e = some 1) (hs : sclO e = some ()) (xs : List Int) (hx : xs.length = m) (w : World) : ∀ (ps : List (List Int × Value × Nat)) (i : Nat), (∀ p ∈ ps, p.1.length = m) →
    (Instr.findAsking kt (.agg (xs.map (Value.int k)).toArray) (ps.map (ent fun ys : List Int => .agg (ys.map (Value.int k)).toArray)) i).run Try.prog w = .ok (pfind xs ps i) w
  | [], i, _ => by simp [Instr.findAsking, pfind]
  | p :: ps, i, h => by
    have ih := findAsk_arr h1 h2 h3 hs xs hx w ps (i + 1) fun q hq => h q (by simp [hq])
    have he := equal_arr (k := k) h1 h2 h3 hs hx (h p (by simp)) w
    rw [List.map_cons, Instr.findAsking, pfind]
    simp only [ent, Sem.run_bind, he, Result.andThen]
    by_cases hxp : xs = p.1
    · simp [hxp]
    · simp only [hxp, decide_false, Bool.false_eq_true, if_false]
      exact ih
theorem keyOk_arr {kt e : TypeId} {k : IntKind} {m : Nat} (h1 : tyD kt = some (.array m e)) (h2 : tyD e = some (.int k)) (h3 : tyS e = some 1) (hs : sclO e = some ()) : KeyOk (α := List Int) kt (fun ys : List Int => .agg (ys.map (Value.int k)).toArray) (fun ys => ys.length = m) := by
  refine ⟨fun b x w hx => check_arr h1 h2 h3 hs b x hx w, fun x ps w hx hps => ?_, fun x _ => sameBits_ints 9998 x⟩
  have hf := findAsk_arr h1 h2 h3 hs x hx w ps 0 hps
  unfold Instr.findKey
  simp only [Sem.run_bind, tyD_run h1, Result.andThen]
  cases ps with
  | nil => simp [Instr.findNow, pfind]
  | cons p ps => exact hf
/-! Rules -/
def plk {α : Type} [DecidableEq α] (x : α) (ps : List (α × Value × Nat)) (z : Value) : Value × Bool := match pfind x ps 0 with
  | some (_, v) => (v, true)
  | none => (z, false)
def mapTy (t : TypeId) : Option (TypeId × Value) := match tyD t with
  | some (.map k e) => match te e with
    | some i => some (k, i.zero)
    | none => none
  | _ => none
theorem mapTy_ok {t k : TypeId} {z : Value} (h : mapTy t = some (k, z)) : ∃ e, tyD t = some (.map k e) ∧ ∀ w, (zeroValue e).run Try.prog w = .ok z w := by
  unfold mapTy at h
  split at h
  · rename_i k' e h1
    split at h
    · rename_i i hi
      injection h with h; injection h with h2 h3
      subst h2 h3
      exact ⟨e, h1, (te_ok hi).zero⟩
    · cases h
  · cases h
section
variable {α : Type} [DecidableEq α] {kt xT : TypeId} {ek : α → Value} {A : α → Prop} {z : Value} {b : Nat} {ps : List (α × Value × Nat)} {c : Nat} {x : α} {X I Y : Operand}
theorem run_lookup (hK : KeyOk kt ek A) (ht : mapTy xT = some (kt, z)) (hb : MpF b (ps.map (ent ek)) c w) (hx : A x) (hps : ∀ p ∈ ps, A p.1) (ok : Bool) :
    (Instr.lookup xT (.map (some b)) (ek x) ok).run Try.prog w = .ok (if ok then .tuple #[(plk x ps z).1, .bool (plk x ps z).2] else (plk x ps z).1) w := by
  obtain ⟨e, h1, h2⟩ := mapTy_ok ht
  have h3 := hK.check (ps.map (ent ek)).toArray.isEmpty x w hx
  have h4 := hK.find x ps w hx hps
  unfold Instr.lookup
  simp only [Sem.run_bind, tyD_run h1, Result.andThen, MapKept.run_getObj_map hb, Sem.run_pure, h3, h4]
  unfold plk
  cases hp : pfind x ps 0 with
  | none => simp only [Sem.run_bind, h2 w, Result.andThen, Sem.run_pure]
  | some q => simp only [Sem.run_bind, Result.andThen, Sem.run_pure]
theorem s_lookup (hK : KeyOk kt ek A) (hF : Fr n ds l a) (hM : Mm own w0 bs L Fs w) (hg : wantO os l g = some true) (hX : ev l X = some (.map (some b))) (hI : ev l I = some (ek x)) (ht : mapTy xT = some (kt, z)) (hb : MpF b (ps.map (ent ek)) c ∈ Fs) (hx : A x) (hps : ∀ p ∈ ps, A p.1) (hd : Nat.blt d n = true)
    (k : ∀ a, Fr n ds ((d, (plk x ps z).1) :: l) a → wl ⟨os⟩ Q rest a w) : wl ⟨os⟩ Q (⟨some d, .lookup xT X I false, ty, pos, af, g⟩ :: rest) a w :=
  s_op hF hg fun _ hK' => upon_value (v := (plk x ps z).1) (by
    have := run_lookup hK ht (hM.fact hb) hx hps false
    simp [execOp, hF.eval hX, hF.eval hI, Sem.run_bind, this, Result.andThen]) (hK' _ _ (k _ (hF.put hd _)))
theorem s_lookupOk (hK : KeyOk kt ek A) (hF : Fr n ds l a) (hM : Mm own w0 bs L Fs w) (hg : wantO os l g = some true) (hX : ev l X = some (.map (some b))) (hI : ev l I = some (ek x)) (ht : mapTy xT = some (kt, z)) (hb : MpF b (ps.map (ent ek)) c ∈ Fs) (hx : A x) (hps : ∀ p ∈ ps, A p.1) (hd : Nat.blt d n = true)
    (k : ∀ a, Fr n ds ((d, .tuple #[(plk x ps z).1, .bool (plk x ps z).2]) :: l) a → wl ⟨os⟩ Q rest a w) : wl ⟨os⟩ Q (⟨some d, .lookup xT X I true, ty, pos, af, g⟩ :: rest) a w :=
  s_op hF hg fun _ hK' => upon_value (v := .tuple #[(plk x ps z).1, .bool (plk x ps z).2]) (by
    have := run_lookup hK ht (hM.fact hb) hx hps true
    simp [execOp, hF.eval hX, hF.eval hI, Sem.run_bind, this, Result.andThen]) (hK' _ _ (k _ (hF.put hd _)))
/-- What a store into a map makes of its entries. -/
def pput (x : α) (v : Value) (ps : List (α × Value × Nat)) (c : Nat) : List (α × Value × Nat) × Nat := match pfind x ps 0 with
  | some (i, _) => (ps.modify i fun p => (p.1, v, p.2.2), c)
  | none => (ps ++ [(x, v, c)], c + 1)
theorem pfind_key : ∀ {ps : List (α × Value × Nat)} {i j : Nat} {v : Value}, pfind x ps i = some (j, v) → ∃ p, ps[j - i]? = some p ∧ p.1 = x ∧ i ≤ j
  | [], _, _, _, h => by cases h
  | p :: ps, i, j, v, h => by
    rw [pfind] at h
    split at h
    · rename_i e
      injection h with h; injection h with h1 h2
      subst h1
      exact ⟨p, by simp, e.symm, Nat.le_refl _⟩
    · obtain ⟨q, h1, h2, h3⟩ := pfind_key h
      refine ⟨q, ?_, h2, by omega⟩
      rw [show j - i = (j - (i + 1)) + 1 by omega]
      simpa using h1
theorem ent_put (v : Value) (ps : List (α × Value × Nat)) (i : Nat) {p : α × Value × Nat} (hp : ps[i]? = some p) (hx : p.1 = x) : ((ps.map (ent ek)).toArray.modify i fun e => { e with key := ek x, val := v }) = ((ps.modify i fun p => (p.1, v, p.2.2)).map (ent ek)).toArray := by
  apply Array.ext'
  simp only [Array.toList_modify]
  apply List.ext_getElem?
  intro j
  simp only [List.getElem?_map, List.getElem?_modify]
  by_cases e : i = j
  · subst e
    simp [hp, ent, hx]
  · simp [e]
theorem run_mapUpdate (hK : KeyOk kt ek A) (ht : mapTy xT = some (kt, z)) (hb : MpF b (ps.map (ent ek)) c w) (hx : A x) (hps : ∀ p ∈ ps, A p.1) (v : Value) :
    (Instr.mapUpdate xT (.map (some b)) (ek x) v).run Try.prog w = .ok () (w.putObj b (.map (((pput x v ps c).1.map (ent ek)).toArray) (pput x v ps c).2)) := by
  obtain ⟨e, h1, h2⟩ := mapTy_ok ht
  have h3 := hK.check false x w hx
  have h4 := hK.find x ps w hx hps
  have h5 := hK.same x hx
  unfold Instr.mapUpdate
  simp only [Sem.run_bind, tyD_run h1, Result.andThen, MapKept.run_getObj_map hb, h3, h4]
  unfold pput
  cases hp : pfind x ps 0 with
  | none =>
    simp only [MapKept.run_setObj_map _ hb]
    simp [World.putObj, ent]
  | some q =>
    obtain ⟨i, u⟩ := q
    obtain ⟨p, hp1, hp2, _⟩ := pfind_key hp
    rw [Nat.sub_zero] at hp1
    have hkey : (((ps.map (ent ek)).toArray[i]?).map (·.key)).getD (ek x) = ek x := by simp [hp1, ent, hp2]
    have he := ent_put (ek := ek) (x := x) v ps i hp1 hp2
    simp only [hkey, Instr.keyThatStays, h5, if_true, Sem.run_bind, Sem.run_pure, Result.andThen, MapKept.run_setObj_map _ hb, he]
    rfl
theorem s_mapUpdate (hK : KeyOk kt ek A) {v : Value} (hF : Fr n ds l a) (hM : Mm own w0 bs L (MpF b (ps.map (ent ek)) c :: Fs) w) (hg : wantO os l g = some true) (hX : ev l X = some (.map (some b))) (hI : ev l I = some (ek x)) (hY : ev l Y = some v) (ht : mapTy xT = some (kt, z)) (hx : A x) (hps : ∀ p ∈ ps, A p.1) (hb0 : w0.heap.size ≤ b) (hcf : ∀ f ∈ Fs, Cf f)
    (k : ∀ w', Mm own w0 bs L (MpF b ((pput x v ps c).1.map (ent ek)) (pput x v ps c).2 :: Fs) w' → wl ⟨os⟩ Q rest a w') : wl ⟨os⟩ Q (⟨none, .mapUpdate xT X I Y, ty, pos, af, g⟩ :: rest) a w := by
  have hb := hM.fact (f := MpF b (ps.map (ent ek)) c) List.mem_cons_self
  refine s_op hF hg fun _ hK' => upon_skip' (w' := w.putObj b (.map (((pput x v ps c).1.map (ent ek)).toArray) (pput x v ps c).2)) ?_ (hK' _ _ (k _ ((hM.sub (.refl _) (.refl _) (fun f hf => List.mem_cons_of_mem _ hf)).mapTo hb0 hb hcf _ _)))
  have := run_mapUpdate hK ht hb hx hps v
  simp [execOp, hF.eval hX, hF.eval hI, hF.eval hY, Sem.run_bind, this, Result.andThen]
end
/-- A map made. -/
theorem s_makeMap {t : TypeId} (hF : Fr n ds l a) (hM : Mm own w0 bs L Fs w) (hg : wantO os l g = some true) (hd : Nat.blt d n = true)
    (k : ∀ b w' a, w0.heap.size ≤ b → Mm own w0 bs L (MpF b [] 0 :: Fs) w' → Fr n ds ((d, .map (some b)) :: l) a → wl ⟨os⟩ Q rest a w') : wl ⟨os⟩ Q (⟨some d, .makeMap t none, ty, pos, af, g⟩ :: rest) a w := by
  have hs : Since w (w.alloc (.map #[] 0)) := (Since.refl w).alloc _
  have hM' := hM.keep hs
  have hk : (w.alloc (.map #[] 0)).heap[w.heap.size]? = some (.map #[] 0) := heap_alloc_new w _
  have hz := hM.since.size
  refine s_op hF hg fun _ hK => upon_value (v := .map (some w.heap.size)) (w' := w.alloc (.map #[] 0)) ?_ (hK _ _ (k w.heap.size _ _ hz (hM'.addFact ?_) (hF.put hd _)))
  · simp [execOp, Instr.makeMap, Sem.run_bind, newObj, Sem.run, Result.andThen]
  · have hno := hM'.notOwn hz hk rfl
    refine ⟨fun x => x = w.heap.size, fun x hx => ⟨by subst hx; simp, by subst hx; exact hno⟩, fun w2 h2 _ => (h2 _ rfl).trans hk⟩
/-! Arrays out of slices -/
theorem s_s2a {T : TypeId} {X : Operand} {m z len c : Nat} {ao : Option Addr} (hF : Fr n ds l a) (hg : wantO os l g = some true) (hX : ev l X = some (.slice ao len c)) (ht : arrO T = some (m, z)) (hd : Nat.blt d n = true) (hm : m ≤ len)
    (kk : ∀ a, Fr n ds ((d, .pointer ao) :: l) a → wl ⟨os⟩ Q rest a w) : wl ⟨os⟩ Q (⟨some d, .sliceToArrayPointer T X, ty, pos, af, g⟩ :: rest) a w := by
  obtain ⟨e, h1, h2⟩ := arrO_ok ht
  refine s_op hF hg fun _ hK => upon_value (v := .pointer ao) ?_ (hK _ _ (kk _ (hF.put hd _)))
  simp [execOp, hF.eval hX, Instr.arrayAt, Sem.run_bind, tyD_run h1, Result.andThen, show ¬ len < m by omega]
/-- An array of numbers loaded from where a list lies. -/
theorem s_loadA {T : TypeId} {X : Operand} {ad : Addr} {m : Nat} {k : IntKind} {xs s : List Int} (hF : Fr n ds l a) (hM : Mm own w0 bs L Fs w) (hg : wantO os l g = some true) (hX : ev l X = some (.pointer (some ad))) (hr : RdF (Value.int k) (some ad) xs ∈ Fs) (hT : aggS T = some m) (hd : Nat.blt d n = true) (hs : xs.take m = s) (hm : m ≤ xs.length)
    (kk : ∀ a, Fr n ds ((d, .agg (s.map (Value.int k)).toArray) :: l) a → wl ⟨os⟩ Q rest a w) : wl ⟨os⟩ Q (⟨some d, .load T X, ty, pos, af, g⟩ :: rest) a w := by
  subst hs
  have hrd := hM.fact hr
  unfold aggS at hT
  split at hT
  · rename_i i hi
    split at hT
    · rename_i ha
      injection hT with hT
      have hagg := (te_ok hi).agg w
      have hsz := (te_ok hi).size w
      rw [ha] at hagg
      rw [hT] at hsz
      have := run_loadCells_list (P := Try.prog) w ad ((xs.take m).map (Value.int k)) (fun q u hu => by
        rw [List.getElem?_map, List.getElem?_take] at hu
        split at hu
        · cases hq : xs[q]? with
          | none => rw [hq] at hu; simp at hu
          | some x =>
            rw [hq] at hu
            simp only [Option.map_some, Option.some.injEq] at hu
            subst hu
            obtain ⟨b, off, e, hb, hc⟩ := hrd q x hq
            injection e with e
            subst e
            rw [add_lit]
            exact hc
        · simp at hu)
      rw [List.length_map, List.length_take, Nat.min_eq_left hm] at this
      refine s_op hF hg fun _ hK => upon_value (v := .agg ((xs.take m).map (Value.int k)).toArray) ?_ (hK _ _ (kk _ (hF.put hd _)))
      simp [execOp, hF.eval hX, Instr.loadAt, Instr.sureAddr, Sem.run_bind, loadVar, hagg, hsz, this, Result.andThen]
    · cases hT
  · cases hT
end
end Go.Proofs.Ytocgpllmfdnfjaa

/- Rows of which a part is used: what is behind it is appended to. -/
namespace Go.Proofs.Ytocgpllmfdnfjaa
open Go.RowKit Go.Shelf
section
variable {n : Nat} {ds : List Deferred} {l : List (Nat × Value)} {a : Act} {w w' w0 : World} {own : Nat → Prop} {bs : List BoxE} {L : List Ent} {Fs : List (World → Prop)}
variable {os rest : List Oper} {Q : Exit → Act → World → Prop} {K : Act → World → Prop}
variable {d : Nat} {op : Op} {ty : TypeId} {pos : String} {af : Array Edge} {g : Option (Nat × Bool)}
/-- A slice that is the end of an owned row. -/
def OffR (e : TypeId) (size : Nat) (v : Value) (m : Nat) (xs : List Value) (E : Ent) : Prop :=
  E.e = e ∧ E.size = size ∧ xs.length = m * size ∧
  ((v = .slice none 0 0 ∧ m = 0 ∧ E.v = .slice none 0 0) ∨ (∃ ad, v = .slice (some ad) 0 0 ∧ m = 0) ∨
   ∃ g off cap pre, v = .slice (some ⟨g, off * size, none⟩) m cap ∧ pre.length = off * size ∧ E.v = .slice (some ⟨g, 0, none⟩) (off + m) (off + cap) ∧ E.n = off + m ∧ E.xs = pre ++ xs)
theorem OffR.plain {e : TypeId} {size : Nat} {v : Value} {m : Nat} {xs : List Value} (hM : Mm own w0 bs L Fs w) (h : (⟨e, size, v, m, xs⟩ : Ent) ∈ L) : OffR e size v m xs ⟨e, size, v, m, xs⟩ := by
  have ho := hM.mem.own.own _ h
  refine ⟨rfl, rfl, ho.1, ?_⟩
  rcases ho.2 with ⟨h1, h2⟩ | ⟨g, cap, cur, h1, _⟩
  · exact .inl ⟨h1, h2, h1⟩
  · refine .inr (.inr ⟨g, 0, cap, [], ?_, by simp, ?_, ?_, rfl⟩)
    · rw [Nat.zero_mul]; exact h1
    · rw [Nat.zero_add, Nat.zero_add]; exact h1
    · exact (Nat.zero_add _).symm
theorem OffR.nil {e : TypeId} {size : Nat} : OffR e size (.slice none 0 0) 0 [] ⟨e, size, .slice none 0 0, 0, []⟩ := ⟨rfl, rfl, by simp, .inl ⟨rfl, rfl, rfl⟩⟩
theorem OffR.shape {e : TypeId} {size : Nat} {v : Value} {m : Nat} {xs : List Value} {E : Ent} (hM : Mm own w0 bs L Fs w) {k : Nat} (hL : L[k]? = some E) (h : OffR e size v m xs E) : ∃ ao c, v = .slice ao m c ∧ m ≤ c ∧ (0 < m → ∃ ad, ao = some ad) := by
  obtain ⟨h1, h2, h3, h4⟩ := h
  rcases h4 with ⟨h, rfl, _⟩ | ⟨ad, h, rfl⟩ | ⟨g, off, cap, pre, h5, h6, h7, h8, h9⟩
  · exact ⟨_, _, h, Nat.le_refl _, fun q => by omega⟩
  · exact ⟨_, _, h, Nat.le_refl _, fun q => by omega⟩
  · refine ⟨_, _, h5, ?_, fun _ => ⟨_, rfl⟩⟩
    rcases (hM.mem.own.get hL).2 with ⟨p1, p2⟩ | ⟨g', cap', cur, p1, p2, p3, p4, _⟩
    · rw [h7] at p1; cases p1
    · rw [h7] at p1
      injection p1 with p1 p5 p6
      omega
/-- The cells of such a slice. -/
theorem OffR.cells {e : TypeId} {size : Nat} {ao : Option Addr} {ad : Addr} {m c : Nat} {xs : List Value} {E : Ent} (hM : Mm own w0 bs L Fs w) {k : Nat} (hL : L[k]? = some E) (h : OffR e size (.slice ao m c) m xs E) (ha : ao = some ad) : ∀ j u, xs[j]? = some u → w.cell? (ad.add j) = some u := by
  subst ha
  obtain ⟨h1, h2, h3, h4⟩ := h
  have he : ∀ j u, m = 0 → xs[j]? = some u → w.cell? (ad.add j) = some u := by
    intro j u h0 hu
    rw [h0, Nat.zero_mul] at h3
    rw [List.eq_nil_of_length_eq_zero h3] at hu
    simp at hu
  rcases h4 with ⟨h, _⟩ | ⟨ad', h, h0⟩ | ⟨g, off, cap, pre, h5, h6, h7, h8, h9⟩
  · cases h
  · exact fun j u => he j u h0
  · intro j u hu
    injection h5 with h5
    injection h5 with h5
    subst h5
    have hc := (hM.mem.own.get hL).cells (g := g) (by rw [h7]; rfl) (off * size + j) u (by rw [h9, List.getElem?_append_right (by omega), h6, Nat.add_sub_cancel_left]; exact hu)
    rw [add_lit] at hc ⊢
    rw [← hc]
    congr 2
    omega
/-- A part of such a slice. -/
theorem OffR.drop {e : TypeId} {size : Nat} {ao : Option Addr} {m c : Nat} {xs : List Value} {E : Ent} (hM : Mm own w0 bs L Fs w) {k : Nat} (hL : L[k]? = some E) (h : OffR e size (.slice ao m c) m xs E) (q : Nat) (hq : q ≤ m) : OffR e size (.slice (sadr ao q c size) (m - q) (c - q)) (m - q) (xs.drop (q * size)) E := by
  obtain ⟨ao', c', e1, hmc, _⟩ := OffR.shape hM hL h
  injection e1 with e1 _ e2
  subst e1
  subst e2
  obtain ⟨h1, h2, h3, h4⟩ := h
  refine ⟨h1, h2, by rw [List.length_drop, h3, Nat.sub_mul], ?_⟩
  rcases h4 with ⟨h, h0, h5⟩ | ⟨ad, h, h0⟩ | ⟨g, off, cap, pre, h5, h6, h7, h8, h9⟩
  · injection h with ha hb hc
    subst ha
    subst hc
    subst h0
    refine .inl ⟨?_, by omega, h5⟩
    unfold sadr
    simp
  · injection h with ha hb hc
    subst ha
    subst hc
    subst h0
    refine .inr (.inl ⟨ad, ?_, by omega⟩)
    obtain rfl : q = 0 := by omega
    unfold sadr
    simp
  · injection h5 with ha hb hc
    subst ha
    subst hc
    by_cases hcq : c = q
    · subst hcq
      refine .inr (.inl ⟨⟨g, off * size, none⟩, ?_, by omega⟩)
      unfold sadr
      rw [if_pos rfl]
      congr 1
      · omega
      · omega
    · refine .inr (.inr ⟨g, off + q, c - q, pre ++ xs.take (q * size), ?_, ?_, ?_, ?_, ?_⟩)
      · unfold sadr
        rw [if_neg hcq, Option.map_some, add_lit, Nat.add_mul]
      · rw [List.length_append, List.length_take, h6, h3, Nat.add_mul]
        have : q * size ≤ m * size := Nat.mul_le_mul_right _ hq
        omega
      · rw [h7]
        congr 1 <;> omega
      · omega
      · rw [h9, List.append_assoc, List.take_append_drop]
theorem run_append_off (t ty e : TypeId) (i : TypeInfo) (z : Value) (size bytes : Nat) (ht : Try.prog.underlying t = some (.slice e)) (hi : Try.prog.info? e = some i) (hz : i.zero = some z)
    (hsize : i.size = size) (hby : i.bytes = bytes) (hzs : z.cells.size = size) (hsz : 0 < size) {v : Value} {m k : Nat} {xs ys : List Value} {E : Ent} {ad : Addr} {q c : Nat} (hM : Mm own w0 bs L Fs w) (hL : L[k]? = some E) (hR : OffR e size v m xs E)
    (hy : ys.length = q * size) (hc : ∀ j u, ys[j]? = some u → w.cell? (ad.add j) = some u) (h1 : ∀ u ∈ ys, u.oneCell' = true) (h0 : 0 < q) (hb : (m + q) * bytes ≤ 140737488355328 ∧ m + q ≤ 9223372036854775807) :
    ∃ v' E' w', (Builtin.append_ #[t, t] ty #[v, .slice (some ad) q c]).run Try.prog w = .ok v' w' ∧ OffR e size v' (m + q) (xs ++ ys) E' ∧ Mm own w0 bs (L.set k E') Fs w' := by
  have hbase := hM.since.size
  have hlen : (xs ++ ys).length = (m + q) * size := by rw [List.length_append, hR.2.2.1, hy, Nat.add_mul]
  have hown := hM.mem.own.get hL
  have hEe := hR.1
  have hEs := hR.2.1
  obtain ⟨Ee, Es, Ev, En, Ex⟩ := E
  simp only at hEe hEs
  subst hEe
  subst hEs
  have fresh : ∀ (v' : Value) (cap' : Nat), v' = .slice (some ⟨w.heap.size, 0, none⟩) (m + q) cap' → ∀ w', w'.ownsRow w0.heap.size Ee Es v' (m + q) (xs ++ ys) → w.grownBy w' none → OffR Ee Es v' (m + q) (xs ++ ys) ⟨Ee, Es, v', m + q, xs ++ ys⟩ ∧ Mm own w0 bs (L.set k ⟨Ee, Es, v', m + q, xs ++ ys⟩) Fs w' := by
    intro v' cap' hv w' ho hg
    refine ⟨⟨rfl, rfl, hlen, .inr (.inr ⟨w.heap.size, 0, cap', [], ?_, by simp, ?_, (Nat.zero_add _).symm, rfl⟩)⟩, hM.app hL ho ⟨hg.os, hg.tape, hg.output, hg.size, fun j hj _ => hg.block j hj (by simp)⟩ (.inr (by rw [hv]; rfl))⟩
    · rw [hv, Nat.zero_mul]
    · show v' = _
      rw [hv, Nat.zero_add, Nat.zero_add]
  have hgrow : ∀ (bA : Addr) (cp : Nat), v = .slice (some bA) m cp → cp < m + q → (∀ j u, xs[j]? = some u → w.cell? (bA.add j) = some u) → ∃ v' E' w', (Builtin.append_ #[t, t] ty #[v, .slice (some ad) q c]).run Try.prog w = .ok v' w' ∧ OffR Ee Es v' (m + q) (xs ++ ys) E' ∧ Mm own w0 bs (L.set k E') Fs w' := by
    intro bA cp hv hg hold
    subst hsize
    subst hby
    have hr := run_append_grow (P := Try.prog) w t ty Ee i z ht hi hz bA m cp xs hR.2.2.1 hold ad q c ys hy hc hg (by omega) (growslice_fits hg hb.1)
    have hge := grownCap_ge w (m + q) cp Ee
    have hcm : grownCap w (m + q) cp Ee ≤ maxLen := grownCap_le_maxLen w (m + q) cp Ee (by unfold maxLen; exact hb.2)
    subst hv
    have hrow : (w.drew.alloc (.cells (xs.toArray ++ ys.toArray ++ Builtin.zeroCells z.cells (grownCap w (m + q) cp Ee - (m + q))) Ee)).ownsRow w0.heap.size Ee i.size (.slice (some ⟨w.heap.size, 0, none⟩) (m + q) (grownCap w (m + q) cp Ee)) (m + q) (xs ++ ys) := by
      refine ⟨hlen, .inr ⟨w.heap.size, _, _, rfl, hbase, heap_alloc_new w.drew _, hge, hcm, ?_, ?_⟩⟩
      · simp only [Array.size_append, List.size_toArray, size_zeroCells, hzs, hR.2.2.1, hy, ← Nat.add_mul]
        congr 1
        omega
      · simp only [Array.toList_append, List.append_assoc]
        rw [← List.append_assoc, ← hlen]
        exact List.take_left
    obtain ⟨f1, f2⟩ := fresh _ _ rfl _ hrow ⟨rfl, rfl, rfl, by simp, fun k hk _ => Below.heap_alloc w.drew _ k hk⟩
    exact ⟨_, _, _, hr, f1, f2⟩
  rcases hR.2.2.2 with ⟨hv, hm0, hEv⟩ | ⟨bA, hv, hm0⟩ | ⟨gb, off, cap, pre, hv, hpre, hEv, hEn, hEx⟩
  · subst hm0
    obtain rfl : xs = [] := List.eq_nil_of_length_eq_zero (by have := hR.2.2.1; simpa using this)
    subst hv
    simp only at hEv
    subst hEv
    rcases hown.2 with ⟨_, p2⟩ | ⟨g', cap', cur, p1, _⟩
    · simp only at p2
      subst p2
      obtain rfl : Ex = [] := List.eq_nil_of_length_eq_zero (by simpa using hown.1)
      obtain ⟨v', w', hr, ho, hg, hn⟩ := run_append_own (P := Try.prog) w w0.heap.size t ty Ee i z Es bytes ht hi hz hsize hby hzs hsz (.slice none 0 0) 0 [] hown ad q c ys hy hc h1 (by unfold maxLen; exact hb.2) hb.1 hbase
      subst hsize
      subst hby
      have hr2 := run_append_nil (P := Try.prog) w t ty Ee i z ht hi hz ad q c ys hy hc (by omega) (by omega) (by have hb := hb.1; simp only [Nat.zero_add] at hb; omega)
      rw [hr2] at hr
      injection hr with hr3 hr4
      have hf := fresh v' (grownCap w q 0 Ee) (by rw [← hr3, Nat.zero_add]) w' ho hg
      exact ⟨v', _, w', by rw [hr2, hr3, hr4], hf.1, hf.2⟩
    · cases p1
  · subst hm0
    exact hgrow bA 0 hv (by omega) (by
      intro j u hu
      obtain rfl : xs = [] := List.eq_nil_of_length_eq_zero (by have := hR.2.2.1; simpa using this)
      simp at hu)
  · have hcells : ∀ j u, xs[j]? = some u → w.cell? ((⟨gb, off * Es, none⟩ : Addr).add j) = some u := by
      subst hv
      exact OffR.cells hM hL hR rfl
    simp only at hEv hEn hEx
    subst hEv
    subst hEn
    subst hEx
    by_cases hroom : m + q ≤ cap
    · rcases hown.2 with ⟨p1, _⟩ | ⟨g', cap', cur, p1, p2, p3, p4, p5, p6, p7⟩
      · cases p1
      · simp only [Value.slice.injEq, Option.some.injEq, Addr.mk.injEq, true_and, and_true] at p1
        obtain ⟨rfl, rfl⟩ := p1
        subst hsize
        have hfit : (off + m) * i.size + ys.length ≤ cur.size := by rw [hy, p6, ← Nat.add_mul]; exact Nat.mul_le_mul_right _ (by omega)
        have hr1 := run_append_room (P := Try.prog) w t ty Ee i ht hi gb (off + m) (off + cap) cur p3 ad q c ys hy hc h1 (by omega) hfit
        have hin : ∀ j, j < ys.length → (w.cell? ⟨gb, off * i.size + m * i.size + j, none⟩).isSome = true ∧ w.frozen? ⟨gb, off * i.size + m * i.size + j, none⟩ = false := by
          intro j hj
          have hlt : off * i.size + m * i.size + j < cur.size := by rw [← Nat.add_mul]; omega
          constructor
          · simp [World.cell?, p3, hlt]
          · simp [World.frozen?, p3]
        have hr2 := run_append_room_cells (P := Try.prog) w t ty Ee i ht hi gb (off * i.size) m cap ad q c ys hy hc h1 hroom (fun j hj => (hin j hj).1) (fun j hj => (hin j hj).2)
        have hr3 := run_append_room_cells (P := Try.prog) w t ty Ee i ht hi gb 0 (off + m) (off + cap) ad q c ys hy hc h1 (by omega) (fun j hj => by rw [Nat.zero_add, Nat.add_mul]; exact (hin j hj).1) (fun j hj => by rw [Nat.zero_add, Nat.add_mul]; exact (hin j hj).2)
        rw [hr1] at hr3
        injection hr3 with _ hw
        rw [show off * i.size + m * i.size = 0 + (off + m) * i.size by rw [Nat.zero_add, Nat.add_mul], ← hw] at hr2
        subst hv
        have hrow : (w.setRow gb (cur.toList.take ((off + m) * i.size) ++ ys ++ cur.toList.drop ((off + m) * i.size + ys.length)).toArray).ownsRow w0.heap.size Ee i.size (.slice (some ⟨gb, 0, none⟩) (off + m + q) (off + cap)) (off + m + q) (pre ++ xs ++ ys) := by
          have e1 : (pre ++ xs ++ ys).length = (off + m + q) * i.size := by
            have := hR.2.2.1
            simp only [List.length_append, hpre, this, hy, Nat.add_mul]
          refine ⟨e1, .inr ⟨gb, off + cap, _, rfl, p2, setRow_heap w gb cur _ Ee _ p3, by omega, p5, ?_, ?_⟩⟩
          · have p6 : cur.size = (off + cap) * i.size := p6
            simp only [List.size_toArray, List.length_append, List.length_take, List.length_drop, Array.length_toList]
            omega
          · have p7 : cur.toList.take ((off + m) * i.size) = pre ++ xs := p7
            rw [p7, ← e1]
            exact List.take_left
        have hM' : Mm own w0 bs (L.set k ⟨Ee, i.size, .slice (some ⟨gb, 0, none⟩) (off + m + q) (off + cap), off + m + q, pre ++ xs ++ ys⟩) Fs (w.setRow gb (cur.toList.take ((off + m) * i.size) ++ ys ++ cur.toList.drop ((off + m) * i.size + ys.length)).toArray) :=
          hM.app hL hrow ⟨rfl, rfl, rfl, by simp, fun k _ hk => setRow_other w gb k _ (fun e => hk (by simp [Value.ownBlock, e]))⟩ (.inl rfl)
        refine ⟨_, ⟨Ee, i.size, .slice (some ⟨gb, 0, none⟩) (off + m + q) (off + cap), off + m + q, pre ++ xs ++ ys⟩, _, hr2, ⟨rfl, rfl, hlen, .inr (.inr ⟨gb, off, cap, pre, rfl, hpre, ?_, ?_, ?_⟩)⟩, hM'⟩
        · show Value.slice _ (off + m + q) _ = _
          rw [Nat.add_assoc]
        · exact Nat.add_assoc _ _ _
        · exact List.append_assoc _ _ _
    · exact hgrow _ _ hv (by omega) hcells
theorem e_appO {t e : TypeId} {size bytes : Nat} {S X : Operand} {v : Value} {m k : Nat} {xs ys : List Value} {E : Ent} {ad : Addr} {q c : Nat} (hF : Fr n ds l a) (hM : Mm own w0 bs L Fs w) (hS : ev l S = some v) (hX : ev l X = some (.slice (some ad) q c)) (he : elO t = some (e, size, bytes))
    (hL : L[k]? = some E) (hR : OffR e size v m xs E) (hy : ys.length = q * size) (hc : ∀ j u, ys[j]? = some u → w.cell? (ad.add j) = some u) (h1 : ∀ u ∈ ys, u.oneCell' = true) (h0 : 0 < q) (hb : (m + q) * bytes ≤ 140737488355328 ∧ m + q ≤ 9223372036854775807)
    (kk : ∀ v' E' w', OffR e size v' (m + q) (xs ++ ys) E' → Mm own w0 bs (L.set k E') Fs w' → K (a.put (some d) v') w') :
    (⟨some d, .call ⟨.builtin .append, #[S, X], #[t, t]⟩, ty, pos, af, g⟩ : Oper).wp Try.prog a w K Q := by
  obtain ⟨e1, e2, i, z, i1, i2, i3, i4, i5⟩ := elO_ok he
  obtain ⟨v', E', w', hr, h2, h3⟩ := run_append_off t ty e i z size bytes e1 i1 i2 i3 i4 i5 e2 hM hL hR hy hc h1 h0 hb
  unfold Oper.wp execOp
  simp only [resolve, invoke, builtin, Sem.run_bind, Sem.run_pure, Result.andThen_ok, List.map_toArray, List.map_cons, List.map_nil, hF.eval hS, hF.eval hX]
  rw [hr]
  exact kk v' E' w' h2 h3
/-- append to the end of a row, of a literal just laid. -/
theorem s_appO {t e T : TypeId} {size bytes : Nat} {S X : Operand} {v : Value} {m : Nat} (k : Nat) {xs ys : List Value} {E : Ent} {b q c : Nat} (hF : Fr n ds l a) (hM : Mm own w0 (⟨b, ⟨ys⟩, T⟩ :: bs) L Fs w) (hR : OffR e size v m xs E) (hg : wantO os l g = some true) (hS : ev l S = some v) (hX : ev l X = some (.slice (some ⟨b, 0, none⟩) q c)) (he : elO t = some (e, size, bytes))
    (hL : Kth L k E) (hy : ys.length = q * size) (h1 : oneL ys = true) (h0 : Nat.blt 0 q = true) (hd : Nat.blt d n = true) (hb : (m + q) * bytes ≤ 140737488355328 ∧ m + q ≤ 9223372036854775807)
    (kk : ∀ v' E' w' a, OffR e size v' (m + q) (xs ++ ys) E' → Mm own w0 bs (L.set k E') Fs w' → Fr n ds ((d, v') :: l) a → wl ⟨os⟩ Q rest a w') :
    wl ⟨os⟩ Q (⟨some d, .call ⟨.builtin .append, #[S, X], #[t, t]⟩, ty, pos, af, g⟩ :: rest) a w := by
  have hbox := hM.mem.box _ List.mem_cons_self
  refine s_op hF hg fun _ hK => e_appO hF (hM.sub (List.sublist_cons_self _ _) (List.Sublist.refl _) (fun _ h => h)) hS hX he hL.get hR hy ?_ (oneL_ok h1) (by simpa using h0) hb fun v' E' w' h2 h3 => hK _ _ (kk v' E' w' _ h2 h3 (hF.put hd _))
  intro j u hu
  rw [add_lit, (Box.rules hbox).1]
  simpa using hu
/-- append to a row of cells that lie anywhere. -/
theorem s_appP {t e : TypeId} {size bytes : Nat} {S X : Operand} {v : Value} {m k : Nat} {xs ys : List Value} {ad : Addr} {q c : Nat} (hF : Fr n ds l a) (hM : Mm own w0 bs L Fs w) (hc : ∀ j u, ys[j]? = some u → w.cell? (ad.add j) = some u) (h1 : ∀ u ∈ ys, u.oneCell' = true) (hg : wantO os l g = some true) (hS : ev l S = some v) (hX : ev l X = some (.slice (some ad) q c)) (he : elO t = some (e, size, bytes))
    (hL : Kth L k ⟨e, size, v, m, xs⟩) (hd : Nat.blt d n = true) (hy : ys.length = q * size) (h0 : 0 < q) (hb : (m + q) * bytes ≤ 140737488355328 ∧ m + q ≤ 9223372036854775807)
    (kk : ∀ g cap w' a, Mm own w0 bs (L.set k ⟨e, size, .slice (some ⟨g, 0, none⟩) (m + q) cap, m + q, xs ++ ys⟩) Fs w' → Fr n ds ((d, .slice (some ⟨g, 0, none⟩) (m + q) cap) :: l) a → wl ⟨os⟩ Q rest a w') :
    wl ⟨os⟩ Q (⟨some d, .call ⟨.builtin .append, #[S, X], #[t, t]⟩, ty, pos, af, g⟩ :: rest) a w :=
  s_op hF hg fun _ hK => e_app hF hM hS hX he hL hy hc h1 h0 hb fun g cap w' h => hK _ _ (kk g cap w' _ h (hF.put hd _))
end
end Go.Proofs.Ytocgpllmfdnfjaa

/- Maps: entries found or laid, then stored. -/
namespace Go.Proofs.Ytocgpllmfdnfjaa
open Go.RowKit Go.Shelf
section
variable {n : Nat} {ds : List Deferred} {l : List (Nat × Value)} {a : Act} {w w' w0 : World} {own : Nat → Prop} {bs : List BoxE} {L : List Ent} {Fs : List (World → Prop)}
variable {os rest : List Oper} {Q : Exit → Act → World → Prop} {K : Act → World → Prop}
variable {d : Nat} {op : Op} {ty : TypeId} {pos : String} {af : Array Edge} {g : Option (Nat × Bool)}
theorem ownOf_perm {own : Nat → Prop} {bs : List BoxE} {L L' : List Ent} (h : L'.Perm L) {b : Nat} (hb : ownOf own bs L' b) : ownOf own bs L b := by
  rcases hb with h1 | h1 | ⟨y, hy, e⟩
  · exact .inl h1
  · exact .inr (.inl h1)
  · exact .inr (.inr ⟨y, h.mem_iff.1 hy, e⟩)
/-- The order of rows does not matter. -/
theorem Mm.permL (m : Mm own w0 bs L Fs w) {L' : List Ent} (h : L'.Perm L) : Mm own w0 bs L' Fs w := by
  refine ⟨⟨m.mem.since, m.mem.box, m.mem.new, m.mem.two, ⟨fun x hx => m.mem.own.own x (h.mem_iff.1 hx), ?_⟩, fun x hx y hy => m.mem.far x hx y (h.mem_iff.1 hy)⟩, m.low, fun f hf => (m.facts f hf).own_eq fun b hb => ownOf_perm h hb⟩
  refine (h.pairwise_iff ?_).2 m.mem.own.apart
  intro x y hxy
  by_cases e : y.v.ownBlock = none
  · exact .inl e
  · rcases hxy with q | q
    · exact .inr fun e2 => e (e2.trans q)
    · exact .inr fun e2 => q e2.symm
theorem c_drawF {id : Nat} {bs0 : List BoxE} {Fs0 : List (World → Prop)} (tail : Nat → Bool) (hs : ∀ x ∈ bs0, x ∈ bs) (hf : ∀ f ∈ Fs0, f ∈ Fs) (hM : Mm own w0 bs L Fs w) (h : ∀ w, Mm own w0 bs L Fs w → wpAnyT Try.prog .any ⟨os⟩ Q (Sm bs0 Fs0) tail os.length (Array.replicate os.length false) a w) : Wk none (Code.region id ⟨os⟩ true) Q a w :=
  wp_region_T (Sm bs0 Fs0) tail mixed (hM.drew.sm.sub hs hf) (fun hS => h _ hM.drew)
variable {α : Type} [DecidableEq α]
/-- Entries with their stamps. -/
def stamp (es : List (α × Value)) : List (α × Value × Nat) := es.mapIdx fun i e => (e.1, e.2, i)
/-- A block that holds a map with these keys and values. -/
def MpE (ek : α → Value) (b : Nat) (es : List (α × Value)) : World → Prop := MpF b ((stamp es).map (ent ek)) es.length
def kfind (x : α) : List (α × Value) → Nat → Option Nat
  | [], _ => none
  | e :: r, i => if x = e.1 then some i else kfind x r (i + 1)
/-- Where the entry of a key is, when it is laid if it lacks. -/
def kadd (x : α) (z : Value) (es : List (α × Value)) : List (α × Value) × Nat × Value := match kfind x es 0 with
  | some i => (es, i, ((es[i]?).map (·.2)).getD z)
  | none => (es ++ [(x, z)], es.length, z)
theorem kfind_lt {x : α} : ∀ {es : List (α × Value)} {i j : Nat}, kfind x es i = some j → i ≤ j ∧ ∃ v, es[j - i]? = some (x, v)
  | [], _, _, h => by cases h
  | e :: r, i, j, h => by
    rw [kfind] at h
    split at h
    · rename_i hx
      injection h with h
      subst h
      exact ⟨Nat.le_refl _, e.2, by rw [Nat.sub_self, List.getElem?_cons_zero, hx]⟩
    · obtain ⟨h1, v, h2⟩ := kfind_lt h
      refine ⟨by omega, v, ?_⟩
      rw [show j - i = (j - (i + 1)) + 1 by omega, List.getElem?_cons_succ]
      exact h2
theorem kfind_none {x : α} : ∀ {es : List (α × Value)} {i : Nat}, kfind x es i = none → ∀ e ∈ es, e.1 ≠ x
  | [], _, _ => by simp
  | e :: r, i, h => by
    rw [kfind] at h
    split at h
    · cases h
    · rename_i hx
      intro e' he'
      rcases List.mem_cons.1 he' with rfl | he'
      · exact fun q => hx q.symm
      · exact kfind_none h e' he'
theorem kadd_get (x : α) (z : Value) (es : List (α × Value)) : (kadd x z es).1[(kadd x z es).2.1]? = some (x, (kadd x z es).2.2) := by
  unfold kadd
  cases h : kfind x es 0 with
  | none => simp
  | some i =>
    obtain ⟨_, v, h2⟩ := kfind_lt h
    rw [Nat.sub_zero] at h2
    simp [h2]
theorem stamp_len (es : List (α × Value)) : (stamp es).length = es.length := by simp [stamp]
theorem stamp_get (es : List (α × Value)) (i : Nat) : (stamp es)[i]? = (es[i]?).map fun e => (e.1, e.2, i) := by simp [stamp, List.getElem?_mapIdx]
theorem pfind_idx {x : α} : ∀ (ps : List (α × Value × Nat)) (es : List (α × Value)) (i : Nat), ps.map (fun p => (p.1, p.2.1)) = es → pfind x ps i = (kfind x es i).map fun j => (j, ((es[j - i]?).map (·.2)).getD undef)
  | [], _, i, h => by subst h; simp [pfind, kfind]
  | p :: ps, es, i, h => by
    subst h
    rw [pfind, List.map_cons, kfind]
    by_cases e : x = p.1
    · simp [e]
    · rw [if_neg e, if_neg e, pfind_idx ps _ (i + 1) rfl]
      cases hk : kfind x (ps.map fun p => (p.1, p.2.1)) (i + 1) with
      | none => rfl
      | some j =>
        have := (kfind_lt hk).1
        simp only [Option.map_some, Option.some.injEq, Prod.mk.injEq, true_and]
        rw [show j - i = (j - (i + 1)) + 1 by omega, List.getElem?_cons_succ]
theorem stamp_keys (es : List (α × Value)) : (stamp es).map (fun p => (p.1, p.2.1)) = es := by
  apply List.ext_getElem?
  intro i
  rw [List.getElem?_map, stamp_get]
  cases es[i]? <;> simp
theorem pfind_stamp (x : α) (es : List (α × Value)) : pfind x (stamp es) 0 = (kfind x es 0).map fun j => (j, ((es[j]?).map (·.2)).getD undef) := pfind_idx _ _ 0 (stamp_keys es)
section
variable {kt xT : TypeId} {ek : α → Value} {A : α → Prop} {z : Value} {b : Nat} {es : List (α × Value)} {x : α} {X I Y : Operand}
theorem stamp_ok (hes : ∀ e ∈ es, A e.1) : ∀ p ∈ stamp es, A p.1 := by
  intro p hp
  obtain ⟨i, hi⟩ := List.mem_iff_getElem?.1 hp
  rw [stamp_get] at hi
  cases he : es[i]? with
  | none => rw [he] at hi; cases hi
  | some e =>
    rw [he] at hi
    injection hi with hi
    subst hi
    exact hes e (List.mem_of_getElem? he)
theorem run_mapEntry (hK : KeyOk kt ek A) (ht : mapTy xT = some (kt, z)) (hb : MpE ek b es w) (hx : A x) (hes : ∀ e ∈ es, A e.1) :
    (Instr.mapEntry xT (.map (some b)) (ek x)).run Try.prog w = .ok (.tuple #[(kadd x z es).2.2, goInt (kadd x z es).2.1]) (w.putObj b (.map (((stamp (kadd x z es).1).map (ent ek)).toArray) (kadd x z es).1.length)) := by
  obtain ⟨e, h1, h2⟩ := mapTy_ok ht
  have h3 := hK.check false x w hx
  have h4 := hK.find x (stamp es) w hx (stamp_ok hes)
  have h5 := hK.same x hx
  rw [pfind_stamp] at h4
  unfold Instr.mapEntry
  have hb' : w.heap[b]? = some (.map ((stamp es).map (ent ek)).toArray es.length) := hb
  simp only [Sem.run_bind, tyD_run h1, Result.andThen, MapKept.run_getObj_map hb', h3, h4]
  unfold kadd
  cases hp : kfind x es 0 with
  | none =>
    simp only [Option.map_none, Sem.run_bind, h2 w, Result.andThen, MapKept.run_setObj_map _ hb', Sem.run_pure]
    have : ((stamp es).map (ent ek)).toArray.push { key := ek x, val := z, born := es.length } = ((stamp (es ++ [(x, z)])).map (ent ek)).toArray := by
      apply Array.ext'
      simp [stamp, ent]
    rw [this]
    simp [World.putObj]
  | some i =>
    obtain ⟨_, v, hv⟩ := kfind_lt hp
    rw [Nat.sub_zero] at hv
    have hkey : ((((stamp es).map (ent ek)).toArray[i]?).map (·.key)).getD (ek x) = ek x := by simp [stamp_get, hv, ent]
    have hborn : ((((stamp es).map (ent ek)).toArray[i]?).map (·.born)).getD 0 = i := by simp [stamp_get, hv, ent]
    have hmod : (((stamp es).map (ent ek)).toArray.modify i fun e => { e with key := ek x }) = ((stamp es).map (ent ek)).toArray := by
      apply Array.ext'
      simp only [Array.toList_modify]
      apply List.ext_getElem?
      intro j
      simp only [List.getElem?_map, List.getElem?_modify, stamp_get]
      by_cases e : i = j
      · subst e
        simp [hv, ent]
      · simp [e]
    simp only [Option.map_some, hkey, Instr.keyThatStays, h5, if_true, Sem.run_bind, Sem.run_pure, Result.andThen, MapKept.run_setObj_map _ hb', hmod, hv, Option.getD_some, hborn]
    have hb2 : ((Option.map ((fun x => (x.born : Int)) ∘ ent ek) (stamp es)[i]?).getD 0) = (i : Int) := by simp [stamp_get, hv, ent]
    simp [World.putObj, hv, hb2]
theorem run_entryStore (hb : MpE ek b es w) {i : Nat} {u v : Value} (hi : es[i]? = some (x, u)) :
    (Instr.entryStore xT (.map (some b)) (goInt i) v).run Try.prog w = .ok () (w.putObj b (.map (((stamp (es.set i (x, v))).map (ent ek)).toArray) (es.set i (x, v)).length)) := by
  have hb' : w.heap[b]? = some (.map ((stamp es).map (ent ek)).toArray es.length) := hb
  have hil := (List.getElem?_eq_some_iff.1 hi).1
  have hfind : ((stamp es).map (ent ek)).toArray.findIdx? (fun e => (e.born : Int) == (i : Int)) = some i := by
    rw [List.findIdx?_toArray, List.findIdx?_eq_some_iff_getElem]
    refine ⟨by simp [stamp]; omega, ?_, ?_⟩
    · simp [stamp, ent]
    · intro j hj
      simp [stamp, ent]
      omega
  have hmod : (((stamp es).map (ent ek)).toArray.modify i fun e => { e with val := v }) = ((stamp (es.set i (x, v))).map (ent ek)).toArray := by
    apply Array.ext'
    simp only [Array.toList_modify]
    apply List.ext_getElem?
    intro j
    simp only [List.getElem?_map, List.getElem?_modify, stamp_get, List.getElem?_set]
    by_cases e : i = j
    · subst e
      simp only [hi, if_true, hil, Option.map_some]
      simp [ent]
    · simp [e]
  unfold Instr.entryStore
  simp only [Sem.run_bind, Sem.run_pure, MapKept.run_getObj_map hb', Result.andThen, asInt, asIntOf, goInt, hfind, MapKept.run_setObj_map _ hb', hmod, List.length_set]
  simp [World.putObj, Sem.run_bind, Result.andThen, hfind, MapKept.run_setObj_map _ hb', hmod]
theorem e_mapEntry (hK : KeyOk kt ek A) (hF : Fr n ds l a) (hM : Mm own w0 bs L (MpE ek b es :: Fs) w) (hX : ev l X = some (.map (some b))) (hI : ev l I = some (ek x)) (ht : mapTy xT = some (kt, z)) (hx : A x) (hes : ∀ e ∈ es, A e.1) (hb0 : w0.heap.size ≤ b) (hcf : ∀ f ∈ Fs, Cf f) (hd : Nat.blt d n = true)
    (k : ∀ w' a, Mm own w0 bs L (MpE ek b (kadd x z es).1 :: Fs) w' → Fr n ds ((d, .tuple #[(kadd x z es).2.2, goInt (kadd x z es).2.1]) :: l) a → K a w') : (⟨some d, .mapEntry xT X I, ty, pos, af, g⟩ : Oper).wp Try.prog a w K Q := by
  have hb := hM.fact (f := MpE ek b es) List.mem_cons_self
  refine upon_value (v := .tuple #[(kadd x z es).2.2, goInt (kadd x z es).2.1]) ?_ (k _ _ ((hM.sub (.refl _) (.refl _) (fun f hf => List.mem_cons_of_mem _ hf)).mapTo hb0 hb hcf _ _) (hF.put hd _))
  have := run_mapEntry hK ht hb hx hes
  simp [execOp, hF.eval hX, hF.eval hI, Sem.run_bind, this, Result.andThen]
theorem e_entryStore {i : Nat} {u v : Value} (hF : Fr n ds l a) (hM : Mm own w0 bs L (MpE ek b es :: Fs) w) (hX : ev l X = some (.map (some b))) (hI : ev l I = some (goInt i)) (hY : ev l Y = some v) (hi : es[i]? = some (x, u)) (hb0 : w0.heap.size ≤ b) (hcf : ∀ f ∈ Fs, Cf f)
    (k : ∀ w', Mm own w0 bs L (MpE ek b (es.set i (x, v)) :: Fs) w' → K (a.put none undef) w') : (⟨none, .entryStore xT X I Y, ty, pos, af, g⟩ : Oper).wp Try.prog a w K Q := by
  have hb := hM.fact (f := MpE ek b es) List.mem_cons_self
  refine upon_skip' (w' := w.putObj b (.map (((stamp (es.set i (x, v))).map (ent ek)).toArray) (es.set i (x, v)).length)) ?_ (k _ ((hM.sub (.refl _) (.refl _) (fun f hf => List.mem_cons_of_mem _ hf)).mapTo hb0 hb hcf _ _))
  have := run_entryStore (xT := xT) hb (v := v) hi
  simp [execOp, hF.eval hX, hF.eval hI, hF.eval hY, Sem.run_bind, this, Result.andThen]
theorem plk_stamp (x : α) (z : Value) (es : List (α × Value)) : (plk x (stamp es) z).1 = (kadd x z es).2.2 ∧ (plk x (stamp es) z).2 = (kfind x es 0).isSome := by
  unfold plk kadd
  rw [pfind_stamp]
  cases h : kfind x es 0 with
  | none => simp
  | some i =>
    obtain ⟨_, v, h2⟩ := kfind_lt h
    rw [Nat.sub_zero] at h2
    simp [h2]
theorem e_lookupE (hK : KeyOk kt ek A) (hF : Fr n ds l a) (hM : Mm own w0 bs L Fs w) (hX : ev l X = some (.map (some b))) (hI : ev l I = some (ek x)) (ht : mapTy xT = some (kt, z)) (hb : MpE ek b es ∈ Fs) (hx : A x) (hes : ∀ e ∈ es, A e.1) :
    (execOp a.eval ⟨some d, .lookup xT X I false, ty, pos, af, g⟩).run Try.prog w = .ok (.value (kadd x z es).2.2) w := by
  have := run_lookup hK ht (hM.fact hb) hx (stamp_ok hes) false
  rw [← (plk_stamp x z es).1]
  simp [execOp, hF.eval hX, hF.eval hI, Sem.run_bind, this, Result.andThen]
end
/-- An empty map is made. -/
theorem s_makeMapE {α : Type} {ek : α → Value} {t : TypeId} (hF : Fr n ds l a) (hM : Mm own w0 bs L Fs w) (hg : wantO os l g = some true) (hd : Nat.blt d n = true)
    (k : ∀ b w' a, w0.heap.size ≤ b → Mm own w0 bs L (MpE ek b [] :: Fs) w' → Fr n ds ((d, .map (some b)) :: l) a → wl ⟨os⟩ Q rest a w') : wl ⟨os⟩ Q (⟨some d, .makeMap t none, ty, pos, af, g⟩ :: rest) a w :=
  s_makeMap hF hM hg hd fun b w' a h1 h2 h3 => k b w' a h1 h2 h3
end
end Go.Proofs.Ytocgpllmfdnfjaa

/- dictionary: keys and lengths of matches. -/
namespace Go.Proofs.Ytocgpllmfdnfjaa
open Go.RowKit Go.Shelf
/-- The four bytes at a place; zeros if there are fewer. -/
def keyV (all : List Int) (i : Nat) : List Int := if i + 4 ≤ all.length then (all.drop i).take 4 else [0, 0, 0, 0]
theorem keyV_len (all : List Int) (i : Nat) : (keyV all i).length = 4 := by
  unfold keyV
  split
  · rw [List.length_take, List.length_drop]; omega
  · rfl
/-- How many bytes from two places on are the same, at most 131. -/
def mlenF (all : List Int) (p t : Nat) : Nat → Nat → Nat
  | 0, n => n
  | f + 1, n => if t + n < all.length ∧ all[p + n]? = all[t + n]? then mlenF all p t f (n + 1) else n
def mlen (all : List Int) (p t : Nat) : Nat := mlenF all p t 131 0
theorem mlenF_le (all : List Int) (p t : Nat) : ∀ (f n : Nat), n ≤ mlenF all p t f n ∧ mlenF all p t f n ≤ n + f
  | 0, n => by simp [mlenF]
  | f + 1, n => by
    rw [mlenF]
    have := mlenF_le all p t f (n + 1)
    split <;> omega
theorem mlen_le (all : List Int) (p t : Nat) : mlen all p t ≤ 131 := by
  have := (mlenF_le all p t 131 0).2
  unfold mlen
  omega
def encT (b : Nat) (tv wv : Value) (all : List Int) (a0 : Option Addr) (c0 t : Nat) (mb : Nat) : List Value := [tv, wv, .slice a0 all.length c0, .int .i64 t, .map (some mb)]
section
variable (all : List Int) (hlen : all.length ≤ 1000000) (a0 : Option Addr) (c0 : Nat) (hc0 : all.length ≤ c0) (b t mb : Nat) (tv wv : Value) (own : Nat → Prop) (W : World) (hl : ∀ b, own b → b < W.heap.size) (hb : Has own W (BxF b [tv, wv, .slice a0 all.length c0, .int .i64 t, .map (some mb)] 51)) (hv : Has own W (RdF (Value.int .u8) a0 all))
include hlen hc0 hl hb hv
theorem key_c (i : Nat) (q : Int) (hq : q = i) (hi : i ≤ 1000000) : Calls Try.prog 42 ⟨[.pointer (some ⟨b, 0, none⟩), .int .i64 q]⟩ W (Ret W fun v _ => v = .tuple #[.agg ((keyV all i).map (Value.int .u8)).toArray, .bool (decide (i + 4 ≤ all.length))]) := by
  subst hq
  have hM := ((Mm.start hl).known hv).known hb
  unfold keyV
  by_cases h4 : i + 4 ≤ all.length
  · rw [if_pos h4, show decide (i + 4 ≤ all.length) = true from decide_eq_true h4]
    obtain ⟨x, hx⟩ := get_of_lt (l := all) (i := i) (by omega)
    obtain ⟨ad, rfl⟩ : ∃ ad, a0 = some ad := rd_some hM (by (repeat (first | exact List.mem_cons_self | refine List.mem_cons_of_mem _ ?_))) hx
    obtain ⟨ad2, hAd⟩ : ∃ ad2, sadr (some ad) i c0 1 = some ad2 := by unfold sadr; split <;> exact ⟨_, rfl⟩
    have hv2 := RdF.drop hv i c0 hc0
    rw [hAd] at hv2
    have hd4 : (all.drop i).length = all.length - i := List.length_drop
    match hdr : all.drop i, hd4 with
    | x0 :: x1 :: x2 :: x3 :: r, _ =>
      rw [hdr] at hv2
      replace hM := hM.known hv2
      refine f_start Try.func42 rfl Try.ntmps42 rfl rfl ?_; intro a hF
      (repeat' (first | (with_reducible refine w_seq ?_) | (with_reducible refine c_region ?_) | (with_reducible refine s_nil ?_) | ((with_reducible apply s_s2a hF); exact rfl; exact rfl; exact rfl; exact rfl; omega; clear hF a; intro a hF) | (with_reducible refine q_then_n ?_) | ((with_reducible apply s_pure hF); exact rfl; exact rfl; exact rfl; (first | exact trivial | omega | exact ⟨Int.natCast_nonneg _, Int.ofNat_lt.2 (by assumption)⟩ | decide); clear hF a; intro a hF) | ((with_reducible apply s_loadK hF hM); exact rfl; exact rfl; (repeat (first | exact List.mem_cons_self | refine List.mem_cons_of_mem _ ?_)); exact rfl; exact rfl; clear hF a; intro a hF) | ((with_reducible apply s_alloc hF hM); exact rfl; exact rfl; exact rfl; clear hF hM a; intro b w a hM hF) | (with_reducible refine w_skip ?_) | ((with_reducible apply c_dec hF); exact rfl; all_goals intro hc; all_goals (try (exfalso; omega)))))
      rw [Int.toNat_natCast, hAd] at hF
      (repeat' (first | (with_reducible refine s_nil ?_) | ((with_reducible apply s_loadA hF hM); exact rfl; exact rfl; (repeat (first | exact List.mem_cons_self | refine List.mem_cons_of_mem _ ?_)); exact rfl; exact rfl; exact rfl; (first | omega | (show (4 : Nat) ≤ _; simp) | (show (8 : Nat) ≤ _; simp)); clear hF a; intro a hF) | (with_reducible refine q_then_n ?_) | ((with_reducible apply s_pure hF); exact rfl; exact rfl; exact rfl; (first | exact trivial | omega | exact ⟨Int.natCast_nonneg _, Int.ofNat_lt.2 (by assumption)⟩ | decide); clear hF a; intro a hF) | ((with_reducible apply s_store hF hM); exact rfl; exact rfl; exact rfl; exact rfl; (repeat (first | exact Upd.z | apply Upd.s)); exact rfl; exact rfl; exact rfl; clear hM; intro w hM) | (with_reducible refine w_ret ?_)))
      (apply f_ret Try.results42 hF hM; (repeat (first | exact RL.nil | (apply RL.tmp; exact rfl) | (apply RL.cell; exact rfl; (repeat (first | exact List.mem_cons_self | refine List.mem_cons_of_mem _ ?_)); exact rfl))); refine Ret.mk hM.since ?_; dsimp only [resV])
      rfl
    | [], h => exfalso; rw [List.length_nil] at h; omega
    | [_], h => exfalso; simp at h; omega
    | [_, _], h => exfalso; simp at h; omega
    | [_, _, _], h => exfalso; simp at h; omega
  · rw [if_neg h4, show decide (i + 4 ≤ all.length) = false from decide_eq_false h4]
    refine f_start Try.func42 rfl Try.ntmps42 rfl rfl ?_; intro a hF
    (repeat' (first | (with_reducible refine w_seq ?_) | (with_reducible refine c_region ?_) | (with_reducible refine s_nil ?_) | (with_reducible refine q_then_n ?_) | ((with_reducible apply s_pure hF); exact rfl; exact rfl; exact rfl; (first | exact trivial | omega | exact ⟨Int.natCast_nonneg _, Int.ofNat_lt.2 (by assumption)⟩ | decide); clear hF a; intro a hF) | ((with_reducible apply s_loadK hF hM); exact rfl; exact rfl; (repeat (first | exact List.mem_cons_self | refine List.mem_cons_of_mem _ ?_)); exact rfl; exact rfl; clear hF a; intro a hF) | ((with_reducible apply s_store hF hM); exact rfl; exact rfl; exact rfl; exact rfl; (repeat (first | exact Upd.z | apply Upd.s)); exact rfl; exact rfl; exact rfl; clear hM; intro w hM) | ((with_reducible apply s_alloc hF hM); exact rfl; exact rfl; exact rfl; clear hF hM a; intro b w a hM hF) | (with_reducible refine w_ret ?_) | (with_reducible refine q_then_r ?_) | ((with_reducible apply c_dec hF); exact rfl; all_goals intro hc; all_goals (try (exfalso; omega)))))
    (apply f_ret Try.results42 hF hM; (repeat (first | exact RL.nil | (apply RL.tmp; exact rfl) | (apply RL.cell; exact rfl; (repeat (first | exact List.mem_cons_self | refine List.mem_cons_of_mem _ ?_)); exact rfl))); refine Ret.mk hM.since ?_; dsimp only [resV])
    rfl
theorem length_c (p : Nat) (q : Int) (hq : q = p) (hp : p < t) (ht : t ≤ all.length) : Calls Try.prog 43 ⟨[.pointer (some ⟨b, 0, none⟩), .int .i64 q]⟩ W (Ret W fun v _ => v = .int .i64 (mlen all p t)) := by
  subst hq
  have hM := ((Mm.start hl).known hv).known hb
  refine f_start Try.func43 rfl Try.ntmps43 rfl rfl ?_; intro a hF
  (repeat' (first | (with_reducible refine w_seq ?_) | (with_reducible refine c_region ?_) | (with_reducible refine s_nil ?_) | (with_reducible refine q_then_n ?_) | ((with_reducible apply s_pure hF); exact rfl; exact rfl; exact rfl; (first | exact trivial | omega | exact ⟨Int.natCast_nonneg _, Int.ofNat_lt.2 (by assumption)⟩ | decide); clear hF a; intro a hF) | (with_reducible refine w_block ?_)))
  refine c_loop (m := 131) (fun m a w' => ∃ n : Nat, m + n = 131 ∧ mlen all p t = mlenF all p t m n ∧
    Fr 49 [] [(5, .int .i64 n), (0, .pointer (some ⟨b, 0, none⟩)), (1, .int .i64 p)] a ∧ Mm own W [] [] [BxF b [tv, wv, .slice a0 all.length c0, .int .i64 t, .map (some mb)] 51, RdF (Value.int .u8) a0 all] w') ⟨0, rfl, rfl, hF.sub (by repeat (first | exact Sub.nil | refine Sub.cons rfl (by first | with_reducible rfl | (refine congrArg (Value.int _) ?_; omega) | exact rfl) ?_)), hM⟩ ?_
  clear hF hM a
  rintro m a w' ⟨n, hm, hml, hF, hM⟩
  by_cases h1 : n < 131
  · obtain ⟨m, rfl⟩ : ∃ k, m = k + 1 := ⟨m - 1, by omega⟩
    by_cases h2 : t + n < all.length
    · obtain ⟨x1, hx1⟩ := get_of_lt (l := all) (i := p + n) (by omega)
      obtain ⟨x2, hx2⟩ := get_of_lt h2
      rw [mlenF, hx1, hx2] at hml
      obtain ⟨ad, rfl⟩ : ∃ ad, a0 = some ad := rd_some hM (by (repeat (first | exact List.mem_cons_self | refine List.mem_cons_of_mem _ ?_))) hx1
      have hx1' : all[((p : Int) + (n : Int)).toNat]? = some x1 := by rw [show ((p : Int) + (n : Int)).toNat = p + n by omega]; exact hx1
      have hx2' : all[((t : Int) + (n : Int)).toNat]? = some x2 := by rw [show ((t : Int) + (n : Int)).toNat = t + n by omega]; exact hx2
      with_reducible refine w_seq ?_
      with_reducible refine w_seq ?_
      refine c_draw (fun i => Nat.ble 40 i) hM ?_; clear hM; intro w hM
      (first | (refine t_pure (i := 0) hF rfl rfl rfl rfl (by kernel_rfl) hM.sm (fun _ _ _ h => h) ?_ ?_; (first | exact trivial | omega | decide); clear hF a; intro a hF))
      (first | (refine t_pure (i := 1) hF rfl rfl rfl rfl (by kernel_rfl) hM.sm (fun _ _ _ h => h) ?_ ?_; (first | exact trivial | omega | decide); clear hF a; intro a hF))
      rw [show decide ((n : Int) < 131) = true from decide_eq_true (by omega)] at hF
      (first | (refine t_pure (i := 2) hF rfl rfl rfl rfl (by kernel_rfl) (hM.sm.sub (fun x hx => by repeat (first | exact hx | refine List.mem_cons_of_mem _ ?_)) (fun _ h => by repeat (first | exact h | refine List.mem_cons_of_mem _ ?_))) (fun _ _ _ h => h) ?_ ?_; (first | exact trivial | omega | decide); clear hF a; intro a hF))
      (first | (refine t_pure (i := 3) hF rfl rfl rfl rfl (by kernel_rfl) (hM.sm.sub (fun x hx => by repeat (first | exact hx | refine List.mem_cons_of_mem _ ?_)) (fun _ h => by repeat (first | exact h | refine List.mem_cons_of_mem _ ?_))) (fun _ _ _ h => h) ?_ ?_; (first | exact trivial | omega | decide); clear hF a; intro a hF))
      (first | (refine t_pure (i := 4) hF rfl rfl rfl rfl (by kernel_rfl) (hM.sm.sub (fun x hx => by repeat (first | exact hx | refine List.mem_cons_of_mem _ ?_)) (fun _ h => by repeat (first | exact h | refine List.mem_cons_of_mem _ ?_))) (fun _ _ _ h => h) ?_ ?_; (first | exact trivial | omega | decide); clear hF a; intro a hF))
      (first | (refine t_pure (i := 5) hF rfl rfl rfl rfl (by kernel_rfl) (hM.sm.sub (fun x hx => by repeat (first | exact hx | refine List.mem_cons_of_mem _ ?_)) (fun _ h => by repeat (first | exact h | refine List.mem_cons_of_mem _ ?_))) (fun _ _ _ h => h) ?_ ?_; (first | exact trivial | omega | decide); clear hF a; intro a hF))
      (first | (apply t_loadK (i := 6) hF rfl rfl rfl; (repeat (first | exact List.mem_cons_self | refine List.mem_cons_of_mem _ ?_)); exact rfl; exact rfl; kernel_rfl; exact (hM.sm.sub (fun x hx => by repeat (first | exact hx | refine List.mem_cons_of_mem _ ?_)) (fun _ h => by repeat (first | exact h | refine List.mem_cons_of_mem _ ?_))); exact (fun _ _ _ h => h); clear hF a; intro a hF))
      (first | (refine t_pure (i := 7) hF rfl rfl rfl rfl (by kernel_rfl) (hM.sm.sub (fun x hx => by repeat (first | exact hx | refine List.mem_cons_of_mem _ ?_)) (fun _ h => by repeat (first | exact h | refine List.mem_cons_of_mem _ ?_))) (fun _ _ _ h => h) ?_ ?_; (first | exact trivial | omega | decide); clear hF a; intro a hF))
      (first | (refine t_pure (i := 8) hF rfl rfl rfl rfl (by kernel_rfl) (hM.sm.sub (fun x hx => by repeat (first | exact hx | refine List.mem_cons_of_mem _ ?_)) (fun _ h => by repeat (first | exact h | refine List.mem_cons_of_mem _ ?_))) (fun _ _ _ h => h) ?_ ?_; (first | exact trivial | omega | decide); clear hF a; intro a hF))
      (first | (refine t_pure (i := 9) hF rfl rfl rfl rfl (by kernel_rfl) (hM.sm.sub (fun x hx => by repeat (first | exact hx | refine List.mem_cons_of_mem _ ?_)) (fun _ h => by repeat (first | exact h | refine List.mem_cons_of_mem _ ?_))) (fun _ _ _ h => h) ?_ ?_; (first | exact trivial | omega | decide); clear hF a; intro a hF))
      (first | (refine t_pure (i := 10) hF rfl rfl rfl rfl (by kernel_rfl) (hM.sm.sub (fun x hx => by repeat (first | exact hx | refine List.mem_cons_of_mem _ ?_)) (fun _ h => by repeat (first | exact h | refine List.mem_cons_of_mem _ ?_))) (fun _ _ _ h => h) ?_ ?_; (first | exact trivial | omega | decide); clear hF a; intro a hF))
      (first | (refine t_pure (i := 11) hF rfl rfl rfl rfl (by kernel_rfl) (hM.sm.sub (fun x hx => by repeat (first | exact hx | refine List.mem_cons_of_mem _ ?_)) (fun _ h => by repeat (first | exact h | refine List.mem_cons_of_mem _ ?_))) (fun _ _ _ h => h) ?_ ?_; (first | exact trivial | omega | decide); clear hF a; intro a hF))
      (first | (apply t_loadK (i := 12) hF rfl rfl rfl; (repeat (first | exact List.mem_cons_self | refine List.mem_cons_of_mem _ ?_)); exact rfl; exact rfl; kernel_rfl; exact (hM.sm.sub (fun x hx => by repeat (first | exact hx | refine List.mem_cons_of_mem _ ?_)) (fun _ h => by repeat (first | exact h | refine List.mem_cons_of_mem _ ?_))); exact (fun _ _ _ h => h); clear hF a; intro a hF))
      (first | (refine t_pure (i := 13) hF rfl rfl rfl rfl (by kernel_rfl) (hM.sm.sub (fun x hx => by repeat (first | exact hx | refine List.mem_cons_of_mem _ ?_)) (fun _ h => by repeat (first | exact h | refine List.mem_cons_of_mem _ ?_))) (fun _ _ _ h => h) ?_ ?_; (first | exact trivial | omega | decide); clear hF a; intro a hF))
      (first | (refine t_pure (i := 14) hF rfl rfl rfl rfl (by kernel_rfl) (hM.sm.sub (fun x hx => by repeat (first | exact hx | refine List.mem_cons_of_mem _ ?_)) (fun _ h => by repeat (first | exact h | refine List.mem_cons_of_mem _ ?_))) (fun _ _ _ h => h) ?_ ?_; (first | exact trivial | omega | decide); clear hF a; intro a hF))
      rw [show decide ((t : Int) + (n : Int) < (all.length : Int)) = true from decide_eq_true (by omega)] at hF
      (first | (refine t_pure (i := 15) hF rfl rfl rfl rfl (by kernel_rfl) (hM.sm.sub (fun x hx => by repeat (first | exact hx | refine List.mem_cons_of_mem _ ?_)) (fun _ h => by repeat (first | exact h | refine List.mem_cons_of_mem _ ?_))) (fun _ _ _ h => h) ?_ ?_; (first | exact trivial | omega | decide); clear hF a; intro a hF))
      (first | (refine t_pure (i := 16) hF rfl rfl rfl rfl (by kernel_rfl) (hM.sm.sub (fun x hx => by repeat (first | exact hx | refine List.mem_cons_of_mem _ ?_)) (fun _ h => by repeat (first | exact h | refine List.mem_cons_of_mem _ ?_))) (fun _ _ _ h => h) ?_ ?_; (first | exact trivial | omega | decide); clear hF a; intro a hF))
      (first | (refine t_pure (i := 17) hF rfl rfl rfl rfl (by kernel_rfl) (hM.sm.sub (fun x hx => by repeat (first | exact hx | refine List.mem_cons_of_mem _ ?_)) (fun _ h => by repeat (first | exact h | refine List.mem_cons_of_mem _ ?_))) (fun _ _ _ h => h) ?_ ?_; (first | exact trivial | omega | decide); clear hF a; intro a hF))
      (first | (refine t_pure (i := 18) hF rfl rfl rfl rfl (by kernel_rfl) (hM.sm.sub (fun x hx => by repeat (first | exact hx | refine List.mem_cons_of_mem _ ?_)) (fun _ h => by repeat (first | exact h | refine List.mem_cons_of_mem _ ?_))) (fun _ _ _ h => h) ?_ ?_; (first | exact trivial | omega | decide); clear hF a; intro a hF))
      (first | (refine t_pure (i := 19) hF rfl rfl rfl rfl (by kernel_rfl) (hM.sm.sub (fun x hx => by repeat (first | exact hx | refine List.mem_cons_of_mem _ ?_)) (fun _ h => by repeat (first | exact h | refine List.mem_cons_of_mem _ ?_))) (fun _ _ _ h => h) ?_ ?_; (first | exact trivial | omega | decide); clear hF a; intro a hF))
      (first | (apply t_loadK (i := 20) hF rfl rfl rfl; (repeat (first | exact List.mem_cons_self | refine List.mem_cons_of_mem _ ?_)); exact rfl; exact rfl; kernel_rfl; exact (hM.sm.sub (fun x hx => by repeat (first | exact hx | refine List.mem_cons_of_mem _ ?_)) (fun _ h => by repeat (first | exact h | refine List.mem_cons_of_mem _ ?_))); exact (fun _ _ _ h => h); clear hF a; intro a hF))
      (first | (refine t_pure (i := 21) hF rfl rfl rfl rfl (by kernel_rfl) (hM.sm.sub (fun x hx => by repeat (first | exact hx | refine List.mem_cons_of_mem _ ?_)) (fun _ h => by repeat (first | exact h | refine List.mem_cons_of_mem _ ?_))) (fun _ _ _ h => h) ?_ ?_; (first | exact trivial | omega | decide); clear hF a; intro a hF))
      (first | (refine t_pure (i := 22) hF rfl rfl rfl rfl (by kernel_rfl) (hM.sm.sub (fun x hx => by repeat (first | exact hx | refine List.mem_cons_of_mem _ ?_)) (fun _ h => by repeat (first | exact h | refine List.mem_cons_of_mem _ ?_))) (fun _ _ _ h => h) ?_ ?_; (first | exact trivial | omega | decide); clear hF a; intro a hF))
      (first | (refine t_pure (i := 23) hF rfl rfl rfl rfl (by kernel_rfl) (hM.sm.sub (fun x hx => by repeat (first | exact hx | refine List.mem_cons_of_mem _ ?_)) (fun _ h => by repeat (first | exact h | refine List.mem_cons_of_mem _ ?_))) (fun _ _ _ h => h) ?_ ?_; (first | exact trivial | omega | decide); clear hF a; intro a hF))
      (first | (refine t_pure (i := 24) hF rfl rfl rfl rfl (by kernel_rfl) (hM.sm.sub (fun x hx => by repeat (first | exact hx | refine List.mem_cons_of_mem _ ?_)) (fun _ h => by repeat (first | exact h | refine List.mem_cons_of_mem _ ?_))) (fun _ _ _ h => h) ?_ ?_; (first | exact trivial | omega | decide); clear hF a; intro a hF))
      (first | (apply t_loadF (i := 25) hF rfl rfl rfl; (repeat (first | exact List.mem_cons_self | refine List.mem_cons_of_mem _ ?_)); (first | with_reducible assumption | (simp only [Int.toNat_natCast]; with_reducible assumption)); exact rfl; exact rfl; kernel_rfl; exact (hM.sm.sub (fun x hx => by repeat (first | exact hx | refine List.mem_cons_of_mem _ ?_)) (fun _ h => by repeat (first | exact h | refine List.mem_cons_of_mem _ ?_))); exact (fun _ _ _ h => h); clear hF a; intro a hF))
      (first | (refine t_pure (i := 26) hF rfl rfl rfl rfl (by kernel_rfl) (hM.sm.sub (fun x hx => by repeat (first | exact hx | refine List.mem_cons_of_mem _ ?_)) (fun _ h => by repeat (first | exact h | refine List.mem_cons_of_mem _ ?_))) (fun _ _ _ h => h) ?_ ?_; (first | exact trivial | omega | decide); clear hF a; intro a hF))
      (first | (refine t_pure (i := 27) hF rfl rfl rfl rfl (by kernel_rfl) (hM.sm.sub (fun x hx => by repeat (first | exact hx | refine List.mem_cons_of_mem _ ?_)) (fun _ h => by repeat (first | exact h | refine List.mem_cons_of_mem _ ?_))) (fun _ _ _ h => h) ?_ ?_; (first | exact trivial | omega | decide); clear hF a; intro a hF))
      (first | (refine t_pure (i := 28) hF rfl rfl rfl rfl (by kernel_rfl) (hM.sm.sub (fun x hx => by repeat (first | exact hx | refine List.mem_cons_of_mem _ ?_)) (fun _ h => by repeat (first | exact h | refine List.mem_cons_of_mem _ ?_))) (fun _ _ _ h => h) ?_ ?_; (first | exact trivial | omega | decide); clear hF a; intro a hF))
      (first | (apply t_loadK (i := 29) hF rfl rfl rfl; (repeat (first | exact List.mem_cons_self | refine List.mem_cons_of_mem _ ?_)); exact rfl; exact rfl; kernel_rfl; exact (hM.sm.sub (fun x hx => by repeat (first | exact hx | refine List.mem_cons_of_mem _ ?_)) (fun _ h => by repeat (first | exact h | refine List.mem_cons_of_mem _ ?_))); exact (fun _ _ _ h => h); clear hF a; intro a hF))
      (first | (refine t_pure (i := 30) hF rfl rfl rfl rfl (by kernel_rfl) (hM.sm.sub (fun x hx => by repeat (first | exact hx | refine List.mem_cons_of_mem _ ?_)) (fun _ h => by repeat (first | exact h | refine List.mem_cons_of_mem _ ?_))) (fun _ _ _ h => h) ?_ ?_; (first | exact trivial | omega | decide); clear hF a; intro a hF))
      (first | (refine t_pure (i := 31) hF rfl rfl rfl rfl (by kernel_rfl) (hM.sm.sub (fun x hx => by repeat (first | exact hx | refine List.mem_cons_of_mem _ ?_)) (fun _ h => by repeat (first | exact h | refine List.mem_cons_of_mem _ ?_))) (fun _ _ _ h => h) ?_ ?_; (first | exact trivial | omega | decide); clear hF a; intro a hF))
      (first | (refine t_pure (i := 32) hF rfl rfl rfl rfl (by kernel_rfl) (hM.sm.sub (fun x hx => by repeat (first | exact hx | refine List.mem_cons_of_mem _ ?_)) (fun _ h => by repeat (first | exact h | refine List.mem_cons_of_mem _ ?_))) (fun _ _ _ h => h) ?_ ?_; (first | exact trivial | omega | decide); clear hF a; intro a hF))
      (first | (apply t_loadK (i := 33) hF rfl rfl rfl; (repeat (first | exact List.mem_cons_self | refine List.mem_cons_of_mem _ ?_)); exact rfl; exact rfl; kernel_rfl; exact (hM.sm.sub (fun x hx => by repeat (first | exact hx | refine List.mem_cons_of_mem _ ?_)) (fun _ h => by repeat (first | exact h | refine List.mem_cons_of_mem _ ?_))); exact (fun _ _ _ h => h); clear hF a; intro a hF))
      (first | (refine t_pure (i := 34) hF rfl rfl rfl rfl (by kernel_rfl) (hM.sm.sub (fun x hx => by repeat (first | exact hx | refine List.mem_cons_of_mem _ ?_)) (fun _ h => by repeat (first | exact h | refine List.mem_cons_of_mem _ ?_))) (fun _ _ _ h => h) ?_ ?_; (first | exact trivial | omega | decide); clear hF a; intro a hF))
      (first | (refine t_pure (i := 35) hF rfl rfl rfl rfl (by kernel_rfl) (hM.sm.sub (fun x hx => by repeat (first | exact hx | refine List.mem_cons_of_mem _ ?_)) (fun _ h => by repeat (first | exact h | refine List.mem_cons_of_mem _ ?_))) (fun _ _ _ h => h) ?_ ?_; (first | exact trivial | omega | decide); clear hF a; intro a hF))
      (first | (refine t_pure (i := 36) hF rfl rfl rfl rfl (by kernel_rfl) (hM.sm.sub (fun x hx => by repeat (first | exact hx | refine List.mem_cons_of_mem _ ?_)) (fun _ h => by repeat (first | exact h | refine List.mem_cons_of_mem _ ?_))) (fun _ _ _ h => h) ?_ ?_; (first | exact trivial | omega | decide); clear hF a; intro a hF))
      (first | (apply t_loadF (i := 37) hF rfl rfl rfl; (repeat (first | exact List.mem_cons_self | refine List.mem_cons_of_mem _ ?_)); (first | with_reducible assumption | (simp only [Int.toNat_natCast]; with_reducible assumption)); exact rfl; exact rfl; kernel_rfl; exact (hM.sm.sub (fun x hx => by repeat (first | exact hx | refine List.mem_cons_of_mem _ ?_)) (fun _ h => by repeat (first | exact h | refine List.mem_cons_of_mem _ ?_))); exact (fun _ _ _ h => h); clear hF a; intro a hF))
      (first | (refine t_pure (i := 38) hF rfl rfl rfl rfl (by kernel_rfl) (hM.sm.sub (fun x hx => by repeat (first | exact hx | refine List.mem_cons_of_mem _ ?_)) (fun _ h => by repeat (first | exact h | refine List.mem_cons_of_mem _ ?_))) (fun _ _ _ h => h) ?_ ?_; (first | exact trivial | omega | decide); clear hF a; intro a hF))
      (first | (refine t_pure (i := 39) hF rfl rfl rfl rfl (by kernel_rfl) (hM.sm.sub (fun x hx => by repeat (first | exact hx | refine List.mem_cons_of_mem _ ?_)) (fun _ h => by repeat (first | exact h | refine List.mem_cons_of_mem _ ?_))) (fun _ _ _ h => h) ?_ ?_; (first | exact trivial | omega | decide); clear hF a; intro a hF))
      refine t_done (by kernel_rfl) ?_
      (repeat' (first | (with_reducible refine w_seq ?_) | (with_reducible refine c_region ?_) | (with_reducible refine s_nil ?_) | (with_reducible refine q_then_n ?_) | ((with_reducible apply s_pure hF); exact rfl; exact rfl; exact rfl; (first | exact trivial | omega | exact ⟨Int.natCast_nonneg _, Int.ofNat_lt.2 (by assumption)⟩ | decide); clear hF a; intro a hF) | (with_reducible refine w_skip ?_) | (with_reducible refine w_block ?_) | (with_reducible refine w_exit ?_) | (with_reducible refine w_ret ?_) | (with_reducible refine q_then_x ?_) | (with_reducible refine q_blk_n ?_) | (with_reducible refine q_blk_x ?_) | ((with_reducible apply c_dec hF); exact rfl; all_goals intro hc; all_goals (try (exfalso; omega)))))
      · subst hc
        rw [if_pos ⟨h2, rfl⟩] at hml
        exact ⟨m, by omega, n + 1, by omega, hml, hF.sub (by repeat (first | exact Sub.nil | refine Sub.cons rfl (by first | with_reducible rfl | (refine congrArg (Value.int _) ?_; omega) | exact rfl) ?_)), hM⟩
      · rw [if_neg (by rintro ⟨_, e⟩; injection e with e; exact hc e)] at hml
        (apply f_ret Try.results43 hF hM; (repeat (first | exact RL.nil | (apply RL.tmp; exact rfl) | (apply RL.cell; exact rfl; (repeat (first | exact List.mem_cons_self | refine List.mem_cons_of_mem _ ?_)); exact rfl))); refine Ret.mk hM.since ?_; dsimp only [resV])
        rw [hml]
    · rw [mlenF, if_neg (by omega)] at hml
      with_reducible refine w_seq ?_
      with_reducible refine w_seq ?_
      refine c_draw (fun i => Nat.ble 40 i) hM ?_; clear hM; intro w hM
      (first | (refine t_pure (i := 0) hF rfl rfl rfl rfl (by kernel_rfl) hM.sm (fun _ _ _ h => h) ?_ ?_; (first | exact trivial | omega | decide); clear hF a; intro a hF))
      (first | (refine t_pure (i := 1) hF rfl rfl rfl rfl (by kernel_rfl) hM.sm (fun _ _ _ h => h) ?_ ?_; (first | exact trivial | omega | decide); clear hF a; intro a hF))
      rw [show decide ((n : Int) < 131) = true from decide_eq_true (by omega)] at hF
      (first | (refine t_pure (i := 2) hF rfl rfl rfl rfl (by kernel_rfl) (hM.sm.sub (fun x hx => by repeat (first | exact hx | refine List.mem_cons_of_mem _ ?_)) (fun _ h => by repeat (first | exact h | refine List.mem_cons_of_mem _ ?_))) (fun _ _ _ h => h) ?_ ?_; (first | exact trivial | omega | decide); clear hF a; intro a hF))
      (first | (refine t_pure (i := 3) hF rfl rfl rfl rfl (by kernel_rfl) (hM.sm.sub (fun x hx => by repeat (first | exact hx | refine List.mem_cons_of_mem _ ?_)) (fun _ h => by repeat (first | exact h | refine List.mem_cons_of_mem _ ?_))) (fun _ _ _ h => h) ?_ ?_; (first | exact trivial | omega | decide); clear hF a; intro a hF))
      (first | (refine t_pure (i := 4) hF rfl rfl rfl rfl (by kernel_rfl) (hM.sm.sub (fun x hx => by repeat (first | exact hx | refine List.mem_cons_of_mem _ ?_)) (fun _ h => by repeat (first | exact h | refine List.mem_cons_of_mem _ ?_))) (fun _ _ _ h => h) ?_ ?_; (first | exact trivial | omega | decide); clear hF a; intro a hF))
      (first | (refine t_pure (i := 5) hF rfl rfl rfl rfl (by kernel_rfl) (hM.sm.sub (fun x hx => by repeat (first | exact hx | refine List.mem_cons_of_mem _ ?_)) (fun _ h => by repeat (first | exact h | refine List.mem_cons_of_mem _ ?_))) (fun _ _ _ h => h) ?_ ?_; (first | exact trivial | omega | decide); clear hF a; intro a hF))
      (first | (apply t_loadK (i := 6) hF rfl rfl rfl; (repeat (first | exact List.mem_cons_self | refine List.mem_cons_of_mem _ ?_)); exact rfl; exact rfl; kernel_rfl; exact (hM.sm.sub (fun x hx => by repeat (first | exact hx | refine List.mem_cons_of_mem _ ?_)) (fun _ h => by repeat (first | exact h | refine List.mem_cons_of_mem _ ?_))); exact (fun _ _ _ h => h); clear hF a; intro a hF))
      (first | (refine t_pure (i := 7) hF rfl rfl rfl rfl (by kernel_rfl) (hM.sm.sub (fun x hx => by repeat (first | exact hx | refine List.mem_cons_of_mem _ ?_)) (fun _ h => by repeat (first | exact h | refine List.mem_cons_of_mem _ ?_))) (fun _ _ _ h => h) ?_ ?_; (first | exact trivial | omega | decide); clear hF a; intro a hF))
      (first | (refine t_pure (i := 8) hF rfl rfl rfl rfl (by kernel_rfl) (hM.sm.sub (fun x hx => by repeat (first | exact hx | refine List.mem_cons_of_mem _ ?_)) (fun _ h => by repeat (first | exact h | refine List.mem_cons_of_mem _ ?_))) (fun _ _ _ h => h) ?_ ?_; (first | exact trivial | omega | decide); clear hF a; intro a hF))
      (first | (refine t_pure (i := 9) hF rfl rfl rfl rfl (by kernel_rfl) (hM.sm.sub (fun x hx => by repeat (first | exact hx | refine List.mem_cons_of_mem _ ?_)) (fun _ h => by repeat (first | exact h | refine List.mem_cons_of_mem _ ?_))) (fun _ _ _ h => h) ?_ ?_; (first | exact trivial | omega | decide); clear hF a; intro a hF))
      (first | (refine t_pure (i := 10) hF rfl rfl rfl rfl (by kernel_rfl) (hM.sm.sub (fun x hx => by repeat (first | exact hx | refine List.mem_cons_of_mem _ ?_)) (fun _ h => by repeat (first | exact h | refine List.mem_cons_of_mem _ ?_))) (fun _ _ _ h => h) ?_ ?_; (first | exact trivial | omega | decide); clear hF a; intro a hF))
      (first | (refine t_pure (i := 11) hF rfl rfl rfl rfl (by kernel_rfl) (hM.sm.sub (fun x hx => by repeat (first | exact hx | refine List.mem_cons_of_mem _ ?_)) (fun _ h => by repeat (first | exact h | refine List.mem_cons_of_mem _ ?_))) (fun _ _ _ h => h) ?_ ?_; (first | exact trivial | omega | decide); clear hF a; intro a hF))
      (first | (apply t_loadK (i := 12) hF rfl rfl rfl; (repeat (first | exact List.mem_cons_self | refine List.mem_cons_of_mem _ ?_)); exact rfl; exact rfl; kernel_rfl; exact (hM.sm.sub (fun x hx => by repeat (first | exact hx | refine List.mem_cons_of_mem _ ?_)) (fun _ h => by repeat (first | exact h | refine List.mem_cons_of_mem _ ?_))); exact (fun _ _ _ h => h); clear hF a; intro a hF))
      (first | (refine t_pure (i := 13) hF rfl rfl rfl rfl (by kernel_rfl) (hM.sm.sub (fun x hx => by repeat (first | exact hx | refine List.mem_cons_of_mem _ ?_)) (fun _ h => by repeat (first | exact h | refine List.mem_cons_of_mem _ ?_))) (fun _ _ _ h => h) ?_ ?_; (first | exact trivial | omega | decide); clear hF a; intro a hF))
      (first | (refine t_pure (i := 14) hF rfl rfl rfl rfl (by kernel_rfl) (hM.sm.sub (fun x hx => by repeat (first | exact hx | refine List.mem_cons_of_mem _ ?_)) (fun _ h => by repeat (first | exact h | refine List.mem_cons_of_mem _ ?_))) (fun _ _ _ h => h) ?_ ?_; (first | exact trivial | omega | decide); clear hF a; intro a hF))
      rw [show decide ((t : Int) + (n : Int) < (all.length : Int)) = false from decide_eq_false (by omega)] at hF
      (first | (refine t_pure (i := 15) hF rfl rfl rfl rfl (by kernel_rfl) (hM.sm.sub (fun x hx => by repeat (first | exact hx | refine List.mem_cons_of_mem _ ?_)) (fun _ h => by repeat (first | exact h | refine List.mem_cons_of_mem _ ?_))) (fun _ _ _ h => h) ?_ ?_; (first | exact trivial | omega | decide); clear hF a; intro a hF))
      (first | (refine t_pure (i := 16) hF rfl rfl rfl rfl (by kernel_rfl) (hM.sm.sub (fun x hx => by repeat (first | exact hx | refine List.mem_cons_of_mem _ ?_)) (fun _ h => by repeat (first | exact h | refine List.mem_cons_of_mem _ ?_))) (fun _ _ _ h => h) ?_ ?_; (first | exact trivial | omega | decide); clear hF a; intro a hF))
      (first | (refine t_skip (i := 17) hF rfl rfl rfl (by kernel_rfl) (hM.sm.sub (fun x hx => by repeat (first | exact hx | refine List.mem_cons_of_mem _ ?_)) (fun _ h => by repeat (first | exact h | refine List.mem_cons_of_mem _ ?_))) (fun _ _ _ h => h) ?_; clear hF a; intro a hF))
      (first | (refine t_skip (i := 18) hF rfl rfl rfl (by kernel_rfl) (hM.sm.sub (fun x hx => by repeat (first | exact hx | refine List.mem_cons_of_mem _ ?_)) (fun _ h => by repeat (first | exact h | refine List.mem_cons_of_mem _ ?_))) (fun _ _ _ h => h) ?_; clear hF a; intro a hF))
      (first | (refine t_skip (i := 19) hF rfl rfl rfl (by kernel_rfl) (hM.sm.sub (fun x hx => by repeat (first | exact hx | refine List.mem_cons_of_mem _ ?_)) (fun _ h => by repeat (first | exact h | refine List.mem_cons_of_mem _ ?_))) (fun _ _ _ h => h) ?_; clear hF a; intro a hF))
      (first | (refine t_skip (i := 20) hF rfl rfl rfl (by kernel_rfl) (hM.sm.sub (fun x hx => by repeat (first | exact hx | refine List.mem_cons_of_mem _ ?_)) (fun _ h => by repeat (first | exact h | refine List.mem_cons_of_mem _ ?_))) (fun _ _ _ h => h) ?_; clear hF a; intro a hF))
      (first | (refine t_skip (i := 21) hF rfl rfl rfl (by kernel_rfl) (hM.sm.sub (fun x hx => by repeat (first | exact hx | refine List.mem_cons_of_mem _ ?_)) (fun _ h => by repeat (first | exact h | refine List.mem_cons_of_mem _ ?_))) (fun _ _ _ h => h) ?_; clear hF a; intro a hF))
      (first | (refine t_skip (i := 22) hF rfl rfl rfl (by kernel_rfl) (hM.sm.sub (fun x hx => by repeat (first | exact hx | refine List.mem_cons_of_mem _ ?_)) (fun _ h => by repeat (first | exact h | refine List.mem_cons_of_mem _ ?_))) (fun _ _ _ h => h) ?_; clear hF a; intro a hF))
      (first | (refine t_skip (i := 23) hF rfl rfl rfl (by kernel_rfl) (hM.sm.sub (fun x hx => by repeat (first | exact hx | refine List.mem_cons_of_mem _ ?_)) (fun _ h => by repeat (first | exact h | refine List.mem_cons_of_mem _ ?_))) (fun _ _ _ h => h) ?_; clear hF a; intro a hF))
      (first | (refine t_skip (i := 24) hF rfl rfl rfl (by kernel_rfl) (hM.sm.sub (fun x hx => by repeat (first | exact hx | refine List.mem_cons_of_mem _ ?_)) (fun _ h => by repeat (first | exact h | refine List.mem_cons_of_mem _ ?_))) (fun _ _ _ h => h) ?_; clear hF a; intro a hF))
      (first | (refine t_skip (i := 25) hF rfl rfl rfl (by kernel_rfl) (hM.sm.sub (fun x hx => by repeat (first | exact hx | refine List.mem_cons_of_mem _ ?_)) (fun _ h => by repeat (first | exact h | refine List.mem_cons_of_mem _ ?_))) (fun _ _ _ h => h) ?_; clear hF a; intro a hF))
      (first | (refine t_skip (i := 26) hF rfl rfl rfl (by kernel_rfl) (hM.sm.sub (fun x hx => by repeat (first | exact hx | refine List.mem_cons_of_mem _ ?_)) (fun _ h => by repeat (first | exact h | refine List.mem_cons_of_mem _ ?_))) (fun _ _ _ h => h) ?_; clear hF a; intro a hF))
      (first | (refine t_skip (i := 27) hF rfl rfl rfl (by kernel_rfl) (hM.sm.sub (fun x hx => by repeat (first | exact hx | refine List.mem_cons_of_mem _ ?_)) (fun _ h => by repeat (first | exact h | refine List.mem_cons_of_mem _ ?_))) (fun _ _ _ h => h) ?_; clear hF a; intro a hF))
      (first | (refine t_skip (i := 28) hF rfl rfl rfl (by kernel_rfl) (hM.sm.sub (fun x hx => by repeat (first | exact hx | refine List.mem_cons_of_mem _ ?_)) (fun _ h => by repeat (first | exact h | refine List.mem_cons_of_mem _ ?_))) (fun _ _ _ h => h) ?_; clear hF a; intro a hF))
      (first | (refine t_skip (i := 29) hF rfl rfl rfl (by kernel_rfl) (hM.sm.sub (fun x hx => by repeat (first | exact hx | refine List.mem_cons_of_mem _ ?_)) (fun _ h => by repeat (first | exact h | refine List.mem_cons_of_mem _ ?_))) (fun _ _ _ h => h) ?_; clear hF a; intro a hF))
      (first | (refine t_skip (i := 30) hF rfl rfl rfl (by kernel_rfl) (hM.sm.sub (fun x hx => by repeat (first | exact hx | refine List.mem_cons_of_mem _ ?_)) (fun _ h => by repeat (first | exact h | refine List.mem_cons_of_mem _ ?_))) (fun _ _ _ h => h) ?_; clear hF a; intro a hF))
      (first | (refine t_skip (i := 31) hF rfl rfl rfl (by kernel_rfl) (hM.sm.sub (fun x hx => by repeat (first | exact hx | refine List.mem_cons_of_mem _ ?_)) (fun _ h => by repeat (first | exact h | refine List.mem_cons_of_mem _ ?_))) (fun _ _ _ h => h) ?_; clear hF a; intro a hF))
      (first | (refine t_skip (i := 32) hF rfl rfl rfl (by kernel_rfl) (hM.sm.sub (fun x hx => by repeat (first | exact hx | refine List.mem_cons_of_mem _ ?_)) (fun _ h => by repeat (first | exact h | refine List.mem_cons_of_mem _ ?_))) (fun _ _ _ h => h) ?_; clear hF a; intro a hF))
      (first | (refine t_skip (i := 33) hF rfl rfl rfl (by kernel_rfl) (hM.sm.sub (fun x hx => by repeat (first | exact hx | refine List.mem_cons_of_mem _ ?_)) (fun _ h => by repeat (first | exact h | refine List.mem_cons_of_mem _ ?_))) (fun _ _ _ h => h) ?_; clear hF a; intro a hF))
      (first | (refine t_skip (i := 34) hF rfl rfl rfl (by kernel_rfl) (hM.sm.sub (fun x hx => by repeat (first | exact hx | refine List.mem_cons_of_mem _ ?_)) (fun _ h => by repeat (first | exact h | refine List.mem_cons_of_mem _ ?_))) (fun _ _ _ h => h) ?_; clear hF a; intro a hF))
      (first | (refine t_skip (i := 35) hF rfl rfl rfl (by kernel_rfl) (hM.sm.sub (fun x hx => by repeat (first | exact hx | refine List.mem_cons_of_mem _ ?_)) (fun _ h => by repeat (first | exact h | refine List.mem_cons_of_mem _ ?_))) (fun _ _ _ h => h) ?_; clear hF a; intro a hF))
      (first | (refine t_skip (i := 36) hF rfl rfl rfl (by kernel_rfl) (hM.sm.sub (fun x hx => by repeat (first | exact hx | refine List.mem_cons_of_mem _ ?_)) (fun _ h => by repeat (first | exact h | refine List.mem_cons_of_mem _ ?_))) (fun _ _ _ h => h) ?_; clear hF a; intro a hF))
      (first | (refine t_skip (i := 37) hF rfl rfl rfl (by kernel_rfl) (hM.sm.sub (fun x hx => by repeat (first | exact hx | refine List.mem_cons_of_mem _ ?_)) (fun _ h => by repeat (first | exact h | refine List.mem_cons_of_mem _ ?_))) (fun _ _ _ h => h) ?_; clear hF a; intro a hF))
      (first | (refine t_skip (i := 38) hF rfl rfl rfl (by kernel_rfl) (hM.sm.sub (fun x hx => by repeat (first | exact hx | refine List.mem_cons_of_mem _ ?_)) (fun _ h => by repeat (first | exact h | refine List.mem_cons_of_mem _ ?_))) (fun _ _ _ h => h) ?_; clear hF a; intro a hF))
      (first | (refine t_pure (i := 39) hF rfl rfl rfl rfl (by kernel_rfl) (hM.sm.sub (fun x hx => by repeat (first | exact hx | refine List.mem_cons_of_mem _ ?_)) (fun _ h => by repeat (first | exact h | refine List.mem_cons_of_mem _ ?_))) (fun _ _ _ h => h) ?_ ?_; (first | exact trivial | omega | decide); clear hF a; intro a hF))
      refine t_done (by kernel_rfl) ?_
      (repeat' (first | (with_reducible refine w_seq ?_) | (with_reducible refine c_region ?_) | (with_reducible refine s_nil ?_) | (with_reducible refine q_then_n ?_) | ((with_reducible apply s_pure hF); exact rfl; exact rfl; exact rfl; (first | exact trivial | omega | exact ⟨Int.natCast_nonneg _, Int.ofNat_lt.2 (by assumption)⟩ | decide); clear hF a; intro a hF) | (with_reducible refine w_exit ?_) | (with_reducible refine w_ret ?_) | (with_reducible refine q_then_x ?_) | (with_reducible refine q_blk_x ?_) | ((with_reducible apply c_false2 hF); exact rfl; (first | with_reducible rfl | (refine congrArg Value.bool ?_; focus (simp; done))))))
      (apply f_ret Try.results43 hF hM; (repeat (first | exact RL.nil | (apply RL.tmp; exact rfl) | (apply RL.cell; exact rfl; (repeat (first | exact List.mem_cons_self | refine List.mem_cons_of_mem _ ?_)); exact rfl))); refine Ret.mk hM.since ?_; dsimp only [resV])
      rw [hml]
  · obtain rfl : m = 0 := by omega
    with_reducible refine w_seq ?_
    with_reducible refine w_seq ?_
    refine c_draw (fun i => Nat.ble 40 i) hM ?_; clear hM; intro w hM
    (first | (refine t_pure (i := 0) hF rfl rfl rfl rfl (by kernel_rfl) hM.sm (fun _ _ _ h => h) ?_ ?_; (first | exact trivial | omega | decide); clear hF a; intro a hF))
    (first | (refine t_pure (i := 1) hF rfl rfl rfl rfl (by kernel_rfl) hM.sm (fun _ _ _ h => h) ?_ ?_; (first | exact trivial | omega | decide); clear hF a; intro a hF))
    rw [show decide ((n : Int) < 131) = false from decide_eq_false (by omega)] at hF
    (first | (refine t_pure (i := 2) hF rfl rfl rfl rfl (by kernel_rfl) (hM.sm.sub (fun x hx => by repeat (first | exact hx | refine List.mem_cons_of_mem _ ?_)) (fun _ h => by repeat (first | exact h | refine List.mem_cons_of_mem _ ?_))) (fun _ _ _ h => h) ?_ ?_; (first | exact trivial | omega | decide); clear hF a; intro a hF))
    (first | (refine t_skip (i := 3) hF rfl rfl rfl (by kernel_rfl) (hM.sm.sub (fun x hx => by repeat (first | exact hx | refine List.mem_cons_of_mem _ ?_)) (fun _ h => by repeat (first | exact h | refine List.mem_cons_of_mem _ ?_))) (fun _ _ _ h => h) ?_; clear hF a; intro a hF))
    (first | (refine t_skip (i := 4) hF rfl rfl rfl (by kernel_rfl) (hM.sm.sub (fun x hx => by repeat (first | exact hx | refine List.mem_cons_of_mem _ ?_)) (fun _ h => by repeat (first | exact h | refine List.mem_cons_of_mem _ ?_))) (fun _ _ _ h => h) ?_; clear hF a; intro a hF))
    (first | (refine t_skip (i := 5) hF rfl rfl rfl (by kernel_rfl) (hM.sm.sub (fun x hx => by repeat (first | exact hx | refine List.mem_cons_of_mem _ ?_)) (fun _ h => by repeat (first | exact h | refine List.mem_cons_of_mem _ ?_))) (fun _ _ _ h => h) ?_; clear hF a; intro a hF))
    (first | (refine t_skip (i := 6) hF rfl rfl rfl (by kernel_rfl) (hM.sm.sub (fun x hx => by repeat (first | exact hx | refine List.mem_cons_of_mem _ ?_)) (fun _ h => by repeat (first | exact h | refine List.mem_cons_of_mem _ ?_))) (fun _ _ _ h => h) ?_; clear hF a; intro a hF))
    (first | (refine t_skip (i := 7) hF rfl rfl rfl (by kernel_rfl) (hM.sm.sub (fun x hx => by repeat (first | exact hx | refine List.mem_cons_of_mem _ ?_)) (fun _ h => by repeat (first | exact h | refine List.mem_cons_of_mem _ ?_))) (fun _ _ _ h => h) ?_; clear hF a; intro a hF))
    (first | (refine t_skip (i := 8) hF rfl rfl rfl (by kernel_rfl) (hM.sm.sub (fun x hx => by repeat (first | exact hx | refine List.mem_cons_of_mem _ ?_)) (fun _ h => by repeat (first | exact h | refine List.mem_cons_of_mem _ ?_))) (fun _ _ _ h => h) ?_; clear hF a; intro a hF))
    (first | (refine t_skip (i := 9) hF rfl rfl rfl (by kernel_rfl) (hM.sm.sub (fun x hx => by repeat (first | exact hx | refine List.mem_cons_of_mem _ ?_)) (fun _ h => by repeat (first | exact h | refine List.mem_cons_of_mem _ ?_))) (fun _ _ _ h => h) ?_; clear hF a; intro a hF))
    (first | (refine t_skip (i := 10) hF rfl rfl rfl (by kernel_rfl) (hM.sm.sub (fun x hx => by repeat (first | exact hx | refine List.mem_cons_of_mem _ ?_)) (fun _ h => by repeat (first | exact h | refine List.mem_cons_of_mem _ ?_))) (fun _ _ _ h => h) ?_; clear hF a; intro a hF))
    (first | (refine t_skip (i := 11) hF rfl rfl rfl (by kernel_rfl) (hM.sm.sub (fun x hx => by repeat (first | exact hx | refine List.mem_cons_of_mem _ ?_)) (fun _ h => by repeat (first | exact h | refine List.mem_cons_of_mem _ ?_))) (fun _ _ _ h => h) ?_; clear hF a; intro a hF))
    (first | (refine t_skip (i := 12) hF rfl rfl rfl (by kernel_rfl) (hM.sm.sub (fun x hx => by repeat (first | exact hx | refine List.mem_cons_of_mem _ ?_)) (fun _ h => by repeat (first | exact h | refine List.mem_cons_of_mem _ ?_))) (fun _ _ _ h => h) ?_; clear hF a; intro a hF))
    (first | (refine t_skip (i := 13) hF rfl rfl rfl (by kernel_rfl) (hM.sm.sub (fun x hx => by repeat (first | exact hx | refine List.mem_cons_of_mem _ ?_)) (fun _ h => by repeat (first | exact h | refine List.mem_cons_of_mem _ ?_))) (fun _ _ _ h => h) ?_; clear hF a; intro a hF))
    (first | (refine t_skip (i := 14) hF rfl rfl rfl (by kernel_rfl) (hM.sm.sub (fun x hx => by repeat (first | exact hx | refine List.mem_cons_of_mem _ ?_)) (fun _ h => by repeat (first | exact h | refine List.mem_cons_of_mem _ ?_))) (fun _ _ _ h => h) ?_; clear hF a; intro a hF))
    (first | (refine t_pure (i := 15) hF rfl rfl rfl rfl (by kernel_rfl) (hM.sm.sub (fun x hx => by repeat (first | exact hx | refine List.mem_cons_of_mem _ ?_)) (fun _ h => by repeat (first | exact h | refine List.mem_cons_of_mem _ ?_))) (fun _ _ _ h => h) ?_ ?_; (first | exact trivial | omega | decide); clear hF a; intro a hF))
    (first | (refine t_pure (i := 16) hF rfl rfl rfl rfl (by kernel_rfl) (hM.sm.sub (fun x hx => by repeat (first | exact hx | refine List.mem_cons_of_mem _ ?_)) (fun _ h => by repeat (first | exact h | refine List.mem_cons_of_mem _ ?_))) (fun _ _ _ h => h) ?_ ?_; (first | exact trivial | omega | decide); clear hF a; intro a hF))
    (first | (refine t_skip (i := 17) hF rfl rfl rfl (by kernel_rfl) (hM.sm.sub (fun x hx => by repeat (first | exact hx | refine List.mem_cons_of_mem _ ?_)) (fun _ h => by repeat (first | exact h | refine List.mem_cons_of_mem _ ?_))) (fun _ _ _ h => h) ?_; clear hF a; intro a hF))
    (first | (refine t_skip (i := 18) hF rfl rfl rfl (by kernel_rfl) (hM.sm.sub (fun x hx => by repeat (first | exact hx | refine List.mem_cons_of_mem _ ?_)) (fun _ h => by repeat (first | exact h | refine List.mem_cons_of_mem _ ?_))) (fun _ _ _ h => h) ?_; clear hF a; intro a hF))
    (first | (refine t_skip (i := 19) hF rfl rfl rfl (by kernel_rfl) (hM.sm.sub (fun x hx => by repeat (first | exact hx | refine List.mem_cons_of_mem _ ?_)) (fun _ h => by repeat (first | exact h | refine List.mem_cons_of_mem _ ?_))) (fun _ _ _ h => h) ?_; clear hF a; intro a hF))
    (first | (refine t_skip (i := 20) hF rfl rfl rfl (by kernel_rfl) (hM.sm.sub (fun x hx => by repeat (first | exact hx | refine List.mem_cons_of_mem _ ?_)) (fun _ h => by repeat (first | exact h | refine List.mem_cons_of_mem _ ?_))) (fun _ _ _ h => h) ?_; clear hF a; intro a hF))
    (first | (refine t_skip (i := 21) hF rfl rfl rfl (by kernel_rfl) (hM.sm.sub (fun x hx => by repeat (first | exact hx | refine List.mem_cons_of_mem _ ?_)) (fun _ h => by repeat (first | exact h | refine List.mem_cons_of_mem _ ?_))) (fun _ _ _ h => h) ?_; clear hF a; intro a hF))
    (first | (refine t_skip (i := 22) hF rfl rfl rfl (by kernel_rfl) (hM.sm.sub (fun x hx => by repeat (first | exact hx | refine List.mem_cons_of_mem _ ?_)) (fun _ h => by repeat (first | exact h | refine List.mem_cons_of_mem _ ?_))) (fun _ _ _ h => h) ?_; clear hF a; intro a hF))
    (first | (refine t_skip (i := 23) hF rfl rfl rfl (by kernel_rfl) (hM.sm.sub (fun x hx => by repeat (first | exact hx | refine List.mem_cons_of_mem _ ?_)) (fun _ h => by repeat (first | exact h | refine List.mem_cons_of_mem _ ?_))) (fun _ _ _ h => h) ?_; clear hF a; intro a hF))
    (first | (refine t_skip (i := 24) hF rfl rfl rfl (by kernel_rfl) (hM.sm.sub (fun x hx => by repeat (first | exact hx | refine List.mem_cons_of_mem _ ?_)) (fun _ h => by repeat (first | exact h | refine List.mem_cons_of_mem _ ?_))) (fun _ _ _ h => h) ?_; clear hF a; intro a hF))
    (first | (refine t_skip (i := 25) hF rfl rfl rfl (by kernel_rfl) (hM.sm.sub (fun x hx => by repeat (first | exact hx | refine List.mem_cons_of_mem _ ?_)) (fun _ h => by repeat (first | exact h | refine List.mem_cons_of_mem _ ?_))) (fun _ _ _ h => h) ?_; clear hF a; intro a hF))
    (first | (refine t_skip (i := 26) hF rfl rfl rfl (by kernel_rfl) (hM.sm.sub (fun x hx => by repeat (first | exact hx | refine List.mem_cons_of_mem _ ?_)) (fun _ h => by repeat (first | exact h | refine List.mem_cons_of_mem _ ?_))) (fun _ _ _ h => h) ?_; clear hF a; intro a hF))
    (first | (refine t_skip (i := 27) hF rfl rfl rfl (by kernel_rfl) (hM.sm.sub (fun x hx => by repeat (first | exact hx | refine List.mem_cons_of_mem _ ?_)) (fun _ h => by repeat (first | exact h | refine List.mem_cons_of_mem _ ?_))) (fun _ _ _ h => h) ?_; clear hF a; intro a hF))
    (first | (refine t_skip (i := 28) hF rfl rfl rfl (by kernel_rfl) (hM.sm.sub (fun x hx => by repeat (first | exact hx | refine List.mem_cons_of_mem _ ?_)) (fun _ h => by repeat (first | exact h | refine List.mem_cons_of_mem _ ?_))) (fun _ _ _ h => h) ?_; clear hF a; intro a hF))
    (first | (refine t_skip (i := 29) hF rfl rfl rfl (by kernel_rfl) (hM.sm.sub (fun x hx => by repeat (first | exact hx | refine List.mem_cons_of_mem _ ?_)) (fun _ h => by repeat (first | exact h | refine List.mem_cons_of_mem _ ?_))) (fun _ _ _ h => h) ?_; clear hF a; intro a hF))
    (first | (refine t_skip (i := 30) hF rfl rfl rfl (by kernel_rfl) (hM.sm.sub (fun x hx => by repeat (first | exact hx | refine List.mem_cons_of_mem _ ?_)) (fun _ h => by repeat (first | exact h | refine List.mem_cons_of_mem _ ?_))) (fun _ _ _ h => h) ?_; clear hF a; intro a hF))
    (first | (refine t_skip (i := 31) hF rfl rfl rfl (by kernel_rfl) (hM.sm.sub (fun x hx => by repeat (first | exact hx | refine List.mem_cons_of_mem _ ?_)) (fun _ h => by repeat (first | exact h | refine List.mem_cons_of_mem _ ?_))) (fun _ _ _ h => h) ?_; clear hF a; intro a hF))
    (first | (refine t_skip (i := 32) hF rfl rfl rfl (by kernel_rfl) (hM.sm.sub (fun x hx => by repeat (first | exact hx | refine List.mem_cons_of_mem _ ?_)) (fun _ h => by repeat (first | exact h | refine List.mem_cons_of_mem _ ?_))) (fun _ _ _ h => h) ?_; clear hF a; intro a hF))
    (first | (refine t_skip (i := 33) hF rfl rfl rfl (by kernel_rfl) (hM.sm.sub (fun x hx => by repeat (first | exact hx | refine List.mem_cons_of_mem _ ?_)) (fun _ h => by repeat (first | exact h | refine List.mem_cons_of_mem _ ?_))) (fun _ _ _ h => h) ?_; clear hF a; intro a hF))
    (first | (refine t_skip (i := 34) hF rfl rfl rfl (by kernel_rfl) (hM.sm.sub (fun x hx => by repeat (first | exact hx | refine List.mem_cons_of_mem _ ?_)) (fun _ h => by repeat (first | exact h | refine List.mem_cons_of_mem _ ?_))) (fun _ _ _ h => h) ?_; clear hF a; intro a hF))
    (first | (refine t_skip (i := 35) hF rfl rfl rfl (by kernel_rfl) (hM.sm.sub (fun x hx => by repeat (first | exact hx | refine List.mem_cons_of_mem _ ?_)) (fun _ h => by repeat (first | exact h | refine List.mem_cons_of_mem _ ?_))) (fun _ _ _ h => h) ?_; clear hF a; intro a hF))
    (first | (refine t_skip (i := 36) hF rfl rfl rfl (by kernel_rfl) (hM.sm.sub (fun x hx => by repeat (first | exact hx | refine List.mem_cons_of_mem _ ?_)) (fun _ h => by repeat (first | exact h | refine List.mem_cons_of_mem _ ?_))) (fun _ _ _ h => h) ?_; clear hF a; intro a hF))
    (first | (refine t_skip (i := 37) hF rfl rfl rfl (by kernel_rfl) (hM.sm.sub (fun x hx => by repeat (first | exact hx | refine List.mem_cons_of_mem _ ?_)) (fun _ h => by repeat (first | exact h | refine List.mem_cons_of_mem _ ?_))) (fun _ _ _ h => h) ?_; clear hF a; intro a hF))
    (first | (refine t_skip (i := 38) hF rfl rfl rfl (by kernel_rfl) (hM.sm.sub (fun x hx => by repeat (first | exact hx | refine List.mem_cons_of_mem _ ?_)) (fun _ h => by repeat (first | exact h | refine List.mem_cons_of_mem _ ?_))) (fun _ _ _ h => h) ?_; clear hF a; intro a hF))
    (first | (refine t_pure (i := 39) hF rfl rfl rfl rfl (by kernel_rfl) (hM.sm.sub (fun x hx => by repeat (first | exact hx | refine List.mem_cons_of_mem _ ?_)) (fun _ h => by repeat (first | exact h | refine List.mem_cons_of_mem _ ?_))) (fun _ _ _ h => h) ?_ ?_; (first | exact trivial | omega | decide); clear hF a; intro a hF))
    refine t_done (by kernel_rfl) ?_
    (repeat' (first | (with_reducible refine w_seq ?_) | (with_reducible refine c_region ?_) | (with_reducible refine s_nil ?_) | (with_reducible refine q_then_n ?_) | ((with_reducible apply s_pure hF); exact rfl; exact rfl; exact rfl; (first | exact trivial | omega | exact ⟨Int.natCast_nonneg _, Int.ofNat_lt.2 (by assumption)⟩ | decide); clear hF a; intro a hF) | (with_reducible refine w_exit ?_) | (with_reducible refine w_ret ?_) | (with_reducible refine q_then_x ?_) | (with_reducible refine q_blk_x ?_) | ((with_reducible apply c_false2 hF); exact rfl; (first | with_reducible rfl | (refine congrArg Value.bool ?_; focus (simp; done))))))
    (apply f_ret Try.results43 hF hM; (repeat (first | exact RL.nil | (apply RL.tmp; exact rfl) | (apply RL.cell; exact rfl; (repeat (first | exact List.mem_cons_self | refine List.mem_cons_of_mem _ ?_)); exact rfl))); refine Ret.mk hM.since ?_; dsimp only [resV])
    rw [hml]
    rfl
end
end Go.Proofs.Ytocgpllmfdnfjaa

/- dictionary: places of keys, and how one is noted. -/
namespace Go.Proofs.Ytocgpllmfdnfjaa
open Go.RowKit Go.Shelf
/-- Keys, the slices that the map holds for them, and the places in these. -/
abbrev Pl := List (List Int × Value × List Nat)
def nE (p : Nat) : Value := .int .i64 p
def esOf (E : Pl) : List (List Int × Value) := E.map fun e => (e.1, e.2.1)
def rowsE (E : Pl) : List Ent := E.map fun e => ⟨3, 1, e.2.1, e.2.2.length, e.2.2.map nE⟩
def kA (ys : List Int) : Value := .agg (ys.map (Value.int .u8)).toArray
def PlOk (E : Pl) : Prop := ∀ e ∈ E, e.1.length = 4
def lookP (k : List Int) : Pl → List Nat
  | [] => []
  | e :: r => if k = e.1 then e.2.2 else lookP k r
theorem PlOk.es {E : Pl} (h : PlOk E) : ∀ e ∈ esOf E, e.1.length = 4 := by
  intro e he
  obtain ⟨x, hx, rfl⟩ := List.mem_map.1 he
  exact h x hx
theorem lookP_get {k : List Int} : ∀ {E : Pl} {i j : Nat}, kfind k (esOf E) i = some j → i ≤ j ∧ ∃ sv, E[j - i]? = some (k, sv, lookP k E)
  | [], _, _, h => by cases h
  | e :: r, i, j, h => by
    rw [esOf, List.map_cons, kfind] at h
    rw [lookP]
    by_cases hx : k = e.1
    · rw [if_pos hx] at h ⊢
      injection h with h
      subst h
      exact ⟨Nat.le_refl _, e.2.1, by rw [Nat.sub_self, List.getElem?_cons_zero, hx]⟩
    · rw [if_neg hx] at h ⊢
      obtain ⟨h1, sv, h2⟩ := lookP_get (E := r) h
      refine ⟨by omega, sv, ?_⟩
      rw [show j - i = (j - (i + 1)) + 1 by omega, List.getElem?_cons_succ]
      exact h2
theorem lookP_none {k : List Int} : ∀ {E : Pl} {i : Nat}, kfind k (esOf E) i = none → lookP k E = []
  | [], _, _ => rfl
  | e :: r, i, h => by
    rw [esOf, List.map_cons, kfind] at h
    rw [lookP]
    by_cases hx : k = e.1
    · rw [if_pos hx] at h; cases h
    · rw [if_neg hx] at h ⊢
      exact lookP_none (E := r) h
theorem lookP_set {k : List Int} (k' : List Int) (sv : Value) (ps : List Nat) : ∀ {E : Pl} {i j : Nat}, kfind k (esOf E) i = some j → lookP k' (E.set (j - i) (k, sv, ps)) = if k' = k then ps else lookP k' E
  | [], _, _, h => by cases h
  | e :: r, i, j, h => by
    rw [esOf, List.map_cons, kfind] at h
    by_cases hx : k = e.1
    · rw [if_pos hx] at h
      injection h with h
      subst h
      rw [Nat.sub_self, List.set_cons_zero, lookP, lookP]
      subst hx
      split <;> rfl
    · rw [if_neg hx] at h
      have h1 := (lookP_get (E := r) h).1
      rw [show j - i = (j - (i + 1)) + 1 by omega, List.set_cons_succ, lookP, lookP, lookP_set k' sv ps (E := r) h]
      by_cases h3 : k' = e.1
      · rw [if_pos h3, if_pos h3, if_neg (by rw [h3]; exact fun q => hx q.symm)]
      · rw [if_neg h3, if_neg h3]
theorem lookP_app {k : List Int} (k' : List Int) (sv : Value) (ps : List Nat) : ∀ {E : Pl} {i : Nat}, kfind k (esOf E) i = none → lookP k' (E ++ [(k, sv, ps)]) = if k' = k then ps else lookP k' E
  | [], _, _ => by simp [lookP]
  | e :: r, i, h => by
    rw [esOf, List.map_cons, kfind] at h
    by_cases hx : k = e.1
    · rw [if_pos hx] at h; cases h
    · rw [if_neg hx] at h
      rw [List.cons_append, lookP, lookP, lookP_app k' sv ps (E := r) h]
      by_cases h3 : k' = e.1
      · rw [if_pos h3, if_pos h3, if_neg (by rw [h3]; exact fun q => hx q.symm)]
      · rw [if_neg h3, if_neg h3]
theorem esOf_get (E : Pl) (i : Nat) : (esOf E)[i]? = (E[i]?).map fun e => (e.1, e.2.1) := by simp [esOf]
theorem rowsE_get (E : Pl) (i : Nat) : (rowsE E)[i]? = (E[i]?).map fun e => ⟨3, 1, e.2.1, e.2.2.length, e.2.2.map nE⟩ := by simp [rowsE]
theorem esOf_set (E : Pl) (i : Nat) (e : List Int × Value × List Nat) : esOf (E.set i e) = (esOf E).set i (e.1, e.2.1) := by simp [esOf, List.map_set]
theorem rowsE_set (E : Pl) (i : Nat) (e : List Int × Value × List Nat) : rowsE (E.set i e) = (rowsE E).set i ⟨3, 1, e.2.1, e.2.2.length, e.2.2.map nE⟩ := by simp [rowsE, List.map_set]
theorem Kth.of {α : Type} {x : α} : ∀ {l : List α} {k : Nat}, l[k]? = some x → Kth l k x
  | [], _, h => by simp at h
  | y :: l, 0, h => by
    rw [List.getElem?_cons_zero] at h
    injection h with h
    subst h
    exact .z
  | y :: l, k + 1, h => by
    rw [List.getElem?_cons_succ] at h
    exact .s (Kth.of h)
/-- The entry of a key, laid if it lacks: entries, place, slice, places. -/
theorem pl_add {own : Nat → Prop} {w w0 : World} {bs : List BoxE} {L1 : List Ent} {Fs : List (World → Prop)} {E : Pl} (hM : Mm own w0 bs (L1 ++ rowsE E) Fs w) (hE : PlOk E) (k : List Int) (hk : k.length = 4) :
    ∃ (E1 : Pl) (j : Nat) (sv : Value), Mm own w0 bs (L1 ++ rowsE E1) Fs w ∧ PlOk E1 ∧ kadd k (.slice none 0 0) (esOf E) = (esOf E1, j, sv) ∧ E1[j]? = some (k, sv, lookP k E) ∧
      (∀ sv' ps k', lookP k' (E1.set j (k, sv', ps)) = if k' = k then ps else lookP k' E) ∧ ∀ sv' ps, PlOk (E1.set j (k, sv', ps)) := by
  unfold kadd
  cases h : kfind k (esOf E) 0 with
  | some j =>
    obtain ⟨_, sv, h2⟩ := lookP_get h
    rw [Nat.sub_zero] at h2
    refine ⟨E, j, sv, hM, hE, ?_, h2, fun sv' ps k' => ?_, fun sv' ps e he => ?_⟩
    · simp [esOf_get, h2]
    · have := lookP_set k' sv' ps h
      rwa [Nat.sub_zero] at this
    · rcases List.mem_or_eq_of_mem_set he with he | rfl
      · exact hE e he
      · exact hk
  | none =>
    have h0 := lookP_none h
    have hok : ∀ sv' ps, PlOk (E ++ [(k, sv', ps)]) := by
      intro sv' ps e he
      rcases List.mem_append.1 he with he | he
      · exact hE e he
      · rw [List.mem_singleton] at he
        subst he
        exact hk
    refine ⟨E ++ [(k, .slice none 0 0, [])], E.length, .slice none 0 0, (hM.nilRow 3 1).permL ?_, hok _ _, ?_, ?_, fun sv' ps k' => ?_, fun sv' ps => ?_⟩
    · simp only [rowsE, List.map_append, List.map_cons, List.map_nil, List.length_nil]
      rw [← List.append_assoc]
      exact List.perm_append_singleton _ _
    · simp [esOf]
    · rw [h0]; simp
    · rw [List.set_append_right _ _ (Nat.le_refl _), Nat.sub_self, List.set_cons_zero, lookP_app k' sv' ps h]
    · rw [List.set_append_right _ _ (Nat.le_refl _), Nat.sub_self, List.set_cons_zero]
      exact hok _ _
theorem Mm.litCells {own : Nat → Prop} {w w0 : World} {bs : List BoxE} {L : List Ent} {Fs : List (World → Prop)} (hM : Mm own w0 bs L Fs w) {b : Nat} {ys : List Value} {T : TypeId} (h : (⟨b, ⟨ys⟩, T⟩ : BoxE) ∈ bs) : ∀ (j : Nat) (u : Value), ys[j]? = some u → w.cell? ((⟨b, 0, none⟩ : Addr).add j) = some u := by
  intro j u hu
  rw [add_lit, (Box.rules (hM.mem.box _ h)).1]
  simpa using hu
section
variable (all : List Int) (hlen : all.length ≤ 1000000) (a0 : Option Addr) (c0 : Nat) (hc0 : all.length ≤ c0) (b t mb : Nat) (tv wv : Value) {own : Nat → Prop} {w0 W : World} {bs : List BoxE} {L1 : List Ent} {E : Pl} {Fs : List (World → Prop)} (hE : PlOk E) (hEl : ∀ k, (lookP k E).length ≤ 1000000) (hb0 : w0.heap.size ≤ mb) (hcf : ∀ f ∈ Fs, Cf f)
  (hM : Mm own w0 (⟨b, ⟨[tv, wv, .slice a0 all.length c0, .int .i64 t, .map (some mb)]⟩, 51⟩ :: bs) (L1 ++ rowsE E) (MpE kA mb (esOf E) :: RdF (Value.int .u8) a0 all :: Fs) W)
include hlen hc0 hE hEl hb0 hcf hM
set_option maxRecDepth 20000 in
theorem note_c (i : Nat) (q : Int) (hq : q = i) (hi : i ≤ 1000000) : Calls Try.prog 24 ⟨[.pointer (some ⟨b, 0, none⟩), .int .i64 q]⟩ W (Rtn fun _ w' => ∃ E' : Pl, PlOk E' ∧ (∀ k, lookP k E' = if i + 4 ≤ all.length ∧ k = keyV all i then lookP k E ++ [i] else lookP k E) ∧
    Mm own w0 (⟨b, ⟨[tv, wv, .slice a0 all.length c0, .int .i64 t, .map (some mb)]⟩, 51⟩ :: bs) (L1 ++ rowsE E') (MpE kA mb (esOf E') :: RdF (Value.int .u8) a0 all :: Fs) w') := by
  subst hq
  have hkl := keyV_len all i
  refine f_start Try.func24 rfl Try.ntmps24 rfl rfl ?_; intro a hF
  (repeat (first | (with_reducible refine w_seq ?_) | (with_reducible refine c_region ?_) | ((with_reducible apply s_call (f := 42) hF hM); exact rfl; exact rfl; exact rfl; exact rfl; exact rfl; exact (key_c all hlen a0 c0 hc0 b t mb tv wv own _ (fun b h => hM.lt b (.inl h)) (hM.boxFact (by (repeat (first | exact List.mem_cons_self | refine List.mem_cons_of_mem _ ?_)))) (hM.factOut (by (repeat (first | exact List.mem_cons_self | refine List.mem_cons_of_mem _ ?_)))) i _ rfl hi); clear hF hM a; rintro v w a rfl - hM hF) | ((with_reducible apply s_pure hF); exact rfl; exact rfl; exact rfl; (first | exact trivial | omega | exact ⟨Int.natCast_nonneg _, Int.ofNat_lt.2 (by assumption)⟩ | decide); clear hF a; intro a hF) | ((with_reducible apply s_alloc hF hM); exact rfl; exact rfl; exact rfl; clear hF hM a; intro b w a hM hF)))
  generalize hkv : keyV all i = k at *
  obtain ⟨k0, k1, k2, k3, rfl⟩ : ∃ k0 k1 k2 k3, k = [k0, k1, k2, k3] := by
    match k, hkl with
    | [k0, k1, k2, k3], _ => exact ⟨k0, k1, k2, k3, rfl⟩
  (repeat (first | (with_reducible refine w_seq ?_) | (with_reducible refine c_region ?_) | (with_reducible refine s_nil ?_) | (with_reducible refine q_then_n ?_) | ((with_reducible apply s_pure hF); exact rfl; exact rfl; exact rfl; (first | exact trivial | omega | exact ⟨Int.natCast_nonneg _, Int.ofNat_lt.2 (by assumption)⟩ | decide); clear hF a; intro a hF) | ((with_reducible apply s_store hF hM); exact rfl; exact rfl; exact rfl; exact rfl; (repeat (first | exact Upd.z | apply Upd.s)); exact rfl; exact rfl; exact rfl; clear hM; intro w hM)))
  by_cases h4 : i + 4 ≤ all.length
  · rw [decide_eq_true h4] at hF
    (repeat (first | ((with_reducible apply c_true2 hF); exact rfl; (first | with_reducible rfl | (refine congrArg Value.bool ?_; focus (simp; done))))))
    have hcf' : ∀ f ∈ RdF (Value.int .u8) a0 all :: Fs, Cf f := fun f hf => by
      rcases List.mem_cons.1 hf with rfl | hf
      · exact Cf.rd
      · exact hcf f hf
    obtain ⟨E1, j, sv, hM1, hE1, hkadd, hj, hlk, hok⟩ := pl_add (L1 := L1) hM hE [k0, k1, k2, k3] hkl
    clear hM
    have hM := hM1
    clear hM1
    have hml := hEl [k0, k1, k2, k3]
    generalize hpk : lookP [k0, k1, k2, k3] E = pk at *
    have hrow : (L1 ++ rowsE E1)[L1.length + j]? = some ⟨3, 1, sv, pk.length, pk.map nE⟩ := by
      rw [List.getElem?_append_right (by omega), Nat.add_sub_cancel_left, rowsE_get, hj]
      rfl
    refine c_drawF (fun i => Nat.ble 11 i) (fun x hx => hx) (fun f hf => List.mem_cons_of_mem _ (hf)) hM ?_; clear hM; intro w hM
    (first | (refine t_pure (i := 0) hF rfl rfl rfl rfl (by kernel_rfl) (hM.sm.sub (fun x hx => by repeat (first | exact hx | refine List.mem_cons_of_mem _ ?_)) (fun _ h => by repeat (first | exact h | refine List.mem_cons_of_mem _ ?_))) (fun _ _ _ h => h) ?_ ?_; (first | exact trivial | omega | decide); clear hF a; intro a hF))
    (first | (refine t_pure (i := 1) hF rfl rfl rfl rfl (by kernel_rfl) (hM.sm.sub (fun x hx => by repeat (first | exact hx | refine List.mem_cons_of_mem _ ?_)) (fun _ h => by repeat (first | exact h | refine List.mem_cons_of_mem _ ?_))) (fun _ _ _ h => h) ?_ ?_; (first | exact trivial | omega | decide); clear hF a; intro a hF))
    (first | (refine t_pure (i := 2) hF rfl rfl rfl rfl (by kernel_rfl) (hM.sm.sub (fun x hx => by repeat (first | exact hx | refine List.mem_cons_of_mem _ ?_)) (fun _ h => by repeat (first | exact h | refine List.mem_cons_of_mem _ ?_))) (fun _ _ _ h => h) ?_ ?_; (first | exact trivial | omega | decide); clear hF a; intro a hF))
    (first | (apply t_load (i := 3) hF rfl rfl rfl; (repeat (first | exact List.mem_cons_self | refine List.mem_cons_of_mem _ ?_)); exact rfl; exact rfl; kernel_rfl; exact (hM.sm.sub (fun x hx => by repeat (first | exact hx | refine List.mem_cons_of_mem _ ?_)) (fun _ h => by repeat (first | exact h | refine List.mem_cons_of_mem _ ?_))); exact (fun _ _ _ h => h); clear hF a; intro a hF))
    (first | (apply t_load (i := 4) hF rfl rfl rfl; (repeat (first | exact List.mem_cons_self | refine List.mem_cons_of_mem _ ?_)); exact rfl; exact rfl; kernel_rfl; exact (hM.sm.sub (fun x hx => by repeat (first | exact hx | refine List.mem_cons_of_mem _ ?_)) (fun _ h => by repeat (first | exact h | refine List.mem_cons_of_mem _ ?_))); exact (fun _ _ _ h => h); clear hF a; intro a hF))
    (first | (refine t_pure (i := 5) hF rfl rfl rfl rfl (by kernel_rfl) (hM.sm.sub (fun x hx => by repeat (first | exact hx | refine List.mem_cons_of_mem _ ?_)) (fun _ h => by repeat (first | exact h | refine List.mem_cons_of_mem _ ?_))) (fun _ _ _ h => h) ?_ ?_; (first | exact trivial | omega | decide); clear hF a; intro a hF))
    refine t_one (i := 6) hF rfl (by kernel_rfl) rfl ?_
    intro K hK
    (refine x_lit hF hM rfl rfl rfl ?_; clear hF hM a; intro bl w a hM hF)
    refine hK _ _ (fun _ => (hM.sm.sub (fun x hx => by repeat (first | exact hx | refine List.mem_cons_of_mem _ ?_)) (fun _ h => by repeat (first | exact h | refine List.mem_cons_of_mem _ ?_)))) ?_; clear hK
    refine t_one (i := 7) hF rfl (by kernel_rfl) rfl ?_
    intro K hK
    (refine e_mapEntry (ek := kA) (z := .slice none 0 0) (keyOk_arr (k := .u8) (m := 4) (e := 5) (kt := 67) rfl rfl rfl rfl) hF hM rfl (x := [k0, k1, k2, k3]) rfl rfl hkl hE.es hb0 hcf' rfl ?_; clear hF hM a; intro w a hM hF; rw [hkadd] at hM hF; (try dsimp only at hM hF))
    refine hK _ _ (fun _ => (hM.sm.sub (fun x hx => by repeat (first | exact hx | refine List.mem_cons_of_mem _ ?_)) (fun _ h => by repeat (first | exact h | refine List.mem_cons_of_mem _ ?_)))) ?_; clear hK
    (first | (refine t_pure (i := 8) hF rfl rfl rfl rfl (by kernel_rfl) (hM.sm.sub (fun x hx => by repeat (first | exact hx | refine List.mem_cons_of_mem _ ?_)) (fun _ h => by repeat (first | exact h | refine List.mem_cons_of_mem _ ?_))) (fun _ _ _ h => h) ?_ ?_; (first | exact trivial | omega | decide); clear hF a; intro a hF))
    (first | (refine t_pure (i := 10) hF rfl rfl rfl rfl (by kernel_rfl) (hM.sm.sub (fun x hx => by repeat (first | exact hx | refine List.mem_cons_of_mem _ ?_)) (fun _ h => by repeat (first | exact h | refine List.mem_cons_of_mem _ ?_))) (fun _ _ _ h => h) ?_ ?_; (first | exact trivial | omega | decide); clear hF a; intro a hF))
    refine t_one (i := 9) hF rfl (by kernel_rfl) rfl ?_
    intro K hK
    (refine e_app (k := L1.length + j) (ys := [.int .i64 i]) hF hM rfl rfl rfl (Kth.of hrow) rfl (hM.litCells List.mem_cons_self) (one_int _ _) (by decide) ⟨by omega, by omega⟩ ?_; clear hrow; intro gA cap w hM; replace hF := hF.put (d := 22) rfl (.slice (some ⟨gA, 0, none⟩) (pk.length + 1) cap); generalize a.put (some 22) _ = a at *)
    refine hK _ _ (fun _ => (hM.sm.sub (fun x hx => by repeat (first | exact hx | refine List.mem_cons_of_mem _ ?_)) (fun _ h => by repeat (first | exact h | refine List.mem_cons_of_mem _ ?_)))) ?_; clear hK
    refine t_one (i := 11) hF rfl (by kernel_rfl) rfl ?_
    intro K hK
    (refine e_entryStore hF hM rfl rfl rfl (x := [k0, k1, k2, k3]) (by rw [esOf_get, hj]; rfl) hb0 hcf' ?_; clear hM; intro w hM)
    refine hK _ _ (fun h => by cases h) ?_; clear hK
    refine t_done (by kernel_rfl) ?_
    (repeat (first | fail))
    (apply f_end Try.results24 hF hM; (repeat (first | exact RL.nil | (apply RL.tmp; exact rfl) | (apply RL.cell; exact rfl; (repeat (first | exact List.mem_cons_self | refine List.mem_cons_of_mem _ ?_)); exact rfl))); refine Both.mk ?_; try dsimp only [resV])
    refine ⟨E1.set j ([k0, k1, k2, k3], .slice (some ⟨gA, 0, none⟩) (pk.length + 1) cap, pk ++ [i]), hok _ _, fun k => ?_, ?_⟩
    · rw [hlk]
      by_cases hk : k = [k0, k1, k2, k3]
      · rw [if_pos hk, if_pos ⟨h4, hk⟩, hk, hpk]
      · rw [if_neg hk, if_neg (fun h => hk h.2)]
    · rw [esOf_set, rowsE_set, List.length_append, List.map_append]
      rw [List.set_append_right _ _ (Nat.le_add_right _ _), Nat.add_sub_cancel_left] at hM
      exact hM.sub (.cons _ (.cons _ (.refl _))) (.refl _) (fun _ h => h)
  · rw [decide_eq_false h4] at hF
    (repeat (first | (with_reducible refine w_skip ?_) | ((with_reducible apply c_false2 hF); exact rfl; (first | with_reducible rfl | (refine congrArg Value.bool ?_; focus (simp; done))))))
    (apply f_end Try.results24 hF hM; (repeat (first | exact RL.nil | (apply RL.tmp; exact rfl) | (apply RL.cell; exact rfl; (repeat (first | exact List.mem_cons_self | refine List.mem_cons_of_mem _ ?_)); exact rfl))); refine Both.mk ?_; try dsimp only [resV])
    exact ⟨E, hE, fun k => by rw [if_neg (fun h => h4 h.1)], hM.sub (.cons _ (.refl _)) (.refl _) (fun _ h => h)⟩
end
end Go.Proofs.Ytocgpllmfdnfjaa
