/- runlength: a group of a reader. -/
import Derived.Test.YthcnnedgfndklaaU6
set_option linter.unusedSimpArgs false
set_option linter.unusedVariables false
set_option linter.unusedSectionVars false
namespace Go.Proofs.Ythcnnedgfndklaa
open Go.RowKit Go.Shelf
/-- The first c sectors of bytes. -/
def chunks : Nat → List Int → List (List Int)
  | 0, _ => []
  | c + 1, ys => ys.take 8 :: chunks c (ys.drop 8)
theorem chunks_len : ∀ (c : Nat) (ys : List Int), (chunks c ys).length = c
  | 0, _ => rfl
  | c + 1, ys => by rw [chunks, List.length_cons, chunks_len c]
theorem chunks_succ : ∀ (c : Nat) (ys : List Int), chunks (c + 1) ys = chunks c ys ++ [(ys.drop (8 * c)).take 8]
  | 0, ys => by simp [chunks]
  | c + 1, ys => by
    rw [chunks, chunks_succ c, chunks, List.cons_append, List.drop_drop, show 8 + 8 * c = 8 * (c + 1) by omega]
theorem cons8 {xs : List Int} (h8 : 8 ≤ xs.length) : ∃ x0 x1 x2 x3 x4 x5 x6 x7 r, xs = x0 :: x1 :: x2 :: x3 :: x4 :: x5 :: x6 :: x7 :: r := by
  match xs, h8 with
  | x0 :: x1 :: x2 :: x3 :: x4 :: x5 :: x6 :: x7 :: r, _ => exact ⟨x0, x1, x2, x3, x4, x5, x6, x7, r, rfl⟩
theorem row_some {own : Nat → Prop} {w w0 : World} {bs : List BoxE} {L : List Ent} {Fs : List (World → Prop)} (hM : Mm own w0 bs L Fs w) {e : TypeId} {size : Nat} {a : Option Addr} {m c : Nat} {xs : List Value} (h : (⟨e, size, .slice a m c, m, xs⟩ : Ent) ∈ L) (h0 : 0 < m) : ∃ g, a = some ⟨g, 0, none⟩ := by
  rcases (hM.mem.own.own _ h).2 with ⟨h1, h2⟩ | ⟨g, cap, cur, h1, _⟩
  · have h3 : m = 0 := h2
    omega
  · simp only [Value.slice.injEq] at h1
    exact ⟨g, h1.1⟩
theorem rep_len (s : List Int) (hs : s.length = 8) (c : Nat) : (((List.replicate c s).flatten).map (Value.int .u8)).length = c * 8 := by
  rw [List.length_map, flat_len (fun y hy => by rw [List.eq_of_mem_replicate hy]; exact hs), List.length_replicate]
theorem one_map (l : List Int) : ∀ v ∈ l.map (Value.int .u8), v.oneCell' = true := by
  intro v hv
  obtain ⟨y, _, rfl⟩ := List.mem_map.1 hv
  rfl
/-- A group that is read: what is left, and the list. -/
def grpD (most : Nat) (xs : List Int) (ls : List (List Int)) : Except Int (List Int × List (List Int)) :=
  if (rdNum xs).2.1 ≠ 0 then .error (rdNum xs).2.1 else
  let n := (rdNum xs).1.toNat
  let ys := xs.drop (rdNum xs).2.2
  if 2 < n % 4 ∨ n / 4 = 0 then .error 3
  else if (most : Int) - ls.length < (n / 4 : Nat) then .error 5
  else if n % 4 = 0 then (if ys.length < 8 * (n / 4) then .error 10 else .ok (ys.drop (8 * (n / 4)), ls ++ chunks (n / 4) ys))
  else if n % 4 = 1 then (if ys.length < 8 then .error 10 else .ok (ys.drop 8, ls ++ List.replicate (n / 4) (ys.take 8)))
  else .ok (ys, ls ++ List.replicate (n / 4) zr)
theorem rdN_nn : ∀ (f i : Nat) (n : Int) (xs : List Int), 0 ≤ n → (∀ x ∈ xs, 0 ≤ x ∧ x < 256) → 0 ≤ (rdN xs f i n).1 ∧ (rdN xs f i n).1 ≤ 9007199254740991
  | 0, _, _, _, _, _ => by simp [rdN]
  | f + 1, i, n, xs, hn, hx => by
    rw [rdN]
    split
    · simp
    · rename_i b hb
      have hb0 := hx b (List.mem_of_getElem? hb)
      have hp : (0 : Int) ≤ b % 128 * 128 ^ i := Int.mul_nonneg (by omega) (Int.pow_nonneg (by decide))
      split
      · exact rdN_nn f (i + 1) _ xs (by omega) hx
      · split
        · simp
        · rename_i h
          simp only
          omega
section
variable (xs : List Int) (hxb : ∀ x ∈ xs, 0 ≤ x ∧ x < 256) (hlen : xs.length ≤ 1000000) (a0 : Option Addr) (c0 : Nat) (hc0 : xs.length ≤ c0) (most : Nat) (hmost : most ≤ 4096) (ls : List (List Int)) (hls : W8 ls) (hlm : ls.length ≤ most) {own : Nat → Prop} {w0 W : World} {bs : List BoxE} {L : List Ent} {Fs : List (World → Prop)} {b : Nat} {ov : Value}
  (hM : Mm own w0 (⟨b, ⟨[.slice a0 xs.length c0, .int .i64 most, ov]⟩, 66⟩ :: bs) (⟨38, 8, ov, ls.length, ls.flatten.map (Value.int .u8)⟩ :: L) (RdF (Value.int .u8) a0 xs :: Fs) W)
include hxb hlen hc0 hmost hls hlm hM
def GrpR (own : Nat → Prop) (w0 : World) (bs : List BoxE) (L : List Ent) (Fs : List (World → Prop)) (b most : Nat) (xs : List Int) (ls : List (List Int)) (w' : World) : Prop :=
  ∃ zs ls' a1 c1 ov', grpD most xs ls = .ok (zs, ls') ∧ zs.length ≤ c1 ∧ Mm own w0 (⟨b, ⟨[.slice a1 zs.length c1, .int .i64 most, ov']⟩, 66⟩ :: bs) (⟨38, 8, ov', ls'.length, ls'.flatten.map (Value.int .u8)⟩ :: L) (RdF (Value.int .u8) a1 zs :: Fs) w'
def GrpE (own : Nat → Prop) (w0 : World) (bs : List BoxE) (b most : Nat) (xs : List Int) (ls : List (List Int)) (c : List PanicEntry) (w' : World) : Prop :=
  ∃ e bs' L' Fs', grpD most xs ls = .error e ∧ c = fail e ∧ Mm own w0 (⟨b, bs', 66⟩ :: bs) L' Fs' w'
set_option maxRecDepth 20000 in
theorem group_c : Calls Try.prog 28 ⟨[.pointer (some ⟨b, 0, none⟩)]⟩ W (Both (fun _ w' => GrpR own w0 bs L Fs b most xs ls w') (GrpE own w0 bs b most xs ls)) := by
  by_cases he : (rdNum xs).2.1 = 0
  · obtain ⟨N, hN⟩ : ∃ N : Nat, (rdNum xs).1 = N := ⟨(rdNum xs).1.toNat, by have := (rdN_nn 8 0 0 xs (by omega) hxb).1; unfold rdNum; omega⟩
    have hNb : N ≤ 9007199254740991 := by have := (rdN_nn 8 0 0 xs (by omega) hxb).2; unfold rdNum at hN; omega
    obtain ⟨ao, co, rfl⟩ : ∃ ao co, ov = .slice ao ls.length co := by
      rcases (hM.mem.own.own _ List.mem_cons_self).2 with ⟨h1, h2⟩ | ⟨g, cap, cur, h1, _⟩
      · exact ⟨none, 0, by rw [show ls.length = 0 from h2]; exact h1⟩
      · exact ⟨_, _, h1⟩
    have hD : grpD most xs ls = (if 2 < N % 4 ∨ N / 4 = 0 then .error 3
      else if (most : Int) - ls.length < (N / 4 : Nat) then .error 5
      else if N % 4 = 0 then (if (xs.drop (rdNum xs).2.2).length < 8 * (N / 4) then .error 10 else .ok ((xs.drop (rdNum xs).2.2).drop (8 * (N / 4)), ls ++ chunks (N / 4) (xs.drop (rdNum xs).2.2)))
      else if N % 4 = 1 then (if (xs.drop (rdNum xs).2.2).length < 8 then .error 10 else .ok ((xs.drop (rdNum xs).2.2).drop 8, ls ++ List.replicate (N / 4) ((xs.drop (rdNum xs).2.2).take 8)))
      else .ok (xs.drop (rdNum xs).2.2, ls ++ List.replicate (N / 4) zr)) := by
      unfold grpD
      rw [if_neg (by simp [he]), hN, Int.toNat_natCast]
    refine f_start Try.func28 rfl Try.ntmps28 rfl rfl ?_; intro a hF
    (repeat' (first | (with_reducible refine w_seq ?_) | (with_reducible refine c_region ?_) | (with_reducible refine s_nil ?_) | ((with_reducible apply s_callM (f := 38) hF); exact rfl; exact rfl; exact rfl; exact rfl; exact rfl; exact (rnum_ok xs hxb hlen a0 c0 hc0 hM he); clear hF hM a; rintro v w a ⟨rfl, a1, c1, hc1, hM⟩ hF; rw [hN] at hF) | ((with_reducible apply s_pan hF); exact rfl; exact rfl; exact rfl) | (with_reducible refine q_then_p ?_) | (with_reducible refine q_then_n ?_) | ((with_reducible apply s_pure hF); exact rfl; exact rfl; exact rfl; (first | exact trivial | omega | decide); clear hF a; intro a hF) | (with_reducible refine w_skip ?_) | ((with_reducible apply c_true hF); exact rfl) | ((with_reducible apply s_skip hF); exact rfl; exact rfl; clear hF a; intro a hF) | ((with_reducible apply g_dec hF); exact rfl; exact rfl; all_goals (clear hF; intro hc hF); all_goals (try (exfalso; omega))) | ((with_reducible apply c_dec hF); exact rfl; all_goals intro hc; all_goals (try (exfalso; omega)))))
    · rw [if_pos (.inl (by omega))] at hD
      refine f_panic hF ?_
      exact Both.panic ⟨3, _, _, _, hD, rfl, hM⟩
    · rw [if_pos (.inr (by omega))] at hD
      refine f_panic hF ?_
      exact Both.panic ⟨3, _, _, _, hD, rfl, hM⟩
    have hk2 : N % 4 ≤ 2 := by omega
    have hc2 : 1 ≤ N / 4 := by omega
    rw [if_neg (by omega)] at hD
    rw [show (N : Int) % 4 = ((N % 4 : Nat) : Int) by omega, show (N : Int) / 4 = ((N / 4 : Nat) : Int) by omega] at hF
    have hys : (xs.drop (rdNum xs).2.2).length ≤ 1000000 := by rw [List.length_drop]; omega
    have hyb : ∀ y ∈ xs.drop (rdNum xs).2.2, 0 ≤ y ∧ y < 256 := fun y hy => hxb y (List.mem_of_mem_drop hy)
    have hM2 := hM.sub (Fs' := RdF (Value.int .u8) a1 (xs.drop (rdNum xs).2.2) :: Fs) (.refl _) (.refl _) (fun f hf => by rcases List.mem_cons.1 hf with rfl | hf; exact List.mem_cons_self; exact List.mem_cons_of_mem _ (List.mem_cons_of_mem _ hf))
    clear hM
    have hM := hM2
    clear hM2
    generalize xs.drop (rdNum xs).2.2 = ys at *
    have hNn : N / 4 ≤ N := Nat.div_le_self _ _
    generalize hkd : N % 4 = kd at *
    generalize hcn : N / 4 = cn at *
    refine c_draw (fun i => Nat.ble 12 i) hM ?_; clear hM; intro w hM
    (first | (refine t_pure (i := 0) hF rfl rfl rfl rfl (by kernel_rfl) hM.sm (fun _ _ _ h => h) ?_ ?_; (first | exact trivial | omega | decide); clear hF a; intro a hF))
    (first | (refine t_pure (i := 1) hF rfl rfl rfl rfl (by kernel_rfl) hM.sm (fun _ _ _ h => h) ?_ ?_; (first | exact trivial | omega | decide); clear hF a; intro a hF))
    (first | (refine t_pure (i := 2) hF rfl rfl rfl rfl (by kernel_rfl) hM.sm (fun _ _ _ h => h) ?_ ?_; (first | exact trivial | omega | decide); clear hF a; intro a hF))
    (first | (refine t_pure (i := 3) hF rfl rfl rfl rfl (by kernel_rfl) hM.sm (fun _ _ _ h => h) ?_ ?_; (first | exact trivial | omega | decide); clear hF a; intro a hF))
    (first | (apply t_load (i := 4) hF rfl rfl rfl; (repeat (first | exact List.mem_cons_self | refine List.mem_cons_of_mem _ ?_)); exact rfl; exact rfl; kernel_rfl; exact hM.sm; exact (fun _ _ _ h => h); clear hF a; intro a hF))
    (first | (refine t_pure (i := 5) hF rfl rfl rfl rfl (by kernel_rfl) hM.sm (fun _ _ _ h => h) ?_ ?_; (first | exact trivial | omega | decide); clear hF a; intro a hF))
    (first | (refine t_pure (i := 6) hF rfl rfl rfl rfl (by kernel_rfl) hM.sm (fun _ _ _ h => h) ?_ ?_; (first | exact trivial | omega | decide); clear hF a; intro a hF))
    (first | (refine t_pure (i := 7) hF rfl rfl rfl rfl (by kernel_rfl) hM.sm (fun _ _ _ h => h) ?_ ?_; (first | exact trivial | omega | decide); clear hF a; intro a hF))
    (first | (apply t_load (i := 8) hF rfl rfl rfl; (repeat (first | exact List.mem_cons_self | refine List.mem_cons_of_mem _ ?_)); exact rfl; exact rfl; kernel_rfl; exact hM.sm; exact (fun _ _ _ h => h); clear hF a; intro a hF))
    (first | (refine t_pure (i := 9) hF rfl rfl rfl rfl (by kernel_rfl) hM.sm (fun _ _ _ h => h) ?_ ?_; (first | exact trivial | omega | decide); clear hF a; intro a hF))
    (first | (refine t_pure (i := 10) hF rfl rfl rfl rfl (by kernel_rfl) hM.sm (fun _ _ _ h => h) ?_ ?_; (first | exact trivial | omega | decide); clear hF a; intro a hF))
    (first | (refine t_pure (i := 11) hF rfl rfl rfl rfl (by kernel_rfl) hM.sm (fun _ _ _ h => h) ?_ ?_; (first | exact trivial | omega | decide); clear hF a; intro a hF))
    refine t_done (by kernel_rfl) ?_
    (repeat' (first | (with_reducible refine w_seq ?_) | (with_reducible refine c_region ?_) | (with_reducible refine s_nil ?_) | ((with_reducible apply s_pan hF); exact rfl; exact rfl; exact rfl) | (with_reducible refine q_then_p ?_) | ((with_reducible apply s_appZ hF hM); exact rfl; exact rfl; exact rfl; exact rfl; exact rfl; exact rfl; exact rfl; (repeat (first | exact Kth.z | apply Kth.s)); exact rfl; omega; omega; clear hF hM a; intro g cap w a hM hF; dsimp only [List.set] at hM) | (with_reducible refine q_then_n ?_) | ((with_reducible apply s_pure hF); exact rfl; exact rfl; exact rfl; (first | exact trivial | omega | decide); clear hF a; intro a hF) | ((with_reducible apply s_load hF hM); exact rfl; exact rfl; (repeat (first | exact List.mem_cons_self | refine List.mem_cons_of_mem _ ?_)); exact rfl; exact rfl; clear hF a; intro a hF) | ((with_reducible apply s_store hF hM); exact rfl; exact rfl; exact rfl; exact rfl; (repeat (first | exact Upd.z | apply Upd.s)); exact rfl; exact rfl; exact rfl; clear hM; intro w hM) | (with_reducible refine w_skip ?_) | (with_reducible refine w_block ?_) | (with_reducible refine q_blk_n ?_) | ((with_reducible apply c_dec hF); exact rfl; all_goals intro hc; all_goals (try (exfalso; omega)))))
    · rw [if_pos (by omega)] at hD
      refine f_panic hF ?_
      exact Both.panic ⟨5, _, _, _, hD, rfl, hM⟩
    · rw [if_neg (by omega), if_pos (by omega)] at hD
      refine c_loop (m := cn) (fun m a w' => ∃ (j : Nat) (zs : List Int) (n2 : Nat) (a2 : Option Addr) (c2 : Nat) (ov2 : Value), m + j = cn ∧ zs = ys.drop (8 * j) ∧ 8 * j ≤ ys.length ∧ zs.length ≤ c2 ∧ n2 = ls.length + j ∧
        Fr 81 [] [(48, .int .i64 j), (47, .int .i64 cn), (0, .pointer (some ⟨b, 0, none⟩))] a ∧
        Mm own w0 (⟨b, ⟨[.slice a2 zs.length c2, .int .i64 most, ov2]⟩, 66⟩ :: bs) (⟨38, 8, ov2, n2, (ls ++ chunks j ys).flatten.map (Value.int .u8)⟩ :: L) (RdF (Value.int .u8) a2 zs :: Fs) w')
        ⟨0, ys, ls.length, a1, c1, _, by omega, rfl, by omega, hc1, rfl, hF.sub (by repeat (first | exact Sub.nil | refine Sub.cons rfl (by first | with_reducible rfl | (refine congrArg (Value.int _) ?_; omega) | exact rfl) ?_)), by rw [chunks, List.append_nil]; exact hM⟩ ?_
      clear hF hM a
      rintro m a w' ⟨j, zs, n2, a2, c2, ov2, hm, hz, hj8, hc2', hn2, hF, hM⟩
      have hzl : zs.length = ys.length - 8 * j := by rw [hz, List.length_drop]
      have hzb : ∀ y ∈ zs, 0 ≤ y ∧ y < 256 := fun y hy => hyb y (List.mem_of_mem_drop (hz ▸ hy))
      by_cases hjc : j < cn
      · by_cases h8 : 8 ≤ zs.length
        · have hch := chunks_succ j ys
          rw [← hz] at hch
          have hz2 : zs.drop 8 = ys.drop (8 * (j + 1)) := by rw [hz, List.drop_drop]; congr 1
          obtain ⟨x0, x1, x2, x3, x4, x5, x6, x7, r, rfl⟩ := cons8 h8
          (repeat' (first | (with_reducible refine w_seq ?_) | (with_reducible refine c_region ?_) | (with_reducible refine s_nil ?_) | (with_reducible refine q_then_n ?_) | ((with_reducible apply s_pure hF); exact rfl; exact rfl; exact rfl; (first | exact trivial | omega | decide); clear hF a; intro a hF) | (with_reducible refine w_skip ?_) | (with_reducible refine w_block ?_) | ((with_reducible apply c_dec hF); exact rfl; all_goals intro hc; all_goals (try (exfalso; omega)))))
          refine c_drawS (fun i => Nat.ble 13 i) (fun x hx => List.mem_cons_of_mem _ (hx)) hM ?_; clear hM; intro w hM
          (first | (refine t_pure (i := 0) hF rfl rfl rfl rfl (by kernel_rfl) (hM.sm.sub (fun x hx => by repeat (first | exact hx | refine List.mem_cons_of_mem _ ?_)) (fun _ h => by repeat (first | exact h | refine List.mem_cons_of_mem _ ?_))) (fun _ _ _ h => h) ?_ ?_; (first | exact trivial | omega | decide); clear hF a; intro a hF))
          (first | (refine t_pure (i := 1) hF rfl rfl rfl rfl (by kernel_rfl) (hM.sm.sub (fun x hx => by repeat (first | exact hx | refine List.mem_cons_of_mem _ ?_)) (fun _ h => by repeat (first | exact h | refine List.mem_cons_of_mem _ ?_))) (fun _ _ _ h => h) ?_ ?_; (first | exact trivial | omega | decide); clear hF a; intro a hF))
          (first | (refine t_pure (i := 2) hF rfl rfl rfl rfl (by kernel_rfl) (hM.sm.sub (fun x hx => by repeat (first | exact hx | refine List.mem_cons_of_mem _ ?_)) (fun _ h => by repeat (first | exact h | refine List.mem_cons_of_mem _ ?_))) (fun _ _ _ h => h) ?_ ?_; (first | exact trivial | omega | decide); clear hF a; intro a hF))
          (first | (refine t_pure (i := 3) hF rfl rfl rfl rfl (by kernel_rfl) (hM.sm.sub (fun x hx => by repeat (first | exact hx | refine List.mem_cons_of_mem _ ?_)) (fun _ h => by repeat (first | exact h | refine List.mem_cons_of_mem _ ?_))) (fun _ _ _ h => h) ?_ ?_; (first | exact trivial | omega | decide); clear hF a; intro a hF))
          (first | (refine t_pure (i := 5) hF rfl rfl rfl rfl (by kernel_rfl) (hM.sm.sub (fun x hx => by repeat (first | exact hx | refine List.mem_cons_of_mem _ ?_)) (fun _ h => by repeat (first | exact h | refine List.mem_cons_of_mem _ ?_))) (fun _ _ _ h => h) ?_ ?_; (first | exact trivial | omega | decide); clear hF a; intro a hF))
          (first | (refine t_pure (i := 6) hF rfl rfl rfl rfl (by kernel_rfl) (hM.sm.sub (fun x hx => by repeat (first | exact hx | refine List.mem_cons_of_mem _ ?_)) (fun _ h => by repeat (first | exact h | refine List.mem_cons_of_mem _ ?_))) (fun _ _ _ h => h) ?_ ?_; (first | exact trivial | omega | decide); clear hF a; intro a hF))
          (first | (refine t_pure (i := 7) hF rfl rfl rfl rfl (by kernel_rfl) (hM.sm.sub (fun x hx => by repeat (first | exact hx | refine List.mem_cons_of_mem _ ?_)) (fun _ h => by repeat (first | exact h | refine List.mem_cons_of_mem _ ?_))) (fun _ _ _ h => h) ?_ ?_; (first | exact trivial | omega | decide); clear hF a; intro a hF))
          refine t_two (i := 4) (j := 8) hF rfl rfl (by kernel_rfl) rfl rfl ?_ ?_
          ·
            intro K hK
            (first | (refine x_pure hF hM rfl rfl ?_ ?_; (first | exact trivial | omega | decide); clear hF a; intro a hF) | (apply x_load hF hM rfl; (repeat (first | exact List.mem_cons_self | refine List.mem_cons_of_mem _ ?_)); exact rfl; exact rfl; clear hF a; intro a hF))
            refine hK _ _ (fun _ => (hM.sm.sub (fun x hx => by repeat (first | exact hx | refine List.mem_cons_of_mem _ ?_)) (fun _ h => by repeat (first | exact h | refine List.mem_cons_of_mem _ ?_)))) ?_; clear hK
            refine t_one (i := 8) hF rfl (by kernel_rfl) rfl ?_
            intro K hK
            (refine x_callM (f := 39) hF rfl rfl rfl rfl (sec_ok _ hzb (by omega) a2 c2 hc2' hM h8) ?_; clear hF hM a; rintro v w a ⟨rfl, a3, c3, hc3, hM⟩ hF)
            refine hK _ _ (fun _ => (hM.sm.sub (fun x hx => by repeat (first | exact hx | refine List.mem_cons_of_mem _ ?_)) (fun _ h => by repeat (first | exact h | refine List.mem_cons_of_mem _ ?_)))) ?_; clear hK
            refine t_one (i := 9) hF rfl (by kernel_rfl) rfl ?_
            intro K hK
            (refine x_lit hF hM rfl rfl rfl ?_; clear hF hM a; intro bl w a hM hF)
            refine hK _ _ (fun _ => (hM.sm.sub (fun x hx => by repeat (first | exact hx | refine List.mem_cons_of_mem _ ?_)) (fun _ h => by repeat (first | exact h | refine List.mem_cons_of_mem _ ?_)))) ?_; clear hK
            refine t_one (i := 10) hF rfl (by kernel_rfl) rfl ?_
            intro K hK
            (apply x_app hF hM rfl rfl rfl; (repeat (first | exact List.mem_cons_self | refine List.mem_cons_of_mem _ ?_)); (repeat (first | exact Kth.z | apply Kth.s)); exact rfl; exact rfl; exact rfl; exact rfl; omega; clear hF hM a; intro g cap w a hM hF; dsimp only [List.set] at hM)
            refine hK _ _ (fun _ => (hM.sm.sub (fun x hx => by repeat (first | exact hx | refine List.mem_cons_of_mem _ ?_)) (fun _ h => by repeat (first | exact h | refine List.mem_cons_of_mem _ ?_)))) ?_; clear hK
            (first | (refine t_pure (i := 11) hF rfl rfl rfl rfl (by kernel_rfl) (hM.sm.sub (fun x hx => by repeat (first | exact hx | refine List.mem_cons_of_mem _ ?_)) (fun _ h => by repeat (first | exact h | refine List.mem_cons_of_mem _ ?_))) (fun _ _ _ h => h) ?_ ?_; (first | exact trivial | omega | decide); clear hF a; intro a hF))
            (first | (refine t_pure (i := 12) hF rfl rfl rfl rfl (by kernel_rfl) (hM.sm.sub (fun x hx => by repeat (first | exact hx | refine List.mem_cons_of_mem _ ?_)) (fun _ h => by repeat (first | exact h | refine List.mem_cons_of_mem _ ?_))) (fun _ _ _ h => h) ?_ ?_; (first | exact trivial | omega | decide); clear hF a; intro a hF))
            refine t_one (i := 13) hF rfl (by kernel_rfl) rfl ?_
            intro K hK
            (apply x_store hF hM rfl rfl rfl; (repeat (first | exact Upd.z | apply Upd.s)); exact rfl; exact rfl; exact rfl; clear hF hM a; intro w a hM hF)
            refine hK _ _ (fun h => by cases h) ?_; clear hK
            refine t_done (by kernel_rfl) ?_
            (repeat' (first | (with_reducible refine c_region ?_) | (with_reducible refine s_nil ?_) | (with_reducible refine q_then_n ?_) | ((with_reducible apply s_pure hF); exact rfl; exact rfl; exact rfl; (first | exact trivial | omega | decide); clear hF a; intro a hF) | (with_reducible refine q_blk_n ?_)))
            refine ⟨m - 1, by omega, j + 1, _, n2 + 1, a3, c3, .slice (some ⟨g, 0, none⟩) (n2 + 1) cap, by omega, hz2, by omega, hc3, by omega, hF.sub (by repeat (first | exact Sub.nil | refine Sub.cons rfl (by first | with_reducible rfl | (refine congrArg (Value.int _) ?_; omega) | exact rfl) ?_)), ?_⟩
            rw [hch, ← List.append_assoc, List.flatten_append, List.map_append]
            exact hM.sub (.cons _ (.refl _)) (.refl _) (fun f hf => by rcases List.mem_cons.1 hf with rfl | hf; exact List.mem_cons_self; exact List.mem_cons_of_mem _ (List.mem_cons_of_mem _ hf))
          ·
            intro K hK
            (refine x_callM (f := 39) hF rfl rfl rfl rfl (sec_ok _ hzb (by omega) a2 c2 hc2' hM h8) ?_; clear hF hM a; rintro v w a ⟨rfl, a3, c3, hc3, hM⟩ hF)
            refine hK _ _ (fun _ => (hM.sm.sub (fun x hx => by repeat (first | exact hx | refine List.mem_cons_of_mem _ ?_)) (fun _ h => by repeat (first | exact h | refine List.mem_cons_of_mem _ ?_)))) ?_; clear hK
            refine t_two (i := 4) (j := 9) hF rfl rfl (by kernel_rfl) rfl rfl ?_ ?_
            ·
              intro K hK
              (first | (refine x_pure hF hM rfl rfl ?_ ?_; (first | exact trivial | omega | decide); clear hF a; intro a hF) | (apply x_load hF hM rfl; (repeat (first | exact List.mem_cons_self | refine List.mem_cons_of_mem _ ?_)); exact rfl; exact rfl; clear hF a; intro a hF))
              refine hK _ _ (fun _ => (hM.sm.sub (fun x hx => by repeat (first | exact hx | refine List.mem_cons_of_mem _ ?_)) (fun _ h => by repeat (first | exact h | refine List.mem_cons_of_mem _ ?_)))) ?_; clear hK
              refine t_one (i := 9) hF rfl (by kernel_rfl) rfl ?_
              intro K hK
              (refine x_lit hF hM rfl rfl rfl ?_; clear hF hM a; intro bl w a hM hF)
              refine hK _ _ (fun _ => (hM.sm.sub (fun x hx => by repeat (first | exact hx | refine List.mem_cons_of_mem _ ?_)) (fun _ h => by repeat (first | exact h | refine List.mem_cons_of_mem _ ?_)))) ?_; clear hK
              refine t_one (i := 10) hF rfl (by kernel_rfl) rfl ?_
              intro K hK
              (apply x_app hF hM rfl rfl rfl; (repeat (first | exact List.mem_cons_self | refine List.mem_cons_of_mem _ ?_)); (repeat (first | exact Kth.z | apply Kth.s)); exact rfl; exact rfl; exact rfl; exact rfl; omega; clear hF hM a; intro g cap w a hM hF; dsimp only [List.set] at hM)
              refine hK _ _ (fun _ => (hM.sm.sub (fun x hx => by repeat (first | exact hx | refine List.mem_cons_of_mem _ ?_)) (fun _ h => by repeat (first | exact h | refine List.mem_cons_of_mem _ ?_)))) ?_; clear hK
              (first | (refine t_pure (i := 11) hF rfl rfl rfl rfl (by kernel_rfl) (hM.sm.sub (fun x hx => by repeat (first | exact hx | refine List.mem_cons_of_mem _ ?_)) (fun _ h => by repeat (first | exact h | refine List.mem_cons_of_mem _ ?_))) (fun _ _ _ h => h) ?_ ?_; (first | exact trivial | omega | decide); clear hF a; intro a hF))
              (first | (refine t_pure (i := 12) hF rfl rfl rfl rfl (by kernel_rfl) (hM.sm.sub (fun x hx => by repeat (first | exact hx | refine List.mem_cons_of_mem _ ?_)) (fun _ h => by repeat (first | exact h | refine List.mem_cons_of_mem _ ?_))) (fun _ _ _ h => h) ?_ ?_; (first | exact trivial | omega | decide); clear hF a; intro a hF))
              refine t_one (i := 13) hF rfl (by kernel_rfl) rfl ?_
              intro K hK
              (apply x_store hF hM rfl rfl rfl; (repeat (first | exact Upd.z | apply Upd.s)); exact rfl; exact rfl; exact rfl; clear hF hM a; intro w a hM hF)
              refine hK _ _ (fun h => by cases h) ?_; clear hK
              refine t_done (by kernel_rfl) ?_
              (repeat' (first | (with_reducible refine c_region ?_) | (with_reducible refine s_nil ?_) | (with_reducible refine q_then_n ?_) | ((with_reducible apply s_pure hF); exact rfl; exact rfl; exact rfl; (first | exact trivial | omega | decide); clear hF a; intro a hF) | (with_reducible refine q_blk_n ?_)))
              refine ⟨m - 1, by omega, j + 1, _, n2 + 1, a3, c3, .slice (some ⟨g, 0, none⟩) (n2 + 1) cap, by omega, hz2, by omega, hc3, by omega, hF.sub (by repeat (first | exact Sub.nil | refine Sub.cons rfl (by first | with_reducible rfl | (refine congrArg (Value.int _) ?_; omega) | exact rfl) ?_)), ?_⟩
              rw [hch, ← List.append_assoc, List.flatten_append, List.map_append]
              exact hM.sub (.cons _ (.refl _)) (.refl _) (fun f hf => by rcases List.mem_cons.1 hf with rfl | hf; exact List.mem_cons_self; exact List.mem_cons_of_mem _ (List.mem_cons_of_mem _ hf))
            ·
              intro K hK
              (refine x_lit hF hM rfl rfl rfl ?_; clear hF hM a; intro bl w a hM hF)
              refine hK _ _ (fun _ => (hM.sm.sub (fun x hx => by repeat (first | exact hx | refine List.mem_cons_of_mem _ ?_)) (fun _ h => by repeat (first | exact h | refine List.mem_cons_of_mem _ ?_)))) ?_; clear hK
              refine t_one (i := 4) hF rfl (by kernel_rfl) rfl ?_
              intro K hK
              (first | (refine x_pure hF hM rfl rfl ?_ ?_; (first | exact trivial | omega | decide); clear hF a; intro a hF) | (apply x_load hF hM rfl; (repeat (first | exact List.mem_cons_self | refine List.mem_cons_of_mem _ ?_)); exact rfl; exact rfl; clear hF a; intro a hF))
              refine hK _ _ (fun _ => (hM.sm.sub (fun x hx => by repeat (first | exact hx | refine List.mem_cons_of_mem _ ?_)) (fun _ h => by repeat (first | exact h | refine List.mem_cons_of_mem _ ?_)))) ?_; clear hK
              refine t_one (i := 10) hF rfl (by kernel_rfl) rfl ?_
              intro K hK
              (apply x_app hF hM rfl rfl rfl; (repeat (first | exact List.mem_cons_self | refine List.mem_cons_of_mem _ ?_)); (repeat (first | exact Kth.z | apply Kth.s)); exact rfl; exact rfl; exact rfl; exact rfl; omega; clear hF hM a; intro g cap w a hM hF; dsimp only [List.set] at hM)
              refine hK _ _ (fun _ => (hM.sm.sub (fun x hx => by repeat (first | exact hx | refine List.mem_cons_of_mem _ ?_)) (fun _ h => by repeat (first | exact h | refine List.mem_cons_of_mem _ ?_)))) ?_; clear hK
              (first | (refine t_pure (i := 11) hF rfl rfl rfl rfl (by kernel_rfl) (hM.sm.sub (fun x hx => by repeat (first | exact hx | refine List.mem_cons_of_mem _ ?_)) (fun _ h => by repeat (first | exact h | refine List.mem_cons_of_mem _ ?_))) (fun _ _ _ h => h) ?_ ?_; (first | exact trivial | omega | decide); clear hF a; intro a hF))
              (first | (refine t_pure (i := 12) hF rfl rfl rfl rfl (by kernel_rfl) (hM.sm.sub (fun x hx => by repeat (first | exact hx | refine List.mem_cons_of_mem _ ?_)) (fun _ h => by repeat (first | exact h | refine List.mem_cons_of_mem _ ?_))) (fun _ _ _ h => h) ?_ ?_; (first | exact trivial | omega | decide); clear hF a; intro a hF))
              refine t_one (i := 13) hF rfl (by kernel_rfl) rfl ?_
              intro K hK
              (apply x_store hF hM rfl rfl rfl; (repeat (first | exact Upd.z | apply Upd.s)); exact rfl; exact rfl; exact rfl; clear hF hM a; intro w a hM hF)
              refine hK _ _ (fun h => by cases h) ?_; clear hK
              refine t_done (by kernel_rfl) ?_
              (repeat' (first | (with_reducible refine c_region ?_) | (with_reducible refine s_nil ?_) | (with_reducible refine q_then_n ?_) | ((with_reducible apply s_pure hF); exact rfl; exact rfl; exact rfl; (first | exact trivial | omega | decide); clear hF a; intro a hF) | (with_reducible refine q_blk_n ?_)))
              refine ⟨m - 1, by omega, j + 1, _, n2 + 1, a3, c3, .slice (some ⟨g, 0, none⟩) (n2 + 1) cap, by omega, hz2, by omega, hc3, by omega, hF.sub (by repeat (first | exact Sub.nil | refine Sub.cons rfl (by first | with_reducible rfl | (refine congrArg (Value.int _) ?_; omega) | exact rfl) ?_)), ?_⟩
              rw [hch, ← List.append_assoc, List.flatten_append, List.map_append]
              exact hM.sub (.cons _ (.refl _)) (.refl _) (fun f hf => by rcases List.mem_cons.1 hf with rfl | hf; exact List.mem_cons_self; exact List.mem_cons_of_mem _ (List.mem_cons_of_mem _ hf))
        · rw [if_pos (by omega)] at hD
          (repeat' (first | (with_reducible refine w_seq ?_) | (with_reducible refine c_region ?_) | (with_reducible refine s_nil ?_) | (with_reducible refine q_then_n ?_) | ((with_reducible apply s_pure hF); exact rfl; exact rfl; exact rfl; (first | exact trivial | omega | decide); clear hF a; intro a hF) | (with_reducible refine w_skip ?_) | (with_reducible refine w_block ?_) | ((with_reducible apply c_dec hF); exact rfl; all_goals intro hc; all_goals (try (exfalso; omega)))))
          refine c_drawS (fun i => Nat.ble 13 i) (fun x hx => List.mem_cons_of_mem _ (hx)) hM ?_; clear hM; intro w hM
          (first | (refine t_pure (i := 0) hF rfl rfl rfl rfl (by kernel_rfl) (hM.sm.sub (fun x hx => by repeat (first | exact hx | refine List.mem_cons_of_mem _ ?_)) (fun _ h => by repeat (first | exact h | refine List.mem_cons_of_mem _ ?_))) (fun _ _ _ h => h) ?_ ?_; (first | exact trivial | omega | decide); clear hF a; intro a hF))
          (first | (refine t_pure (i := 1) hF rfl rfl rfl rfl (by kernel_rfl) (hM.sm.sub (fun x hx => by repeat (first | exact hx | refine List.mem_cons_of_mem _ ?_)) (fun _ h => by repeat (first | exact h | refine List.mem_cons_of_mem _ ?_))) (fun _ _ _ h => h) ?_ ?_; (first | exact trivial | omega | decide); clear hF a; intro a hF))
          (first | (refine t_pure (i := 2) hF rfl rfl rfl rfl (by kernel_rfl) (hM.sm.sub (fun x hx => by repeat (first | exact hx | refine List.mem_cons_of_mem _ ?_)) (fun _ h => by repeat (first | exact h | refine List.mem_cons_of_mem _ ?_))) (fun _ _ _ h => h) ?_ ?_; (first | exact trivial | omega | decide); clear hF a; intro a hF))
          (first | (refine t_pure (i := 3) hF rfl rfl rfl rfl (by kernel_rfl) (hM.sm.sub (fun x hx => by repeat (first | exact hx | refine List.mem_cons_of_mem _ ?_)) (fun _ h => by repeat (first | exact h | refine List.mem_cons_of_mem _ ?_))) (fun _ _ _ h => h) ?_ ?_; (first | exact trivial | omega | decide); clear hF a; intro a hF))
          (first | (refine t_pure (i := 5) hF rfl rfl rfl rfl (by kernel_rfl) (hM.sm.sub (fun x hx => by repeat (first | exact hx | refine List.mem_cons_of_mem _ ?_)) (fun _ h => by repeat (first | exact h | refine List.mem_cons_of_mem _ ?_))) (fun _ _ _ h => h) ?_ ?_; (first | exact trivial | omega | decide); clear hF a; intro a hF))
          (first | (refine t_pure (i := 6) hF rfl rfl rfl rfl (by kernel_rfl) (hM.sm.sub (fun x hx => by repeat (first | exact hx | refine List.mem_cons_of_mem _ ?_)) (fun _ h => by repeat (first | exact h | refine List.mem_cons_of_mem _ ?_))) (fun _ _ _ h => h) ?_ ?_; (first | exact trivial | omega | decide); clear hF a; intro a hF))
          (first | (refine t_pure (i := 7) hF rfl rfl rfl rfl (by kernel_rfl) (hM.sm.sub (fun x hx => by repeat (first | exact hx | refine List.mem_cons_of_mem _ ?_)) (fun _ h => by repeat (first | exact h | refine List.mem_cons_of_mem _ ?_))) (fun _ _ _ h => h) ?_ ?_; (first | exact trivial | omega | decide); clear hF a; intro a hF))
          refine t_two (i := 4) (j := 8) hF rfl rfl (by kernel_rfl) rfl rfl ?_ ?_
          ·
            intro K hK
            (first | (refine x_pure hF hM rfl rfl ?_ ?_; (first | exact trivial | omega | decide); clear hF a; intro a hF) | (apply x_load hF hM rfl; (repeat (first | exact List.mem_cons_self | refine List.mem_cons_of_mem _ ?_)); exact rfl; exact rfl; clear hF a; intro a hF))
            refine hK _ _ (fun _ => (hM.sm.sub (fun x hx => by repeat (first | exact hx | refine List.mem_cons_of_mem _ ?_)) (fun _ h => by repeat (first | exact h | refine List.mem_cons_of_mem _ ?_)))) ?_; clear hK
            refine t_one (i := 8) hF rfl (by kernel_rfl) rfl ?_
            intro K hK
            (refine x_callB (f := 39) hF rfl rfl rfl rfl (sec_err _ hzb (by omega) a2 c2 hc2' hM (by omega)) (fun c w a hE hF => ?_) (fun _ _ _ h => h.elim); obtain ⟨rfl, bs1, Fs1, hM⟩ := hE; (repeat' (first | (with_reducible refine q_then_p ?_) | (with_reducible refine q_blk_p ?_))); refine f_panic hF ?_; exact Both.panic ⟨10, _, _, _, hD, rfl, hM⟩)
          ·
            intro K hK
            (refine x_callB (f := 39) hF rfl rfl rfl rfl (sec_err _ hzb (by omega) a2 c2 hc2' hM (by omega)) (fun c w a hE hF => ?_) (fun _ _ _ h => h.elim); obtain ⟨rfl, bs1, Fs1, hM⟩ := hE; (repeat' (first | (with_reducible refine q_then_p ?_) | (with_reducible refine q_blk_p ?_))); refine f_panic hF ?_; exact Both.panic ⟨10, _, _, _, hD, rfl, hM⟩)
      · obtain rfl : j = cn := by omega
        rw [if_neg (by omega), ← hz] at hD
        (repeat' (first | (with_reducible refine w_seq ?_) | (with_reducible refine c_region ?_) | (with_reducible refine s_nil ?_) | (with_reducible refine q_then_n ?_) | ((with_reducible apply s_pure hF); exact rfl; exact rfl; exact rfl; (first | exact trivial | omega | decide); clear hF a; intro a hF) | (with_reducible refine w_exit ?_) | (with_reducible refine q_then_x ?_) | (with_reducible refine q_blk_n ?_) | (with_reducible refine q_blk_x ?_) | ((with_reducible apply c_dec hF); exact rfl; all_goals intro hc; all_goals (try (exfalso; omega)))))
        apply f_end Try.results28 hF hM
        (repeat (first | exact RL.nil | (apply RL.tmp; exact rfl) | (apply RL.cell; exact rfl; (repeat (first | exact List.mem_cons_self | refine List.mem_cons_of_mem _ ?_)); exact rfl)))
        refine Both.mk ?_
        refine ⟨zs, _, a2, c2, ov2, hD, hc2', ?_⟩
        rw [List.length_append, chunks_len, ← hn2]
        exact hM
    · rw [if_neg (by omega), if_neg (by omega), if_pos (by omega)] at hD
      by_cases h8 : 8 ≤ ys.length
      · rw [if_neg (by omega)] at hD
        obtain ⟨x0, x1, x2, x3, x4, x5, x6, x7, r, rfl⟩ := cons8 h8
        refine c_drawS (fun i => Nat.ble 15 i) (fun x hx => List.mem_cons_of_mem _ (hx)) hM ?_; clear hM; intro w hM
        (first | (refine t_pure (i := 0) hF rfl rfl rfl rfl (by kernel_rfl) (hM.sm.sub (fun x hx => by repeat (first | exact hx | refine List.mem_cons_of_mem _ ?_)) (fun _ h => by repeat (first | exact h | refine List.mem_cons_of_mem _ ?_))) (fun _ _ _ h => h) ?_ ?_; (first | exact trivial | omega | decide); clear hF a; intro a hF))
        (first | (refine t_pure (i := 1) hF rfl rfl rfl rfl (by kernel_rfl) (hM.sm.sub (fun x hx => by repeat (first | exact hx | refine List.mem_cons_of_mem _ ?_)) (fun _ h => by repeat (first | exact h | refine List.mem_cons_of_mem _ ?_))) (fun _ _ _ h => h) ?_ ?_; (first | exact trivial | omega | decide); clear hF a; intro a hF))
        (first | (refine t_pure (i := 2) hF rfl rfl rfl rfl (by kernel_rfl) (hM.sm.sub (fun x hx => by repeat (first | exact hx | refine List.mem_cons_of_mem _ ?_)) (fun _ h => by repeat (first | exact h | refine List.mem_cons_of_mem _ ?_))) (fun _ _ _ h => h) ?_ ?_; (first | exact trivial | omega | decide); clear hF a; intro a hF))
        (first | (refine t_pure (i := 3) hF rfl rfl rfl rfl (by kernel_rfl) (hM.sm.sub (fun x hx => by repeat (first | exact hx | refine List.mem_cons_of_mem _ ?_)) (fun _ h => by repeat (first | exact h | refine List.mem_cons_of_mem _ ?_))) (fun _ _ _ h => h) ?_ ?_; (first | exact trivial | omega | decide); clear hF a; intro a hF))
        (first | (refine t_pure (i := 5) hF rfl rfl rfl rfl (by kernel_rfl) (hM.sm.sub (fun x hx => by repeat (first | exact hx | refine List.mem_cons_of_mem _ ?_)) (fun _ h => by repeat (first | exact h | refine List.mem_cons_of_mem _ ?_))) (fun _ _ _ h => h) ?_ ?_; (first | exact trivial | omega | decide); clear hF a; intro a hF))
        (first | (refine t_pure (i := 6) hF rfl rfl rfl rfl (by kernel_rfl) (hM.sm.sub (fun x hx => by repeat (first | exact hx | refine List.mem_cons_of_mem _ ?_)) (fun _ h => by repeat (first | exact h | refine List.mem_cons_of_mem _ ?_))) (fun _ _ _ h => h) ?_ ?_; (first | exact trivial | omega | decide); clear hF a; intro a hF))
        (first | (refine t_pure (i := 7) hF rfl rfl rfl rfl (by kernel_rfl) (hM.sm.sub (fun x hx => by repeat (first | exact hx | refine List.mem_cons_of_mem _ ?_)) (fun _ h => by repeat (first | exact h | refine List.mem_cons_of_mem _ ?_))) (fun _ _ _ h => h) ?_ ?_; (first | exact trivial | omega | decide); clear hF a; intro a hF))
        (first | (refine t_pure (i := 10) hF rfl rfl rfl rfl (by kernel_rfl) (hM.sm.sub (fun x hx => by repeat (first | exact hx | refine List.mem_cons_of_mem _ ?_)) (fun _ h => by repeat (first | exact h | refine List.mem_cons_of_mem _ ?_))) (fun _ _ _ h => h) ?_ ?_; (first | exact trivial | omega | decide); clear hF a; intro a hF))
        refine t_two (i := 4) (j := 8) hF rfl rfl (by kernel_rfl) rfl rfl ?_ ?_
        ·
          intro K hK
          (first | (refine x_pure hF hM rfl rfl ?_ ?_; (first | exact trivial | omega | decide); clear hF a; intro a hF) | (apply x_load hF hM rfl; (repeat (first | exact List.mem_cons_self | refine List.mem_cons_of_mem _ ?_)); exact rfl; exact rfl; clear hF a; intro a hF))
          refine hK _ _ (fun _ => (hM.sm.sub (fun x hx => by repeat (first | exact hx | refine List.mem_cons_of_mem _ ?_)) (fun _ h => by repeat (first | exact h | refine List.mem_cons_of_mem _ ?_)))) ?_; clear hK
          refine t_one (i := 8) hF rfl (by kernel_rfl) rfl ?_
          intro K hK
          (refine x_callM (f := 39) hF rfl rfl rfl rfl (sec_ok _ hyb hys a1 c1 hc1 hM h8) ?_; clear hF hM a; rintro v w a ⟨rfl, a3, c3, hc3, hM⟩ hF)
          refine hK _ _ (fun _ => (hM.sm.sub (fun x hx => by repeat (first | exact hx | refine List.mem_cons_of_mem _ ?_)) (fun _ h => by repeat (first | exact h | refine List.mem_cons_of_mem _ ?_)))) ?_; clear hK
          refine t_one (i := 9) hF rfl (by kernel_rfl) rfl ?_
          intro K hK
          (refine x_lit hF hM rfl rfl rfl ?_; clear hF hM a; intro bl w a hM hF; replace hM := Mm.freeze hM; replace hM := hM.addFact (Has.lit (hM.facts _ List.mem_cons_self) (enc := Value.int .u8) [x0, x1, x2, x3, x4, x5, x6, x7] rfl))
          refine hK _ _ (fun _ => (hM.sm.sub (fun x hx => by repeat (first | exact hx | refine List.mem_cons_of_mem _ ?_)) (fun _ h => by repeat (first | exact h | refine List.mem_cons_of_mem _ ?_)))) ?_; clear hK
          refine t_one (i := 11) hF rfl (by kernel_rfl) rfl ?_
          intro K hK
          (apply x_callO hF; exact rfl; exact rfl; exact rfl; exact rfl; exact (repeat_c [x0, x1, x2, x3, x4, x5, x6, x7] rfl cn hc2 (by omega) (some ⟨bl, 0, none⟩) 1 _ _ hM.lt (hM.facts _ List.mem_cons_self)); clear hF a; rintro v wn a ⟨a5, c5, rfl, hO⟩ hS hF; replace hM := hM.addRows hS hO; clear hS hO; dsimp only [List.cons_append, List.nil_append] at hM)
          refine hK _ _ (fun _ => (hM.sm.sub (fun x hx => by repeat (first | exact hx | refine List.mem_cons_of_mem _ ?_)) (fun _ h => by repeat (first | exact h | refine List.mem_cons_of_mem _ ?_)))) ?_; clear hK
          refine t_one (i := 12) hF rfl (by kernel_rfl) rfl ?_
          intro K hK
          (obtain ⟨g5, rfl⟩ := row_some hM List.mem_cons_self (by omega); refine e_app hF hM (ys := ((List.replicate cn [x0, x1, x2, x3, x4, x5, x6, x7]).flatten).map (Value.int .u8)) rfl rfl rfl (.s .z) (rep_len _ rfl cn) (fun i u hi => (hM.mem.own.own _ List.mem_cons_self).cells (g := g5) rfl i u hi) (one_map _) (by omega) (by omega) ?_; clear hM; intro g cap w hM; dsimp only [List.set] at hM; replace hF := hF.put (d := 78) rfl (.slice (some ⟨g, 0, none⟩) (ls.length + cn) cap); generalize a.put (some 78) _ = a at *)
          refine hK _ _ (fun _ => (hM.sm.sub (fun x hx => by repeat (first | exact hx | refine List.mem_cons_of_mem _ ?_)) (fun _ h => by repeat (first | exact h | refine List.mem_cons_of_mem _ ?_)))) ?_; clear hK
          (first | (refine t_pure (i := 13) hF rfl rfl rfl rfl (by kernel_rfl) (hM.sm.sub (fun x hx => by repeat (first | exact hx | refine List.mem_cons_of_mem _ ?_)) (fun _ h => by repeat (first | exact h | refine List.mem_cons_of_mem _ ?_))) (fun _ _ _ h => h) ?_ ?_; (first | exact trivial | omega | decide); clear hF a; intro a hF))
          (first | (refine t_pure (i := 14) hF rfl rfl rfl rfl (by kernel_rfl) (hM.sm.sub (fun x hx => by repeat (first | exact hx | refine List.mem_cons_of_mem _ ?_)) (fun _ h => by repeat (first | exact h | refine List.mem_cons_of_mem _ ?_))) (fun _ _ _ h => h) ?_ ?_; (first | exact trivial | omega | decide); clear hF a; intro a hF))
          refine t_one (i := 15) hF rfl (by kernel_rfl) rfl ?_
          intro K hK
          (apply x_store hF hM rfl rfl rfl; (repeat (first | exact Upd.z | apply Upd.s)); exact rfl; exact rfl; exact rfl; clear hF hM a; intro w a hM hF)
          refine hK _ _ (fun h => by cases h) ?_; clear hK
          refine t_done (by kernel_rfl) ?_
          (repeat' (first | (with_reducible refine q_blk_n ?_)))
          apply f_end Try.results28 hF hM
          · (repeat (first | exact RL.nil | (apply RL.tmp; exact rfl) | (apply RL.cell; exact rfl; (repeat (first | exact List.mem_cons_self | refine List.mem_cons_of_mem _ ?_)); exact rfl)))
          refine Both.mk ?_
          refine ⟨_, _, a3, c3, .slice (some ⟨g, 0, none⟩) (ls.length + cn) cap, hD, hc3, ?_⟩
          rw [List.length_append, List.length_replicate, List.flatten_append, List.map_append]
          exact hM.sub (.refl _) (.cons _ (.refl _)) (fun f hf => by rcases List.mem_cons.1 hf with rfl | hf; exact (by (repeat (first | exact List.mem_cons_self | refine List.mem_cons_of_mem _ ?_))); exact List.mem_cons_of_mem _ (List.mem_cons_of_mem _ (List.mem_cons_of_mem _ (List.mem_cons_of_mem _ hf))))
        ·
          intro K hK
          (refine x_callM (f := 39) hF rfl rfl rfl rfl (sec_ok _ hyb hys a1 c1 hc1 hM h8) ?_; clear hF hM a; rintro v w a ⟨rfl, a3, c3, hc3, hM⟩ hF)
          refine hK _ _ (fun _ => (hM.sm.sub (fun x hx => by repeat (first | exact hx | refine List.mem_cons_of_mem _ ?_)) (fun _ h => by repeat (first | exact h | refine List.mem_cons_of_mem _ ?_)))) ?_; clear hK
          refine t_two (i := 4) (j := 9) hF rfl rfl (by kernel_rfl) rfl rfl ?_ ?_
          ·
            intro K hK
            (first | (refine x_pure hF hM rfl rfl ?_ ?_; (first | exact trivial | omega | decide); clear hF a; intro a hF) | (apply x_load hF hM rfl; (repeat (first | exact List.mem_cons_self | refine List.mem_cons_of_mem _ ?_)); exact rfl; exact rfl; clear hF a; intro a hF))
            refine hK _ _ (fun _ => (hM.sm.sub (fun x hx => by repeat (first | exact hx | refine List.mem_cons_of_mem _ ?_)) (fun _ h => by repeat (first | exact h | refine List.mem_cons_of_mem _ ?_)))) ?_; clear hK
            refine t_one (i := 9) hF rfl (by kernel_rfl) rfl ?_
            intro K hK
            (refine x_lit hF hM rfl rfl rfl ?_; clear hF hM a; intro bl w a hM hF; replace hM := Mm.freeze hM; replace hM := hM.addFact (Has.lit (hM.facts _ List.mem_cons_self) (enc := Value.int .u8) [x0, x1, x2, x3, x4, x5, x6, x7] rfl))
            refine hK _ _ (fun _ => (hM.sm.sub (fun x hx => by repeat (first | exact hx | refine List.mem_cons_of_mem _ ?_)) (fun _ h => by repeat (first | exact h | refine List.mem_cons_of_mem _ ?_)))) ?_; clear hK
            refine t_one (i := 11) hF rfl (by kernel_rfl) rfl ?_
            intro K hK
            (apply x_callO hF; exact rfl; exact rfl; exact rfl; exact rfl; exact (repeat_c [x0, x1, x2, x3, x4, x5, x6, x7] rfl cn hc2 (by omega) (some ⟨bl, 0, none⟩) 1 _ _ hM.lt (hM.facts _ List.mem_cons_self)); clear hF a; rintro v wn a ⟨a5, c5, rfl, hO⟩ hS hF; replace hM := hM.addRows hS hO; clear hS hO; dsimp only [List.cons_append, List.nil_append] at hM)
            refine hK _ _ (fun _ => (hM.sm.sub (fun x hx => by repeat (first | exact hx | refine List.mem_cons_of_mem _ ?_)) (fun _ h => by repeat (first | exact h | refine List.mem_cons_of_mem _ ?_)))) ?_; clear hK
            refine t_one (i := 12) hF rfl (by kernel_rfl) rfl ?_
            intro K hK
            (obtain ⟨g5, rfl⟩ := row_some hM List.mem_cons_self (by omega); refine e_app hF hM (ys := ((List.replicate cn [x0, x1, x2, x3, x4, x5, x6, x7]).flatten).map (Value.int .u8)) rfl rfl rfl (.s .z) (rep_len _ rfl cn) (fun i u hi => (hM.mem.own.own _ List.mem_cons_self).cells (g := g5) rfl i u hi) (one_map _) (by omega) (by omega) ?_; clear hM; intro g cap w hM; dsimp only [List.set] at hM; replace hF := hF.put (d := 78) rfl (.slice (some ⟨g, 0, none⟩) (ls.length + cn) cap); generalize a.put (some 78) _ = a at *)
            refine hK _ _ (fun _ => (hM.sm.sub (fun x hx => by repeat (first | exact hx | refine List.mem_cons_of_mem _ ?_)) (fun _ h => by repeat (first | exact h | refine List.mem_cons_of_mem _ ?_)))) ?_; clear hK
            (first | (refine t_pure (i := 13) hF rfl rfl rfl rfl (by kernel_rfl) (hM.sm.sub (fun x hx => by repeat (first | exact hx | refine List.mem_cons_of_mem _ ?_)) (fun _ h => by repeat (first | exact h | refine List.mem_cons_of_mem _ ?_))) (fun _ _ _ h => h) ?_ ?_; (first | exact trivial | omega | decide); clear hF a; intro a hF))
            (first | (refine t_pure (i := 14) hF rfl rfl rfl rfl (by kernel_rfl) (hM.sm.sub (fun x hx => by repeat (first | exact hx | refine List.mem_cons_of_mem _ ?_)) (fun _ h => by repeat (first | exact h | refine List.mem_cons_of_mem _ ?_))) (fun _ _ _ h => h) ?_ ?_; (first | exact trivial | omega | decide); clear hF a; intro a hF))
            refine t_one (i := 15) hF rfl (by kernel_rfl) rfl ?_
            intro K hK
            (apply x_store hF hM rfl rfl rfl; (repeat (first | exact Upd.z | apply Upd.s)); exact rfl; exact rfl; exact rfl; clear hF hM a; intro w a hM hF)
            refine hK _ _ (fun h => by cases h) ?_; clear hK
            refine t_done (by kernel_rfl) ?_
            (repeat' (first | (with_reducible refine q_blk_n ?_)))
            apply f_end Try.results28 hF hM
            · (repeat (first | exact RL.nil | (apply RL.tmp; exact rfl) | (apply RL.cell; exact rfl; (repeat (first | exact List.mem_cons_self | refine List.mem_cons_of_mem _ ?_)); exact rfl)))
            refine Both.mk ?_
            refine ⟨_, _, a3, c3, .slice (some ⟨g, 0, none⟩) (ls.length + cn) cap, hD, hc3, ?_⟩
            rw [List.length_append, List.length_replicate, List.flatten_append, List.map_append]
            exact hM.sub (.refl _) (.cons _ (.refl _)) (fun f hf => by rcases List.mem_cons.1 hf with rfl | hf; exact (by (repeat (first | exact List.mem_cons_self | refine List.mem_cons_of_mem _ ?_))); exact List.mem_cons_of_mem _ (List.mem_cons_of_mem _ (List.mem_cons_of_mem _ (List.mem_cons_of_mem _ hf))))
          ·
            intro K hK
            (refine x_lit hF hM rfl rfl rfl ?_; clear hF hM a; intro bl w a hM hF; replace hM := Mm.freeze hM; replace hM := hM.addFact (Has.lit (hM.facts _ List.mem_cons_self) (enc := Value.int .u8) [x0, x1, x2, x3, x4, x5, x6, x7] rfl))
            refine hK _ _ (fun _ => (hM.sm.sub (fun x hx => by repeat (first | exact hx | refine List.mem_cons_of_mem _ ?_)) (fun _ h => by repeat (first | exact h | refine List.mem_cons_of_mem _ ?_)))) ?_; clear hK
            refine t_two (i := 4) (j := 11) hF rfl rfl (by kernel_rfl) rfl rfl ?_ ?_
            ·
              intro K hK
              (first | (refine x_pure hF hM rfl rfl ?_ ?_; (first | exact trivial | omega | decide); clear hF a; intro a hF) | (apply x_load hF hM rfl; (repeat (first | exact List.mem_cons_self | refine List.mem_cons_of_mem _ ?_)); exact rfl; exact rfl; clear hF a; intro a hF))
              refine hK _ _ (fun _ => (hM.sm.sub (fun x hx => by repeat (first | exact hx | refine List.mem_cons_of_mem _ ?_)) (fun _ h => by repeat (first | exact h | refine List.mem_cons_of_mem _ ?_)))) ?_; clear hK
              refine t_one (i := 11) hF rfl (by kernel_rfl) rfl ?_
              intro K hK
              (apply x_callO hF; exact rfl; exact rfl; exact rfl; exact rfl; exact (repeat_c [x0, x1, x2, x3, x4, x5, x6, x7] rfl cn hc2 (by omega) (some ⟨bl, 0, none⟩) 1 _ _ hM.lt (hM.facts _ List.mem_cons_self)); clear hF a; rintro v wn a ⟨a5, c5, rfl, hO⟩ hS hF; replace hM := hM.addRows hS hO; clear hS hO; dsimp only [List.cons_append, List.nil_append] at hM)
              refine hK _ _ (fun _ => (hM.sm.sub (fun x hx => by repeat (first | exact hx | refine List.mem_cons_of_mem _ ?_)) (fun _ h => by repeat (first | exact h | refine List.mem_cons_of_mem _ ?_)))) ?_; clear hK
              refine t_one (i := 12) hF rfl (by kernel_rfl) rfl ?_
              intro K hK
              (obtain ⟨g5, rfl⟩ := row_some hM List.mem_cons_self (by omega); refine e_app hF hM (ys := ((List.replicate cn [x0, x1, x2, x3, x4, x5, x6, x7]).flatten).map (Value.int .u8)) rfl rfl rfl (.s .z) (rep_len _ rfl cn) (fun i u hi => (hM.mem.own.own _ List.mem_cons_self).cells (g := g5) rfl i u hi) (one_map _) (by omega) (by omega) ?_; clear hM; intro g cap w hM; dsimp only [List.set] at hM; replace hF := hF.put (d := 78) rfl (.slice (some ⟨g, 0, none⟩) (ls.length + cn) cap); generalize a.put (some 78) _ = a at *)
              refine hK _ _ (fun _ => (hM.sm.sub (fun x hx => by repeat (first | exact hx | refine List.mem_cons_of_mem _ ?_)) (fun _ h => by repeat (first | exact h | refine List.mem_cons_of_mem _ ?_)))) ?_; clear hK
              (first | (refine t_pure (i := 13) hF rfl rfl rfl rfl (by kernel_rfl) (hM.sm.sub (fun x hx => by repeat (first | exact hx | refine List.mem_cons_of_mem _ ?_)) (fun _ h => by repeat (first | exact h | refine List.mem_cons_of_mem _ ?_))) (fun _ _ _ h => h) ?_ ?_; (first | exact trivial | omega | decide); clear hF a; intro a hF))
              (first | (refine t_pure (i := 14) hF rfl rfl rfl rfl (by kernel_rfl) (hM.sm.sub (fun x hx => by repeat (first | exact hx | refine List.mem_cons_of_mem _ ?_)) (fun _ h => by repeat (first | exact h | refine List.mem_cons_of_mem _ ?_))) (fun _ _ _ h => h) ?_ ?_; (first | exact trivial | omega | decide); clear hF a; intro a hF))
              refine t_one (i := 15) hF rfl (by kernel_rfl) rfl ?_
              intro K hK
              (apply x_store hF hM rfl rfl rfl; (repeat (first | exact Upd.z | apply Upd.s)); exact rfl; exact rfl; exact rfl; clear hF hM a; intro w a hM hF)
              refine hK _ _ (fun h => by cases h) ?_; clear hK
              refine t_done (by kernel_rfl) ?_
              (repeat' (first | (with_reducible refine q_blk_n ?_)))
              apply f_end Try.results28 hF hM
              · (repeat (first | exact RL.nil | (apply RL.tmp; exact rfl) | (apply RL.cell; exact rfl; (repeat (first | exact List.mem_cons_self | refine List.mem_cons_of_mem _ ?_)); exact rfl)))
              refine Both.mk ?_
              refine ⟨_, _, a3, c3, .slice (some ⟨g, 0, none⟩) (ls.length + cn) cap, hD, hc3, ?_⟩
              rw [List.length_append, List.length_replicate, List.flatten_append, List.map_append]
              exact hM.sub (.refl _) (.cons _ (.refl _)) (fun f hf => by rcases List.mem_cons.1 hf with rfl | hf; exact (by (repeat (first | exact List.mem_cons_self | refine List.mem_cons_of_mem _ ?_))); exact List.mem_cons_of_mem _ (List.mem_cons_of_mem _ (List.mem_cons_of_mem _ (List.mem_cons_of_mem _ hf))))
            ·
              intro K hK
              (apply x_callO hF; exact rfl; exact rfl; exact rfl; exact rfl; exact (repeat_c [x0, x1, x2, x3, x4, x5, x6, x7] rfl cn hc2 (by omega) (some ⟨bl, 0, none⟩) 1 _ _ hM.lt (hM.facts _ List.mem_cons_self)); clear hF a; rintro v wn a ⟨a5, c5, rfl, hO⟩ hS hF; replace hM := hM.addRows hS hO; clear hS hO; dsimp only [List.cons_append, List.nil_append] at hM)
              refine hK _ _ (fun _ => (hM.sm.sub (fun x hx => by repeat (first | exact hx | refine List.mem_cons_of_mem _ ?_)) (fun _ h => by repeat (first | exact h | refine List.mem_cons_of_mem _ ?_)))) ?_; clear hK
              refine t_one (i := 4) hF rfl (by kernel_rfl) rfl ?_
              intro K hK
              (first | (refine x_pure hF hM rfl rfl ?_ ?_; (first | exact trivial | omega | decide); clear hF a; intro a hF) | (apply x_load hF hM rfl; (repeat (first | exact List.mem_cons_self | refine List.mem_cons_of_mem _ ?_)); exact rfl; exact rfl; clear hF a; intro a hF))
              refine hK _ _ (fun _ => (hM.sm.sub (fun x hx => by repeat (first | exact hx | refine List.mem_cons_of_mem _ ?_)) (fun _ h => by repeat (first | exact h | refine List.mem_cons_of_mem _ ?_)))) ?_; clear hK
              refine t_one (i := 12) hF rfl (by kernel_rfl) rfl ?_
              intro K hK
              (obtain ⟨g5, rfl⟩ := row_some hM List.mem_cons_self (by omega); refine e_app hF hM (ys := ((List.replicate cn [x0, x1, x2, x3, x4, x5, x6, x7]).flatten).map (Value.int .u8)) rfl rfl rfl (.s .z) (rep_len _ rfl cn) (fun i u hi => (hM.mem.own.own _ List.mem_cons_self).cells (g := g5) rfl i u hi) (one_map _) (by omega) (by omega) ?_; clear hM; intro g cap w hM; dsimp only [List.set] at hM; replace hF := hF.put (d := 78) rfl (.slice (some ⟨g, 0, none⟩) (ls.length + cn) cap); generalize a.put (some 78) _ = a at *)
              refine hK _ _ (fun _ => (hM.sm.sub (fun x hx => by repeat (first | exact hx | refine List.mem_cons_of_mem _ ?_)) (fun _ h => by repeat (first | exact h | refine List.mem_cons_of_mem _ ?_)))) ?_; clear hK
              (first | (refine t_pure (i := 13) hF rfl rfl rfl rfl (by kernel_rfl) (hM.sm.sub (fun x hx => by repeat (first | exact hx | refine List.mem_cons_of_mem _ ?_)) (fun _ h => by repeat (first | exact h | refine List.mem_cons_of_mem _ ?_))) (fun _ _ _ h => h) ?_ ?_; (first | exact trivial | omega | decide); clear hF a; intro a hF))
              (first | (refine t_pure (i := 14) hF rfl rfl rfl rfl (by kernel_rfl) (hM.sm.sub (fun x hx => by repeat (first | exact hx | refine List.mem_cons_of_mem _ ?_)) (fun _ h => by repeat (first | exact h | refine List.mem_cons_of_mem _ ?_))) (fun _ _ _ h => h) ?_ ?_; (first | exact trivial | omega | decide); clear hF a; intro a hF))
              refine t_one (i := 15) hF rfl (by kernel_rfl) rfl ?_
              intro K hK
              (apply x_store hF hM rfl rfl rfl; (repeat (first | exact Upd.z | apply Upd.s)); exact rfl; exact rfl; exact rfl; clear hF hM a; intro w a hM hF)
              refine hK _ _ (fun h => by cases h) ?_; clear hK
              refine t_done (by kernel_rfl) ?_
              (repeat' (first | (with_reducible refine q_blk_n ?_)))
              apply f_end Try.results28 hF hM
              · (repeat (first | exact RL.nil | (apply RL.tmp; exact rfl) | (apply RL.cell; exact rfl; (repeat (first | exact List.mem_cons_self | refine List.mem_cons_of_mem _ ?_)); exact rfl)))
              refine Both.mk ?_
              refine ⟨_, _, a3, c3, .slice (some ⟨g, 0, none⟩) (ls.length + cn) cap, hD, hc3, ?_⟩
              rw [List.length_append, List.length_replicate, List.flatten_append, List.map_append]
              exact hM.sub (.refl _) (.cons _ (.refl _)) (fun f hf => by rcases List.mem_cons.1 hf with rfl | hf; exact (by (repeat (first | exact List.mem_cons_self | refine List.mem_cons_of_mem _ ?_))); exact List.mem_cons_of_mem _ (List.mem_cons_of_mem _ (List.mem_cons_of_mem _ (List.mem_cons_of_mem _ hf))))
      · rw [if_pos (by omega)] at hD
        refine c_drawS (fun i => Nat.ble 15 i) (fun x hx => List.mem_cons_of_mem _ (hx)) hM ?_; clear hM; intro w hM
        (first | (refine t_pure (i := 0) hF rfl rfl rfl rfl (by kernel_rfl) (hM.sm.sub (fun x hx => by repeat (first | exact hx | refine List.mem_cons_of_mem _ ?_)) (fun _ h => by repeat (first | exact h | refine List.mem_cons_of_mem _ ?_))) (fun _ _ _ h => h) ?_ ?_; (first | exact trivial | omega | decide); clear hF a; intro a hF))
        (first | (refine t_pure (i := 1) hF rfl rfl rfl rfl (by kernel_rfl) (hM.sm.sub (fun x hx => by repeat (first | exact hx | refine List.mem_cons_of_mem _ ?_)) (fun _ h => by repeat (first | exact h | refine List.mem_cons_of_mem _ ?_))) (fun _ _ _ h => h) ?_ ?_; (first | exact trivial | omega | decide); clear hF a; intro a hF))
        (first | (refine t_pure (i := 2) hF rfl rfl rfl rfl (by kernel_rfl) (hM.sm.sub (fun x hx => by repeat (first | exact hx | refine List.mem_cons_of_mem _ ?_)) (fun _ h => by repeat (first | exact h | refine List.mem_cons_of_mem _ ?_))) (fun _ _ _ h => h) ?_ ?_; (first | exact trivial | omega | decide); clear hF a; intro a hF))
        (first | (refine t_pure (i := 3) hF rfl rfl rfl rfl (by kernel_rfl) (hM.sm.sub (fun x hx => by repeat (first | exact hx | refine List.mem_cons_of_mem _ ?_)) (fun _ h => by repeat (first | exact h | refine List.mem_cons_of_mem _ ?_))) (fun _ _ _ h => h) ?_ ?_; (first | exact trivial | omega | decide); clear hF a; intro a hF))
        (first | (refine t_pure (i := 5) hF rfl rfl rfl rfl (by kernel_rfl) (hM.sm.sub (fun x hx => by repeat (first | exact hx | refine List.mem_cons_of_mem _ ?_)) (fun _ h => by repeat (first | exact h | refine List.mem_cons_of_mem _ ?_))) (fun _ _ _ h => h) ?_ ?_; (first | exact trivial | omega | decide); clear hF a; intro a hF))
        (first | (refine t_pure (i := 6) hF rfl rfl rfl rfl (by kernel_rfl) (hM.sm.sub (fun x hx => by repeat (first | exact hx | refine List.mem_cons_of_mem _ ?_)) (fun _ h => by repeat (first | exact h | refine List.mem_cons_of_mem _ ?_))) (fun _ _ _ h => h) ?_ ?_; (first | exact trivial | omega | decide); clear hF a; intro a hF))
        (first | (refine t_pure (i := 7) hF rfl rfl rfl rfl (by kernel_rfl) (hM.sm.sub (fun x hx => by repeat (first | exact hx | refine List.mem_cons_of_mem _ ?_)) (fun _ h => by repeat (first | exact h | refine List.mem_cons_of_mem _ ?_))) (fun _ _ _ h => h) ?_ ?_; (first | exact trivial | omega | decide); clear hF a; intro a hF))
        (first | (refine t_pure (i := 10) hF rfl rfl rfl rfl (by kernel_rfl) (hM.sm.sub (fun x hx => by repeat (first | exact hx | refine List.mem_cons_of_mem _ ?_)) (fun _ h => by repeat (first | exact h | refine List.mem_cons_of_mem _ ?_))) (fun _ _ _ h => h) ?_ ?_; (first | exact trivial | omega | decide); clear hF a; intro a hF))
        refine t_two (i := 4) (j := 8) hF rfl rfl (by kernel_rfl) rfl rfl ?_ ?_
        ·
          intro K hK
          (first | (refine x_pure hF hM rfl rfl ?_ ?_; (first | exact trivial | omega | decide); clear hF a; intro a hF) | (apply x_load hF hM rfl; (repeat (first | exact List.mem_cons_self | refine List.mem_cons_of_mem _ ?_)); exact rfl; exact rfl; clear hF a; intro a hF))
          refine hK _ _ (fun _ => (hM.sm.sub (fun x hx => by repeat (first | exact hx | refine List.mem_cons_of_mem _ ?_)) (fun _ h => by repeat (first | exact h | refine List.mem_cons_of_mem _ ?_)))) ?_; clear hK
          refine t_one (i := 8) hF rfl (by kernel_rfl) rfl ?_
          intro K hK
          (refine x_callB (f := 39) hF rfl rfl rfl rfl (sec_err _ hyb hys a1 c1 hc1 hM (by omega)) (fun c w a hE hF => ?_) (fun _ _ _ h => h.elim); obtain ⟨rfl, bs1, Fs1, hM⟩ := hE; (repeat' (first | (with_reducible refine q_blk_p ?_))); refine f_panic hF ?_; exact Both.panic ⟨10, _, _, _, hD, rfl, hM⟩)
        ·
          intro K hK
          (refine x_callB (f := 39) hF rfl rfl rfl rfl (sec_err _ hyb hys a1 c1 hc1 hM (by omega)) (fun c w a hE hF => ?_) (fun _ _ _ h => h.elim); obtain ⟨rfl, bs1, Fs1, hM⟩ := hE; (repeat' (first | (with_reducible refine q_blk_p ?_))); refine f_panic hF ?_; exact Both.panic ⟨10, _, _, _, hD, rfl, hM⟩)
    · rw [if_neg (by omega), if_neg (by omega), if_neg (by omega)] at hD
      apply f_end Try.results28 hF hM
      · (repeat (first | exact RL.nil | (apply RL.tmp; exact rfl) | (apply RL.cell; exact rfl; (repeat (first | exact List.mem_cons_self | refine List.mem_cons_of_mem _ ?_)); exact rfl)))
      refine Both.mk ?_
      refine ⟨ys, _, a1, c1, .slice (some ⟨g, 0, none⟩) (ls.length + cn) cap, hD, hc1, ?_⟩
      have hz : zerosL [.int .u8 0, .int .u8 0, .int .u8 0, .int .u8 0, .int .u8 0, .int .u8 0, .int .u8 0, .int .u8 0] cn = ((List.replicate cn zr).flatten).map (Value.int .u8) := zerosL_ints (k := .u8) (m := 8) cn
      rw [List.length_append, List.length_replicate, List.flatten_append, List.map_append, ← hz]
      exact hM
  · refine f_start Try.func28 rfl Try.ntmps28 rfl rfl ?_; intro a hF
    (repeat' (first | (with_reducible refine w_seq ?_) | (with_reducible refine c_region ?_) | ((with_reducible apply s_callB (f := 38) hF); exact rfl; exact rfl; exact rfl; exact rfl; exact rfl; exact (rnum_err xs hxb hlen a0 c0 hc0 hM he); rotate_left; (intro _ _ _ h; exact h.elim); clear hF hM a; rintro c w a ⟨rfl, bs1, Fs1, hM⟩ hF) | (with_reducible refine q_then_p ?_) | ((with_reducible apply s_pure hF); exact rfl; exact rfl; exact rfl; (first | exact trivial | omega | decide); clear hF a; intro a hF)))
    refine f_panic hF ?_
    exact Both.panic ⟨_, _, _, _, by unfold grpD; rw [if_pos he], rfl, hM⟩
end
end Go.Proofs.Ythcnnedgfndklaa
