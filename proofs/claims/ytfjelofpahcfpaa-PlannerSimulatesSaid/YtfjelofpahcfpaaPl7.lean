/- The planner's end: the end of a transfer, by search and by division. -/
import Derived.Test.YtfjelofpahcfpaaPl6
import Derived.Test.YtfjelofpahcfpaaSearch
import Derived.Laws.EntriesVeiled
set_option linter.unusedSimpArgs false
set_option linter.unusedVariables false
namespace Go.Proofs.Ytfjelofpahcfpaa
open Go.RowKit Go.Shelf
namespace Car
open P56
variable {C : List Int} (hC : ∀ x ∈ C, 0 ≤ x ∧ x ≤ 4096)
include hC
theorem fin_zero (s : Nat) : finish C s 0 = some s := finish_of_isEnd hC ⟨Nat.le_refl _, by omega, fun x h1 h2 => by omega⟩
theorem fin_search {s m : Nat} {n : Int} (hm : m = max s C.length) (hn : 0 < n) (h : carr C s + n ≤ carr C m) :
    ∃ r : Nat, finish C s n = some (s + r) ∧ s < C.length ∧ IsFirst (fun i => decide (carr C s + n ≤ carr C (s + i))) (C.length - s) r := by
  have hs : s < C.length := by
    rcases Nat.lt_or_ge s C.length with g | g
    · exact g
    · rw [show m = s from by omega] at h; omega
  rw [show m = C.length from by omega] at h
  cases hf : finish C s n with
  | none => have := (finish_none hC hf).2 C.length (by omega); omega
  | some e =>
    have he := finish_some hC hf
    have hel : e ≤ C.length := by
      rcases Nat.lt_or_ge C.length e with g | g
      · have := he.first C.length (by omega) g; omega
      · exact g
    have := he.le
    refine ⟨e - s, by congr 1; omega, hs, by omega, fun t ht => ?_, fun t ht _ => ?_⟩
    · have := he.first (s + t) (by omega) (by omega)
      simp; omega
    · have h1 := he.enough
      have h2 := carr_mono hC (show e ≤ s + t by omega)
      simp; omega
theorem fin_never {s m : Nat} {n : Int} (hm : m = max s C.length) (hl : last C = 0) (h : ¬ carr C s + n ≤ carr C m) : finish C s n = Option.none := by
  refine finish_of_never hC fun x hx => ?_
  by_cases hxm : x ≤ m
  · have := carr_mono hC hxm; omega
  · have := carr_far C m (x - m) (by omega)
    rw [show m + (x - m) = x from by omega, hl] at this
    omega
theorem fin_far {s m : Nat} {n : Int} (hm : m = max s C.length) (hl : last C ≠ 0) (h : ¬ carr C s + n ≤ carr C m) :
    ∃ d : Nat, finish C s n = some (m + d) ∧ (carr C s + n - carr C m + last C - 1) / last C = (d : Int) ∧ (d : Int) ≤ carr C s + n - carr C m := by
  have hl' := last_nonneg hC
  obtain ⟨c1, c2, c3⟩ := ceil_spec (a := carr C s + n - carr C m) (b := last C) (by omega) (by omega)
  generalize hq : (carr C s + n - carr C m + last C - 1) / last C = q at c1 c2 c3
  obtain ⟨d, rfl⟩ : ∃ d : Nat, q = d := ⟨q.toNat, by omega⟩
  have hfar := carr_far C m d (by omega)
  have hd1 : (d : Int) - 1 ≤ ((d : Int) - 1) * last C := by
    have := Int.mul_le_mul_of_nonneg_left (show (1 : Int) ≤ last C by omega) (show (0 : Int) ≤ (d : Int) - 1 by omega)
    omega
  refine ⟨d, finish_of_isEnd hC ⟨by omega, by omega, fun x hx hx' => ?_⟩, rfl, by omega⟩
  by_cases hxm : x ≤ m
  · have := carr_mono hC hxm; omega
  · have hfar2 := carr_far C m (x - m) (by omega)
    rw [show m + (x - m) = x from by omega] at hfar2
    have hle : ((x - m : Nat) : Int) ≤ (d : Int) - 1 := by omega
    have := Int.mul_le_mul_of_nonneg_right hle (by omega : 0 ≤ last C)
    omega
end Car
set_option maxHeartbeats 1000000 in
theorem endc_any (C : List Int) (v : Value) (s : Nat) (g : Int) (b8 b4 b9 : Nat) (w : World) (hv : IsCar w v C) (hl : C.length ≤ 4096) (hC : ∀ x ∈ C, 0 ≤ x ∧ x ≤ 4096) (hs : s ≤ C.length)
    (h8 : Box w b8 #[.func (.func 47) #[v] #[]] 79) (h4 : Box w b4 #[.int .i64 s] 3) (h9 : Box w b9 #[.int .i64 g] 3) :
    PredAt Try.prog 48 #[.pointer (some ⟨b8, 0, none⟩), .pointer (some ⟨b4, 0, none⟩), .pointer (some ⟨b9, 0, none⟩)] (C.length - s) (fun i => decide (g ≤ P56.carr C (s + i))) w := by
  intro i w' hi hsw
  dsimp only
  have hcall : ∀ w2, Since w' w2 → Calls Try.prog 47 #[v, .int .i64 ((s : Int) + (i : Int))] w2 (fun e w3 => e = .returned (.int .i64 (P56.carr C (s + i))) ∧ Since w2 w3) := by
    intro w2 h2
    have := before_any C v (s + i) w2 ((hv.since hsw).since h2) hl hC (by omega)
    rw [Int.natCast_add] at this
    exact this
  obtain ⟨hc8, hf8, hz8⟩ := (h8.since hsw).rules
  obtain ⟨hc4, hf4, hz4⟩ := (h4.since hsw).rules
  obtain ⟨hc9, hf9, hz9⟩ := (h9.since hsw).rules
  generalize P56.carr C (s + i) = r at hcall ⊢
  have HCALL := Lib.hid hcall
  clear h8 h4 h9 hv hC hsw hcall
  go_enter Try.func48, Try.ntmps48
  have hwk : IntKind.i64.wrap ((s : Int) + (i : Int)) = (s : Int) + (i : Int) := IntWalk.i64_in _ (by omega)
  go_upto_region 1 with fail
  go_region_held3 (fun w' => w'.cell? ⟨b8, 0, none⟩ = some (.func (.func 47) #[v] #[]) ∧ w'.cell? ⟨b4, 0, none⟩ = some (.int .i64 s) ∧ w'.cell? ⟨b9, 0, none⟩ = some (.int .i64 g))
    (simp [*])
    (first | (go_at_call 47; refine (HCALL.out _ ?_).mono ?_; ((repeat (first | with_reducible exact Since.refl _ | with_reducible assumption | with_reducible refine Since.alloc ?_ _ | with_reducible refine Since.drew ?_ | with_reducible refine Since.drewN ?_ _ | (with_reducible refine Since.setCell ?_ ?_ _; rotate_left; (first | (dsimp only; omega) | (simp; done) | (simp; omega))) | with_reducible refine Since.trans ?_ (by with_reducible assumption)))); rintro e x1 ⟨rfl, hs2⟩; obtain ⟨kc_hs2_0, kf_hs2_0, kz_hs2_0⟩ := hs2.at (β := b8) (by first | assumption | omega | (simp only [World.size_alloc, World.size_setCell, World.size_drew, World.heap_drewN]; omega) | (simp; omega)); obtain ⟨kc_hs2_1, kf_hs2_1, kz_hs2_1⟩ := hs2.at (β := b4) (by first | assumption | omega | (simp only [World.size_alloc, World.size_setCell, World.size_drew, World.heap_drewN]; omega) | (simp; omega)); obtain ⟨kc_hs2_2, kf_hs2_2, kz_hs2_2⟩ := hs2.at (β := b9) (by first | assumption | omega | (simp only [World.size_alloc, World.size_setCell, World.size_drew, World.heap_drewN]; omega) | (simp; omega))))
  all_goals go_wp2
  all_goals go_ret
  all_goals exact ⟨rfl, by (repeat (first | with_reducible exact Since.refl _ | with_reducible assumption | with_reducible refine Since.alloc ?_ _ | with_reducible refine Since.drew ?_ | with_reducible refine Since.drewN ?_ _ | (with_reducible refine Since.setCell ?_ ?_ _; rotate_left; (first | (dsimp only; omega) | (simp; done) | (simp; omega))) | with_reducible refine Since.trans ?_ (by with_reducible assumption)))⟩
theorem fin_ret {o : Option Nat} {x : Int} {b : Bool} {a : Nat} (h : o = some a) (hx : x = (a : Int)) (hb : b = true) : Ending.returned (.tuple #[.int .i64 x, .bool b]) = Ending.returned (.tuple #[.int .i64 (o.getD 0 : Nat), .bool o.isSome]) := by rw [h, hx, hb]; rfl
set_option maxRecDepth 100000 in
set_option maxHeartbeats 2000000 in
theorem end_any (C : List Int) (v : Value) (s : Nat) (n : Int) (w : World) (hv : IsCar w v C) (hl : C.length ≤ 4096) (hC : ∀ x ∈ C, 0 ≤ x ∧ x ≤ 4096) (hs : s ≤ 900000000000) (hn0 : 0 ≤ n) (hn : n ≤ 16777216) :
    Calls Try.prog 33 #[v, .int .i64 s, .int .i64 n] w fun e w' => e = .returned (.tuple #[.int .i64 ((P56.finish C s n).getD 0 : Nat), .bool (P56.finish C s n).isSome]) ∧ Since w w' := by
  have call : ∀ (t : Nat) w2, t ≤ 1000000000000 → Since w w2 → Calls Try.prog 47 #[v, .int .i64 t] w2 (fun e w3 => e = .returned (.int .i64 (P56.carr C t)) ∧ Since w2 w3) :=
    fun t w2 ht h2 => before_any C v t w2 (hv.since h2) hl hC ht
  have FZ := Lib.hid (fun (h : n = 0) => (show P56.finish C s n = some s from by subst h; exact Car.fin_zero hC s))
  obtain ⟨m, hm⟩ : ∃ m, m = max s C.length := ⟨_, rfl⟩
  have FS := Lib.hid (Car.fin_search (n := n) hC hm)
  have FN := Lib.hid (Car.fin_never (n := n) hC hm)
  have FF := Lib.hid (Car.fin_far (n := n) hC hm)
  have ENDC := Lib.hid (fun (g : Int) (b8 b4 b9 : Nat) w2 (h2 : Since w w2) (hs : s ≤ C.length) => endc_any C v s g b8 b4 b9 w2 (hv.since h2) hl hC hs)
  have hlast := P56.last_nonneg hC
  have hbs := P56.carr_bd hC s
  have hbm := P56.carr_bd hC m
  have hmx : (if (s : Int) < (C.length : Int) then (C.length : Int) else (s : Int)) = (m : Int) := by split <;> omega
  have hmn : (if s < C.length then (C.length : Int) else (s : Int)) = (m : Int) := by split <;> omega
  obtain ⟨b, a, c, rfl, hb, hr⟩ := hv
  obtain ⟨rc, rf, rz⟩ := hb.rules
  generalize P56.finish C s n = F at *
  have callS := call s
  have callM := call m
  have HBB := Lib.hid hb
  generalize hq1 : P56.carr C s = S at *
  generalize hq2 : P56.carr C m = M at *
  have CALLS := Lib.hid callS
  have CALLM := Lib.hid callM
  clear call callS callM
  have HQ1 := Lib.hid hq1
  have HQ2 := Lib.hid hq2
  clear hr hb hC hq1 hq2
  by_cases hz0 : n = 0
  · have hz1 : (n == 0) = true := by simp [hz0]
    have HZ := Lib.hid hz0
    clear hz0
    go_enter Try.func33, Try.ntmps33
    go_wp2_with (first
      | (go_at_call 47; refine (CALLS.out _ (by omega) ?_).mono ?_; ((repeat (first | with_reducible exact Since.refl _ | with_reducible assumption | with_reducible refine Since.alloc ?_ _ | with_reducible refine Since.drew ?_ | with_reducible refine Since.drewN ?_ _ | (with_reducible refine Since.setCell ?_ ?_ _; rotate_left; (first | (dsimp only; omega) | (simp; done) | (simp; omega))) | with_reducible refine Since.trans ?_ (by with_reducible assumption)))); rintro e w1 ⟨rfl, hs1⟩; obtain ⟨kc_hs1_0, kf_hs1_0, kz_hs1_0⟩ := hs1.at (β := b) (by first | assumption | omega | (simp only [World.size_alloc, World.size_setCell, World.size_drew, World.heap_drewN]; omega) | (simp; omega)); obtain ⟨kc_hs1_1, kf_hs1_1, kz_hs1_1⟩ := hs1.at (β := w.heap.size) (by first | assumption | omega | (simp only [World.size_alloc, World.size_setCell, World.size_drew, World.heap_drewN]; omega) | (simp; omega)); obtain ⟨kc_hs1_2, kf_hs1_2, kz_hs1_2⟩ := hs1.at (β := w.heap.size + 1) (by first | assumption | omega | (simp only [World.size_alloc, World.size_setCell, World.size_drew, World.heap_drewN]; omega) | (simp; omega))))
    go_ret2
    exact ⟨fin_ret (FZ.out HZ.out) rfl rfl, by (repeat (first | with_reducible exact Since.refl _ | with_reducible assumption | with_reducible refine Since.alloc ?_ _ | with_reducible refine Since.drew ?_ | with_reducible refine Since.drewN ?_ _ | (with_reducible refine Since.setCell ?_ ?_ _; rotate_left; (first | (dsimp only; omega) | (simp; done) | (simp; omega))) | with_reducible refine Since.trans ?_ (by with_reducible assumption)))⟩
  · have hz1 : (n == 0) = false := by simp [hz0]
    have hw1 : IntKind.i64.wrap (S + n) = S + n := IntWalk.i64_in _ (by omega)
    clear hmx hmn
    rcases Nat.lt_or_ge s C.length with hsl | hsl
    · have hme : m = C.length := by omega
      clear hm
      subst hme
      have hslz : (s : Int) < (C.length : Int) := by omega
      go_enter Try.func33, Try.ntmps33
      go_upto_region 6 with (first
        | (go_at_call 47; refine (CALLS.out _ (by omega) ?_).mono ?_; ((repeat (first | with_reducible exact Since.refl _ | with_reducible assumption | with_reducible refine Since.alloc ?_ _ | with_reducible refine Since.drew ?_ | with_reducible refine Since.drewN ?_ _ | (with_reducible refine Since.setCell ?_ ?_ _; rotate_left; (first | (dsimp only; omega) | (simp; done) | (simp; omega))) | with_reducible refine Since.trans ?_ (by with_reducible assumption)))); rintro e w1 ⟨rfl, hs1⟩; obtain ⟨kc_hs1_0, kf_hs1_0, kz_hs1_0⟩ := hs1.at (β := b) (by first | assumption | omega | (simp only [World.size_alloc, World.size_setCell, World.size_drew, World.heap_drewN]; omega) | (simp; omega)); obtain ⟨kc_hs1_1, kf_hs1_1, kz_hs1_1⟩ := hs1.at (β := w.heap.size) (by first | assumption | omega | (simp only [World.size_alloc, World.size_setCell, World.size_drew, World.heap_drewN]; omega) | (simp; omega)); obtain ⟨kc_hs1_2, kf_hs1_2, kz_hs1_2⟩ := hs1.at (β := w.heap.size + 1) (by first | assumption | omega | (simp only [World.size_alloc, World.size_setCell, World.size_drew, World.heap_drewN]; omega) | (simp; omega))))
      go_region_held3 (fun w' => w'.cell? ⟨w.heap.size + 1, 0, none⟩ = some (.func (.func 47) #[.pointer (some ⟨b, 0, none⟩)] #[]) ∧ w'.cell? ⟨w.heap.size, 0, none⟩ = some (.int .i64 s) ∧ w'.cell? ⟨w1.heap.size, 0, none⟩ = some (.int .i64 (S + n)))
        (simp [World.cell?_alloc_past, *])
        (first | (go_at_call 47; refine (CALLM.out _ (by omega) ?_).mono ?_; ((repeat (first | with_reducible exact Since.refl _ | with_reducible assumption | with_reducible refine Since.alloc ?_ _ | with_reducible refine Since.drew ?_ | with_reducible refine Since.drewN ?_ _ | (with_reducible refine Since.setCell ?_ ?_ _; rotate_left; (first | (dsimp only; omega) | (simp; done) | (simp; omega))) | with_reducible refine Since.trans ?_ (by with_reducible assumption)))); rintro e w2 ⟨rfl, hs2⟩; obtain ⟨kc_hs2_0, kf_hs2_0, kz_hs2_0⟩ := hs2.at (β := b) (by first | assumption | omega | (simp only [World.size_alloc, World.size_setCell, World.size_drew, World.heap_drewN]; omega) | (simp; omega)); obtain ⟨kc_hs2_1, kf_hs2_1, kz_hs2_1⟩ := hs2.at (β := w.heap.size) (by first | assumption | omega | (simp only [World.size_alloc, World.size_setCell, World.size_drew, World.heap_drewN]; omega) | (simp; omega)); obtain ⟨kc_hs2_2, kf_hs2_2, kz_hs2_2⟩ := hs2.at (β := w.heap.size + 1) (by first | assumption | omega | (simp only [World.size_alloc, World.size_setCell, World.size_drew, World.heap_drewN]; omega) | (simp; omega)); obtain ⟨kc_hs2_3, kf_hs2_3, kz_hs2_3⟩ := hs2.at (β := w1.heap.size) (by first | assumption | omega | (simp only [World.size_alloc, World.size_setCell, World.size_drew, World.heap_drewN]; omega) | (simp; omega))))
      have hbn : b ≠ w.heap.size + 1 := by omega
      have hbn0 : b ≠ w.heap.size := by omega
      by_cases hSM : S + n ≤ M
      · obtain ⟨r, hF, -, hfirst⟩ := FS.out (by omega) hSM
        have HF := Lib.hid hF
        have hrl := hfirst.le
        have hb4 := Box.at (w := w) rfl #[.int .i64 s] 3
        have hb8 := Box.at (w := w.alloc (.cells #[.int .i64 s] 3)) (b := w.heap.size + 1) (by simp) #[Value.func (.func 47) #[.pointer (some ⟨b, 0, none⟩)] #[]] 79
        have hb9 := Box.at (w := w1) rfl #[.int .i64 (S + n)] 3
        have hsz : ((C.length - s : Nat) : Int) = (C.length : Int) - (s : Int) := by omega
        have hwz : IntKind.i64.wrap ((C.length : Int) - (s : Int)) = (C.length : Int) - (s : Int) := IntWalk.i64_in _ (by omega)
        have hwr : IntKind.i64.wrap ((s : Int) + (r : Int)) = (s : Int) + (r : Int) := IntWalk.i64_in _ (by omega)
        have HB4 := Lib.hid hb4
        have HB8 := Lib.hid hb8
        have HB9 := Lib.hid hb9
        have SRCH : Hid (∀ w2, Since w w2 → Box w2 w.heap.size _ _ → Box w2 (w.heap.size + 1) _ _ → Box w2 w1.heap.size _ _ → Calls Try.prog 39 #[.int .i64 ((C.length : Int) - (s : Int)), _] w2 _) := fun w2 h2 h4 h8 h9 => hsz ▸ search_any _ _ _ _ r w2 (by omega) (ENDC.out (S + n) _ _ _ w2 h2 (by omega) h8 h4 h9) hfirst (enters_of Try.func48 (by kernel_rfl) rfl)
        clear hF hfirst hb4 hb8 hb9 hsz
        go_upto_region 7 with fail
        go_region_held3 (fun w' => w'.cell? ⟨w.heap.size, 0, none⟩ = some (.int .i64 s))
          (simp [World.cell?_alloc_past, *])
          (first | (go_at_call 39; refine (SRCH.out _ (by (repeat (first | with_reducible exact Since.refl _ | with_reducible assumption | with_reducible refine Since.alloc ?_ _ | with_reducible refine Since.drew ?_ | with_reducible refine Since.drewN ?_ _ | (with_reducible refine Since.setCell ?_ ?_ _; rotate_left; (first | (dsimp only; omega) | (simp; done) | (simp; omega))) | with_reducible refine Since.trans ?_ (by with_reducible assumption)))) (HB4.out.since (by (repeat (first | with_reducible exact Since.refl _ | with_reducible assumption | with_reducible refine Since.alloc ?_ _ | with_reducible refine Since.drew ?_ | with_reducible refine Since.drewN ?_ _ | (with_reducible refine Since.setCell ?_ ?_ _; rotate_left; (first | (dsimp only; omega) | (simp; done) | (simp; omega))) | with_reducible refine Since.trans ?_ (by with_reducible assumption))))) (HB8.out.since (by (repeat (first | with_reducible exact Since.refl _ | with_reducible assumption | with_reducible refine Since.alloc ?_ _ | with_reducible refine Since.drew ?_ | with_reducible refine Since.drewN ?_ _ | (with_reducible refine Since.setCell ?_ ?_ _; rotate_left; (first | (dsimp only; omega) | (simp; done) | (simp; omega))) | with_reducible refine Since.trans ?_ (by with_reducible assumption))))) (HB9.out.since (by (repeat (first | with_reducible exact Since.refl _ | with_reducible assumption | with_reducible refine Since.alloc ?_ _ | with_reducible refine Since.drew ?_ | with_reducible refine Since.drewN ?_ _ | (with_reducible refine Since.setCell ?_ ?_ _; rotate_left; (first | (dsimp only; omega) | (simp; done) | (simp; omega))) | with_reducible refine Since.trans ?_ (by with_reducible assumption)))))).mono ?_; rintro e w3 ⟨rfl, hs3⟩; obtain ⟨kc_hs3_0, kf_hs3_0, kz_hs3_0⟩ := hs3.at (β := b) (by first | assumption | omega | (simp only [World.size_alloc, World.size_setCell, World.size_drew, World.heap_drewN]; omega) | (simp; omega)); obtain ⟨kc_hs3_1, kf_hs3_1, kz_hs3_1⟩ := hs3.at (β := w.heap.size) (by first | assumption | omega | (simp only [World.size_alloc, World.size_setCell, World.size_drew, World.heap_drewN]; omega) | (simp; omega)); obtain ⟨kc_hs3_2, kf_hs3_2, kz_hs3_2⟩ := hs3.at (β := w.heap.size + 1) (by first | assumption | omega | (simp only [World.size_alloc, World.size_setCell, World.size_drew, World.heap_drewN]; omega) | (simp; omega)); obtain ⟨kc_hs3_3, kf_hs3_3, kz_hs3_3⟩ := hs3.at (β := w1.heap.size) (by first | assumption | omega | (simp only [World.size_alloc, World.size_setCell, World.size_drew, World.heap_drewN]; omega) | (simp; omega))))
        go_wp2
        go_ret2
        exact ⟨fin_ret HF.out (by simp) rfl, by (repeat (first | with_reducible exact Since.refl _ | with_reducible assumption | with_reducible refine Since.alloc ?_ _ | with_reducible refine Since.drew ?_ | with_reducible refine Since.drewN ?_ _ | (with_reducible refine Since.setCell ?_ ?_ _; rotate_left; (first | (dsimp only; omega) | (simp; done) | (simp; omega))) | with_reducible refine Since.trans ?_ (by with_reducible assumption)))⟩
      ·
        by_cases hl0 : P56.last C = 0
        · have HF : Hid (F = none) := FN.out hl0 (by omega)
          go_wp2
          go_ret2
          exact ⟨by rw [HF.out]; exact ret_ib rfl rfl, by (repeat (first | with_reducible exact Since.refl _ | with_reducible assumption | with_reducible refine Since.alloc ?_ _ | with_reducible refine Since.drew ?_ | with_reducible refine Since.drewN ?_ _ | (with_reducible refine Since.setCell ?_ ?_ _; rotate_left; (first | (dsimp only; omega) | (simp; done) | (simp; omega))) | with_reducible refine Since.trans ?_ (by with_reducible assumption)))⟩
        · obtain ⟨d, hF, hd, hdb⟩ := FF.out hl0 (by omega)
          have HF := Lib.hid hF
          have hw2 : IntKind.i64.wrap (S + n - M) = S + n - M := IntWalk.i64_in _ (by omega)
          have hw3 : IntKind.i64.wrap (S + n - M + P56.last C) = S + n - M + P56.last C := IntWalk.i64_in _ (by omega)
          have hw4 : IntKind.i64.wrap (S + n - M + P56.last C - 1) = S + n - M + P56.last C - 1 := IntWalk.i64_in _ (by omega)
          have hw5 : IntKind.i64.wrap ((S + n - M + P56.last C - 1).tdiv (P56.last C)) = d := (IntWalk.i64_quo _ _ (by omega)).trans hd
          have hw6 : IntKind.i64.wrap ((C.length : Int) + (d : Int)) = (C.length : Int) + (d : Int) := IntWalk.i64_in _ (by omega)
          have HD := Lib.hid hdb
          clear hF hd hdb
          have hcb := (HBB.out.since (w' := w2) (by (repeat (first | with_reducible exact Since.refl _ | with_reducible assumption | with_reducible refine Since.alloc ?_ _ | with_reducible refine Since.drew ?_ | with_reducible refine Since.drewN ?_ _ | (with_reducible refine Since.setCell ?_ ?_ _; rotate_left; (first | (dsimp only; omega) | (simp; done) | (simp; omega))) | with_reducible refine Since.trans ?_ (by with_reducible assumption))))).rules.1 1
          clear kc_hs2_0 kc_hs1_0
          go_upto_region 11 with fail
          go_region_held3 (fun w' => w'.cell? ⟨w.heap.size + 1, 0, none⟩ = some (.func (.func 47) #[.pointer (some ⟨b, 0, none⟩)] #[]) ∧ w'.cell? ⟨w1.heap.size, 0, none⟩ = some (.int .i64 (S + n)) ∧ w'.cell? ⟨b, 1, none⟩ = some (.int .i64 (P56.last C)))
            (simp [World.cell?_alloc_past, *])
            (first | (go_at_call 47; refine (CALLM.out _ (by omega) ?_).mono ?_; ((repeat (first | with_reducible exact Since.refl _ | with_reducible assumption | with_reducible refine Since.alloc ?_ _ | with_reducible refine Since.drew ?_ | with_reducible refine Since.drewN ?_ _ | (with_reducible refine Since.setCell ?_ ?_ _; rotate_left; (first | (dsimp only; omega) | (simp; done) | (simp; omega))) | with_reducible refine Since.trans ?_ (by with_reducible assumption)))); rintro e w3 ⟨rfl, hs3⟩; obtain ⟨kc_hs3_0, kf_hs3_0, kz_hs3_0⟩ := hs3.at (β := b) (by first | assumption | omega | (simp only [World.size_alloc, World.size_setCell, World.size_drew, World.heap_drewN]; omega) | (simp; omega)); obtain ⟨kc_hs3_1, kf_hs3_1, kz_hs3_1⟩ := hs3.at (β := w.heap.size) (by first | assumption | omega | (simp only [World.size_alloc, World.size_setCell, World.size_drew, World.heap_drewN]; omega) | (simp; omega)); obtain ⟨kc_hs3_2, kf_hs3_2, kz_hs3_2⟩ := hs3.at (β := w.heap.size + 1) (by first | assumption | omega | (simp only [World.size_alloc, World.size_setCell, World.size_drew, World.heap_drewN]; omega) | (simp; omega)); obtain ⟨kc_hs3_3, kf_hs3_3, kz_hs3_3⟩ := hs3.at (β := w1.heap.size) (by first | assumption | omega | (simp only [World.size_alloc, World.size_setCell, World.size_drew, World.heap_drewN]; omega) | (simp; omega))))
          go_wp2
          go_ret2
          exact ⟨fin_ret HF.out (by simp) rfl, by (repeat (first | with_reducible exact Since.refl _ | with_reducible assumption | with_reducible refine Since.alloc ?_ _ | with_reducible refine Since.drew ?_ | with_reducible refine Since.drewN ?_ _ | (with_reducible refine Since.setCell ?_ ?_ _; rotate_left; (first | (dsimp only; omega) | (simp; done) | (simp; omega))) | with_reducible refine Since.trans ?_ (by with_reducible assumption)))⟩
    · have hme : m = s := by omega
      clear hm
      subst hme
      have hslz : ¬ (m : Int) < (C.length : Int) := by omega
      have hsln : ¬ m < C.length := by omega
      have hbn : b ≠ w.heap.size + 1 := by omega
      have hbn0 : b ≠ w.heap.size := by omega
      have hSM : ¬ S + n ≤ M := by have h1 := HQ1.out; have h2 := HQ2.out; omega
      go_enter Try.func33, Try.ntmps33
      go_upto_region 6 with (first
        | (go_at_call 47; refine (CALLS.out _ (by omega) ?_).mono ?_; ((repeat (first | with_reducible exact Since.refl _ | with_reducible assumption | with_reducible refine Since.alloc ?_ _ | with_reducible refine Since.drew ?_ | with_reducible refine Since.drewN ?_ _ | (with_reducible refine Since.setCell ?_ ?_ _; rotate_left; (first | (dsimp only; omega) | (simp; done) | (simp; omega))) | with_reducible refine Since.trans ?_ (by with_reducible assumption)))); rintro e w1 ⟨rfl, hs1⟩; obtain ⟨kc_hs1_0, kf_hs1_0, kz_hs1_0⟩ := hs1.at (β := b) (by first | assumption | omega | (simp only [World.size_alloc, World.size_setCell, World.size_drew, World.heap_drewN]; omega) | (simp; omega)); obtain ⟨kc_hs1_1, kf_hs1_1, kz_hs1_1⟩ := hs1.at (β := w.heap.size) (by first | assumption | omega | (simp only [World.size_alloc, World.size_setCell, World.size_drew, World.heap_drewN]; omega) | (simp; omega)); obtain ⟨kc_hs1_2, kf_hs1_2, kz_hs1_2⟩ := hs1.at (β := w.heap.size + 1) (by first | assumption | omega | (simp only [World.size_alloc, World.size_setCell, World.size_drew, World.heap_drewN]; omega) | (simp; omega))))
      go_region_held3 (fun w' => w'.cell? ⟨w.heap.size + 1, 0, none⟩ = some (.func (.func 47) #[.pointer (some ⟨b, 0, none⟩)] #[]) ∧ w'.cell? ⟨w.heap.size, 0, none⟩ = some (.int .i64 m) ∧ w'.cell? ⟨w1.heap.size, 0, none⟩ = some (.int .i64 (S + n)))
        (simp [World.cell?_alloc_past, *])
        (first | (go_at_call 47; refine (CALLM.out _ (by omega) ?_).mono ?_; ((repeat (first | with_reducible exact Since.refl _ | with_reducible assumption | with_reducible refine Since.alloc ?_ _ | with_reducible refine Since.drew ?_ | with_reducible refine Since.drewN ?_ _ | (with_reducible refine Since.setCell ?_ ?_ _; rotate_left; (first | (dsimp only; omega) | (simp; done) | (simp; omega))) | with_reducible refine Since.trans ?_ (by with_reducible assumption)))); rintro e w2 ⟨rfl, hs2⟩; obtain ⟨kc_hs2_0, kf_hs2_0, kz_hs2_0⟩ := hs2.at (β := b) (by first | assumption | omega | (simp only [World.size_alloc, World.size_setCell, World.size_drew, World.heap_drewN]; omega) | (simp; omega)); obtain ⟨kc_hs2_1, kf_hs2_1, kz_hs2_1⟩ := hs2.at (β := w.heap.size) (by first | assumption | omega | (simp only [World.size_alloc, World.size_setCell, World.size_drew, World.heap_drewN]; omega) | (simp; omega)); obtain ⟨kc_hs2_2, kf_hs2_2, kz_hs2_2⟩ := hs2.at (β := w.heap.size + 1) (by first | assumption | omega | (simp only [World.size_alloc, World.size_setCell, World.size_drew, World.heap_drewN]; omega) | (simp; omega)); obtain ⟨kc_hs2_3, kf_hs2_3, kz_hs2_3⟩ := hs2.at (β := w1.heap.size) (by first | assumption | omega | (simp only [World.size_alloc, World.size_setCell, World.size_drew, World.heap_drewN]; omega) | (simp; omega))))
      by_cases hl0 : P56.last C = 0
      · have HF : Hid (F = none) := FN.out hl0 (by omega)
        go_wp2
        go_ret2
        exact ⟨by rw [HF.out]; exact ret_ib rfl rfl, by (repeat (first | with_reducible exact Since.refl _ | with_reducible assumption | with_reducible refine Since.alloc ?_ _ | with_reducible refine Since.drew ?_ | with_reducible refine Since.drewN ?_ _ | (with_reducible refine Since.setCell ?_ ?_ _; rotate_left; (first | (dsimp only; omega) | (simp; done) | (simp; omega))) | with_reducible refine Since.trans ?_ (by with_reducible assumption)))⟩
      · obtain ⟨d, hF, hd, hdb⟩ := FF.out hl0 (by omega)
        have HF := Lib.hid hF
        have hw2 : IntKind.i64.wrap (S + n - M) = S + n - M := IntWalk.i64_in _ (by omega)
        have hw3 : IntKind.i64.wrap (S + n - M + P56.last C) = S + n - M + P56.last C := IntWalk.i64_in _ (by omega)
        have hw4 : IntKind.i64.wrap (S + n - M + P56.last C - 1) = S + n - M + P56.last C - 1 := IntWalk.i64_in _ (by omega)
        have hw5 : IntKind.i64.wrap ((S + n - M + P56.last C - 1).tdiv (P56.last C)) = d := (IntWalk.i64_quo _ _ (by omega)).trans hd
        have hw6 : IntKind.i64.wrap ((m : Int) + (d : Int)) = (m : Int) + (d : Int) := IntWalk.i64_in _ (by omega)
        have HD := Lib.hid hdb
        clear hF hd hdb
        have hcb := (HBB.out.since (w' := w2) (by (repeat (first | with_reducible exact Since.refl _ | with_reducible assumption | with_reducible refine Since.alloc ?_ _ | with_reducible refine Since.drew ?_ | with_reducible refine Since.drewN ?_ _ | (with_reducible refine Since.setCell ?_ ?_ _; rotate_left; (first | (dsimp only; omega) | (simp; done) | (simp; omega))) | with_reducible refine Since.trans ?_ (by with_reducible assumption))))).rules.1 1
        clear kc_hs2_0 kc_hs1_0
        go_upto_region 11 with fail
        go_region_held3 (fun w' => w'.cell? ⟨w.heap.size + 1, 0, none⟩ = some (.func (.func 47) #[.pointer (some ⟨b, 0, none⟩)] #[]) ∧ w'.cell? ⟨w1.heap.size, 0, none⟩ = some (.int .i64 (S + n)) ∧ w'.cell? ⟨b, 1, none⟩ = some (.int .i64 (P56.last C)))
          (simp [World.cell?_alloc_past, *])
          (first | (go_at_call 47; refine (CALLM.out _ (by omega) ?_).mono ?_; ((repeat (first | with_reducible exact Since.refl _ | with_reducible assumption | with_reducible refine Since.alloc ?_ _ | with_reducible refine Since.drew ?_ | with_reducible refine Since.drewN ?_ _ | (with_reducible refine Since.setCell ?_ ?_ _; rotate_left; (first | (dsimp only; omega) | (simp; done) | (simp; omega))) | with_reducible refine Since.trans ?_ (by with_reducible assumption)))); rintro e w3 ⟨rfl, hs3⟩; obtain ⟨kc_hs3_0, kf_hs3_0, kz_hs3_0⟩ := hs3.at (β := b) (by first | assumption | omega | (simp only [World.size_alloc, World.size_setCell, World.size_drew, World.heap_drewN]; omega) | (simp; omega)); obtain ⟨kc_hs3_1, kf_hs3_1, kz_hs3_1⟩ := hs3.at (β := w.heap.size) (by first | assumption | omega | (simp only [World.size_alloc, World.size_setCell, World.size_drew, World.heap_drewN]; omega) | (simp; omega)); obtain ⟨kc_hs3_2, kf_hs3_2, kz_hs3_2⟩ := hs3.at (β := w.heap.size + 1) (by first | assumption | omega | (simp only [World.size_alloc, World.size_setCell, World.size_drew, World.heap_drewN]; omega) | (simp; omega)); obtain ⟨kc_hs3_3, kf_hs3_3, kz_hs3_3⟩ := hs3.at (β := w1.heap.size) (by first | assumption | omega | (simp only [World.size_alloc, World.size_setCell, World.size_drew, World.heap_drewN]; omega) | (simp; omega))))
        go_wp2
        go_ret2
        exact ⟨fin_ret HF.out (by simp) rfl, by (repeat (first | with_reducible exact Since.refl _ | with_reducible assumption | with_reducible refine Since.alloc ?_ _ | with_reducible refine Since.drew ?_ | with_reducible refine Since.drewN ?_ _ | (with_reducible refine Since.setCell ?_ ?_ _; rotate_left; (first | (dsimp only; omega) | (simp; done) | (simp; omega))) | with_reducible refine Since.trans ?_ (by with_reducible assumption)))⟩
end Go.Proofs.Ytfjelofpahcfpaa
