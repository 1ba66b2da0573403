/- The planner's carrier: newCarrier and before. -/
import Derived.Test.YtfjelofpahcfpaaPl5
set_option linter.unusedSimpArgs false
set_option linter.unusedVariables false
namespace Go.Proofs.Ytfjelofpahcfpaa
open Go.RowKit Go.Shelf
attribute [local go_sem ↓] Go.wp_at_zero Go.wp_at_succ
namespace Car
/-- The sums of the first capacities. -/
def sums (C : List Int) (k : Nat) : List Int := (List.range (k + 1)).map fun j => (C.take j).sum
theorem sums_succ (C : List Int) (k : Nat) : sums C (k + 1) = sums C k ++ [(C.take (k + 1)).sum] := by simp [sums, List.range_succ]
theorem sums_length (C : List Int) (k : Nat) : (sums C k).length = k + 1 := by simp [sums]
theorem sums_get (C : List Int) {k j : Nat} (h : j ≤ k) : (sums C k)[j]? = some (C.take j).sum := by
  rw [sums, List.getElem?_map, List.getElem?_range (by omega)]; rfl
theorem last_step {C : List Int} {k : Nat} {x : Int} (h : C[k]? = some x) : (C.take (k + 1)).getLastD 0 = x := by
  rw [List.take_add_one, h]; simp
end Car
/-- The value points to a carrier of the link C. -/
def IsCar (w : World) (v : Value) (C : List Int) : Prop :=
  ∃ b a c, v = .pointer (some ⟨b, 0, none⟩) ∧ Box w b #[.slice a (C.length + 1) c, .int .i64 (P56.last C)] 78 ∧ Reads (Value.int .i64) w a (Car.sums C C.length)
theorem IsCar.since {w w' : World} {v : Value} {C : List Int} (h : IsCar w v C) (hs : Since w w') : IsCar w' v C := by
  obtain ⟨b, a, c, h1, h2, h3⟩ := h
  exact ⟨b, a, c, h1, h2.since hs, h3.since hs⟩
def CarRes (C : List Int) (w : World) (e : Ending) (w' : World) : Prop := ∃ v, e = .returned v ∧ IsCar w' v C ∧ Since w w'
set_option maxRecDepth 100000 in
set_option maxHeartbeats 2000000 in
theorem newCarrier_any (C : List Int) (a : Option Addr) (c : Nat) (w : World) (hr : Reads (Value.int .i64) w a C) (hl : C.length ≤ 4096) (hC : ∀ x ∈ C, 0 ≤ x ∧ x ≤ 4096) :
    Calls Try.prog 32 #[.slice a C.length c] w (CarRes C w) := by
  have HC := Lib.hid hC
  clear hC
  go_enter Try.func32, Try.ntmps32
  go_wp2
  go_loopg [5, 11] C.length (fun gg s5 s11 wr => ∃ (k : Nat) (v : Value), k ≤ C.length ∧ C.length - k ≤ gg ∧ s11 = .int .i64 k ∧
    Mem w [⟨w.heap.size + 1, #[v, .int .i64 ((C.take k).getLastD 0)], 78⟩] [⟨3, 1, v, k + 1, (Car.sums C k).map (Value.int .i64)⟩] wr)
  case atStart =>
    refine ⟨0, .slice (some ⟨w.heap.size, 0, none⟩) 1 1, Nat.zero_le _, by omega, rfl, ?_⟩
    exact ((Mem.start (Since.refl w)).addRow rfl #[.int .i64 0] 3 1 1 (by rfl) (by decide)).addBox (by simp) _ _
  case round =>
    obtain ⟨k, v, hk, hg, rfl, hM⟩ := hrel
    by_cases hlt : k < C.length
    · have hlt' : (k : Int) < (C.length : Int) := by omega
      obtain ⟨x, hx⟩ := get_of_lt hlt
      obtain ⟨b, off, rfl, hb, hc⟩ := (hr.since hM.since) k x hx
      have o1 : wr.ownsRow w.heap.size 3 1 v (k + 1) ((Car.sums C k).map (Value.int .i64)) := hM.own.get (i := 0) rfl
      obtain ⟨a1, c1, rfl, q1, l1⟩ := own_ints o1
      obtain ⟨b1, off1, rfl, hb1, hc1⟩ := q1 k _ (Car.sums_get C (Nat.le_refl k))
      have hx0 := HC.out x (List.mem_of_getElem? hx)
      have hsb := P56.sum_take_bd HC.out k hl
      have SM := Lib.hid (Car.sums_succ C k)
      have ST := Lib.hid (P56.sum_take_step hx)
      have LS := Lib.hid (Car.last_step hx)
      have r0 := hM.rules 0 rfl
      clear hr hx o1 q1 l1
      have hz : ((k : Int) + 1) - 1 = (k : Int) := by omega
      go_upto_region 5 with fail
      obtain ⟨i0, hi, hz0, hz1, hz2⟩ := info_parts info_int
      generalize hS : (C.take k).sum = S at *
      have hkk : (k : Int) < (k : Int) + 1 := by omega
      have hwk : IntKind.i64.wrap (k : Int) = k := IntWalk.i64_in _ (by omega)
      have hws : IntKind.i64.wrap (S + x) = S + x := IntWalk.i64_in _ (by omega)
      go_cut [] (fun wx => ∃ u, Mem w [⟨w.heap.size + 1, #[u, .int .i64 ((C.take k).getLastD 0)], 78⟩] [⟨3, 1, u, k + 1 + 1, (Car.sums C (k + 1)).map (Value.int .i64)⟩] wx)
      case first =>
        refine wp_region_T (fun w' : World => w'.cell? ⟨w.heap.size + 1, 0, none⟩ = some (.slice (some ⟨b1, off1, none⟩) (k + 1) c1)) (fun i => Nat.ble 23 i) (by kernel_rfl) (by simp [*]) (fun hSw => ?_)
        refine wpAnyT_take (i := 0) (v := ?_) rfl (by kernel_rfl) (by kernel_rfl) (by kernel_rfl) (by kernel_rfl) (by kernel_rfl) (fun _ _ _ h => h) (Or.inl ⟨by rfl, ?_⟩) (by exact hSw) ?_; rotate_left; (intro wS hS1; (try dsimp only at hS1); go_simp; try with_reducible rfl); (try simp only [Act.put, List.setIfInBounds_toArray, List.set_cons_zero, List.set_cons_succ])
        refine wpAnyT_take (i := 1) (v := ?_) rfl (by kernel_rfl) (by kernel_rfl) (by kernel_rfl) (by kernel_rfl) (by kernel_rfl) (fun _ _ _ h => h) (Or.inl ⟨by rfl, ?_⟩) (by exact hSw) ?_; rotate_left; (intro wS hS1; (try dsimp only at hS1); go_simp; try with_reducible rfl); (try simp only [Act.put, List.setIfInBounds_toArray, List.set_cons_zero, List.set_cons_succ])
        refine wpAnyT_take (i := 2) (v := ?_) rfl (by kernel_rfl) (by kernel_rfl) (by kernel_rfl) (by kernel_rfl) (by kernel_rfl) (fun _ _ _ h => h) (Or.inl ⟨by rfl, ?_⟩) (by exact hSw) ?_; rotate_left; (intro wS hS1; (try dsimp only at hS1); go_simp; try with_reducible rfl); (try simp only [Act.put, List.setIfInBounds_toArray, List.set_cons_zero, List.set_cons_succ])
        refine wpAnyT_take (i := 3) (v := ?_) rfl (by kernel_rfl) (by kernel_rfl) (by kernel_rfl) (by kernel_rfl) (by kernel_rfl) (fun _ _ _ h => h) (Or.inl ⟨by rfl, ?_⟩) (by exact hSw) ?_; rotate_left; (intro wS hS1; (try dsimp only at hS1); go_simp; try with_reducible rfl); (try simp only [Act.put, List.setIfInBounds_toArray, List.set_cons_zero, List.set_cons_succ])
        refine wpAnyT_take (i := 4) (v := ?_) rfl (by kernel_rfl) (by kernel_rfl) (by kernel_rfl) (by kernel_rfl) (by kernel_rfl) (fun _ _ _ h => h) (Or.inl ⟨by rfl, ?_⟩) (by exact hSw) ?_; rotate_left; (intro wS hS1; (try dsimp only at hS1); go_simp; try with_reducible rfl); (try simp only [Act.put, List.setIfInBounds_toArray, List.set_cons_zero, List.set_cons_succ])
        refine wpAnyT_take (i := 5) (v := ?_) rfl (by kernel_rfl) (by kernel_rfl) (by kernel_rfl) (by kernel_rfl) (by kernel_rfl) (fun _ _ _ h => h) (Or.inl ⟨by rfl, ?_⟩) (by exact hSw) ?_; rotate_left; (intro wS hS1; (try dsimp only at hS1); go_simp; try with_reducible rfl); (try simp only [Act.put, List.setIfInBounds_toArray, List.set_cons_zero, List.set_cons_succ])
        refine wpAnyT_take (i := 6) (v := ?_) rfl (by kernel_rfl) (by kernel_rfl) (by kernel_rfl) (by kernel_rfl) (by kernel_rfl) (fun _ _ _ h => h) (Or.inl ⟨by rfl, ?_⟩) (by exact hSw) ?_; rotate_left; (intro wS hS1; (try dsimp only at hS1); go_simp; try with_reducible rfl); (try simp only [Act.put, List.setIfInBounds_toArray, List.set_cons_zero, List.set_cons_succ])
        refine wpAnyT_take (i := 7) (v := ?_) rfl (by kernel_rfl) (by kernel_rfl) (by kernel_rfl) (by kernel_rfl) (by kernel_rfl) (fun _ _ _ h => h) (Or.inl ⟨by rfl, ?_⟩) (by exact hSw) ?_; rotate_left; (intro wS hS1; (try dsimp only at hS1); go_simp; try with_reducible rfl); (try simp only [Act.put, List.setIfInBounds_toArray, List.set_cons_zero, List.set_cons_succ])
        refine wpAnyT_take (i := 8) (v := ?_) rfl (by kernel_rfl) (by kernel_rfl) (by kernel_rfl) (by kernel_rfl) (by kernel_rfl) (fun _ _ _ h => h) (Or.inl ⟨by rfl, ?_⟩) (by exact hSw) ?_; rotate_left; (intro wS hS1; (try dsimp only at hS1); go_simp; try with_reducible rfl); (try simp only [Act.put, List.setIfInBounds_toArray, List.set_cons_zero, List.set_cons_succ])
        refine wpAnyT_take (i := 9) (v := ?_) rfl (by kernel_rfl) (by kernel_rfl) (by kernel_rfl) (by kernel_rfl) (by kernel_rfl) (fun _ _ _ h => h) (Or.inl ⟨by rfl, ?_⟩) (by exact hSw) ?_; rotate_left; (intro wS hS1; (try dsimp only at hS1); go_simp; try with_reducible rfl); (try simp only [Act.put, List.setIfInBounds_toArray, List.set_cons_zero, List.set_cons_succ])
        refine wpAnyT_take (i := 10) (v := ?_) rfl (by kernel_rfl) (by kernel_rfl) (by kernel_rfl) (by kernel_rfl) (by kernel_rfl) (fun _ _ _ h => h) (Or.inl ⟨by rfl, ?_⟩) (by exact hSw) ?_; rotate_left; (intro wS hS1; (try dsimp only at hS1); go_simp; try with_reducible rfl); (try simp only [Act.put, List.setIfInBounds_toArray, List.set_cons_zero, List.set_cons_succ])
        refine wpAnyT_take (i := 11) (v := ?_) rfl (by kernel_rfl) (by kernel_rfl) (by kernel_rfl) (by kernel_rfl) (by kernel_rfl) (fun _ _ _ h => h) (Or.inl ⟨by rfl, ?_⟩) (by exact hSw) ?_; rotate_left; (intro wS hS1; (try dsimp only at hS1); go_simp; try with_reducible rfl); (try simp only [Act.put, List.setIfInBounds_toArray, List.set_cons_zero, List.set_cons_succ])
        refine wpAnyT_take (i := 12) (v := ?_) rfl (by kernel_rfl) (by kernel_rfl) (by kernel_rfl) (by kernel_rfl) (by kernel_rfl) (fun _ _ _ h => h) (Or.inl ⟨by rfl, ?_⟩) (by exact hSw) ?_; rotate_left; (intro wS hS1; (try dsimp only at hS1); go_simp; try with_reducible rfl); (try simp only [Act.put, List.setIfInBounds_toArray, List.set_cons_zero, List.set_cons_succ])
        refine wpAnyT_take (i := 13) (v := ?_) rfl (by kernel_rfl) (by kernel_rfl) (by kernel_rfl) (by kernel_rfl) (by kernel_rfl) (fun _ _ _ h => h) (Or.inl ⟨by rfl, ?_⟩) (by exact hSw) ?_; rotate_left; (intro wS hS1; (try dsimp only at hS1); go_simp; try with_reducible rfl); (try simp only [Act.put, List.setIfInBounds_toArray, List.set_cons_zero, List.set_cons_succ])
        refine wpAnyT_take (i := 14) (v := ?_) rfl (by kernel_rfl) (by kernel_rfl) (by kernel_rfl) (by kernel_rfl) (by kernel_rfl) (fun _ _ _ h => h) (Or.inl ⟨by rfl, ?_⟩) (by exact hSw) ?_; rotate_left; (intro wS hS1; (try dsimp only at hS1); go_simp; try with_reducible rfl); (try simp only [Act.put, List.setIfInBounds_toArray, List.set_cons_zero, List.set_cons_succ])
        refine wpAnyT_take (i := 15) (v := ?_) rfl (by kernel_rfl) (by kernel_rfl) (by kernel_rfl) (by kernel_rfl) (by kernel_rfl) (fun _ _ _ h => h) (Or.inl ⟨by rfl, ?_⟩) (by exact hSw) ?_; rotate_left; (intro wS hS1; (try dsimp only at hS1); go_simp; try with_reducible rfl); (try simp only [Act.put, List.setIfInBounds_toArray, List.set_cons_zero, List.set_cons_succ])
        refine wpAnyT_take (i := 17) (v := ?_) rfl (by kernel_rfl) (by kernel_rfl) (by kernel_rfl) (by kernel_rfl) (by kernel_rfl) (fun _ _ _ h => h) (Or.inl ⟨by rfl, ?_⟩) (by exact hSw) ?_; rotate_left; (intro wS hS1; (try dsimp only at hS1); go_simp; try with_reducible rfl); (try simp only [Act.put, List.setIfInBounds_toArray, List.set_cons_zero, List.set_cons_succ])
        refine wpAnyT_one (i := 16) (by kernel_rfl) rfl (by rfl) ?_
        intro K hK
        go_simp
        refine hK _ _ (fun _ => ?_) (fun hS => ?_)
        · first | (simp [World.cell?_alloc_past, *]; done) | exact cell_alloc_some hSw _
        have hSw := hS rfl; clear hS hK; (try simp only [Act.put, List.setIfInBounds_toArray, List.set_cons_zero, List.set_cons_succ])
        refine wpAnyT_take (i := 18) (v := ?_) rfl (by kernel_rfl) (by kernel_rfl) (by kernel_rfl) (by kernel_rfl) (by kernel_rfl) (fun _ _ _ h => h) (Or.inl ⟨by rfl, ?_⟩) (by exact hSw) ?_; rotate_left; (intro wS hS1; (try dsimp only at hS1); go_simp; try with_reducible rfl); (try simp only [Act.put, List.setIfInBounds_toArray, List.set_cons_zero, List.set_cons_succ])
        refine wpAnyT_one (i := 19) (by kernel_rfl) rfl (by rfl) ?_
        intro K hK
        go_simp
        refine hK _ _ (fun _ => ?_) (fun hS => ?_)
        · first | (simp [World.cell?_alloc_past, *]; done) | exact cell_alloc_some hSw _
        have hSw := hS rfl; clear hS hK; (try simp only [Act.put, List.setIfInBounds_toArray, List.set_cons_zero, List.set_cons_succ])
        refine wpAnyT_one (i := 20) (by kernel_rfl) rfl (by rfl) ?_
        intro K hK
        refine wp_mem_app (by (repeat (first | with_reducible assumption | with_reducible apply Mem.drew | with_reducible apply Mem.drewN | (with_reducible apply Mem.addBox; rotate_left 1; (first | (simp only [World.size_alloc, World.size_drew, World.heap_drewN]; rfl) | rfl); rotate_right 1) | with_reducible apply Mem.alloc))) (.tmp 19) (.tmp 34) _ (by rfl) 0 3 i0 _ 1 8 Try.underlying22 hi hz0 hz1 hz2 rfl (by decide) (.slice (some ⟨b1, off1, none⟩) (k + 1) c1) (k + 1) _ (by rfl) (by rfl) _ 1 1 [.int .i64 (S + x)] (by rfl) rfl (news_one (by simp [go_sem, *])) (one_int _ _) (by decide) (by omega) (by unfold maxLen; omega) ?_
        intro g1 cap1 wa hMa
        have ra0 := hMa.rules 0 rfl
        refine hK _ _ (fun _ => ?_) (fun hS => ?_)
        · first | (simp [World.cell?_alloc_past, *]; done) | exact cell_alloc_some hSw _
        have hSw := hS rfl; clear hS hK; (try simp only [Act.put, List.setIfInBounds_toArray, List.set_cons_zero, List.set_cons_succ])
        refine wpAnyT_take (i := 21) (v := ?_) rfl (by kernel_rfl) (by kernel_rfl) (by kernel_rfl) (by kernel_rfl) (by kernel_rfl) (fun _ _ _ h => h) (Or.inl ⟨by rfl, ?_⟩) (by exact hSw) ?_; rotate_left; (intro wS hS1; (try dsimp only at hS1); go_simp; try with_reducible rfl); (try simp only [Act.put, List.setIfInBounds_toArray, List.set_cons_zero, List.set_cons_succ])
        refine wpAnyT_take (i := 22) (v := ?_) rfl (by kernel_rfl) (by kernel_rfl) (by kernel_rfl) (by kernel_rfl) (by kernel_rfl) (fun _ _ _ h => h) (Or.inl ⟨by rfl, ?_⟩) (by exact hSw) ?_; rotate_left; (intro wS hS1; (try dsimp only at hS1); go_simp; try with_reducible rfl); (try simp only [Act.put, List.setIfInBounds_toArray, List.set_cons_zero, List.set_cons_succ])
        refine wpAnyT_one (i := 23) (by kernel_rfl) rfl (by rfl) ?_
        intro K hK
        go_simp
        refine hK _ _ (fun h => by cases h) (fun _ => ?_)
        clear hK; (try simp only [Act.put, List.setIfInBounds_toArray, List.set_cons_zero, List.set_cons_succ])
        refine wpAnyT_done (by kernel_rfl) ?_ _
        go_wp2_with fail
        go_meet
        have h := hMa.store 0 rfl 0 (.slice (some ⟨g1, 0, none⟩) (k + 1 + 1) cap1)
        simp only [List.setIfInBounds_toArray, List.set_cons_zero, List.set_cons_succ, List.cons_append, List.nil_append] at h
        refine ⟨.slice (some ⟨g1, 0, none⟩) (k + 1 + 1) cap1, ?_⟩
        rw [SM.out, ST.out, List.map_append]
        exact h.sub (List.sublist_append_left [_] [_])
      case rest =>
        obtain ⟨u, hM2⟩ := hcut
        clear hM r0
        have r0 := hM2.rules 0 rfl
        go_wp2
        go_roundg (C.length - (k + 1))
        case measure => omega
        case rel =>
          have h := hM2.store 0 rfl 1 (.int .i64 x)
          simp only [List.setIfInBounds_toArray, List.set_cons_zero, List.set_cons_succ] at h
          refine ⟨k + 1, u, by omega, by omega, by go_num, ?_⟩
          rw [LS.out]
          exact h
    · have hkc : k = C.length := by omega
      subst hkc
      have o1 : wr.ownsRow w.heap.size 3 1 v (C.length + 1) ((Car.sums C C.length).map (Value.int .i64)) := hM.own.get (i := 0) rfl
      obtain ⟨a1, c1, rfl, q1, l1⟩ := own_ints o1
      have hb := hM.at 0 rfl
      have hs := hM.since
      clear hr o1 l1
      have hlt' : ¬ (C.length : Int) < (C.length : Int) := by omega
      have HB : Hid (IsCar wr (.pointer (some ⟨w.heap.size + 1, 0, none⟩)) C) := by
        refine ⟨_, a1, c1, rfl, ?_, q1⟩
        rw [List.take_length] at hb
        exact hb
      clear hb q1
      have HS := Lib.hid hs
      clear hs hM
      go_wp2
      go_ret
      exact ⟨_, rfl, HB.out, HS.out⟩
theorem Car.carr_small {C : List Int} {t : Nat} (h : t ≤ C.length) : (C.take t).sum = P56.carr C t := by
  unfold P56.carr; rw [show t - C.length = 0 from by omega]; simp
theorem Car.carr_big {C : List Int} {t : Nat} (h : C.length ≤ t) : (C.take C.length).sum + ((t : Int) - (C.length : Int)) * P56.last C = P56.carr C t := by
  unfold P56.carr; rw [List.take_of_length_le (Nat.le_refl _), List.take_of_length_le h, Int.ofNat_sub h]
set_option maxHeartbeats 1000000 in
theorem before_any (C : List Int) (v : Value) (t : Nat) (w : World) (hv : IsCar w v C) (hl : C.length ≤ 4096) (hC : ∀ x ∈ C, 0 ≤ x ∧ x ≤ 4096) (ht : t ≤ 1000000000000) :
    Calls Try.prog 47 #[v, .int .i64 t] w fun e w' => e = .returned (.int .i64 (P56.carr C t)) ∧ Since w w' := by
  obtain ⟨b, a, c, rfl, hb, hr⟩ := hv
  have HCB := Lib.hid (P56.carr_bd hC t)
  have hlast := P56.last_nonneg hC
  have rb := hb.rules
  by_cases hle : t ≤ C.length
  · obtain ⟨b1, o1, rfl, hb1, hc1⟩ := hr t _ (Car.sums_get C hle)
    rw [← Car.carr_small hle]
    have hlez : (t : Int) ≤ (C.length : Int) := by omega
    clear hr hb hC
    go_enter Try.func47, Try.ntmps47
    go_wp2
    go_ret
    exact ⟨rfl, Since.refl _⟩
  · obtain ⟨b1, o1, rfl, hb1, hc1⟩ := hr C.length _ (Car.sums_get C (Nat.le_refl _))
    have hbig := Car.carr_big (C := C) (t := t) (by omega)
    have hsb := P56.sum_take_bd hC C.length hl
    have hlez : ¬ (t : Int) ≤ (C.length : Int) := by omega
    have hprod : 0 ≤ ((t : Int) - (C.length : Int)) * P56.last C ∧ ((t : Int) - (C.length : Int)) * P56.last C ≤ 4096000000000000 := by
      constructor
      · exact Int.mul_nonneg (by omega) hlast.1
      · have h1 := Int.mul_le_mul_of_nonneg_left hlast.2 (show 0 ≤ (t : Int) - (C.length : Int) by omega)
        omega
    generalize (C.take C.length).sum = S at hc1 hbig hsb
    have HBIG := Lib.hid hbig
    clear hr hb hC hbig
    go_enter Try.func47, Try.ntmps47
    go_wp2_with (first | go_quiet (fail))
    go_ret
    exact ⟨ret_int HBIG.out, by (repeat (first | with_reducible exact Since.refl _ | with_reducible assumption | with_reducible refine Since.alloc ?_ _ | with_reducible refine Since.drew ?_ | with_reducible refine Since.drewN ?_ _ | (with_reducible refine Since.setCell ?_ ?_ _; rotate_left; (first | (dsimp only; omega) | (simp; done) | (simp; omega))) | with_reducible refine Since.trans ?_ (by with_reducible assumption)))⟩
end Go.Proofs.Ytfjelofpahcfpaa
