/- The rows of the types that this program names. -/
import Derived.Test.YtfjelofpahcfpaaRows
import Derived.WalkKit
namespace Go.Proofs.Ytfjelofpahcfpaa
/-- A type, as the runner wants it. -/
structure TyI where
  agg : Bool
  size : Nat
  bytes : Nat
  desc : TypeDesc
  zero : Value
structure TyOk (P : Program) (t : TypeId) (i : TyI) : Prop where
  und : P.underlying t = some i.desc
  agg : ∀ w, (isAgg t).run P w = .ok i.agg w
  size : ∀ w, (sizeOf t).run P w = .ok i.size w
  zero : ∀ w, (zeroValue t).run P w = .ok i.zero w
  info : ∃ j, P.info? t = some j ∧ j.zero = some i.zero ∧ j.size = i.size ∧ j.bytes = i.bytes
def ty3 : TyI := ⟨false, 1, 8, Go.TypeDesc.int Go.IntKind.i64, (Go.Value.int Go.IntKind.i64 0)⟩
theorem ty3_ok : TyOk Try.prog 3 ty3 := ⟨Try.underlying3, Try.isAgg3, Try.sizeOf3, Try.zeroValue3, info_parts (e := 3) (by kernel_rfl)⟩
def ty4 : TyI := ⟨false, 1, 1, Go.TypeDesc.bool, (Go.Value.bool Bool.false)⟩
theorem ty4_ok : TyOk Try.prog 4 ty4 := ⟨Try.underlying4, Try.isAgg4, Try.sizeOf4, Try.zeroValue4, info_parts (e := 4) (by kernel_rfl)⟩
def ty5 : TyI := ⟨false, 1, 1, Go.TypeDesc.int Go.IntKind.u8, (Go.Value.int Go.IntKind.u8 0)⟩
theorem ty5_ok : TyOk Try.prog 5 ty5 := ⟨Try.underlying5, Try.isAgg5, Try.sizeOf5, Try.zeroValue5, info_parts (e := 5) (by kernel_rfl)⟩
def ty9 : TyI := ⟨false, 1, 16, Go.TypeDesc.string, (Go.Value.string { data := #[] })⟩
theorem ty9_ok : TyOk Try.prog 9 ty9 := ⟨Try.underlying9, Try.isAgg9, Try.sizeOf9, Try.zeroValue9, info_parts (e := 9) (by kernel_rfl)⟩
def ty22 : TyI := ⟨false, 1, 24, Go.TypeDesc.slice 3, (Go.Value.slice Option.none 0 0)⟩
theorem ty22_ok : TyOk Try.prog 22 ty22 := ⟨Try.underlying22, Try.isAgg22, Try.sizeOf22, Try.zeroValue22, info_parts (e := 22) (by kernel_rfl)⟩
def ty24 : TyI := ⟨true, 5, 72, Go.TypeDesc.struct #[{ name := "Writes", type := 22, offset := 0, embedded := Bool.false, tag := "", pkgPath := "", byteOffset := 0 }, { name := "Capacity", type := 22, offset := 1, embedded := Bool.false, tag := "", pkgPath := "", byteOffset := 24 }, { name := "Period", type := 3, offset := 2, embedded := Bool.false, tag := "", pkgPath := "", byteOffset := 48 }, { name := "Latency", type := 3, offset := 3, embedded := Bool.false, tag := "", pkgPath := "", byteOffset := 56 }, { name := "Apply", type := 3, offset := 4, embedded := Bool.false, tag := "", pkgPath := "", byteOffset := 64 }], (Go.Value.agg #[Go.Value.slice Option.none 0 0, Go.Value.slice Option.none 0 0, Go.Value.int Go.IntKind.i64 0, Go.Value.int Go.IntKind.i64 0, Go.Value.int Go.IntKind.i64 0])⟩
theorem ty24_ok : TyOk Try.prog 24 ty24 := ⟨Try.underlying24, Try.isAgg24, Try.sizeOf24, Try.zeroValue24, info_parts (e := 24) (by kernel_rfl)⟩
def ty28 : TyI := ⟨true, 5, 104, Go.TypeDesc.struct #[{ name := "Close", type := 22, offset := 0, embedded := Bool.false, tag := "", pkgPath := "", byteOffset := 0 }, { name := "Start", type := 22, offset := 1, embedded := Bool.false, tag := "", pkgPath := "", byteOffset := 24 }, { name := "End", type := 22, offset := 2, embedded := Bool.false, tag := "", pkgPath := "", byteOffset := 48 }, { name := "Applied", type := 22, offset := 3, embedded := Bool.false, tag := "", pkgPath := "", byteOffset := 72 }, { name := "Bound", type := 3, offset := 4, embedded := Bool.false, tag := "", pkgPath := "", byteOffset := 96 }], (Go.Value.agg #[Go.Value.slice Option.none 0 0, Go.Value.slice Option.none 0 0, Go.Value.slice Option.none 0 0, Go.Value.slice Option.none 0 0, Go.Value.int Go.IntKind.i64 0])⟩
theorem ty28_ok : TyOk Try.prog 28 ty28 := ⟨Try.underlying28, Try.isAgg28, Try.sizeOf28, Try.zeroValue28, info_parts (e := 28) (by kernel_rfl)⟩
def ty29 : TyI := ⟨false, 1, 8, Go.TypeDesc.int Go.IntKind.i64, (Go.Value.int Go.IntKind.i64 0)⟩
theorem ty29_ok : TyOk Try.prog 29 ty29 := ⟨Try.underlying29, Try.isAgg29, Try.sizeOf29, Try.zeroValue29, info_parts (e := 29) (by kernel_rfl)⟩
def ty47 : TyI := ⟨false, 1, 24, Go.TypeDesc.slice 5, (Go.Value.slice Option.none 0 0)⟩
theorem ty47_ok : TyOk Try.prog 47 ty47 := ⟨Try.underlying47, Try.isAgg47, Try.sizeOf47, Try.zeroValue47, info_parts (e := 47) (by kernel_rfl)⟩
def ty49 : TyI := ⟨true, 3, 56, Go.TypeDesc.struct #[{ name := "More", type := 47, offset := 0, embedded := Bool.false, tag := "", pkgPath := "", byteOffset := 0 }, { name := "Fewer", type := 47, offset := 1, embedded := Bool.false, tag := "", pkgPath := "", byteOffset := 24 }, { name := "Less", type := 5, offset := 2, embedded := Bool.false, tag := "", pkgPath := "", byteOffset := 48 }], (Go.Value.agg #[Go.Value.slice Option.none 0 0, Go.Value.slice Option.none 0 0, Go.Value.int Go.IntKind.u8 0])⟩
theorem ty49_ok : TyOk Try.prog 49 ty49 := ⟨Try.underlying49, Try.isAgg49, Try.sizeOf49, Try.zeroValue49, info_parts (e := 49) (by kernel_rfl)⟩
def ty59 : TyI := ⟨true, 2, 2, Go.TypeDesc.array 2 5, (Go.Value.agg #[Go.Value.int Go.IntKind.u8 0, Go.Value.int Go.IntKind.u8 0])⟩
theorem ty59_ok : TyOk Try.prog 59 ty59 := ⟨Try.underlying59, Try.isAgg59, Try.sizeOf59, Try.zeroValue59, info_parts (e := 59) (by kernel_rfl)⟩
def ty63 : TyI := ⟨false, 1, 8, Go.TypeDesc.func #[3, 3] #[3, 4] Bool.false, Go.Value.nilFunc⟩
theorem ty63_ok : TyOk Try.prog 63 ty63 := ⟨Try.underlying63, Try.isAgg63, Try.sizeOf63, Try.zeroValue63, info_parts (e := 63) (by kernel_rfl)⟩
def ty71 : TyI := ⟨false, 1, 8, Go.TypeDesc.func #[3] #[4] Bool.false, Go.Value.nilFunc⟩
theorem ty71_ok : TyOk Try.prog 71 ty71 := ⟨Try.underlying71, Try.isAgg71, Try.sizeOf71, Try.zeroValue71, info_parts (e := 71) (by kernel_rfl)⟩
def ty72 : TyI := ⟨true, 2, 48, Go.TypeDesc.array 2 22, (Go.Value.agg #[Go.Value.slice Option.none 0 0, Go.Value.slice Option.none 0 0])⟩
theorem ty72_ok : TyOk Try.prog 72 ty72 := ⟨Try.underlying72, Try.isAgg72, Try.sizeOf72, Try.zeroValue72, info_parts (e := 72) (by kernel_rfl)⟩
def ty73 : TyI := ⟨false, 1, 24, Go.TypeDesc.slice 72, (Go.Value.slice Option.none 0 0)⟩
theorem ty73_ok : TyOk Try.prog 73 ty73 := ⟨Try.underlying73, Try.isAgg73, Try.sizeOf73, Try.zeroValue73, info_parts (e := 73) (by kernel_rfl)⟩
def ty78 : TyI := ⟨true, 2, 32, Go.TypeDesc.struct #[{ name := "sums", type := 22, offset := 0, embedded := Bool.false, tag := "", pkgPath := "standby/planner", byteOffset := 0 }, { name := "last", type := 3, offset := 1, embedded := Bool.false, tag := "", pkgPath := "standby/planner", byteOffset := 24 }], (Go.Value.agg #[Go.Value.slice Option.none 0 0, Go.Value.int Go.IntKind.i64 0])⟩
theorem ty78_ok : TyOk Try.prog 78 ty78 := ⟨Try.underlying78, Try.isAgg78, Try.sizeOf78, Try.zeroValue78, info_parts (e := 78) (by kernel_rfl)⟩
def ty79 : TyI := ⟨false, 1, 8, Go.TypeDesc.func #[3] #[3] Bool.false, Go.Value.nilFunc⟩
theorem ty79_ok : TyOk Try.prog 79 ty79 := ⟨Try.underlying79, Try.isAgg79, Try.sizeOf79, Try.zeroValue79, info_parts (e := 79) (by kernel_rfl)⟩
def ty80 : TyI := ⟨false, 1, 8, Go.TypeDesc.int Go.IntKind.u64, (Go.Value.int Go.IntKind.u64 0)⟩
theorem ty80_ok : TyOk Try.prog 80 ty80 := ⟨Try.underlying80, Try.isAgg80, Try.sizeOf80, Try.zeroValue80, info_parts (e := 80) (by kernel_rfl)⟩
def lkT : List (Nat × TyI) → Nat → Option TyI
  | [], _ => none
  | (k, v) :: r, t => cond (Nat.beq k t) (some v) (lkT r t)
def te (t : TypeId) : Option TyI := lkT [(3, ty3), (4, ty4), (5, ty5), (9, ty9), (22, ty22), (24, ty24), (28, ty28), (29, ty29), (47, ty47), (49, ty49), (59, ty59), (63, ty63), (71, ty71), (72, ty72), (73, ty73), (78, ty78), (79, ty79), (80, ty80)] t
theorem lkT_ok {P : Program} : ∀ {l : List (Nat × TyI)}, (∀ p ∈ l, TyOk P p.1 p.2) → ∀ {t i}, lkT l t = some i → TyOk P t i
  | [], _, _, _, h => by simp [lkT] at h
  | (k, v) :: r, hl, t, i, h => by
    unfold lkT at h
    cases hb : Nat.beq k t
    · rw [hb] at h; exact lkT_ok (fun p hp => hl p (List.mem_cons_of_mem _ hp)) h
    · rw [hb] at h
      have := Nat.eq_of_beq_eq_true hb
      injection h with h
      subst this h
      exact hl _ List.mem_cons_self
theorem te_ok {t : TypeId} {i : TyI} (h : te t = some i) : TyOk Try.prog t i := lkT_ok (List.forall_mem_cons.2 ⟨ty3_ok, (List.forall_mem_cons.2 ⟨ty4_ok, (List.forall_mem_cons.2 ⟨ty5_ok, (List.forall_mem_cons.2 ⟨ty9_ok, (List.forall_mem_cons.2 ⟨ty22_ok, (List.forall_mem_cons.2 ⟨ty24_ok, (List.forall_mem_cons.2 ⟨ty28_ok, (List.forall_mem_cons.2 ⟨ty29_ok, (List.forall_mem_cons.2 ⟨ty47_ok, (List.forall_mem_cons.2 ⟨ty49_ok, (List.forall_mem_cons.2 ⟨ty59_ok, (List.forall_mem_cons.2 ⟨ty63_ok, (List.forall_mem_cons.2 ⟨ty71_ok, (List.forall_mem_cons.2 ⟨ty72_ok, (List.forall_mem_cons.2 ⟨ty73_ok, (List.forall_mem_cons.2 ⟨ty78_ok, (List.forall_mem_cons.2 ⟨ty79_ok, (List.forall_mem_cons.2 ⟨ty80_ok, (fun _ h => by simp at h)⟩)⟩)⟩)⟩)⟩)⟩)⟩)⟩)⟩)⟩)⟩)⟩)⟩)⟩)⟩)⟩)⟩)⟩) h
end Go.Proofs.Ytfjelofpahcfpaa
