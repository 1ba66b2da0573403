/- The rows of the types that this program names. -/
import Derived.Test.YthcnnedgfndklaaRows
import Derived.WalkKit
namespace Go.Proofs.Ythcnnedgfndklaa
/-- A type, as the runner wants it. -/
structure TyI where
  agg : Bool
  size : Nat
  bytes : Nat
  desc : TypeDesc
  zero : Value
structure TyOk (P : Program) (t : TypeId) (i : TyI) : Prop where
  und : P.underlying t = some i.desc
  agg : ∀ w, (isAgg t).run P w = .ok i.agg w
  size : ∀ w, (sizeOf t).run P w = .ok i.size w
  zero : ∀ w, (zeroValue t).run P w = .ok i.zero w
  info : ∃ j, P.info? t = some j ∧ j.zero = some i.zero ∧ j.size = i.size ∧ j.bytes = i.bytes
def ty3 : TyI := ⟨false, 1, 8, Go.TypeDesc.int Go.IntKind.i64, (Go.Value.int Go.IntKind.i64 0)⟩
theorem ty3_ok : TyOk Try.prog 3 ty3 := ⟨Try.underlying3, Try.isAgg3, Try.sizeOf3, Try.zeroValue3, info_parts (e := 3) (by kernel_rfl)⟩
def ty4 : TyI := ⟨false, 1, 1, Go.TypeDesc.bool, (Go.Value.bool Bool.false)⟩
theorem ty4_ok : TyOk Try.prog 4 ty4 := ⟨Try.underlying4, Try.isAgg4, Try.sizeOf4, Try.zeroValue4, info_parts (e := 4) (by kernel_rfl)⟩
def ty5 : TyI := ⟨false, 1, 1, Go.TypeDesc.int Go.IntKind.u8, (Go.Value.int Go.IntKind.u8 0)⟩
theorem ty5_ok : TyOk Try.prog 5 ty5 := ⟨Try.underlying5, Try.isAgg5, Try.sizeOf5, Try.zeroValue5, info_parts (e := 5) (by kernel_rfl)⟩
def ty9 : TyI := ⟨false, 1, 16, Go.TypeDesc.string, (Go.Value.string { data := #[] })⟩
theorem ty9_ok : TyOk Try.prog 9 ty9 := ⟨Try.underlying9, Try.isAgg9, Try.sizeOf9, Try.zeroValue9, info_parts (e := 9) (by kernel_rfl)⟩
def ty20 : TyI := ⟨false, 1, 16, Go.TypeDesc.interface #[], Go.Value.nilIface⟩
theorem ty20_ok : TyOk Try.prog 20 ty20 := ⟨Try.underlying20, Try.isAgg20, Try.sizeOf20, Try.zeroValue20, info_parts (e := 20) (by kernel_rfl)⟩
def ty22 : TyI := ⟨false, 1, 24, Go.TypeDesc.slice 38, (Go.Value.slice Option.none 0 0)⟩
theorem ty22_ok : TyOk Try.prog 22 ty22 := ⟨Try.underlying22, Try.isAgg22, Try.sizeOf22, Try.zeroValue22, info_parts (e := 22) (by kernel_rfl)⟩
def ty24 : TyI := ⟨false, 1, 24, Go.TypeDesc.slice 5, (Go.Value.slice Option.none 0 0)⟩
theorem ty24_ok : TyOk Try.prog 24 ty24 := ⟨Try.underlying24, Try.isAgg24, Try.sizeOf24, Try.zeroValue24, info_parts (e := 24) (by kernel_rfl)⟩
def ty29 : TyI := ⟨false, 1, 8, Go.TypeDesc.int Go.IntKind.i64, (Go.Value.int Go.IntKind.i64 0)⟩
theorem ty29_ok : TyOk Try.prog 29 ty29 := ⟨Try.underlying29, Try.isAgg29, Try.sizeOf29, Try.zeroValue29, info_parts (e := 29) (by kernel_rfl)⟩
def ty38 : TyI := ⟨true, 8, 8, Go.TypeDesc.array 8 5, (Go.Value.agg #[Go.Value.int Go.IntKind.u8 0, Go.Value.int Go.IntKind.u8 0, Go.Value.int Go.IntKind.u8 0, Go.Value.int Go.IntKind.u8 0, Go.Value.int Go.IntKind.u8 0, Go.Value.int Go.IntKind.u8 0, Go.Value.int Go.IntKind.u8 0, Go.Value.int Go.IntKind.u8 0])⟩
theorem ty38_ok : TyOk Try.prog 38 ty38 := ⟨Try.underlying38, Try.isAgg38, Try.sizeOf38, Try.zeroValue38, info_parts (e := 38) (by kernel_rfl)⟩
def ty39 : TyI := ⟨false, 1, 2, Go.TypeDesc.int Go.IntKind.u16, (Go.Value.int Go.IntKind.u16 0)⟩
theorem ty39_ok : TyOk Try.prog 39 ty39 := ⟨Try.underlying39, Try.isAgg39, Try.sizeOf39, Try.zeroValue39, info_parts (e := 39) (by kernel_rfl)⟩
def ty42 : TyI := ⟨false, 1, 24, Go.TypeDesc.slice 46, (Go.Value.slice Option.none 0 0)⟩
theorem ty42_ok : TyOk Try.prog 42 ty42 := ⟨Try.underlying42, Try.isAgg42, Try.sizeOf42, Try.zeroValue42, info_parts (e := 42) (by kernel_rfl)⟩
def ty44 : TyI := ⟨false, 1, 24, Go.TypeDesc.slice 4, (Go.Value.slice Option.none 0 0)⟩
theorem ty44_ok : TyOk Try.prog 44 ty44 := ⟨Try.underlying44, Try.isAgg44, Try.sizeOf44, Try.zeroValue44, info_parts (e := 44) (by kernel_rfl)⟩
def ty46 : TyI := ⟨true, 2, 16, Go.TypeDesc.struct #[{ name := "Start", type := 3, offset := 0, embedded := Bool.false, tag := "", pkgPath := "", byteOffset := 0 }, { name := "Count", type := 3, offset := 1, embedded := Bool.false, tag := "", pkgPath := "", byteOffset := 8 }], (Go.Value.agg #[Go.Value.int Go.IntKind.i64 0, Go.Value.int Go.IntKind.i64 0])⟩
theorem ty46_ok : TyOk Try.prog 46 ty46 := ⟨Try.underlying46, Try.isAgg46, Try.sizeOf46, Try.zeroValue46, info_parts (e := 46) (by kernel_rfl)⟩
def ty53 : TyI := ⟨true, 3, 24, Go.TypeDesc.struct #[{ name := "kind", type := 3, offset := 0, embedded := Bool.false, tag := "", pkgPath := "standby/runlength", byteOffset := 0 }, { name := "start", type := 3, offset := 1, embedded := Bool.false, tag := "", pkgPath := "standby/runlength", byteOffset := 8 }, { name := "count", type := 3, offset := 2, embedded := Bool.false, tag := "", pkgPath := "standby/runlength", byteOffset := 16 }], (Go.Value.agg #[Go.Value.int Go.IntKind.i64 0, Go.Value.int Go.IntKind.i64 0, Go.Value.int Go.IntKind.i64 0])⟩
theorem ty53_ok : TyOk Try.prog 53 ty53 := ⟨Try.underlying53, Try.isAgg53, Try.sizeOf53, Try.zeroValue53, info_parts (e := 53) (by kernel_rfl)⟩
def ty55 : TyI := ⟨false, 1, 24, Go.TypeDesc.slice 58, (Go.Value.slice Option.none 0 0)⟩
theorem ty55_ok : TyOk Try.prog 55 ty55 := ⟨Try.underlying55, Try.isAgg55, Try.sizeOf55, Try.zeroValue55, info_parts (e := 55) (by kernel_rfl)⟩
def ty58 : TyI := ⟨true, 3, 24, Go.TypeDesc.struct #[{ name := "Kind", type := 3, offset := 0, embedded := Bool.false, tag := "", pkgPath := "", byteOffset := 0 }, { name := "Start", type := 3, offset := 1, embedded := Bool.false, tag := "", pkgPath := "", byteOffset := 8 }, { name := "Count", type := 3, offset := 2, embedded := Bool.false, tag := "", pkgPath := "", byteOffset := 16 }], (Go.Value.agg #[Go.Value.int Go.IntKind.i64 0, Go.Value.int Go.IntKind.i64 0, Go.Value.int Go.IntKind.i64 0])⟩
theorem ty58_ok : TyOk Try.prog 58 ty58 := ⟨Try.underlying58, Try.isAgg58, Try.sizeOf58, Try.zeroValue58, info_parts (e := 58) (by kernel_rfl)⟩
def ty60 : TyI := ⟨true, 1, 8, Go.TypeDesc.struct #[{ name := "e", type := 29, offset := 0, embedded := Bool.false, tag := "", pkgPath := "standby/runlength", byteOffset := 0 }], (Go.Value.agg #[Go.Value.int Go.IntKind.i64 0])⟩
theorem ty60_ok : TyOk Try.prog 60 ty60 := ⟨Try.underlying60, Try.isAgg60, Try.sizeOf60, Try.zeroValue60, info_parts (e := 60) (by kernel_rfl)⟩
def ty62 : TyI := ⟨false, 1, 8, Go.TypeDesc.pointer 66, (Go.Value.pointer Option.none)⟩
theorem ty62_ok : TyOk Try.prog 62 ty62 := ⟨Try.underlying62, Try.isAgg62, Try.sizeOf62, Try.zeroValue62, info_parts (e := 62) (by kernel_rfl)⟩
def ty64 : TyI := ⟨true, 1, 24, Go.TypeDesc.struct #[{ name := "b", type := 24, offset := 0, embedded := Bool.false, tag := "", pkgPath := "standby/runlength", byteOffset := 0 }], (Go.Value.agg #[Go.Value.slice Option.none 0 0])⟩
theorem ty64_ok : TyOk Try.prog 64 ty64 := ⟨Try.underlying64, Try.isAgg64, Try.sizeOf64, Try.zeroValue64, info_parts (e := 64) (by kernel_rfl)⟩
def ty66 : TyI := ⟨true, 3, 56, Go.TypeDesc.struct #[{ name := "rest", type := 64, offset := 0, embedded := Bool.true, tag := "", pkgPath := "standby/runlength", byteOffset := 0 }, { name := "most", type := 3, offset := 1, embedded := Bool.false, tag := "", pkgPath := "standby/runlength", byteOffset := 24 }, { name := "out", type := 22, offset := 2, embedded := Bool.false, tag := "", pkgPath := "standby/runlength", byteOffset := 32 }], (Go.Value.agg #[Go.Value.slice Option.none 0 0, Go.Value.int Go.IntKind.i64 0, Go.Value.slice Option.none 0 0])⟩
theorem ty66_ok : TyOk Try.prog 66 ty66 := ⟨Try.underlying66, Try.isAgg66, Try.sizeOf66, Try.zeroValue66, info_parts (e := 66) (by kernel_rfl)⟩
def ty71 : TyI := ⟨false, 1, 24, Go.TypeDesc.slice 3, (Go.Value.slice Option.none 0 0)⟩
theorem ty71_ok : TyOk Try.prog 71 ty71 := ⟨Try.underlying71, Try.isAgg71, Try.sizeOf71, Try.zeroValue71, info_parts (e := 71) (by kernel_rfl)⟩
def ty83 : TyI := ⟨false, 1, 8, Go.TypeDesc.int Go.IntKind.u64, (Go.Value.int Go.IntKind.u64 0)⟩
theorem ty83_ok : TyOk Try.prog 83 ty83 := ⟨Try.underlying83, Try.isAgg83, Try.sizeOf83, Try.zeroValue83, info_parts (e := 83) (by kernel_rfl)⟩
def ty87 : TyI := ⟨false, 1, 8, Go.TypeDesc.func #[89] #[3, 29] Bool.false, Go.Value.nilFunc⟩
theorem ty87_ok : TyOk Try.prog 87 ty87 := ⟨Try.underlying87, Try.isAgg87, Try.sizeOf87, Try.zeroValue87, info_parts (e := 87) (by kernel_rfl)⟩
def ty89 : TyI := ⟨false, 1, 8, Go.TypeDesc.pointer 97, (Go.Value.pointer Option.none)⟩
theorem ty89_ok : TyOk Try.prog 89 ty89 := ⟨Try.underlying89, Try.isAgg89, Try.sizeOf89, Try.zeroValue89, info_parts (e := 89) (by kernel_rfl)⟩
def ty90 : TyI := ⟨false, 1, 4, Go.TypeDesc.int Go.IntKind.u32, (Go.Value.int Go.IntKind.u32 0)⟩
theorem ty90_ok : TyOk Try.prog 90 ty90 := ⟨Try.underlying90, Try.isAgg90, Try.sizeOf90, Try.zeroValue90, info_parts (e := 90) (by kernel_rfl)⟩
def ty93 : TyI := ⟨false, 1, 8, Go.TypeDesc.int Go.IntKind.u64, (Go.Value.int Go.IntKind.u64 0)⟩
theorem ty93_ok : TyOk Try.prog 93 ty93 := ⟨Try.underlying93, Try.isAgg93, Try.sizeOf93, Try.zeroValue93, info_parts (e := 93) (by kernel_rfl)⟩
def ty97 : TyI := ⟨true, 1, 24, Go.TypeDesc.struct #[{ name := "left", type := 24, offset := 0, embedded := Bool.false, tag := "", pkgPath := "standby/wire", byteOffset := 0 }], (Go.Value.agg #[Go.Value.slice Option.none 0 0])⟩
theorem ty97_ok : TyOk Try.prog 97 ty97 := ⟨Try.underlying97, Try.isAgg97, Try.sizeOf97, Try.zeroValue97, info_parts (e := 97) (by kernel_rfl)⟩
def lkT : List (Nat × TyI) → Nat → Option TyI
  | [], _ => none
  | (k, v) :: r, t => cond (Nat.beq k t) (some v) (lkT r t)
def te (t : TypeId) : Option TyI := lkT [(3, ty3), (4, ty4), (5, ty5), (9, ty9), (20, ty20), (22, ty22), (24, ty24), (29, ty29), (38, ty38), (39, ty39), (42, ty42), (44, ty44), (46, ty46), (53, ty53), (55, ty55), (58, ty58), (60, ty60), (62, ty62), (64, ty64), (66, ty66), (71, ty71), (83, ty83), (87, ty87), (89, ty89), (90, ty90), (93, ty93), (97, ty97)] t
theorem lkT_ok {P : Program} : ∀ {l : List (Nat × TyI)}, (∀ p ∈ l, TyOk P p.1 p.2) → ∀ {t i}, lkT l t = some i → TyOk P t i
  | [], _, _, _, h => by simp [lkT] at h
  | (k, v) :: r, hl, t, i, h => by
    unfold lkT at h
    cases hb : Nat.beq k t
    · rw [hb] at h; exact lkT_ok (fun p hp => hl p (List.mem_cons_of_mem _ hp)) h
    · rw [hb] at h
      have := Nat.eq_of_beq_eq_true hb
      injection h with h
      subst this h
      exact hl _ List.mem_cons_self
theorem te_ok {t : TypeId} {i : TyI} (h : te t = some i) : TyOk Try.prog t i := lkT_ok (List.forall_mem_cons.2 ⟨ty3_ok, (List.forall_mem_cons.2 ⟨ty4_ok, (List.forall_mem_cons.2 ⟨ty5_ok, (List.forall_mem_cons.2 ⟨ty9_ok, (List.forall_mem_cons.2 ⟨ty20_ok, (List.forall_mem_cons.2 ⟨ty22_ok, (List.forall_mem_cons.2 ⟨ty24_ok, (List.forall_mem_cons.2 ⟨ty29_ok, (List.forall_mem_cons.2 ⟨ty38_ok, (List.forall_mem_cons.2 ⟨ty39_ok, (List.forall_mem_cons.2 ⟨ty42_ok, (List.forall_mem_cons.2 ⟨ty44_ok, (List.forall_mem_cons.2 ⟨ty46_ok, (List.forall_mem_cons.2 ⟨ty53_ok, (List.forall_mem_cons.2 ⟨ty55_ok, (List.forall_mem_cons.2 ⟨ty58_ok, (List.forall_mem_cons.2 ⟨ty60_ok, (List.forall_mem_cons.2 ⟨ty62_ok, (List.forall_mem_cons.2 ⟨ty64_ok, (List.forall_mem_cons.2 ⟨ty66_ok, (List.forall_mem_cons.2 ⟨ty71_ok, (List.forall_mem_cons.2 ⟨ty83_ok, (List.forall_mem_cons.2 ⟨ty87_ok, (List.forall_mem_cons.2 ⟨ty89_ok, (List.forall_mem_cons.2 ⟨ty90_ok, (List.forall_mem_cons.2 ⟨ty93_ok, (List.forall_mem_cons.2 ⟨ty97_ok, (fun _ h => by simp at h)⟩)⟩)⟩)⟩)⟩)⟩)⟩)⟩)⟩)⟩)⟩)⟩)⟩)⟩)⟩)⟩)⟩)⟩)⟩)⟩)⟩)⟩)⟩)⟩)⟩)⟩)⟩) h
end Go.Proofs.Ythcnnedgfndklaa
