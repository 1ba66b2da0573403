/- The rows of the types that this program names. -/
import Derived.Test.YtpkledpnicocmaaRows
import Derived.WalkKit
namespace Go.Proofs.Ytpkledpnicocmaa
/-- A type, as the runner wants it. -/
structure TyI where
  agg : Bool
  size : Nat
  bytes : Nat
  desc : TypeDesc
  zero : Value
structure TyOk (P : Program) (t : TypeId) (i : TyI) : Prop where
  und : P.underlying t = some i.desc
  agg : ∀ w, (isAgg t).run P w = .ok i.agg w
  size : ∀ w, (sizeOf t).run P w = .ok i.size w
  zero : ∀ w, (zeroValue t).run P w = .ok i.zero w
  info : ∃ j, P.info? t = some j ∧ j.zero = some i.zero ∧ j.size = i.size ∧ j.bytes = i.bytes
def ty3 : TyI := ⟨false, 1, 8, Go.TypeDesc.int Go.IntKind.i64, (Go.Value.int Go.IntKind.i64 0)⟩
theorem ty3_ok : TyOk Try.prog 3 ty3 := ⟨Try.underlying3, Try.isAgg3, Try.sizeOf3, Try.zeroValue3, info_parts (e := 3) (by kernel_rfl)⟩
def ty4 : TyI := ⟨false, 1, 1, Go.TypeDesc.bool, (Go.Value.bool Bool.false)⟩
theorem ty4_ok : TyOk Try.prog 4 ty4 := ⟨Try.underlying4, Try.isAgg4, Try.sizeOf4, Try.zeroValue4, info_parts (e := 4) (by kernel_rfl)⟩
def ty5 : TyI := ⟨false, 1, 1, Go.TypeDesc.int Go.IntKind.u8, (Go.Value.int Go.IntKind.u8 0)⟩
theorem ty5_ok : TyOk Try.prog 5 ty5 := ⟨Try.underlying5, Try.isAgg5, Try.sizeOf5, Try.zeroValue5, info_parts (e := 5) (by kernel_rfl)⟩
def ty22 : TyI := ⟨false, 1, 24, Go.TypeDesc.slice 3, (Go.Value.slice Option.none 0 0)⟩
theorem ty22_ok : TyOk Try.prog 22 ty22 := ⟨Try.underlying22, Try.isAgg22, Try.sizeOf22, Try.zeroValue22, info_parts (e := 22) (by kernel_rfl)⟩
def ty24 : TyI := ⟨true, 2, 32, Go.TypeDesc.struct #[{ name := "Values", type := 22, offset := 0, embedded := Bool.false, tag := "", pkgPath := "", byteOffset := 0 }, { name := "Slope", type := 3, offset := 1, embedded := Bool.false, tag := "", pkgPath := "", byteOffset := 24 }], (Go.Value.agg #[Go.Value.slice Option.none 0 0, Go.Value.int Go.IntKind.i64 0])⟩
theorem ty24_ok : TyOk Try.prog 24 ty24 := ⟨Try.underlying24, Try.isAgg24, Try.sizeOf24, Try.zeroValue24, info_parts (e := 24) (by kernel_rfl)⟩
def ty25 : TyI := ⟨true, 2, 16, Go.TypeDesc.array 2 3, (Go.Value.agg #[Go.Value.int Go.IntKind.i64 0, Go.Value.int Go.IntKind.i64 0])⟩
theorem ty25_ok : TyOk Try.prog 25 ty25 := ⟨Try.underlying25, Try.isAgg25, Try.sizeOf25, Try.zeroValue25, info_parts (e := 25) (by kernel_rfl)⟩
def ty27 : TyI := ⟨false, 1, 8, Go.TypeDesc.int Go.IntKind.i64, (Go.Value.int Go.IntKind.i64 0)⟩
theorem ty27_ok : TyOk Try.prog 27 ty27 := ⟨Try.underlying27, Try.isAgg27, Try.sizeOf27, Try.zeroValue27, info_parts (e := 27) (by kernel_rfl)⟩
def ty51 : TyI := ⟨false, 1, 8, Go.TypeDesc.func #[3, 3] #[3] Bool.false, Go.Value.nilFunc⟩
theorem ty51_ok : TyOk Try.prog 51 ty51 := ⟨Try.underlying51, Try.isAgg51, Try.sizeOf51, Try.zeroValue51, info_parts (e := 51) (by kernel_rfl)⟩
def ty54 : TyI := ⟨false, 1, 8, Go.TypeDesc.func #[3] #[4] Bool.false, Go.Value.nilFunc⟩
theorem ty54_ok : TyOk Try.prog 54 ty54 := ⟨Try.underlying54, Try.isAgg54, Try.sizeOf54, Try.zeroValue54, info_parts (e := 54) (by kernel_rfl)⟩
def ty57 : TyI := ⟨true, 2, 32, Go.TypeDesc.struct #[{ name := "Curve", type := 24, offset := 0, embedded := Bool.true, tag := "", pkgPath := "", byteOffset := 0 }], (Go.Value.agg #[Go.Value.slice Option.none 0 0, Go.Value.int Go.IntKind.i64 0])⟩
theorem ty57_ok : TyOk Try.prog 57 ty57 := ⟨Try.underlying57, Try.isAgg57, Try.sizeOf57, Try.zeroValue57, info_parts (e := 57) (by kernel_rfl)⟩
def ty58 : TyI := ⟨false, 1, 8, Go.TypeDesc.func #[3] #[3] Bool.false, Go.Value.nilFunc⟩
theorem ty58_ok : TyOk Try.prog 58 ty58 := ⟨Try.underlying58, Try.isAgg58, Try.sizeOf58, Try.zeroValue58, info_parts (e := 58) (by kernel_rfl)⟩
def ty64 : TyI := ⟨true, 2, 16, Go.TypeDesc.struct #[{ name := "base", type := 3, offset := 0, embedded := Bool.false, tag := "", pkgPath := "standby/curve", byteOffset := 0 }, { name := "slope", type := 3, offset := 1, embedded := Bool.false, tag := "", pkgPath := "standby/curve", byteOffset := 8 }], (Go.Value.agg #[Go.Value.int Go.IntKind.i64 0, Go.Value.int Go.IntKind.i64 0])⟩
theorem ty64_ok : TyOk Try.prog 64 ty64 := ⟨Try.underlying64, Try.isAgg64, Try.sizeOf64, Try.zeroValue64, info_parts (e := 64) (by kernel_rfl)⟩
def ty75 : TyI := ⟨false, 1, 8, Go.TypeDesc.int Go.IntKind.u64, (Go.Value.int Go.IntKind.u64 0)⟩
theorem ty75_ok : TyOk Try.prog 75 ty75 := ⟨Try.underlying75, Try.isAgg75, Try.sizeOf75, Try.zeroValue75, info_parts (e := 75) (by kernel_rfl)⟩
def lkT : List (Nat × TyI) → Nat → Option TyI
  | [], _ => none
  | (k, v) :: r, t => cond (Nat.beq k t) (some v) (lkT r t)
def te (t : TypeId) : Option TyI := lkT [(3, ty3), (4, ty4), (5, ty5), (22, ty22), (24, ty24), (25, ty25), (27, ty27), (51, ty51), (54, ty54), (57, ty57), (58, ty58), (64, ty64), (75, ty75)] t
theorem lkT_ok {P : Program} : ∀ {l : List (Nat × TyI)}, (∀ p ∈ l, TyOk P p.1 p.2) → ∀ {t i}, lkT l t = some i → TyOk P t i
  | [], _, _, _, h => by simp [lkT] at h
  | (k, v) :: r, hl, t, i, h => by
    unfold lkT at h
    cases hb : Nat.beq k t
    · rw [hb] at h; exact lkT_ok (fun p hp => hl p (List.mem_cons_of_mem _ hp)) h
    · rw [hb] at h
      have := Nat.eq_of_beq_eq_true hb
      injection h with h
      subst this h
      exact hl _ List.mem_cons_self
theorem te_ok {t : TypeId} {i : TyI} (h : te t = some i) : TyOk Try.prog t i := lkT_ok (List.forall_mem_cons.2 ⟨ty3_ok, (List.forall_mem_cons.2 ⟨ty4_ok, (List.forall_mem_cons.2 ⟨ty5_ok, (List.forall_mem_cons.2 ⟨ty22_ok, (List.forall_mem_cons.2 ⟨ty24_ok, (List.forall_mem_cons.2 ⟨ty25_ok, (List.forall_mem_cons.2 ⟨ty27_ok, (List.forall_mem_cons.2 ⟨ty51_ok, (List.forall_mem_cons.2 ⟨ty54_ok, (List.forall_mem_cons.2 ⟨ty57_ok, (List.forall_mem_cons.2 ⟨ty58_ok, (List.forall_mem_cons.2 ⟨ty64_ok, (List.forall_mem_cons.2 ⟨ty75_ok, (fun _ h => by simp at h)⟩)⟩)⟩)⟩)⟩)⟩)⟩)⟩)⟩)⟩)⟩)⟩)⟩) h
end Go.Proofs.Ytpkledpnicocmaa
