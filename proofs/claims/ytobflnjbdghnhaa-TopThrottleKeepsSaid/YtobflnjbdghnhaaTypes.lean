/- The rows of the types that this program names. -/
import Derived.Test.YtobflnjbdghnhaaRows
import Derived.WalkKit
namespace Go.Proofs.Ytobflnjbdghnhaa
/-- A type, as the runner wants it. -/
structure TyI where
  agg : Bool
  size : Nat
  bytes : Nat
  desc : TypeDesc
  zero : Value
structure TyOk (P : Program) (t : TypeId) (i : TyI) : Prop where
  und : P.underlying t = some i.desc
  agg : ∀ w, (isAgg t).run P w = .ok i.agg w
  size : ∀ w, (sizeOf t).run P w = .ok i.size w
  zero : ∀ w, (zeroValue t).run P w = .ok i.zero w
  info : ∃ j, P.info? t = some j ∧ j.zero = some i.zero ∧ j.size = i.size ∧ j.bytes = i.bytes
def ty3 : TyI := ⟨false, 1, 8, Go.TypeDesc.int Go.IntKind.i64, (Go.Value.int Go.IntKind.i64 0)⟩
theorem ty3_ok : TyOk Try.prog 3 ty3 := ⟨Try.underlying3, Try.isAgg3, Try.sizeOf3, Try.zeroValue3, info_parts (e := 3) (by kernel_rfl)⟩
def ty4 : TyI := ⟨false, 1, 1, Go.TypeDesc.bool, (Go.Value.bool Bool.false)⟩
theorem ty4_ok : TyOk Try.prog 4 ty4 := ⟨Try.underlying4, Try.isAgg4, Try.sizeOf4, Try.zeroValue4, info_parts (e := 4) (by kernel_rfl)⟩
def ty5 : TyI := ⟨false, 1, 1, Go.TypeDesc.int Go.IntKind.u8, (Go.Value.int Go.IntKind.u8 0)⟩
theorem ty5_ok : TyOk Try.prog 5 ty5 := ⟨Try.underlying5, Try.isAgg5, Try.sizeOf5, Try.zeroValue5, info_parts (e := 5) (by kernel_rfl)⟩
def ty22 : TyI := ⟨false, 1, 24, Go.TypeDesc.slice 3, (Go.Value.slice Option.none 0 0)⟩
theorem ty22_ok : TyOk Try.prog 22 ty22 := ⟨Try.underlying22, Try.isAgg22, Try.sizeOf22, Try.zeroValue22, info_parts (e := 22) (by kernel_rfl)⟩
def ty29 : TyI := ⟨false, 1, 8, Go.TypeDesc.func #[3] #[4] Bool.false, Go.Value.nilFunc⟩
theorem ty29_ok : TyOk Try.prog 29 ty29 := ⟨Try.underlying29, Try.isAgg29, Try.sizeOf29, Try.zeroValue29, info_parts (e := 29) (by kernel_rfl)⟩
def ty30 : TyI := ⟨false, 1, 24, Go.TypeDesc.slice 47, (Go.Value.slice Option.none 0 0)⟩
theorem ty30_ok : TyOk Try.prog 30 ty30 := ⟨Try.underlying30, Try.isAgg30, Try.sizeOf30, Try.zeroValue30, info_parts (e := 30) (by kernel_rfl)⟩
def ty32 : TyI := ⟨true, 5, 56, Go.TypeDesc.struct #[{ name := "Objective", type := 3, offset := 0, embedded := Bool.false, tag := "", pkgPath := "", byteOffset := 0 }, { name := "Rate", type := 3, offset := 1, embedded := Bool.false, tag := "", pkgPath := "", byteOffset := 8 }, { name := "Time", type := 3, offset := 2, embedded := Bool.false, tag := "", pkgPath := "", byteOffset := 16 }, { name := "Backlog", type := 3, offset := 3, embedded := Bool.false, tag := "", pkgPath := "", byteOffset := 24 }, { name := "Marks", type := 30, offset := 4, embedded := Bool.false, tag := "", pkgPath := "", byteOffset := 32 }], (Go.Value.agg #[Go.Value.int Go.IntKind.i64 0, Go.Value.int Go.IntKind.i64 0, Go.Value.int Go.IntKind.i64 0, Go.Value.int Go.IntKind.i64 0, Go.Value.slice Option.none 0 0])⟩
theorem ty32_ok : TyOk Try.prog 32 ty32 := ⟨Try.underlying32, Try.isAgg32, Try.sizeOf32, Try.zeroValue32, info_parts (e := 32) (by kernel_rfl)⟩
def ty33 : TyI := ⟨false, 1, 8, Go.TypeDesc.int Go.IntKind.i64, (Go.Value.int Go.IntKind.i64 0)⟩
theorem ty33_ok : TyOk Try.prog 33 ty33 := ⟨Try.underlying33, Try.isAgg33, Try.sizeOf33, Try.zeroValue33, info_parts (e := 33) (by kernel_rfl)⟩
def ty45 : TyI := ⟨true, 5, 56, Go.TypeDesc.struct #[{ name := "Throttle", type := 32, offset := 0, embedded := Bool.true, tag := "", pkgPath := "", byteOffset := 0 }], (Go.Value.agg #[Go.Value.int Go.IntKind.i64 0, Go.Value.int Go.IntKind.i64 0, Go.Value.int Go.IntKind.i64 0, Go.Value.int Go.IntKind.i64 0, Go.Value.slice Option.none 0 0])⟩
theorem ty45_ok : TyOk Try.prog 45 ty45 := ⟨Try.underlying45, Try.isAgg45, Try.sizeOf45, Try.zeroValue45, info_parts (e := 45) (by kernel_rfl)⟩
def ty47 : TyI := ⟨true, 2, 16, Go.TypeDesc.struct #[{ name := "Time", type := 3, offset := 0, embedded := Bool.false, tag := "", pkgPath := "", byteOffset := 0 }, { name := "Total", type := 3, offset := 1, embedded := Bool.false, tag := "", pkgPath := "", byteOffset := 8 }], (Go.Value.agg #[Go.Value.int Go.IntKind.i64 0, Go.Value.int Go.IntKind.i64 0])⟩
theorem ty47_ok : TyOk Try.prog 47 ty47 := ⟨Try.underlying47, Try.isAgg47, Try.sizeOf47, Try.zeroValue47, info_parts (e := 47) (by kernel_rfl)⟩
def ty52 : TyI := ⟨false, 1, 8, Go.TypeDesc.func #[47] #[4] Bool.false, Go.Value.nilFunc⟩
theorem ty52_ok : TyOk Try.prog 52 ty52 := ⟨Try.underlying52, Try.isAgg52, Try.sizeOf52, Try.zeroValue52, info_parts (e := 52) (by kernel_rfl)⟩
def ty53 : TyI := ⟨false, 1, 8, Go.TypeDesc.pointer 45, (Go.Value.pointer Option.none)⟩
theorem ty53_ok : TyOk Try.prog 53 ty53 := ⟨Try.underlying53, Try.isAgg53, Try.sizeOf53, Try.zeroValue53, info_parts (e := 53) (by kernel_rfl)⟩
def lkT : List (Nat × TyI) → Nat → Option TyI
  | [], _ => none
  | (k, v) :: r, t => cond (Nat.beq k t) (some v) (lkT r t)
def te (t : TypeId) : Option TyI := lkT [(3, ty3), (4, ty4), (5, ty5), (22, ty22), (29, ty29), (30, ty30), (32, ty32), (33, ty33), (45, ty45), (47, ty47), (52, ty52), (53, ty53)] t
theorem lkT_ok {P : Program} : ∀ {l : List (Nat × TyI)}, (∀ p ∈ l, TyOk P p.1 p.2) → ∀ {t i}, lkT l t = some i → TyOk P t i
  | [], _, _, _, h => by simp [lkT] at h
  | (k, v) :: r, hl, t, i, h => by
    unfold lkT at h
    cases hb : Nat.beq k t
    · rw [hb] at h; exact lkT_ok (fun p hp => hl p (List.mem_cons_of_mem _ hp)) h
    · rw [hb] at h
      have := Nat.eq_of_beq_eq_true hb
      injection h with h
      subst this h
      exact hl _ List.mem_cons_self
theorem te_ok {t : TypeId} {i : TyI} (h : te t = some i) : TyOk Try.prog t i := lkT_ok (List.forall_mem_cons.2 ⟨ty3_ok, (List.forall_mem_cons.2 ⟨ty4_ok, (List.forall_mem_cons.2 ⟨ty5_ok, (List.forall_mem_cons.2 ⟨ty22_ok, (List.forall_mem_cons.2 ⟨ty29_ok, (List.forall_mem_cons.2 ⟨ty30_ok, (List.forall_mem_cons.2 ⟨ty32_ok, (List.forall_mem_cons.2 ⟨ty33_ok, (List.forall_mem_cons.2 ⟨ty45_ok, (List.forall_mem_cons.2 ⟨ty47_ok, (List.forall_mem_cons.2 ⟨ty52_ok, (List.forall_mem_cons.2 ⟨ty53_ok, (fun _ h => by simp at h)⟩)⟩)⟩)⟩)⟩)⟩)⟩)⟩)⟩)⟩)⟩)⟩) h
end Go.Proofs.Ytobflnjbdghnhaa
