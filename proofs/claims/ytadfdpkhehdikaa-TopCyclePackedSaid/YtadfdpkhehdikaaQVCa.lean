/- Texts of this seat, one behind the other: Types Base Own Mem Ga Gb Gc Gd Mm Reg Ge Gf Gg Gh Gr Gi Gj Gk Arh Ari Gm Gl Gn. -/
import Derived.Test.YtadfdpkhehdikaaRows
import Derived.WalkKit
import Derived.WalkSpells
import Derived.WalkLawsBesides
import Derived.Lib.Hide
import Derived.Deep.LoopGhost
import Derived.Maps.AppendAt
import Derived.Deep.AppendLies
import Derived.Deep.RegionHeld3
import Derived.Deep.DrawnRows
import Derived.Deep.DeepCutAuto
import Derived.IntWalk
import Derived.OrdersHeld
import Derived.RangeFuncCalls
import Derived.TacticsIn
import Derived.Shelf.Abstract
import Derived.LoopN
import Derived.RangeFuncNested
import Derived.RangeFuncBound
import Derived.RangeFuncBox
import Derived.Laws.OwnMore
import Derived.Deep.Upon
import Derived.WideShapes
import Derived.ChangeSlices
import Derived.ProofKit
import Derived.OpenShut
import Derived.ShutString
import Derived.ChangeOld
import Derived.Below
import Derived.Deep.Fields
import Derived.Laws.MakeOwn
import Derived.Laws.Shifts
import Derived.Laws.BitsLemmas
set_option linter.unusedSimpArgs false
set_option linter.unusedVariables false
set_option linter.unusedSectionVars false
set_option maxRecDepth 3000
/- The rows of the types that this program names. -/
namespace Go.Proofs.Ytadfdpkhehdikaa
/-- A type, as the runner wants it. -/
structure TyI where
  agg : Bool
  size : Nat
  bytes : Nat
  desc : TypeDesc
  zero : Value
structure TyOk (P : Program) (t : TypeId) (i : TyI) : Prop where
  und : P.underlying t = some i.desc
  agg : ∀ w, (isAgg t).run P w = .ok i.agg w
  size : ∀ w, (sizeOf t).run P w = .ok i.size w
  zero : ∀ w, (zeroValue t).run P w = .ok i.zero w
  info : ∃ j, P.info? t = some j ∧ j.zero = some i.zero ∧ j.size = i.size ∧ j.bytes = i.bytes
def ty3 : TyI := ⟨false, 1, 8, Go.TypeDesc.int Go.IntKind.i64, (Go.Value.int Go.IntKind.i64 0)⟩
theorem ty3_ok : TyOk Try.prog 3 ty3 := ⟨Try.underlying3, Try.isAgg3, Try.sizeOf3, Try.zeroValue3, info_parts (e := 3) (by kernel_rfl)⟩
def ty4 : TyI := ⟨false, 1, 1, Go.TypeDesc.bool, (Go.Value.bool Bool.false)⟩
theorem ty4_ok : TyOk Try.prog 4 ty4 := ⟨Try.underlying4, Try.isAgg4, Try.sizeOf4, Try.zeroValue4, info_parts (e := 4) (by kernel_rfl)⟩
def ty5 : TyI := ⟨false, 1, 1, Go.TypeDesc.int Go.IntKind.u8, (Go.Value.int Go.IntKind.u8 0)⟩
theorem ty5_ok : TyOk Try.prog 5 ty5 := ⟨Try.underlying5, Try.isAgg5, Try.sizeOf5, Try.zeroValue5, info_parts (e := 5) (by kernel_rfl)⟩
def ty9 : TyI := ⟨false, 1, 16, Go.TypeDesc.string, (Go.Value.string { data := #[] })⟩
theorem ty9_ok : TyOk Try.prog 9 ty9 := ⟨Try.underlying9, Try.isAgg9, Try.sizeOf9, Try.zeroValue9, info_parts (e := 9) (by kernel_rfl)⟩
def ty20 : TyI := ⟨false, 1, 16, Go.TypeDesc.interface #[], Go.Value.nilIface⟩
theorem ty20_ok : TyOk Try.prog 20 ty20 := ⟨Try.underlying20, Try.isAgg20, Try.sizeOf20, Try.zeroValue20, info_parts (e := 20) (by kernel_rfl)⟩
def ty22 : TyI := ⟨false, 1, 24, Go.TypeDesc.slice 33, (Go.Value.slice Option.none 0 0)⟩
theorem ty22_ok : TyOk Try.prog 22 ty22 := ⟨Try.underlying22, Try.isAgg22, Try.sizeOf22, Try.zeroValue22, info_parts (e := 22) (by kernel_rfl)⟩
def ty23 : TyI := ⟨false, 1, 24, Go.TypeDesc.slice 4, (Go.Value.slice Option.none 0 0)⟩
theorem ty23_ok : TyOk Try.prog 23 ty23 := ⟨Try.underlying23, Try.isAgg23, Try.sizeOf23, Try.zeroValue23, info_parts (e := 23) (by kernel_rfl)⟩
def ty25 : TyI := ⟨true, 4, 56, Go.TypeDesc.struct #[{ name := "Capacity", type := 5, offset := 0, embedded := Bool.false, tag := "", pkgPath := "", byteOffset := 0 }, { name := "Chunk", type := 5, offset := 1, embedded := Bool.false, tag := "", pkgPath := "", byteOffset := 1 }, { name := "Lists", type := 22, offset := 2, embedded := Bool.false, tag := "", pkgPath := "", byteOffset := 8 }, { name := "Lost", type := 23, offset := 3, embedded := Bool.false, tag := "", pkgPath := "", byteOffset := 32 }], (Go.Value.agg #[Go.Value.int Go.IntKind.u8 0, Go.Value.int Go.IntKind.u8 0, Go.Value.slice Option.none 0 0, Go.Value.slice Option.none 0 0])⟩
theorem ty25_ok : TyOk Try.prog 25 ty25 := ⟨Try.underlying25, Try.isAgg25, Try.sizeOf25, Try.zeroValue25, info_parts (e := 25) (by kernel_rfl)⟩
def ty27 : TyI := ⟨false, 1, 24, Go.TypeDesc.slice 102, (Go.Value.slice Option.none 0 0)⟩
theorem ty27_ok : TyOk Try.prog 27 ty27 := ⟨Try.underlying27, Try.isAgg27, Try.sizeOf27, Try.zeroValue27, info_parts (e := 27) (by kernel_rfl)⟩
def ty29 : TyI := ⟨true, 2, 32, Go.TypeDesc.struct #[{ name := "Capacity", type := 3, offset := 0, embedded := Bool.false, tag := "", pkgPath := "", byteOffset := 0 }, { name := "Items", type := 27, offset := 1, embedded := Bool.false, tag := "", pkgPath := "", byteOffset := 8 }], (Go.Value.agg #[Go.Value.int Go.IntKind.i64 0, Go.Value.slice Option.none 0 0])⟩
theorem ty29_ok : TyOk Try.prog 29 ty29 := ⟨Try.underlying29, Try.isAgg29, Try.sizeOf29, Try.zeroValue29, info_parts (e := 29) (by kernel_rfl)⟩
def ty30 : TyI := ⟨false, 1, 8, Go.TypeDesc.int Go.IntKind.i64, (Go.Value.int Go.IntKind.i64 0)⟩
theorem ty30_ok : TyOk Try.prog 30 ty30 := ⟨Try.underlying30, Try.isAgg30, Try.sizeOf30, Try.zeroValue30, info_parts (e := 30) (by kernel_rfl)⟩
def ty33 : TyI := ⟨false, 1, 24, Go.TypeDesc.slice 83, (Go.Value.slice Option.none 0 0)⟩
theorem ty33_ok : TyOk Try.prog 33 ty33 := ⟨Try.underlying33, Try.isAgg33, Try.sizeOf33, Try.zeroValue33, info_parts (e := 33) (by kernel_rfl)⟩
def ty34 : TyI := ⟨false, 1, 24, Go.TypeDesc.slice 93, (Go.Value.slice Option.none 0 0)⟩
theorem ty34_ok : TyOk Try.prog 34 ty34 := ⟨Try.underlying34, Try.isAgg34, Try.sizeOf34, Try.zeroValue34, info_parts (e := 34) (by kernel_rfl)⟩
def ty46 : TyI := ⟨false, 1, 24, Go.TypeDesc.slice 84, (Go.Value.slice Option.none 0 0)⟩
theorem ty46_ok : TyOk Try.prog 46 ty46 := ⟨Try.underlying46, Try.isAgg46, Try.sizeOf46, Try.zeroValue46, info_parts (e := 46) (by kernel_rfl)⟩
def ty50 : TyI := ⟨false, 1, 24, Go.TypeDesc.slice 3, (Go.Value.slice Option.none 0 0)⟩
theorem ty50_ok : TyOk Try.prog 50 ty50 := ⟨Try.underlying50, Try.isAgg50, Try.sizeOf50, Try.zeroValue50, info_parts (e := 50) (by kernel_rfl)⟩
def ty51 : TyI := ⟨false, 1, 24, Go.TypeDesc.slice 163, (Go.Value.slice Option.none 0 0)⟩
theorem ty51_ok : TyOk Try.prog 51 ty51 := ⟨Try.underlying51, Try.isAgg51, Try.sizeOf51, Try.zeroValue51, info_parts (e := 51) (by kernel_rfl)⟩
def ty53 : TyI := ⟨true, 5, 72, Go.TypeDesc.struct #[{ name := "Base", type := 3, offset := 0, embedded := Bool.false, tag := "", pkgPath := "", byteOffset := 0 }, { name := "Number", type := 3, offset := 1, embedded := Bool.false, tag := "", pkgPath := "", byteOffset := 8 }, { name := "Time", type := 3, offset := 2, embedded := Bool.false, tag := "", pkgPath := "", byteOffset := 16 }, { name := "Positions", type := 50, offset := 3, embedded := Bool.false, tag := "", pkgPath := "", byteOffset := 24 }, { name := "Writes", type := 51, offset := 4, embedded := Bool.false, tag := "", pkgPath := "", byteOffset := 48 }], (Go.Value.agg #[Go.Value.int Go.IntKind.i64 0, Go.Value.int Go.IntKind.i64 0, Go.Value.int Go.IntKind.i64 0, Go.Value.slice Option.none 0 0, Go.Value.slice Option.none 0 0])⟩
theorem ty53_ok : TyOk Try.prog 53 ty53 := ⟨Try.underlying53, Try.isAgg53, Try.sizeOf53, Try.zeroValue53, info_parts (e := 53) (by kernel_rfl)⟩
def ty55 : TyI := ⟨false, 1, 24, Go.TypeDesc.slice 58, (Go.Value.slice Option.none 0 0)⟩
theorem ty55_ok : TyOk Try.prog 55 ty55 := ⟨Try.underlying55, Try.isAgg55, Try.sizeOf55, Try.zeroValue55, info_parts (e := 55) (by kernel_rfl)⟩
def ty58 : TyI := ⟨false, 1, 24, Go.TypeDesc.slice 5, (Go.Value.slice Option.none 0 0)⟩
theorem ty58_ok : TyOk Try.prog 58 ty58 := ⟨Try.underlying58, Try.isAgg58, Try.sizeOf58, Try.zeroValue58, info_parts (e := 58) (by kernel_rfl)⟩
def ty65 : TyI := ⟨true, 5, 72, Go.TypeDesc.struct #[{ name := "Number", type := 3, offset := 0, embedded := Bool.false, tag := "", pkgPath := "", byteOffset := 0 }, { name := "Parts", type := 3, offset := 1, embedded := Bool.false, tag := "", pkgPath := "", byteOffset := 8 }, { name := "Sum", type := 3, offset := 2, embedded := Bool.false, tag := "", pkgPath := "", byteOffset := 16 }, { name := "Have", type := 55, offset := 3, embedded := Bool.false, tag := "", pkgPath := "", byteOffset := 24 }, { name := "Seen", type := 23, offset := 4, embedded := Bool.false, tag := "", pkgPath := "", byteOffset := 48 }], (Go.Value.agg #[Go.Value.int Go.IntKind.i64 0, Go.Value.int Go.IntKind.i64 0, Go.Value.int Go.IntKind.i64 0, Go.Value.slice Option.none 0 0, Go.Value.slice Option.none 0 0])⟩
theorem ty65_ok : TyOk Try.prog 65 ty65 := ⟨Try.underlying65, Try.isAgg65, Try.sizeOf65, Try.zeroValue65, info_parts (e := 65) (by kernel_rfl)⟩
def ty76 : TyI := ⟨false, 1, 8, Go.TypeDesc.pointer 91, (Go.Value.pointer Option.none)⟩
theorem ty76_ok : TyOk Try.prog 76 ty76 := ⟨Try.underlying76, Try.isAgg76, Try.sizeOf76, Try.zeroValue76, info_parts (e := 76) (by kernel_rfl)⟩
def ty83 : TyI := ⟨true, 8, 8, Go.TypeDesc.array 8 5, (Go.Value.agg #[Go.Value.int Go.IntKind.u8 0, Go.Value.int Go.IntKind.u8 0, Go.Value.int Go.IntKind.u8 0, Go.Value.int Go.IntKind.u8 0, Go.Value.int Go.IntKind.u8 0, Go.Value.int Go.IntKind.u8 0, Go.Value.int Go.IntKind.u8 0, Go.Value.int Go.IntKind.u8 0])⟩
theorem ty83_ok : TyOk Try.prog 83 ty83 := ⟨Try.underlying83, Try.isAgg83, Try.sizeOf83, Try.zeroValue83, info_parts (e := 83) (by kernel_rfl)⟩
def ty84 : TyI := ⟨false, 1, 8, Go.TypeDesc.int Go.IntKind.u64, (Go.Value.int Go.IntKind.u64 0)⟩
theorem ty84_ok : TyOk Try.prog 84 ty84 := ⟨Try.underlying84, Try.isAgg84, Try.sizeOf84, Try.zeroValue84, info_parts (e := 84) (by kernel_rfl)⟩
def ty89 : TyI := ⟨false, 1, 8, Go.TypeDesc.map 84 27, (Go.Value.map Option.none)⟩
theorem ty89_ok : TyOk Try.prog 89 ty89 := ⟨Try.underlying89, Try.isAgg89, Try.sizeOf89, Try.zeroValue89, info_parts (e := 89) (by kernel_rfl)⟩
def ty91 : TyI := ⟨true, 3, 40, Go.TypeDesc.struct #[{ name := "table", type := 89, offset := 0, embedded := Bool.true, tag := "", pkgPath := "standby/dedup", byteOffset := 0 }, { name := "capacity", type := 3, offset := 1, embedded := Bool.false, tag := "", pkgPath := "standby/dedup", byteOffset := 8 }, { name := "items", type := 27, offset := 2, embedded := Bool.false, tag := "", pkgPath := "standby/dedup", byteOffset := 16 }], (Go.Value.agg #[Go.Value.map Option.none, Go.Value.int Go.IntKind.i64 0, Go.Value.slice Option.none 0 0])⟩
theorem ty91_ok : TyOk Try.prog 91 ty91 := ⟨Try.underlying91, Try.isAgg91, Try.sizeOf91, Try.zeroValue91, info_parts (e := 91) (by kernel_rfl)⟩
def ty93 : TyI := ⟨true, 3, 40, Go.TypeDesc.struct #[{ name := "Reference", type := 4, offset := 0, embedded := Bool.false, tag := "", pkgPath := "", byteOffset := 0 }, { name := "Digest", type := 84, offset := 1, embedded := Bool.false, tag := "", pkgPath := "", byteOffset := 8 }, { name := "Data", type := 33, offset := 2, embedded := Bool.false, tag := "", pkgPath := "", byteOffset := 16 }], (Go.Value.agg #[Go.Value.bool Bool.false, Go.Value.int Go.IntKind.u64 0, Go.Value.slice Option.none 0 0])⟩
theorem ty93_ok : TyOk Try.prog 93 ty93 := ⟨Try.underlying93, Try.isAgg93, Try.sizeOf93, Try.zeroValue93, info_parts (e := 93) (by kernel_rfl)⟩
def ty100 : TyI := ⟨false, 1, 8, Go.TypeDesc.func #[93] #[4] Bool.false, Go.Value.nilFunc⟩
theorem ty100_ok : TyOk Try.prog 100 ty100 := ⟨Try.underlying100, Try.isAgg100, Try.sizeOf100, Try.zeroValue100, info_parts (e := 100) (by kernel_rfl)⟩
def ty102 : TyI := ⟨true, 2, 32, Go.TypeDesc.struct #[{ name := "Digest", type := 84, offset := 0, embedded := Bool.false, tag := "", pkgPath := "", byteOffset := 0 }, { name := "Data", type := 33, offset := 1, embedded := Bool.false, tag := "", pkgPath := "", byteOffset := 8 }], (Go.Value.agg #[Go.Value.int Go.IntKind.u64 0, Go.Value.slice Option.none 0 0])⟩
theorem ty102_ok : TyOk Try.prog 102 ty102 := ⟨Try.underlying102, Try.isAgg102, Try.sizeOf102, Try.zeroValue102, info_parts (e := 102) (by kernel_rfl)⟩
def ty109 : TyI := ⟨false, 1, 8, Go.TypeDesc.map 84 33, (Go.Value.map Option.none)⟩
theorem ty109_ok : TyOk Try.prog 109 ty109 := ⟨Try.underlying109, Try.isAgg109, Try.sizeOf109, Try.zeroValue109, info_parts (e := 109) (by kernel_rfl)⟩
def ty112 : TyI := ⟨false, 1, 4, Go.TypeDesc.int Go.IntKind.u32, (Go.Value.int Go.IntKind.u32 0)⟩
theorem ty112_ok : TyOk Try.prog 112 ty112 := ⟨Try.underlying112, Try.isAgg112, Try.sizeOf112, Try.zeroValue112, info_parts (e := 112) (by kernel_rfl)⟩
def ty115 : TyI := ⟨true, 3, 24, Go.TypeDesc.struct #[{ name := "number", type := 3, offset := 0, embedded := Bool.false, tag := "", pkgPath := "standby/batch", byteOffset := 0 }, { name := "parts", type := 3, offset := 1, embedded := Bool.false, tag := "", pkgPath := "standby/batch", byteOffset := 8 }, { name := "sum", type := 3, offset := 2, embedded := Bool.false, tag := "", pkgPath := "standby/batch", byteOffset := 16 }], (Go.Value.agg #[Go.Value.int Go.IntKind.i64 0, Go.Value.int Go.IntKind.i64 0, Go.Value.int Go.IntKind.i64 0])⟩
theorem ty115_ok : TyOk Try.prog 115 ty115 := ⟨Try.underlying115, Try.isAgg115, Try.sizeOf115, Try.zeroValue115, info_parts (e := 115) (by kernel_rfl)⟩
def ty120 : TyI := ⟨true, 4, 32, Go.TypeDesc.struct #[{ name := "identity", type := 115, offset := 0, embedded := Bool.true, tag := "", pkgPath := "standby/batch", byteOffset := 0 }, { name := "index", type := 3, offset := 3, embedded := Bool.false, tag := "", pkgPath := "standby/batch", byteOffset := 24 }], (Go.Value.agg #[Go.Value.int Go.IntKind.i64 0, Go.Value.int Go.IntKind.i64 0, Go.Value.int Go.IntKind.i64 0, Go.Value.int Go.IntKind.i64 0])⟩
theorem ty120_ok : TyOk Try.prog 120 ty120 := ⟨Try.underlying120, Try.isAgg120, Try.sizeOf120, Try.zeroValue120, info_parts (e := 120) (by kernel_rfl)⟩
def ty124 : TyI := ⟨false, 1, 8, Go.TypeDesc.func #[58, 3] #[58] Bool.false, Go.Value.nilFunc⟩
theorem ty124_ok : TyOk Try.prog 124 ty124 := ⟨Try.underlying124, Try.isAgg124, Try.sizeOf124, Try.zeroValue124, info_parts (e := 124) (by kernel_rfl)⟩
def ty127 : TyI := ⟨false, 1, 8, Go.TypeDesc.pointer 133, (Go.Value.pointer Option.none)⟩
theorem ty127_ok : TyOk Try.prog 127 ty127 := ⟨Try.underlying127, Try.isAgg127, Try.sizeOf127, Try.zeroValue127, info_parts (e := 127) (by kernel_rfl)⟩
def ty129 : TyI := ⟨false, 1, 8, Go.TypeDesc.map 179 50, (Go.Value.map Option.none)⟩
theorem ty129_ok : TyOk Try.prog 129 ty129 := ⟨Try.underlying129, Try.isAgg129, Try.sizeOf129, Try.zeroValue129, info_parts (e := 129) (by kernel_rfl)⟩
def ty131 : TyI := ⟨true, 2, 48, Go.TypeDesc.struct #[{ name := "tokens", type := 58, offset := 0, embedded := Bool.false, tag := "", pkgPath := "standby/dictionary", byteOffset := 0 }, { name := "waiting", type := 58, offset := 1, embedded := Bool.false, tag := "", pkgPath := "standby/dictionary", byteOffset := 24 }], (Go.Value.agg #[Go.Value.slice Option.none 0 0, Go.Value.slice Option.none 0 0])⟩
theorem ty131_ok : TyOk Try.prog 131 ty131 := ⟨Try.underlying131, Try.isAgg131, Try.sizeOf131, Try.zeroValue131, info_parts (e := 131) (by kernel_rfl)⟩
def ty133 : TyI := ⟨true, 5, 88, Go.TypeDesc.struct #[{ name := "output", type := 131, offset := 0, embedded := Bool.true, tag := "", pkgPath := "standby/dictionary", byteOffset := 0 }, { name := "all", type := 58, offset := 2, embedded := Bool.false, tag := "", pkgPath := "standby/dictionary", byteOffset := 48 }, { name := "at", type := 3, offset := 3, embedded := Bool.false, tag := "", pkgPath := "standby/dictionary", byteOffset := 72 }, { name := "places", type := 129, offset := 4, embedded := Bool.false, tag := "", pkgPath := "standby/dictionary", byteOffset := 80 }], (Go.Value.agg #[Go.Value.slice Option.none 0 0, Go.Value.slice Option.none 0 0, Go.Value.slice Option.none 0 0, Go.Value.int Go.IntKind.i64 0, Go.Value.map Option.none])⟩
theorem ty133_ok : TyOk Try.prog 133 ty133 := ⟨Try.underlying133, Try.isAgg133, Try.sizeOf133, Try.zeroValue133, info_parts (e := 133) (by kernel_rfl)⟩
def ty150 : TyI := ⟨false, 1, 8, Go.TypeDesc.func #[102] #[4] Bool.false, Go.Value.nilFunc⟩
theorem ty150_ok : TyOk Try.prog 150 ty150 := ⟨Try.underlying150, Try.isAgg150, Try.sizeOf150, Try.zeroValue150, info_parts (e := 150) (by kernel_rfl)⟩
def ty163 : TyI := ⟨true, 3, 40, Go.TypeDesc.struct #[{ name := "Volume", type := 3, offset := 0, embedded := Bool.false, tag := "", pkgPath := "", byteOffset := 0 }, { name := "Start", type := 3, offset := 1, embedded := Bool.false, tag := "", pkgPath := "", byteOffset := 8 }, { name := "Data", type := 33, offset := 2, embedded := Bool.false, tag := "", pkgPath := "", byteOffset := 16 }], (Go.Value.agg #[Go.Value.int Go.IntKind.i64 0, Go.Value.int Go.IntKind.i64 0, Go.Value.slice Option.none 0 0])⟩
theorem ty163_ok : TyOk Try.prog 163 ty163 := ⟨Try.underlying163, Try.isAgg163, Try.sizeOf163, Try.zeroValue163, info_parts (e := 163) (by kernel_rfl)⟩
def ty165 : TyI := ⟨false, 1, 8, Go.TypeDesc.func #[3, 58] #[4] Bool.false, Go.Value.nilFunc⟩
theorem ty165_ok : TyOk Try.prog 165 ty165 := ⟨Try.underlying165, Try.isAgg165, Try.sizeOf165, Try.zeroValue165, info_parts (e := 165) (by kernel_rfl)⟩
def ty169 : TyI := ⟨false, 1, 24, Go.TypeDesc.slice 33, (Go.Value.slice Option.none 0 0)⟩
theorem ty169_ok : TyOk Try.prog 169 ty169 := ⟨Try.underlying169, Try.isAgg169, Try.sizeOf169, Try.zeroValue169, info_parts (e := 169) (by kernel_rfl)⟩
def ty177 : TyI := ⟨false, 1, 8, Go.TypeDesc.func #[58, 163] #[58] Bool.false, Go.Value.nilFunc⟩
theorem ty177_ok : TyOk Try.prog 177 ty177 := ⟨Try.underlying177, Try.isAgg177, Try.sizeOf177, Try.zeroValue177, info_parts (e := 177) (by kernel_rfl)⟩
def ty179 : TyI := ⟨true, 4, 4, Go.TypeDesc.array 4 5, (Go.Value.agg #[Go.Value.int Go.IntKind.u8 0, Go.Value.int Go.IntKind.u8 0, Go.Value.int Go.IntKind.u8 0, Go.Value.int Go.IntKind.u8 0])⟩
theorem ty179_ok : TyOk Try.prog 179 ty179 := ⟨Try.underlying179, Try.isAgg179, Try.sizeOf179, Try.zeroValue179, info_parts (e := 179) (by kernel_rfl)⟩
def ty183 : TyI := ⟨false, 1, 8, Go.TypeDesc.pointer 131, (Go.Value.pointer Option.none)⟩
theorem ty183_ok : TyOk Try.prog 183 ty183 := ⟨Try.underlying183, Try.isAgg183, Try.sizeOf183, Try.zeroValue183, info_parts (e := 183) (by kernel_rfl)⟩
def ty185 : TyI := ⟨false, 1, 8, Go.TypeDesc.func #[187] #[3, 30] Bool.false, Go.Value.nilFunc⟩
theorem ty185_ok : TyOk Try.prog 185 ty185 := ⟨Try.underlying185, Try.isAgg185, Try.sizeOf185, Try.zeroValue185, info_parts (e := 185) (by kernel_rfl)⟩
def ty187 : TyI := ⟨false, 1, 8, Go.TypeDesc.pointer 219, (Go.Value.pointer Option.none)⟩
theorem ty187_ok : TyOk Try.prog 187 ty187 := ⟨Try.underlying187, Try.isAgg187, Try.sizeOf187, Try.zeroValue187, info_parts (e := 187) (by kernel_rfl)⟩
def ty188 : TyI := ⟨false, 1, 8, Go.TypeDesc.pointer 3, (Go.Value.pointer Option.none)⟩
theorem ty188_ok : TyOk Try.prog 188 ty188 := ⟨Try.underlying188, Try.isAgg188, Try.sizeOf188, Try.zeroValue188, info_parts (e := 188) (by kernel_rfl)⟩
def ty189 : TyI := ⟨false, 1, 24, Go.TypeDesc.slice 188, (Go.Value.slice Option.none 0 0)⟩
theorem ty189_ok : TyOk Try.prog 189 ty189 := ⟨Try.underlying189, Try.isAgg189, Try.sizeOf189, Try.zeroValue189, info_parts (e := 189) (by kernel_rfl)⟩
def ty199 : TyI := ⟨false, 1, 8, Go.TypeDesc.func #[153] #[] Bool.false, Go.Value.nilFunc⟩
theorem ty199_ok : TyOk Try.prog 199 ty199 := ⟨Try.underlying199, Try.isAgg199, Try.sizeOf199, Try.zeroValue199, info_parts (e := 199) (by kernel_rfl)⟩
def ty200 : TyI := ⟨false, 1, 8, Go.TypeDesc.int Go.IntKind.u64, (Go.Value.int Go.IntKind.u64 0)⟩
theorem ty200_ok : TyOk Try.prog 200 ty200 := ⟨Try.underlying200, Try.isAgg200, Try.sizeOf200, Try.zeroValue200, info_parts (e := 200) (by kernel_rfl)⟩
def ty202 : TyI := ⟨false, 1, 8, Go.TypeDesc.func #[58, 83] #[58] Bool.false, Go.Value.nilFunc⟩
theorem ty202_ok : TyOk Try.prog 202 ty202 := ⟨Try.underlying202, Try.isAgg202, Try.sizeOf202, Try.zeroValue202, info_parts (e := 202) (by kernel_rfl)⟩
def ty205 : TyI := ⟨true, 256, 1024, Go.TypeDesc.array 256 112, (Go.Value.agg #[(Go.Value.int Go.IntKind.u32 0), (Go.Value.int Go.IntKind.u32 0), (Go.Value.int Go.IntKind.u32 0), (Go.Value.int Go.IntKind.u32 0), (Go.Value.int Go.IntKind.u32 0), (Go.Value.int Go.IntKind.u32 0), (Go.Value.int Go.IntKind.u32 0), (Go.Value.int Go.IntKind.u32 0), (Go.Value.int Go.IntKind.u32 0), (Go.Value.int Go.IntKind.u32 0), (Go.Value.int Go.IntKind.u32 0), (Go.Value.int Go.IntKind.u32 0), (Go.Value.int Go.IntKind.u32 0), (Go.Value.int Go.IntKind.u32 0), (Go.Value.int Go.IntKind.u32 0), (Go.Value.int Go.IntKind.u32 0), (Go.Value.int Go.IntKind.u32 0), (Go.Value.int Go.IntKind.u32 0), (Go.Value.int Go.IntKind.u32 0), (Go.Value.int Go.IntKind.u32 0), (Go.Value.int Go.IntKind.u32 0), (Go.Value.int Go.IntKind.u32 0), (Go.Value.int Go.IntKind.u32 0), (Go.Value.int Go.IntKind.u32 0), (Go.Value.int Go.IntKind.u32 0), (Go.Value.int Go.IntKind.u32 0), (Go.Value.int Go.IntKind.u32 0), (Go.Value.int Go.IntKind.u32 0), (Go.Value.int Go.IntKind.u32 0), (Go.Value.int Go.IntKind.u32 0), (Go.Value.int Go.IntKind.u32 0), (Go.Value.int Go.IntKind.u32 0), (Go.Value.int Go.IntKind.u32 0), (Go.Value.int Go.IntKind.u32 0), (Go.Value.int Go.IntKind.u32 0), (Go.Value.int Go.IntKind.u32 0), (Go.Value.int Go.IntKind.u32 0), (Go.Value.int Go.IntKind.u32 0), (Go.Value.int Go.IntKind.u32 0), (Go.Value.int Go.IntKind.u32 0), (Go.Value.int Go.IntKind.u32 0), (Go.Value.int Go.IntKind.u32 0), (Go.Value.int Go.IntKind.u32 0), (Go.Value.int Go.IntKind.u32 0), (Go.Value.int Go.IntKind.u32 0), (Go.Value.int Go.IntKind.u32 0), (Go.Value.int Go.IntKind.u32 0), (Go.Value.int Go.IntKind.u32 0), (Go.Value.int Go.IntKind.u32 0), (Go.Value.int Go.IntKind.u32 0), (Go.Value.int Go.IntKind.u32 0), (Go.Value.int Go.IntKind.u32 0), (Go.Value.int Go.IntKind.u32 0), (Go.Value.int Go.IntKind.u32 0), (Go.Value.int Go.IntKind.u32 0), (Go.Value.int Go.IntKind.u32 0), (Go.Value.int Go.IntKind.u32 0), (Go.Value.int Go.IntKind.u32 0), (Go.Value.int Go.IntKind.u32 0), (Go.Value.int Go.IntKind.u32 0), (Go.Value.int Go.IntKind.u32 0), (Go.Value.int Go.IntKind.u32 0), (Go.Value.int Go.IntKind.u32 0), (Go.Value.int Go.IntKind.u32 0), (Go.Value.int Go.IntKind.u32 0), (Go.Value.int Go.IntKind.u32 0), (Go.Value.int Go.IntKind.u32 0), (Go.Value.int Go.IntKind.u32 0), (Go.Value.int Go.IntKind.u32 0), (Go.Value.int Go.IntKind.u32 0), (Go.Value.int Go.IntKind.u32 0), (Go.Value.int Go.IntKind.u32 0), (Go.Value.int Go.IntKind.u32 0), (Go.Value.int Go.IntKind.u32 0), (Go.Value.int Go.IntKind.u32 0), (Go.Value.int Go.IntKind.u32 0), (Go.Value.int Go.IntKind.u32 0), (Go.Value.int Go.IntKind.u32 0), (Go.Value.int Go.IntKind.u32 0), (Go.Value.int Go.IntKind.u32 0), (Go.Value.int Go.IntKind.u32 0), (Go.Value.int Go.IntKind.u32 0), (Go.Value.int Go.IntKind.u32 0), (Go.Value.int Go.IntKind.u32 0), (Go.Value.int Go.IntKind.u32 0), (Go.Value.int Go.IntKind.u32 0), (Go.Value.int Go.IntKind.u32 0), (Go.Value.int Go.IntKind.u32 0), (Go.Value.int Go.IntKind.u32 0), (Go.Value.int Go.IntKind.u32 0), (Go.Value.int Go.IntKind.u32 0), (Go.Value.int Go.IntKind.u32 0), (Go.Value.int Go.IntKind.u32 0), (Go.Value.int Go.IntKind.u32 0), (Go.Value.int Go.IntKind.u32 0), (Go.Value.int Go.IntKind.u32 0), (Go.Value.int Go.IntKind.u32 0), (Go.Value.int Go.IntKind.u32 0), (Go.Value.int Go.IntKind.u32 0), (Go.Value.int Go.IntKind.u32 0), (Go.Value.int Go.IntKind.u32 0), (Go.Value.int Go.IntKind.u32 0), (Go.Value.int Go.IntKind.u32 0), (Go.Value.int Go.IntKind.u32 0), (Go.Value.int Go.IntKind.u32 0), (Go.Value.int Go.IntKind.u32 0), (Go.Value.int Go.IntKind.u32 0), (Go.Value.int Go.IntKind.u32 0), (Go.Value.int Go.IntKind.u32 0), (Go.Value.int Go.IntKind.u32 0), (Go.Value.int Go.IntKind.u32 0), (Go.Value.int Go.IntKind.u32 0), (Go.Value.int Go.IntKind.u32 0), (Go.Value.int Go.IntKind.u32 0), (Go.Value.int Go.IntKind.u32 0), (Go.Value.int Go.IntKind.u32 0), (Go.Value.int Go.IntKind.u32 0), (Go.Value.int Go.IntKind.u32 0), (Go.Value.int Go.IntKind.u32 0), (Go.Value.int Go.IntKind.u32 0), (Go.Value.int Go.IntKind.u32 0), (Go.Value.int Go.IntKind.u32 0), (Go.Value.int Go.IntKind.u32 0), (Go.Value.int Go.IntKind.u32 0), (Go.Value.int Go.IntKind.u32 0), (Go.Value.int Go.IntKind.u32 0), (Go.Value.int Go.IntKind.u32 0), (Go.Value.int Go.IntKind.u32 0), (Go.Value.int Go.IntKind.u32 0), (Go.Value.int Go.IntKind.u32 0), (Go.Value.int Go.IntKind.u32 0), (Go.Value.int Go.IntKind.u32 0), (Go.Value.int Go.IntKind.u32 0), (Go.Value.int Go.IntKind.u32 0), (Go.Value.int Go.IntKind.u32 0), (Go.Value.int Go.IntKind.u32 0), (Go.Value.int Go.IntKind.u32 0), (Go.Value.int Go.IntKind.u32 0), (Go.Value.int Go.IntKind.u32 0), (Go.Value.int Go.IntKind.u32 0), (Go.Value.int Go.IntKind.u32 0), (Go.Value.int Go.IntKind.u32 0), (Go.Value.int Go.IntKind.u32 0), (Go.Value.int Go.IntKind.u32 0), (Go.Value.int Go.IntKind.u32 0), (Go.Value.int Go.IntKind.u32 0), (Go.Value.int Go.IntKind.u32 0), (Go.Value.int Go.IntKind.u32 0), (Go.Value.int Go.IntKind.u32 0), (Go.Value.int Go.IntKind.u32 0), (Go.Value.int Go.IntKind.u32 0), (Go.Value.int Go.IntKind.u32 0), (Go.Value.int Go.IntKind.u32 0), (Go.Value.int Go.IntKind.u32 0), (Go.Value.int Go.IntKind.u32 0), (Go.Value.int Go.IntKind.u32 0), (Go.Value.int Go.IntKind.u32 0), (Go.Value.int Go.IntKind.u32 0), (Go.Value.int Go.IntKind.u32 0), (Go.Value.int Go.IntKind.u32 0), (Go.Value.int Go.IntKind.u32 0), (Go.Value.int Go.IntKind.u32 0), (Go.Value.int Go.IntKind.u32 0), (Go.Value.int Go.IntKind.u32 0), (Go.Value.int Go.IntKind.u32 0), (Go.Value.int Go.IntKind.u32 0), (Go.Value.int Go.IntKind.u32 0), (Go.Value.int Go.IntKind.u32 0), (Go.Value.int Go.IntKind.u32 0), (Go.Value.int Go.IntKind.u32 0), (Go.Value.int Go.IntKind.u32 0), (Go.Value.int Go.IntKind.u32 0), (Go.Value.int Go.IntKind.u32 0), (Go.Value.int Go.IntKind.u32 0), (Go.Value.int Go.IntKind.u32 0), (Go.Value.int Go.IntKind.u32 0), (Go.Value.int Go.IntKind.u32 0), (Go.Value.int Go.IntKind.u32 0), (Go.Value.int Go.IntKind.u32 0), (Go.Value.int Go.IntKind.u32 0), (Go.Value.int Go.IntKind.u32 0), (Go.Value.int Go.IntKind.u32 0), (Go.Value.int Go.IntKind.u32 0), (Go.Value.int Go.IntKind.u32 0), (Go.Value.int Go.IntKind.u32 0), (Go.Value.int Go.IntKind.u32 0), (Go.Value.int Go.IntKind.u32 0), (Go.Value.int Go.IntKind.u32 0), (Go.Value.int Go.IntKind.u32 0), (Go.Value.int Go.IntKind.u32 0), (Go.Value.int Go.IntKind.u32 0), (Go.Value.int Go.IntKind.u32 0), (Go.Value.int Go.IntKind.u32 0), (Go.Value.int Go.IntKind.u32 0), (Go.Value.int Go.IntKind.u32 0), (Go.Value.int Go.IntKind.u32 0), (Go.Value.int Go.IntKind.u32 0), (Go.Value.int Go.IntKind.u32 0), (Go.Value.int Go.IntKind.u32 0), (Go.Value.int Go.IntKind.u32 0), (Go.Value.int Go.IntKind.u32 0), (Go.Value.int Go.IntKind.u32 0), (Go.Value.int Go.IntKind.u32 0), (Go.Value.int Go.IntKind.u32 0), (Go.Value.int Go.IntKind.u32 0), (Go.Value.int Go.IntKind.u32 0), (Go.Value.int Go.IntKind.u32 0), (Go.Value.int Go.IntKind.u32 0), (Go.Value.int Go.IntKind.u32 0), (Go.Value.int Go.IntKind.u32 0), (Go.Value.int Go.IntKind.u32 0), (Go.Value.int Go.IntKind.u32 0), (Go.Value.int Go.IntKind.u32 0), (Go.Value.int Go.IntKind.u32 0), (Go.Value.int Go.IntKind.u32 0), (Go.Value.int Go.IntKind.u32 0), (Go.Value.int Go.IntKind.u32 0), (Go.Value.int Go.IntKind.u32 0), (Go.Value.int Go.IntKind.u32 0), (Go.Value.int Go.IntKind.u32 0), (Go.Value.int Go.IntKind.u32 0), (Go.Value.int Go.IntKind.u32 0), (Go.Value.int Go.IntKind.u32 0), (Go.Value.int Go.IntKind.u32 0), (Go.Value.int Go.IntKind.u32 0), (Go.Value.int Go.IntKind.u32 0), (Go.Value.int Go.IntKind.u32 0), (Go.Value.int Go.IntKind.u32 0), (Go.Value.int Go.IntKind.u32 0), (Go.Value.int Go.IntKind.u32 0), (Go.Value.int Go.IntKind.u32 0), (Go.Value.int Go.IntKind.u32 0), (Go.Value.int Go.IntKind.u32 0), (Go.Value.int Go.IntKind.u32 0), (Go.Value.int Go.IntKind.u32 0), (Go.Value.int Go.IntKind.u32 0), (Go.Value.int Go.IntKind.u32 0), (Go.Value.int Go.IntKind.u32 0), (Go.Value.int Go.IntKind.u32 0), (Go.Value.int Go.IntKind.u32 0), (Go.Value.int Go.IntKind.u32 0), (Go.Value.int Go.IntKind.u32 0), (Go.Value.int Go.IntKind.u32 0), (Go.Value.int Go.IntKind.u32 0), (Go.Value.int Go.IntKind.u32 0), (Go.Value.int Go.IntKind.u32 0), (Go.Value.int Go.IntKind.u32 0), (Go.Value.int Go.IntKind.u32 0), (Go.Value.int Go.IntKind.u32 0), (Go.Value.int Go.IntKind.u32 0), (Go.Value.int Go.IntKind.u32 0), (Go.Value.int Go.IntKind.u32 0), (Go.Value.int Go.IntKind.u32 0), (Go.Value.int Go.IntKind.u32 0), (Go.Value.int Go.IntKind.u32 0), (Go.Value.int Go.IntKind.u32 0)])⟩
theorem ty205_ok : TyOk Try.prog 205 ty205 := ⟨Try.underlying205, Try.isAgg205, Try.sizeOf205, Try.zeroValue205, info_parts (e := 205) (by kernel_rfl)⟩
def ty210 : TyI := ⟨false, 1, 8, Go.TypeDesc.func #[3] #[33] Bool.false, Go.Value.nilFunc⟩
theorem ty210_ok : TyOk Try.prog 210 ty210 := ⟨Try.underlying210, Try.isAgg210, Try.sizeOf210, Try.zeroValue210, info_parts (e := 210) (by kernel_rfl)⟩
def ty212 : TyI := ⟨false, 1, 8, Go.TypeDesc.func #[3] #[4] Bool.false, Go.Value.nilFunc⟩
theorem ty212_ok : TyOk Try.prog 212 ty212 := ⟨Try.underlying212, Try.isAgg212, Try.sizeOf212, Try.zeroValue212, info_parts (e := 212) (by kernel_rfl)⟩
def ty215 : TyI := ⟨false, 1, 8, Go.TypeDesc.func #[163] #[30] Bool.false, Go.Value.nilFunc⟩
theorem ty215_ok : TyOk Try.prog 215 ty215 := ⟨Try.underlying215, Try.isAgg215, Try.sizeOf215, Try.zeroValue215, info_parts (e := 215) (by kernel_rfl)⟩
def ty219 : TyI := ⟨true, 1, 24, Go.TypeDesc.struct #[{ name := "left", type := 58, offset := 0, embedded := Bool.false, tag := "", pkgPath := "standby/wire", byteOffset := 0 }], (Go.Value.agg #[Go.Value.slice Option.none 0 0])⟩
theorem ty219_ok : TyOk Try.prog 219 ty219 := ⟨Try.underlying219, Try.isAgg219, Try.sizeOf219, Try.zeroValue219, info_parts (e := 219) (by kernel_rfl)⟩
def ty222 : TyI := ⟨true, 1, 8, Go.TypeDesc.struct #[{ name := "e", type := 30, offset := 0, embedded := Bool.false, tag := "", pkgPath := "standby/cycle", byteOffset := 0 }], (Go.Value.agg #[Go.Value.int Go.IntKind.i64 0])⟩
theorem ty222_ok : TyOk Try.prog 222 ty222 := ⟨Try.underlying222, Try.isAgg222, Try.sizeOf222, Try.zeroValue222, info_parts (e := 222) (by kernel_rfl)⟩
def ty227 : TyI := ⟨false, 1, 8, Go.TypeDesc.func #[187] #[50, 30] Bool.false, Go.Value.nilFunc⟩
theorem ty227_ok : TyOk Try.prog 227 ty227 := ⟨Try.underlying227, Try.isAgg227, Try.sizeOf227, Try.zeroValue227, info_parts (e := 227) (by kernel_rfl)⟩
def ty231 : TyI := ⟨false, 1, 8, Go.TypeDesc.func #[187] #[163, 30] Bool.false, Go.Value.nilFunc⟩
theorem ty231_ok : TyOk Try.prog 231 ty231 := ⟨Try.underlying231, Try.isAgg231, Try.sizeOf231, Try.zeroValue231, info_parts (e := 231) (by kernel_rfl)⟩
def ty233 : TyI := ⟨false, 1, 8, Go.TypeDesc.func #[187] #[51, 30] Bool.false, Go.Value.nilFunc⟩
theorem ty233_ok : TyOk Try.prog 233 ty233 := ⟨Try.underlying233, Try.isAgg233, Try.sizeOf233, Try.zeroValue233, info_parts (e := 233) (by kernel_rfl)⟩
def ty236 : TyI := ⟨false, 1, 8, Go.TypeDesc.func #[187] #[33, 30] Bool.false, Go.Value.nilFunc⟩
theorem ty236_ok : TyOk Try.prog 236 ty236 := ⟨Try.underlying236, Try.isAgg236, Try.sizeOf236, Try.zeroValue236, info_parts (e := 236) (by kernel_rfl)⟩
def ty249 : TyI := ⟨false, 1, 8, Go.TypeDesc.func #[187] #[83, 30] Bool.false, Go.Value.nilFunc⟩
theorem ty249_ok : TyOk Try.prog 249 ty249 := ⟨Try.underlying249, Try.isAgg249, Try.sizeOf249, Try.zeroValue249, info_parts (e := 249) (by kernel_rfl)⟩
def ty255 : TyI := ⟨false, 1, 8, Go.TypeDesc.func #[33] #[3] Bool.false, Go.Value.nilFunc⟩
theorem ty255_ok : TyOk Try.prog 255 ty255 := ⟨Try.underlying255, Try.isAgg255, Try.sizeOf255, Try.zeroValue255, info_parts (e := 255) (by kernel_rfl)⟩
def lkT : List (Nat × TyI) → Nat → Option TyI
  | [], _ => none
  | (k, v) :: r, t => cond (Nat.beq k t) (some v) (lkT r t)
def te (t : TypeId) : Option TyI := lkT [(3, ty3), (4, ty4), (5, ty5), (9, ty9), (20, ty20), (22, ty22), (23, ty23), (25, ty25), (27, ty27), (29, ty29), (30, ty30), (33, ty33), (34, ty34), (46, ty46), (50, ty50), (51, ty51), (53, ty53), (55, ty55), (58, ty58), (65, ty65), (76, ty76), (83, ty83), (84, ty84), (89, ty89), (91, ty91), (93, ty93), (100, ty100), (102, ty102), (109, ty109), (112, ty112), (115, ty115), (120, ty120), (124, ty124), (127, ty127), (129, ty129), (131, ty131), (133, ty133), (150, ty150), (163, ty163), (165, ty165), (169, ty169), (177, ty177), (179, ty179), (183, ty183), (185, ty185), (187, ty187), (188, ty188), (189, ty189), (199, ty199), (200, ty200), (202, ty202), (205, ty205), (210, ty210), (212, ty212), (215, ty215), (219, ty219), (222, ty222), (227, ty227), (231, ty231), (233, ty233), (236, ty236), (249, ty249), (255, ty255)] t
theorem lkT_ok {P : Program} : ∀ {l : List (Nat × TyI)}, (∀ p ∈ l, TyOk P p.1 p.2) → ∀ {t i}, lkT l t = some i → TyOk P t i
  | [], _, _, _, h => by simp [lkT] at h
  | (k, v) :: r, hl, t, i, h => by
    unfold lkT at h
    cases hb : Nat.beq k t
    · rw [hb] at h; exact lkT_ok (fun p hp => hl p (List.mem_cons_of_mem _ hp)) h
    · rw [hb] at h
      have := Nat.eq_of_beq_eq_true hb
      injection h with h
      subst this h
      exact hl _ List.mem_cons_self
theorem te_ok {t : TypeId} {i : TyI} (h : te t = some i) : TyOk Try.prog t i := lkT_ok (List.forall_mem_cons.2 ⟨ty3_ok, (List.forall_mem_cons.2 ⟨ty4_ok, (List.forall_mem_cons.2 ⟨ty5_ok, (List.forall_mem_cons.2 ⟨ty9_ok, (List.forall_mem_cons.2 ⟨ty20_ok, (List.forall_mem_cons.2 ⟨ty22_ok, (List.forall_mem_cons.2 ⟨ty23_ok, (List.forall_mem_cons.2 ⟨ty25_ok, (List.forall_mem_cons.2 ⟨ty27_ok, (List.forall_mem_cons.2 ⟨ty29_ok, (List.forall_mem_cons.2 ⟨ty30_ok, (List.forall_mem_cons.2 ⟨ty33_ok, (List.forall_mem_cons.2 ⟨ty34_ok, (List.forall_mem_cons.2 ⟨ty46_ok, (List.forall_mem_cons.2 ⟨ty50_ok, (List.forall_mem_cons.2 ⟨ty51_ok, (List.forall_mem_cons.2 ⟨ty53_ok, (List.forall_mem_cons.2 ⟨ty55_ok, (List.forall_mem_cons.2 ⟨ty58_ok, (List.forall_mem_cons.2 ⟨ty65_ok, (List.forall_mem_cons.2 ⟨ty76_ok, (List.forall_mem_cons.2 ⟨ty83_ok, (List.forall_mem_cons.2 ⟨ty84_ok, (List.forall_mem_cons.2 ⟨ty89_ok, (List.forall_mem_cons.2 ⟨ty91_ok, (List.forall_mem_cons.2 ⟨ty93_ok, (List.forall_mem_cons.2 ⟨ty100_ok, (List.forall_mem_cons.2 ⟨ty102_ok, (List.forall_mem_cons.2 ⟨ty109_ok, (List.forall_mem_cons.2 ⟨ty112_ok, (List.forall_mem_cons.2 ⟨ty115_ok, (List.forall_mem_cons.2 ⟨ty120_ok, (List.forall_mem_cons.2 ⟨ty124_ok, (List.forall_mem_cons.2 ⟨ty127_ok, (List.forall_mem_cons.2 ⟨ty129_ok, (List.forall_mem_cons.2 ⟨ty131_ok, (List.forall_mem_cons.2 ⟨ty133_ok, (List.forall_mem_cons.2 ⟨ty150_ok, (List.forall_mem_cons.2 ⟨ty163_ok, (List.forall_mem_cons.2 ⟨ty165_ok, (List.forall_mem_cons.2 ⟨ty169_ok, (List.forall_mem_cons.2 ⟨ty177_ok, (List.forall_mem_cons.2 ⟨ty179_ok, (List.forall_mem_cons.2 ⟨ty183_ok, (List.forall_mem_cons.2 ⟨ty185_ok, (List.forall_mem_cons.2 ⟨ty187_ok, (List.forall_mem_cons.2 ⟨ty188_ok, (List.forall_mem_cons.2 ⟨ty189_ok, (List.forall_mem_cons.2 ⟨ty199_ok, (List.forall_mem_cons.2 ⟨ty200_ok, (List.forall_mem_cons.2 ⟨ty202_ok, (List.forall_mem_cons.2 ⟨ty205_ok, (List.forall_mem_cons.2 ⟨ty210_ok, (List.forall_mem_cons.2 ⟨ty212_ok, (List.forall_mem_cons.2 ⟨ty215_ok, (List.forall_mem_cons.2 ⟨ty219_ok, (List.forall_mem_cons.2 ⟨ty222_ok, (List.forall_mem_cons.2 ⟨ty227_ok, (List.forall_mem_cons.2 ⟨ty231_ok, (List.forall_mem_cons.2 ⟨ty233_ok, (List.forall_mem_cons.2 ⟨ty236_ok, (List.forall_mem_cons.2 ⟨ty249_ok, (List.forall_mem_cons.2 ⟨ty255_ok, (fun _ h => by simp at h)⟩)⟩)⟩)⟩)⟩)⟩)⟩)⟩)⟩)⟩)⟩)⟩)⟩)⟩)⟩)⟩)⟩)⟩)⟩)⟩)⟩)⟩)⟩)⟩)⟩)⟩)⟩)⟩)⟩)⟩)⟩)⟩)⟩)⟩)⟩)⟩)⟩)⟩)⟩)⟩)⟩)⟩)⟩)⟩)⟩)⟩)⟩)⟩)⟩)⟩)⟩)⟩)⟩)⟩)⟩)⟩)⟩)⟩)⟩)⟩)⟩)⟩)⟩) h
end Go.Proofs.Ytadfdpkhehdikaa


/- What it means that a slice in memory holds a list, and small facts on worlds that grow; used by all walks of this seat. -/
namespace Go.Proofs.Ytadfdpkhehdikaa
open Go.RowKit

/-- The slice that begins at a holds the list l, each element in one cell. -/
def Reads {α : Type} (enc : α → Value) (w : World) (a : Option Addr) (l : List α) : Prop :=
  ∀ i x, l[i]? = some x → ∃ b off, a = some ⟨b, off, none⟩ ∧ b < w.heap.size ∧ w.cell? ⟨b, off + i, none⟩ = some (enc x)
/-- Nothing that was there has turned. -/
def Since (w w' : World) : Prop := Below w.heap.size w w'
theorem Since.refl (w : World) : Since w w := Below.refl _ _
theorem Since.trans {a b c : World} (h : Since a b) (k : Since b c) : Since a c := Below.trans h (Below.mono k h.size)
theorem Since.alloc {a w : World} (h : Since a w) (o : Obj) : Since a (w.alloc o) := Below.alloc h h.size o
theorem Since.drew {a w : World} (h : Since a w) : Since a w.drew := Below.drew h
theorem Since.setCell {a w : World} (h : Since a w) {p : Addr} (hp : a.heap.size ≤ p.block) (v : Value) : Since a (w.setCell p v) := Below.setCell h hp v
theorem Reads.since {α : Type} {enc : α → Value} {w w' : World} {a : Option Addr} {l : List α} (h : Reads enc w a l) (hs : Since w w') : Reads enc w' a l := by
  intro i x hx
  obtain ⟨b, off, rfl, hb, hc⟩ := h i x hx
  exact ⟨b, off, rfl, Nat.lt_of_lt_of_le hb hs.size, (Below.cell (p := ⟨b, off + i, none⟩) hs hb).trans hc⟩
theorem Reads.nil {α : Type} (enc : α → Value) (w : World) (a : Option Addr) : Reads enc w a [] := fun i x h => by simp at h
theorem get_of_lt {α : Type} {l : List α} {i : Nat} (h : i < l.length) : ∃ x, l[i]? = some x := ⟨l[i], by simp [h]⟩
/-- What a world that has grown keeps of one block, as rules for the walk. -/
theorem Since.at {w w' : World} {β : Nat} (h : Since w w') (hb : β < w.heap.size) : (∀ o, w'.cell? ⟨β, o, none⟩ = w.cell? ⟨β, o, none⟩) ∧ (∀ o, w'.frozen? ⟨β, o, none⟩ = w.frozen? ⟨β, o, none⟩) ∧ β < w'.heap.size :=
  ⟨fun o => Below.cell (p := ⟨β, o, none⟩) h hb, fun o => Below.frozen (p := ⟨β, o, none⟩) h hb, Nat.lt_of_lt_of_le hb h.size⟩
/-- What a world that has grown keeps, as rules for the walk. -/
theorem Since.rules {w w' : World} (h : Since w w') : (∀ b o, b < w.heap.size → w'.cell? ⟨b, o, none⟩ = w.cell? ⟨b, o, none⟩) ∧ (∀ b o, b < w.heap.size → w'.frozen? ⟨b, o, none⟩ = w.frozen? ⟨b, o, none⟩) ∧ (∀ b, b < w.heap.size → b < w'.heap.size) :=
  ⟨fun b o hb => Below.cell (p := ⟨b, o, none⟩) h hb, fun b o hb => Below.frozen (p := ⟨b, o, none⟩) h hb, fun b hb => Nat.lt_of_lt_of_le hb h.size⟩
theorem not_true {b : Bool} (h : Hid ((!b) = true)) : b = false := by have := h.out; simpa using this
end Go.Proofs.Ytadfdpkhehdikaa


/- Slices that a call makes and appends to: which blocks they own, that no two share one, and what an append does to all of them. -/
namespace Go.Proofs.Ytadfdpkhehdikaa
open Go.RowKit

/-- A block that holds just these cells, and may be written. -/
def Box (w : World) (b : Nat) (cs : Array Value) (T : TypeId) : Prop := w.heap[b]? = some (.cells cs T (0, 0))
theorem Box.lt {w : World} {b : Nat} {cs : Array Value} {T : TypeId} (h : Box w b cs T) : b < w.heap.size := (Array.getElem?_eq_some_iff.1 h).1
theorem Box.rules {w : World} {b : Nat} {cs : Array Value} {T : TypeId} (h : Box w b cs T) : (∀ o, w.cell? ⟨b, o, none⟩ = cs[o]?) ∧ (∀ o, w.frozen? ⟨b, o, none⟩ = false) ∧ b < w.heap.size :=
  ⟨fun o => by simp [World.cell?, show w.heap[b]? = _ from h], fun o => by simp [World.frozen?, show w.heap[b]? = _ from h], h.lt⟩
theorem Box.of_block {w w' : World} {b : Nat} {cs : Array Value} {T : TypeId} (h : Box w b cs T) (e : w'.heap[b]? = w.heap[b]?) : Box w' b cs T := e.trans h
theorem Box.new (w : World) (cs : Array Value) (T : TypeId) : Box (w.alloc (.cells cs T)) w.heap.size cs T := heap_alloc_new w _
theorem Box.at {w : World} {b : Nat} (h : w.heap.size = b) (cs : Array Value) (T : TypeId) : Box (w.alloc (.cells cs T)) b cs T := h ▸ Box.new w cs T
theorem Box.alloc {w : World} {b : Nat} {cs : Array Value} {T : TypeId} (h : Box w b cs T) (o : Obj) : Box (w.alloc o) b cs T := h.of_block (Below.heap_alloc w o b h.lt)
theorem Box.drew {w : World} {b : Nat} {cs : Array Value} {T : TypeId} (h : Box w b cs T) : Box w.drew b cs T := h
theorem Box.since {w w' : World} {b : Nat} {cs : Array Value} {T : TypeId} (h : Box w b cs T) (hs : Since w w') : Box w' b cs T := h.of_block (hs.block b h.lt)
theorem Box.grown {w w' : World} {b : Nat} {cs : Array Value} {T : TypeId} {row : Option Nat} (h : Box w b cs T) (hg : w.grownBy w' row) (hne : some b ≠ row) : Box w' b cs T := h.of_block (hg.block b h.lt hne)
theorem Box.set {w : World} {b : Nat} {cs : Array Value} {T : TypeId} (h : Box w b cs T) (i : Nat) (v : Value) : Box (w.setCell ⟨b, i, none⟩ v) b (cs.setIfInBounds i v) T := by
  unfold Box at h ⊢
  simp [World.setCell, Array.getElem?_modify, h]
theorem Box.setOther {w : World} {b : Nat} {cs : Array Value} {T : TypeId} (h : Box w b cs T) {a : Addr} (hne : b ≠ a.block) (v : Value) : Box (w.setCell a v) b cs T :=
  h.of_block (Below.heap_setCell _ _ _ _ hne)

/-- A slice that owns its row: elements of type e, size cells each. -/
structure Ent where
  e : TypeId
  size : Nat
  v : Value
  n : Nat
  xs : List Value
/-- The slices of L own their rows, in blocks from base on, and no two share one. -/
structure Owns (w : World) (base : Nat) (L : List Ent) : Prop where
  own : ∀ x ∈ L, w.ownsRow base x.e x.size x.v x.n x.xs
  apart : L.Pairwise fun x y => x.v.ownBlock = none ∨ x.v.ownBlock ≠ y.v.ownBlock
theorem Owns.nil (w : World) (base : Nat) : Owns w base [] := ⟨by simp, .nil⟩
theorem Owns.cons {w : World} {base : Nat} {L : List Ent} (h : Owns w base L) (e : TypeId) (size : Nat) : Owns w base (⟨e, size, .slice none 0 0, 0, []⟩ :: L) :=
  ⟨by intro x hx; rcases List.mem_cons.1 hx with rfl | hx; exact World.ownsRow_nil _ _ _ _; exact h.own x hx, .cons (fun y _ => .inl rfl) h.apart⟩
theorem Owns.get {w : World} {base : Nat} {L : List Ent} (h : Owns w base L) {i : Nat} {x : Ent} (hx : L[i]? = some x) : w.ownsRow base x.e x.size x.v x.n x.xs := h.own x (List.mem_of_getElem? hx)
theorem Owns.of {w w' : World} {base : Nat} {L : List Ent} (h : Owns w base L) (hk : ∀ b, base ≤ b → b < w.heap.size → w'.heap[b]? = w.heap[b]?) : Owns w' base L := by
  refine ⟨fun x hx => ?_, h.apart⟩
  obtain ⟨h1, h2⟩ := h.own x hx
  refine ⟨h1, ?_⟩
  rcases h2 with h2 | ⟨g, cap, cur, e1, e2, e3, r⟩
  · exact .inl h2
  · exact .inr ⟨g, cap, cur, e1, e2, by rw [hk g e2 (Array.getElem?_eq_some_iff.1 e3).1]; exact e3, r⟩
theorem Owns.of2 {w w' : World} {base : Nat} {L : List Ent} (h : Owns w base L) (hk : ∀ x ∈ L, ∀ k, x.v.ownBlock = some k → w'.heap[k]? = w.heap[k]?) : Owns w' base L := by
  refine ⟨fun x hx => ?_, h.apart⟩
  obtain ⟨h1, h2⟩ := h.own x hx
  refine ⟨h1, ?_⟩
  rcases h2 with h2 | ⟨g, cap, cur, e1, e2, e3, r⟩
  · exact .inl h2
  · exact .inr ⟨g, cap, cur, e1, e2, by rw [hk x hx g (by rw [e1]; rfl)]; exact e3, r⟩
theorem Owns.since {w w' : World} {base : Nat} {L : List Ent} (h : Owns w base L) (hs : Since w w') : Owns w' base L := h.of fun b _ hb => hs.block b hb
theorem Owns.alloc {w : World} {base : Nat} {L : List Ent} (h : Owns w base L) (o : Obj) : Owns (w.alloc o) base L := h.of fun b _ hb => Below.heap_alloc w o b hb
theorem Owns.drew {w : World} {base : Nat} {L : List Ent} (h : Owns w base L) : Owns w.drew base L := h.of fun _ _ _ => rfl
theorem Owns.setCell {w : World} {base : Nat} {L : List Ent} (h : Owns w base L) {a : Addr} (ha : a.block < base) (v : Value) : Owns (w.setCell a v) base L :=
  h.of fun b hb _ => Below.heap_setCell _ _ _ _ (by omega)
theorem Owns.lt {w : World} {base : Nat} {L : List Ent} (h : Owns w base L) {x : Ent} (hx : x ∈ L) : ∀ k, x.v.ownBlock = some k → base ≤ k ∧ k < w.heap.size := (h.own x hx).lt
/-- What an append to slice i does. -/
theorem Owns.set {w w' : World} {base : Nat} {L : List Ent} (h : Owns w base L) {i : Nat} {x : Ent} (hx : L[i]? = some x) {v' : Value} {n' : Nat} {xs' : List Value}
    (hown : w'.ownsRow base x.e x.size v' n' xs') (hg : w.grownBy w' x.v.ownBlock) (hat : v'.ownBlock = x.v.ownBlock ∨ v'.ownBlock = some w.heap.size) :
    Owns w' base (L.set i ⟨x.e, x.size, v', n', xs'⟩) := by
  have hi : i < L.length := by
    rcases Nat.lt_or_ge i L.length with g | g
    · exact g
    · rw [List.getElem?_eq_none g] at hx; cases hx
  have hxi : L[i] = x := by rw [List.getElem?_eq_getElem hi] at hx; injection hx
  have hap := List.pairwise_iff_getElem.1 h.apart
  have key : ∀ (j : Nat) (hj : j < L.length), j ≠ i → L[j].v.ownBlock = none ∨ L[j].v.ownBlock ≠ x.v.ownBlock := by
    intro j hj hne
    rcases Nat.lt_or_ge j i with g | g
    · have := hap j i hj hi g; rw [hxi] at this; exact this
    · rcases hap i j hi hj (by omega) with q | q
      · rw [hxi] at q
        cases hb : L[j].v.ownBlock with
        | none => exact .inl rfl
        | some k => right; rw [q]; simp
      · rw [hxi] at q; exact .inr fun e => q e.symm
  refine ⟨fun y hy => ?_, ?_⟩
  · obtain ⟨j, hj, hyj⟩ := List.getElem_of_mem hy
    rw [List.getElem_set] at hyj
    split at hyj
    · subst hyj; exact hown
    · rename_i hne
      subst hyj
      have hj' : j < L.length := by simpa using hj
      exact (h.own L[j] (List.getElem_mem _)).kept hg (key j hj' (fun e => hne e.symm))
  · rw [List.pairwise_iff_getElem]
    intro a b ha hb hab
    have ha' : a < L.length := by simpa using ha
    have hb' : b < L.length := by simpa using hb
    have hlt : ∀ (j : Nat) (hj : j < L.length), j ≠ i → L[j].v.ownBlock = none ∨ L[j].v.ownBlock ≠ v'.ownBlock := by
      intro j hj hne
      rcases hat with e | e
      · rw [e]; exact key j hj hne
      · right
        intro e2
        rw [e] at e2
        have := h.lt (List.getElem_mem hj) _ e2
        omega
    rw [List.getElem_set, List.getElem_set]
    by_cases e1 : i = a
    · rw [if_pos e1, if_neg (by omega)]
      rcases hlt b hb' (by omega) with q | q
      · by_cases hn : v'.ownBlock = none
        · exact .inl hn
        · exact .inr fun e => hn (e.trans q)
      · exact .inr fun e => q e.symm
    · rw [if_neg e1]
      by_cases e2 : i = b
      · rw [if_pos e2]; exact hlt a ha' (by omega)
      · rw [if_neg e2]; exact hap a b ha' hb' hab
/-- An owned slice of one-cell elements, read. -/
theorem ownsRow_reads {α : Type} {enc : α → Value} {w : World} {base : Nat} {e : TypeId} {v : Value} {l : List α} (h : w.ownsRow base e 1 v l.length (l.map enc)) :
    ∃ a c, v = .slice a l.length c ∧ Reads enc w a l := by
  rcases h.2 with ⟨rfl, h0⟩ | ⟨g, cap, cur, rfl, hb, hg, hnc, hcm, hcs, htake⟩
  · have : l = [] := List.eq_nil_of_length_eq_zero h0
    subst this
    exact ⟨none, 0, rfl, Reads.nil _ _ _⟩
  · refine ⟨_, cap, rfl, fun i x hx => ⟨g, 0, rfl, (Array.getElem?_eq_some_iff.1 hg).1, ?_⟩⟩
    have hi : i < l.length := by
      rcases Nat.lt_or_ge i l.length with q | q
      · exact q
      · rw [List.getElem?_eq_none q] at hx; cases hx
    rw [cell_of_row w g (0 + i) cur e (0, 0) hg]
    have h2 : (cur.toList.take (l.length * 1))[i]? = (l.map enc)[i]? := by rw [htake]
    rw [List.getElem?_take, if_pos (by omega), List.getElem?_map, hx] at h2
    simpa using h2
theorem own_ints {α : Type} {enc : α → Value} {w : World} {base : Nat} {e : TypeId} {v : Value} {n : Nat} {l : List α} (h : w.ownsRow base e 1 v n (l.map enc)) :
    ∃ a c, v = .slice a n c ∧ Reads enc w a l ∧ l.length = n := by
  have hn : l.length = n := by have := h.1; simpa using this
  subst hn
  obtain ⟨a, c, h1, h2⟩ := ownsRow_reads h
  exact ⟨a, c, h1, h2, rfl⟩
theorem own_reads {α : Type} {enc : α → Value} {w : World} {base : Nat} {e : TypeId} {a : Option Addr} {m c n : Nat} {l : List α} (h : w.ownsRow base e 1 (.slice a m c) n (l.map enc)) : Reads enc w a l := by
  obtain ⟨a', c', h1, h2, _⟩ := own_ints h
  injection h1 with h1
  rw [h1]; exact h2
end Go.Proofs.Ytadfdpkhehdikaa


/- What a call's own memory holds: boxes whose cells are known, and slices that own their rows; no two share a block. How each kind of step turns it. -/
namespace Go.Proofs.Ytadfdpkhehdikaa
open Go.RowKit

structure BoxE where
  b : Nat
  cs : Array Value
  T : TypeId
/-- Since w0 nothing old has turned; the boxes bs and the rows of L are the call's own. -/
structure Mem (w0 : World) (bs : List BoxE) (L : List Ent) (w : World) : Prop where
  since : Since w0 w
  box : ∀ x ∈ bs, Box w x.b x.cs x.T
  new : ∀ x ∈ bs, w0.heap.size ≤ x.b
  two : bs.Pairwise fun x y => x.b ≠ y.b
  own : Owns w w0.heap.size L
  far : ∀ x ∈ bs, ∀ y ∈ L, y.v.ownBlock ≠ some x.b
theorem Mem.start {w0 w : World} (h : Since w0 w) : Mem w0 [] [] w := ⟨h, by simp, by simp, .nil, Owns.nil _ _, by simp⟩
theorem Mem.keep {w0 w w' : World} {bs : List BoxE} {L : List Ent} (m : Mem w0 bs L w) (h : Since w w') : Mem w0 bs L w' :=
  ⟨m.since.trans h, fun x hx => (m.box x hx).since h, m.new, m.two, m.own.since h, m.far⟩
theorem Mem.alloc {w0 w : World} {bs : List BoxE} {L : List Ent} (m : Mem w0 bs L w) (o : Obj) : Mem w0 bs L (w.alloc o) := m.keep ((Since.refl w).alloc o)
theorem Mem.drew {w0 w : World} {bs : List BoxE} {L : List Ent} (m : Mem w0 bs L w) : Mem w0 bs L w.drew := m.keep (Since.refl w).drew
/-- A new box. -/
theorem Mem.addBox {w0 w : World} {bs : List BoxE} {L : List Ent} (m : Mem w0 bs L w) {b : Nat} (hb : w.heap.size = b) (cs : Array Value) (T : TypeId) : Mem w0 (bs ++ [⟨b, cs, T⟩]) L (w.alloc (.cells cs T)) := by
  have m' := m.alloc (.cells cs T)
  refine ⟨m'.since, ?_, ?_, ?_, m'.own, ?_⟩
  · intro x hx
    rcases List.mem_append.1 hx with hx | hx
    · exact m'.box x hx
    · rw [List.mem_singleton] at hx; subst hx; exact Box.at hb cs T
  · intro x hx
    rcases List.mem_append.1 hx with hx | hx
    · exact m.new x hx
    · rw [List.mem_singleton] at hx; subst hx; have := m.since.size; show _ ≤ b; omega
  · rw [List.pairwise_append]
    refine ⟨m.two, .cons (by simp) .nil, ?_⟩
    intro x hx y hy
    rw [List.mem_singleton] at hy; subst hy
    have := (m.box x hx).lt
    show x.b ≠ b; omega
  · intro x hx y hy
    rcases List.mem_append.1 hx with hx | hx
    · exact m.far x hx y hy
    · rw [List.mem_singleton] at hx; subst hx
      intro e
      have := m.own.lt hy _ e
      have h2 : b < w.heap.size := this.2
      omega
/-- Boxes forgotten. -/
theorem Mem.sub {w0 w : World} {bs bs' : List BoxE} {L : List Ent} (m : Mem w0 bs L w) (h : bs'.Sublist bs) : Mem w0 bs' L w :=
  ⟨m.since, fun x hx => m.box x (h.subset hx), fun x hx => m.new x (h.subset hx), m.two.sublist h, m.own, fun x hx => m.far x (h.subset hx)⟩
/-- A nil slice more. -/
theorem Mem.addNil {w0 w : World} {bs : List BoxE} {L : List Ent} (m : Mem w0 bs L w) (e : TypeId) (size : Nat) : Mem w0 bs (⟨e, size, .slice none 0 0, 0, []⟩ :: L) w :=
  ⟨m.since, m.box, m.new, m.two, m.own.cons e size, fun x hx y hy => by rcases List.mem_cons.1 hy with rfl | hy; (simp [Value.ownBlock]); exact m.far x hx y hy⟩
/-- The walk's rules on box j. -/
theorem Mem.rules {w0 w : World} {bs : List BoxE} {L : List Ent} (m : Mem w0 bs L w) (j : Nat) {b : Nat} {cs : Array Value} {T : TypeId} (hj : bs[j]? = some ⟨b, cs, T⟩) :
    (∀ o, w.cell? ⟨b, o, none⟩ = cs[o]?) ∧ (∀ o, w.frozen? ⟨b, o, none⟩ = false) ∧ b < w.heap.size := (m.box _ (List.mem_of_getElem? hj)).rules
theorem Mem.at {w0 w : World} {bs : List BoxE} {L : List Ent} (m : Mem w0 bs L w) (j : Nat) {b : Nat} {cs : Array Value} {T : TypeId} (hj : bs[j]? = some ⟨b, cs, T⟩) : Box w b cs T := m.box _ (List.mem_of_getElem? hj)
/-- A store into box j. -/
theorem Mem.store {w0 w : World} {bs : List BoxE} {L : List Ent} (m : Mem w0 bs L w) (j : Nat) {b : Nat} {cs : Array Value} {T : TypeId} (hj : bs[j]? = some ⟨b, cs, T⟩) (i : Nat) (v : Value) :
    Mem w0 (bs.set j ⟨b, cs.setIfInBounds i v, T⟩) L (w.setCell ⟨b, i, none⟩ v) := by
  have hmem := List.mem_of_getElem? hj
  have hjl : j < bs.length := by
    rcases Nat.lt_or_ge j bs.length with g | g
    · exact g
    · rw [List.getElem?_eq_none g] at hj; cases hj
  have hbj : bs[j] = ⟨b, cs, T⟩ := by rw [List.getElem?_eq_getElem hjl] at hj; injection hj
  have htwo := List.pairwise_iff_getElem.1 m.two
  have hne : ∀ (k : Nat) (hk : k < bs.length), k ≠ j → bs[k].b ≠ b := by
    intro k hk e
    rcases Nat.lt_or_ge k j with g | g
    · have := htwo k j hk hjl g; rw [hbj] at this; exact this
    · have := htwo j k hjl hk (by omega); rw [hbj] at this; exact fun e => this e.symm
  have hmems : ∀ x ∈ bs.set j ⟨b, cs.setIfInBounds i v, T⟩, x = ⟨b, cs.setIfInBounds i v, T⟩ ∨ (x ∈ bs ∧ x.b ≠ b) := by
    intro x hx
    obtain ⟨k, hk, hxk⟩ := List.getElem_of_mem hx
    rw [List.getElem_set] at hxk
    split at hxk
    · exact .inl hxk.symm
    · rename_i hn
      subst hxk
      have hk' : k < bs.length := by simpa using hk
      exact .inr ⟨List.getElem_mem _, hne k hk' (fun e => hn e.symm)⟩
  refine ⟨m.since.setCell (m.new _ hmem) v, ?_, ?_, ?_, ?_, ?_⟩
  · intro x hx
    rcases hmems x hx with rfl | ⟨h1, h2⟩
    · exact (m.box ⟨b, cs, T⟩ hmem).set i v
    · exact (m.box x h1).setOther h2 v
  · intro x hx
    rcases hmems x hx with rfl | ⟨h1, h2⟩
    · exact m.new ⟨b, cs, T⟩ hmem
    · exact m.new x h1
  · rw [List.pairwise_iff_getElem]
    intro x y hx hy hxy
    have hx' : x < bs.length := by simpa using hx
    have hy' : y < bs.length := by simpa using hy
    rw [List.getElem_set, List.getElem_set]
    by_cases e1 : j = x
    · rw [if_pos e1, if_neg (by omega)]; exact fun e => hne y hy' (by omega) e.symm
    · rw [if_neg e1]
      by_cases e2 : j = y
      · rw [if_pos e2]; exact hne x hx' (by omega)
      · rw [if_neg e2]; exact htwo x y hx' hy' hxy
  · exact m.own.of2 fun x hx k hk => Below.heap_setCell _ _ _ _ (fun e => m.far _ hmem x hx (by rw [hk, e]))
  · intro x hx y hy
    rcases hmems x hx with rfl | ⟨h1, h2⟩
    · exact m.far ⟨b, cs, T⟩ hmem y hy
    · exact m.far x h1 y hy
/-- What an append to slice i does. -/
theorem Mem.app {w0 w w' : World} {bs : List BoxE} {L : List Ent} (m : Mem w0 bs L w) {i : Nat} {x : Ent} (hx : L[i]? = some x) {v' : Value} {n' : Nat} {xs' : List Value}
    (hown : w'.ownsRow w0.heap.size x.e x.size v' n' xs') (hg : w.grownBy w' x.v.ownBlock) (hat : v'.ownBlock = x.v.ownBlock ∨ v'.ownBlock = some w.heap.size) :
    Mem w0 bs (L.set i ⟨x.e, x.size, v', n', xs'⟩) w' := by
  have hxm := List.mem_of_getElem? hx
  refine ⟨?_, ?_, m.new, m.two, m.own.set hx hown hg hat, ?_⟩
  · exact Below.grown m.since hg m.since.size (fun k hk => (m.own.lt hxm k hk).1)
  · intro b hb
    exact (m.box b hb).grown hg (fun e => m.far b hb x hxm e.symm)
  · intro b hb y hy
    rcases List.mem_or_eq_of_mem_set hy with hy | rfl
    · exact m.far b hb y hy
    · show v'.ownBlock ≠ some b.b
      rcases hat with e | e
      · rw [e]; exact m.far b hb x hxm
      · rw [e]
        intro e2
        have := (m.box b hb).lt
        injection e2 with e2
        omega
theorem one_int (k : IntKind) (n : Int) : ∀ u ∈ [Value.int k n], u.oneCell' = true := by intro u hu; simp at hu; subst hu; rfl
end Go.Proofs.Ytadfdpkhehdikaa


/- A small walker of our own: frames as lists of slots, pure operations run by evaluation. -/
namespace Go.Proofs.Ytadfdpkhehdikaa
open Go.RowKit

/-! Frames -/
def lk : List (Nat × Value) → Nat → Option Value
  | [], _ => none
  | (k, v) :: r, t => cond (Nat.beq k t) (some v) (lk r t)
def ev (l : List (Nat × Value)) : Operand → Option Value
  | .tmp t => lk l t
  | .const v => some v
  | .global g => some (.pointer (some ⟨g, 0, none⟩))
  | .func f => some (.func (.func f) #[] #[])
def evL (l : List (Nat × Value)) : List Operand → Option (List Value)
  | [] => some []
  | x :: r => match ev l x with
    | some v => match evL l r with
      | some vs => some (v :: vs)
      | none => none
    | none => none
def evP (l : List (Nat × Value)) : List (Nat × Operand) → Option (List (Nat × Value))
  | [] => some []
  | (i, x) :: r => match ev l x with
    | some v => match evP l r with
      | some vs => some ((i, v) :: vs)
      | none => none
    | none => none
/-- What is known of a frame: its slots. -/
structure Fr (n : Nat) (ds : List Deferred) (l : List (Nat × Value)) (a : Act) : Prop where
  size : a.tmps.size = n
  defs : a.defers = ds
  get : ∀ t v, lk l t = some v → a.tmps.getD t undef = v
theorem Fr.eval {n : Nat} {ds : List Deferred} {l : List (Nat × Value)} {a : Act} (h : Fr n ds l a) {x : Operand} {v : Value} (hx : ev l x = some v) : a.eval x = v := by
  cases x with
  | tmp t => exact h.get t v hx
  | const c => injection hx
  | global g => injection hx
  | func f => injection hx
theorem Fr.evalL {n : Nat} {ds : List Deferred} {l : List (Nat × Value)} {a : Act} (h : Fr n ds l a) : ∀ {xs : List Operand} {vs : List Value}, evL l xs = some vs → xs.map a.eval = vs
  | [], vs, hx => by injection hx
  | x :: r, vs, hx => by
    unfold evL at hx
    split at hx
    · rename_i v hv
      split at hx
      · rename_i us hu
        injection hx with hx
        rw [← hx, List.map_cons, h.eval hv, h.evalL hu]
      · cases hx
    · cases hx
theorem Fr.evalP {n : Nat} {ds : List Deferred} {l : List (Nat × Value)} {a : Act} (h : Fr n ds l a) : ∀ {xs : List (Nat × Operand)} {vs : List (Nat × Value)}, evP l xs = some vs → (xs.map fun (i, x) => (i, a.eval x)) = vs
  | [], vs, hx => by injection hx
  | (i, x) :: r, vs, hx => by
    unfold evP at hx
    split at hx
    · rename_i v hv
      split at hx
      · rename_i us hu
        injection hx with hx
        rw [← hx, List.map_cons, h.evalP hu]
        simp only [h.eval hv]
      · cases hx
    · cases hx
theorem Fr.put {n : Nat} {ds : List Deferred} {l : List (Nat × Value)} {a : Act} (h : Fr n ds l a) {d : Nat} (hd : Nat.blt d n = true) (v : Value) : Fr n ds ((d, v) :: l) (a.put (some d) v) := by
  have hd : d < n := by simpa using hd
  refine ⟨by simp [Act.put, h.size], h.defs, fun t u hu => ?_⟩
  unfold lk at hu
  cases hb : Nat.beq d t
  · rw [hb] at hu
    have hne : d ≠ t := fun e => by subst e; simp at hb
    have := h.get t u hu
    simp only [Act.put, Array.getD_eq_getD_getElem?, Array.getElem?_setIfInBounds_ne hne] at this ⊢
    exact this
  · rw [hb] at hu
    injection hu with hu
    have := Nat.eq_of_beq_eq_true hb
    subst this hu
    have hlt : d < a.tmps.size := by rw [h.size]; exact hd
    simp [Act.put, hlt]
/-- What is wanted of a frame, out of what is known. -/
inductive Sub (l : List (Nat × Value)) : List (Nat × Value) → Prop
  | nil : Sub l []
  | cons {t : Nat} {v v' : Value} {r : List (Nat × Value)} : lk l t = some v → v = v' → Sub l r → Sub l ((t, v') :: r)
theorem Sub.get {l : List (Nat × Value)} : ∀ {l' : List (Nat × Value)}, Sub l l' → ∀ t v, lk l' t = some v → lk l t = some v
  | _, .nil, _, _, h => by simp [lk] at h
  | _, .cons (t := k) h1 h2 r, t, v, h => by
    unfold lk at h
    cases hb : Nat.beq k t
    · rw [hb] at h; exact r.get t v h
    · rw [hb] at h
      injection h with h
      have := Nat.eq_of_beq_eq_true hb
      subst this h h2
      exact h1
theorem Fr.sub {n : Nat} {ds : List Deferred} {l l' : List (Nat × Value)} {a : Act} (h : Fr n ds l a) (s : Sub l l') : Fr n ds l' a := ⟨h.size, h.defs, fun t v hv => h.get t v (s.get t v hv)⟩
/-- The frame at a function's start. -/
def startL : Nat → List Value → List (Nat × Value)
  | _, [] => []
  | k, v :: r => (k, v) :: startL (k + 1) r
theorem startL_get : ∀ {vs : List Value} {k t : Nat} {v : Value}, lk (startL k vs) t = some v → k ≤ t ∧ vs[t - k]? = some v
  | [], _, _, _, h => by simp [startL, lk] at h
  | u :: r, k, t, v, h => by
    unfold startL lk at h
    cases hb : Nat.beq k t
    · rw [hb] at h
      have hne : k ≠ t := fun e => by subst e; simp at hb
      have := startL_get h
      refine ⟨by omega, ?_⟩
      rw [show t - k = (t - (k + 1)) + 1 from by omega]
      exact this.2
    · rw [hb] at h
      have := Nat.eq_of_beq_eq_true hb
      subst this
      exact ⟨Nat.le_refl _, by simpa using h⟩
theorem Fr.start {fn : Func} {vs : List Value} {n : Nat} (hn : fn.ntmps = n) (hl : Nat.ble vs.length n = true) : Fr n [] (startL 0 vs) { tmps := vs.toArray ++ Array.replicate (fn.ntmps - vs.toArray.size) undef, defers := [] } := by
  have hl : vs.length ≤ n := by simpa using hl
  refine ⟨by simp [hn]; omega, rfl, fun t v h => ?_⟩
  obtain ⟨_, h2⟩ := startL_get h
  have ht : t < vs.length := by
    rcases Nat.lt_or_ge t vs.length with g | g
    · exact g
    · rw [List.getElem?_eq_none (by omega)] at h2; cases h2
  simp only [Nat.sub_zero] at h2
  rw [Array.getD_eq_getD_getElem?, Array.getElem?_append_left (by simpa using ht)]
  simp [h2]

/-! Pure operations -/
/-- The value of a sum, difference, product: as it is, or taken modulo the kind's size; and what is to be shown for it. -/
def rngO : IntKind → Int → Option (Value × Prop)
  | .i64, z => some (.int .i64 z, -9223372036854775808 ≤ z ∧ z ≤ 9223372036854775807)
  | .i32, z => some (.int .i32 z, -2147483648 ≤ z ∧ z ≤ 2147483647)
  | .u64, z => some (.int .u64 (z % 18446744073709551616), True)
  | .u32, z => some (.int .u32 (z % 4294967296), True)
  | .u16, z => some (.int .u16 (z % 65536), True)
  | .u8, z => some (.int .u8 (z % 256), True)
  | _, _ => none
theorem rngO_ok {k : IntKind} {z : Int} {v : Value} {p : Prop} (h : rngO k z = some (v, p)) (hp : p) : v = .int k (k.wrap z) := by
  cases k <;> simp only [rngO, Option.some.injEq, Prod.mk.injEq, reduceCtorEq] at h <;> obtain ⟨rfl, rfl⟩ := h
  · rw [IntWalk.i32_in _ hp]
  · rw [IntWalk.i64_in _ hp]
  · rw [IntKind.wrap_u8]
  · rw [IntKind.wrap_u16]
  · rw [IntKind.wrap_u32]
  · rw [IntKind.wrap_u64]
def intOp (op : BinOp) (k : IntKind) (x y : Int) : Option (Value × Prop) :=
  match op with
  | .add => rngO k (x + y)
  | .sub => rngO k (x - y)
  | .mul => rngO k (x * y)
  | .quo => match k with
    | .i64 => some (.int .i64 (x / y), 0 ≤ x ∧ x ≤ 9223372036854775807 ∧ 1 ≤ y)
    | .u64 => some (.int .u64 (x / y), 0 ≤ x ∧ x ≤ 18446744073709551615 ∧ 1 ≤ y)
    | _ => none
  | .rem => some (.int k (x % y), 0 ≤ x ∧ y ≠ 0)
  | .eql => some (.bool (decide (x = y)), True)
  | .neq => some (.bool (decide (¬ x = y)), True)
  | .lss => some (.bool (decide (x < y)), True)
  | .leq => some (.bool (decide (x ≤ y)), True)
  | .gtr => some (.bool (decide (y < x)), True)
  | .geq => some (.bool (decide (y ≤ x)), True)
  | _ => none
theorem intOp_ok {P : Program} {op : BinOp} {k : IntKind} {x y : Int} {v : Value} {p : Prop} (h : intOp op k x y = some (v, p)) (hp : p) (t : TypeId) (w : World) : (binOp op t (.int k x) (.int k y)).run P w = .ok v w := by
  cases op <;> simp only [intOp] at h
  case add => rw [rngO_ok h hp]; simp [binOp, Op.intArith]
  case sub => rw [rngO_ok h hp]; simp [binOp, Op.intArith]
  case mul => rw [rngO_ok h hp]; simp [binOp, Op.intArith]
  case quo =>
    cases k <;> simp only [Option.some.injEq, Prod.mk.injEq, reduceCtorEq] at h <;> obtain ⟨rfl, rfl⟩ := h
    · simp [binOp, Op.intDiv, show y ≠ 0 by omega, IntWalk.i64_quo x y hp]
    · simp [binOp, Op.intDiv, show y ≠ 0 by omega, IntWalk.u64_quo x y hp]
  case rem =>
    simp only [Option.some.injEq, Prod.mk.injEq] at h
    obtain ⟨rfl, rfl⟩ := h
    simp [binOp, Op.intDiv, hp.2, IntWalk.rem_in x y hp.1]
  all_goals
    simp only [Option.some.injEq, Prod.mk.injEq, reduceCtorEq] at h
  all_goals
    obtain ⟨rfl, rfl⟩ := h
    simp [binOp, Op.intCmp]
  · rw [Bool.eq_iff_iff]; simp
  · rw [Bool.eq_iff_iff]; simp
theorem eqGuard_int {P : Program} {op : BinOp} {t : TypeId} {x y : Operand} {k k' : IntKind} {a b : Int} (w : World) : (eqGuard op t x y (.int k a) (.int k' b)).run P w = .ok () w := by
  unfold eqGuard
  cases op <;> simp
end Go.Proofs.Ytadfdpkhehdikaa


/- The runner of pure operations, and that it tells the truth. -/
namespace Go.Proofs.Ytadfdpkhehdikaa
open Go.RowKit

/-- The address of element i of a slice that begins at a. -/
@[irreducible] def adr (a : Addr) (i : Int) (size : Nat) : Addr := a.add (i.toNat * size)
/-- Where a part of a slice begins. -/
@[irreducible] def sadr (a : Option Addr) (l m size : Nat) : Option Addr := if m = l then a else a.map (·.add (l * size))
def tyD (t : TypeId) : Option TypeDesc := match te t with | some ⟨_, _, _, d, _⟩ => some d | none => none
def tyS (t : TypeId) : Option Nat := match te t with | some ⟨_, n, _, _, _⟩ => some n | none => none
set_option maxRecDepth 20000 in
theorem tyD_ok {t : TypeId} {d : TypeDesc} (h : tyD t = some d) : Try.prog.underlying t = some d := by
  unfold tyD at h
  cases hi : te t with
  | none => rw [hi] at h; cases h
  | some i => rw [hi] at h; have h2 : some i.desc = some d := h; injection h2 with h2; subst h2; exact (te_ok hi).und
theorem tyD_run {t : TypeId} {d : TypeDesc} (h : tyD t = some d) (w : World) : (underlying t).run Try.prog w = .ok d w := run_underlying (tyD_ok h) w
set_option maxRecDepth 20000 in
theorem tyS_run {t : TypeId} {n : Nat} (h : tyS t = some n) (w : World) : (sizeOf t).run Try.prog w = .ok n w := by
  unfold tyS at h
  cases hi : te t with
  | none => rw [hi] at h; cases h
  | some i => rw [hi] at h; have h2 : some i.size = some n := h; injection h2 with h2; subst h2; exact (te_ok hi).size w
/-- Put cells at a place of a list. -/
def setAt : List Value → Nat → List Value → Option (List Value)
  | l, _, [] => some l
  | [], _, _ :: _ => none
  | _ :: l, 0, v :: vs => match setAt l 0 vs with | some r => some (v :: r) | none => none
  | c :: l, k + 1, vs => match setAt l k vs with | some r => some (c :: r) | none => none
def fillL (place : Nat → Option (Nat × Nat)) : List Value → List (Nat × Value) → Option (List Value)
  | cs, [] => some cs
  | cs, (i, v) :: r => match place i with
    | some (off, size) => match Nat.beq v.cells.toList.length size && Nat.ble (off + size) cs.length with
      | true => match setAt cs off v.cells.toList with
        | some cs' => fillL place cs' r
        | none => none
      | false => none
    | none => none
theorem foldl_set (off : Nat) : ∀ (vs : List Value) (j : Nat) (cs : List Value), ((vs.zipIdx j).foldl (fun (cs : Array Value) (cj : Value × Nat) => cs.setIfInBounds (off + cj.2) cj.1) cs.toArray).toList = (vs.zipIdx j).foldl (fun (cs : List Value) (cj : Value × Nat) => cs.set (off + cj.2) cj.1) cs
  | [], j, cs => by simp
  | v :: vs, j, cs => by
    simp only [List.zipIdx_cons, List.foldl_cons]
    have : cs.toArray.setIfInBounds (off + j) v = (cs.set (off + j) v).toArray := by simp
    rw [this, foldl_set off vs (j + 1)]
theorem setAt_set : ∀ {l : List Value} {k : Nat} {v : Value} {vs r : List Value}, setAt l k (v :: vs) = some r → setAt (l.set k v) (k + 1) vs = some r
  | [], k, v, vs, r, h => by simp [setAt] at h
  | c :: l, 0, v, vs, r, h => by
    unfold setAt at h
    cases vs with
    | nil => simp [setAt] at h ⊢; exact h
    | cons u vs => simp only [List.set_cons_zero]; unfold setAt; exact h
  | c :: l, k + 1, v, vs, r, h => by
    unfold setAt at h
    split at h
    · rename_i r' hr
      injection h with h; subst h
      have := setAt_set hr
      simp only [List.set_cons_succ]
      cases vs with
      | nil => simp [setAt] at this ⊢; exact this
      | cons u vs => unfold setAt; rw [this]
    · cases h
theorem setAt_fold : ∀ {vs : List Value} {l : List Value} {off j : Nat} {r : List Value}, setAt l (off + j) vs = some r → (vs.zipIdx j).foldl (fun (cs : List Value) (cj : Value × Nat) => cs.set (off + cj.2) cj.1) l = r
  | [], l, off, j, r, h => by simp [setAt] at h; simpa using h
  | v :: vs, l, off, j, r, h => by
    simp only [List.zipIdx_cons, List.foldl_cons]
    exact setAt_fold (j := j + 1) (setAt_set h)
theorem fillL_ok {place : Nat → Option (Nat × Nat)} : ∀ {parts : List (Nat × Value)} {cs r : List Value}, fillL place cs parts = some r → Instr.fill place cs.toArray parts = some r.toArray
  | [], cs, r, h => by simp [fillL] at h; simp [Instr.fill, h]
  | (i, v) :: rest, cs, r, h => by
    unfold fillL at h
    unfold Instr.fill
    split at h
    · rename_i off size hp
      rw [hp]
      simp only
      split at h
      · rename_i hb
        rw [Bool.and_eq_true] at hb
        have hb1 := Nat.eq_of_beq_eq_true hb.1
        have hb2 := Nat.le_of_ble_eq_true hb.2
        split at h
        · rename_i cs' hs
          have hz : v.cells.size = size := by simpa using hb1
          rw [if_neg (by simp [hz]; omega)]
          have hf : (v.cells.zipIdx.foldl (fun cs (c, j) => cs.setIfInBounds (off + j) c) cs.toArray) = cs'.toArray := by
            rw [← Array.foldl_toList, Array.toList_zipIdx]
            apply Array.ext'
            have h1 := foldl_set off v.cells.toList 0 cs
            have h2 := setAt_fold (l := cs) (off := off) (j := 0) (vs := v.cells.toList) (r := cs') (by simpa using hs)
            rw [h2] at h1
            exact h1
          rw [hf]
          exact fillL_ok h
        · cases h
      · cases h
    · cases h
end Go.Proofs.Ytadfdpkhehdikaa


/- The runner of pure operations. -/
namespace Go.Proofs.Ytadfdpkhehdikaa
open Go.RowKit
def unO : UnOp → Value → Option (Value × Prop)
  | .not, .bool b => some (.bool (!b), True)
  | .neg, .int k n => rngO k (0 - n)
  | _, _ => none
def binO (op : BinOp) : Value → Value → Option (Value × Prop)
  | .int k x, .int k' y => match k, k' with
    | .i64, .i64 => intOp op .i64 x y
    | .u64, .u64 => intOp op .u64 x y
    | .u8, .u8 => intOp op .u8 x y
    | .i32, .i32 => intOp op .i32 x y
    | _, _ => none
  | _, _ => none
/-- Cells of a row, as a value of a type. -/
def rdV (T : TypeId) (cs : List Value) (off : Nat) : Option Value :=
  match te T with
  | some ⟨agg, size, _, _, _⟩ => match agg with
    | true => match seg cs off size with
      | some r => some (.agg r.toArray)
      | none => none
    | false => at' cs off
  | none => none
where
  seg : List Value → Nat → Nat → Option (List Value)
    | _, _, 0 => some []
    | [], _, _ + 1 => none
    | c :: cs, 0, n + 1 => match seg cs 0 n with | some r => some (c :: r) | none => none
    | _ :: cs, k + 1, n + 1 => seg cs k (n + 1)
  at' : List Value → Nat → Option Value
    | [], _ => none
    | c :: _, 0 => some c
    | _ :: cs, k + 1 => at' cs k
theorem rdV.at'_eq : ∀ (cs : List Value) (k : Nat), rdV.at' cs k = cs[k]?
  | [], _ => by simp [rdV.at']
  | c :: cs, 0 => by simp [rdV.at']
  | c :: cs, k + 1 => by simp [rdV.at', rdV.at'_eq cs k]
theorem rdV.seg_eq : ∀ {cs : List Value} {k n : Nat} {r : List Value}, rdV.seg cs k n = some r → r = (cs.drop k).take n ∧ r.length = n
  | _, _, 0, r, h => by simp [rdV.seg] at h; subst h; simp
  | [], _, n + 1, r, h => by simp [rdV.seg] at h
  | c :: cs, 0, n + 1, r, h => by
    unfold rdV.seg at h
    split at h
    · rename_i r' hr
      injection h with h; subst h
      have := rdV.seg_eq hr
      constructor
      · rw [this.1]; simp
      · simp [this.2]
    · cases h
  | c :: cs, k + 1, n + 1, r, h => by
    unfold rdV.seg at h
    have := rdV.seg_eq h
    simpa using this
def extO : List Value → Nat → Option Value
  | [], _ => none
  | c :: _, 0 => some c
  | _ :: cs, k + 1 => extO cs k
theorem extO_eq : ∀ (cs : List Value) (k : Nat), extO cs k = cs[k]?
  | [], _ => by simp [extO]
  | c :: cs, 0 => by simp [extO]
  | c :: cs, k + 1 => by simp [extO, extO_eq cs k]
def placesO (fs : List Field) : Option (List (Nat × Nat)) := match fs with
  | [] => some []
  | f :: r => match tyS f.type with
    | some n => match placesO r with
      | some ps => some ((f.offset, n) :: ps)
      | none => none
    | none => none
def getO {α : Type} : List α → Nat → Option α
  | [], _ => none
  | c :: _, 0 => some c
  | _ :: cs, k + 1 => getO cs k
theorem getO_eq {α : Type} : ∀ (cs : List α) (k : Nat), getO cs k = cs[k]?
  | [], _ => by simp [getO]
  | c :: cs, 0 => by simp [getO]
  | c :: cs, k + 1 => by simp [getO, getO_eq cs k]
/-- What a pure operation yields, and what is to be shown for it. -/
def pureO (l : List (Nat × Value)) : Op → Option (Value × Prop)
  | .move x => match ev l x with | some v => some (v, True) | none => none
  | .assign x => match ev l x with | some v => some (v, True) | none => none
  | .pick c x y => match ev l c with
    | some (.bool b) => match ev l x, ev l y with
      | some u, some v => match b with
        | true => some (u, True)
        | false => some (v, True)
      | _, _ => none
    | _ => none
  | .binOp op _ x y _ => match ev l x, ev l y with
    | some u, some v => binO op u v
    | _, _ => none
  | .unOp op _ x => match ev l x with | some u => unO op u | none => none
  | .extract x i => match ev l x with
    | some (.tuple ⟨vs⟩) => match extO vs i with | some v => some (v, True) | none => none
    | _ => none
  | .makeFunc fn ⟨first⟩ ⟨capt⟩ => match evL l first, evL l capt with
    | some f, some c => some (.func fn f.toArray c.toArray, True)
    | _, _ => none
  | .nilCheck x => match ev l x with
    | some (.pointer (some a)) => some (.pointer (some a), True)
    | some (.func (.func f) ⟨fi⟩ ⟨ca⟩) => some (.func (.func f) fi.toArray ca.toArray, True)
    | _ => none
  | .fieldAddr s x i => match tyD s with
    | some (.struct ⟨fs⟩) => match getO fs i with
      | some f => match tyS f.type with
        | some (_ + 1) => match ev l x with
          | some (.pointer (some ⟨b, o, none⟩)) => some (.pointer (some ⟨b, o + f.offset, none⟩), True)
          | some (.pointer (some a)) => some (.pointer (some (a.add f.offset)), True)
          | _ => none
        | _ => none
      | none => none
    | _ => none
  | .field s x i => match tyD s with
    | some (.struct ⟨fs⟩) => match getO fs i with
      | some f => match ev l x with
        | some (.agg ⟨cs⟩) => match rdV f.type cs f.offset with | some v => some (v, True) | none => none
        | _ => none
      | none => none
    | _ => none
  | .indexAddr t x i => match tyD t with
    | some (.slice e) => match tyS e with
      | some n => match ev l x, ev l i with
        | some (.slice (some a) len _), some (.int _ j) => some (.pointer (some (adr a j n)), 0 ≤ j ∧ j < len)
        | _, _ => none
      | none => none
    | some (.array len e) => match tyS e with
      | some n => match i with
        | .const (.int _ (.ofNat j)) => match ev l x with
          | some (.pointer (some ⟨b, o, none⟩)) => some (.pointer (some ⟨b, o + j * n, none⟩), j < len)
          | _ => none
        | .tmp _ => match ev l x, ev l i with
          | some (.pointer (some ⟨b, o, none⟩)), some (.int _ j) => some (.pointer (some (adr ⟨b, o, none⟩ j n)), 0 ≤ j ∧ j < len)
          | _, _ => none
        | _ => none
      | none => none
    | _ => none
  | .convert s d x => match tyD s with
    | some (.int _) => match tyD d with
      | some (.int k) => match ev l x with
        | some (.int _ n) => rngO k n
        | _ => none
      | _ => none
    | _ => none
  | .makeInterface t x => match tyD t with
    | some (.interface _) => none
    | some _ => match ev l x with | some v => some (.iface t v, True) | none => none
    | none => none
  | .call ⟨.builtin b, ⟨args⟩, ⟨ts⟩⟩ => match b with
    | .len => match ts, args with
      | [t], [x] => match tyD t with
        | some (.slice _) => match ev l x with | some (.slice _ n _) => some (.int .i64 (n : Int), True) | _ => none
        | some (.array n _) => some (.int .i64 (n : Int), True)
        | _ => none
      | _, _ => none
    | .max => match evL l args with
      | some [.int k x, .int k' y] => some (.int k (max x y), True)
      | _ => none
    | .min => match evL l args with
      | some [.int k x, .int k' y] => some (.int k (min x y), True)
      | _ => none
    | _ => none
  | .build t ⟨parts⟩ => match te t with
    | some i => match i.desc with
      | .struct ⟨fs⟩ => match placesO fs with
        | some ps => match evP l parts with
          | some vs => match fillL (getO ps) i.zero.cells.toList vs with
            | some cs => some (.agg cs.toArray, True)
            | none => none
          | none => none
        | none => none
      | .array _ e => match tyS e with
        | some n => match evP l parts with
          | some vs => match fillL (fun i => some (i * n, n)) i.zero.cells.toList vs with
            | some cs => some (.agg cs.toArray, True)
            | none => none
          | none => none
        | none => none
      | _ => none
    | none => none
  | .slice t x lo hi mx => match mx with
    | some _ => none
    | none => match tyD t with
      | some (.slice e) => match tyS e with
        | some n => match ev l x with
          | some (.slice a len cap) =>
            match (match lo with | none => some ((0 : Int)) | some o => match ev l o with | some (.int _ z) => some z | _ => none), (match hi with | none => some ((len : Nat) : Int) | some o => match ev l o with | some (.int _ z) => some z | _ => none) with
            | some l', some h' => some (.slice (sadr a l'.toNat cap n) (h'.toNat - l'.toNat) (cap - l'.toNat), 0 ≤ l' ∧ l' ≤ h' ∧ h' ≤ (cap : Int) ∧ 0 ≤ h')
            | _, _ => none
          | _ => none
        | none => none
      | _ => none
  | _ => none
end Go.Proofs.Ytadfdpkhehdikaa


/- The runner of pure operations tells the truth. -/
namespace Go.Proofs.Ytadfdpkhehdikaa
open Go.RowKit
theorem unO_ok {op : UnOp} {x v : Value} {p : Prop} (h : unO op x = some (v, p)) (hp : p) (w : World) : (Op.unary op x).run Try.prog w = .ok v w := by
  unfold unO at h
  split at h
  · injection h with h; injection h with h1 h2; subst h1; simp [Op.unary]
  · rw [rngO_ok h hp]; simp [Op.unary, Op.intArith]
  · cases h
theorem binO_ok {op : BinOp} {x y v : Value} {p : Prop} (h : binO op x y = some (v, p)) (hp : p) (t : TypeId) (X Y : Operand) (w : World) : (do eqGuard op t X Y x y; binOp op t x y : Sem Value).run Try.prog w = .ok v w := by
  unfold binO at h
  split at h
  · rename_i k x k' y
    rw [Sem.run_bind, eqGuard_int]
    simp only [Result.andThen]
    split at h
    · exact intOp_ok h hp t w
    · exact intOp_ok h hp t w
    · exact intOp_ok h hp t w
    · exact intOp_ok h hp t w
    · cases h
  · cases h
theorem rdV_part {T : TypeId} {cs : List Value} {off : Nat} {v : Value} (h : rdV T cs off = some v) (w : World) : (part T cs.toArray off).run Try.prog w = .ok v w := by
  unfold rdV at h
  split at h
  · rename_i ag sz by' de ze hi
    have ok := te_ok hi
    have ha := ok.agg w
    have hz := ok.size w
    simp only at ha hz
    unfold part
    split at h
    · split at h
      · rename_i r hr
        injection h with h
        subst h
        have := (rdV.seg_eq hr).1
        simp [Sem.run_bind, ha, Result.andThen, hz, this, List.drop_take]
      · cases h
    · rw [rdV.at'_eq] at h
      simp [Sem.run_bind, ha, Result.andThen, h]
  · cases h
theorem extract_ok {vs : List Value} {i : Nat} {v : Value} (h : extO vs i = some v) (w : World) : (Instr.extract (.tuple vs.toArray) i).run Try.prog w = .ok v w := by
  rw [extO_eq] at h
  simp [Instr.extract, h]
theorem fieldAt_ok {s : TypeId} {fs : List Field} {i : Nat} {f : Field} {n : Nat} {a : Addr} (h1 : tyD s = some (.struct ⟨fs⟩)) (h2 : getO fs i = some f) (h3 : tyS f.type = some (n + 1)) (w : World) :
    (Instr.fieldAt s (.pointer (some a)) i).run Try.prog w = .ok (.pointer (some (a.add f.offset))) w := by
  rw [getO_eq] at h2
  simp [Instr.fieldAt, Sem.run_bind, tyD_run h1, Result.andThen, h2, Instr.sureAddr, fieldPlace, tyS_run h3]
theorem add_lit (b o k : Nat) : (⟨b, o, none⟩ : Addr).add k = ⟨b, o + k, none⟩ := by
  unfold Addr.add
  split
  · rename_i h; subst h; rfl
  · rfl
theorem indexAt_slice {t e : TypeId} {n : Nat} {a : Addr} {len c : Nat} {k : IntKind} {j : Int} (h1 : tyD t = some (.slice e)) (h2 : tyS e = some n) (hj : 0 ≤ j ∧ j < len) (w : World) :
    (Instr.indexAt t (.slice (some a) len c) (.int k j)).run Try.prog w = .ok (.pointer (some (adr a j n))) w := by
  simp [Instr.indexAt, Sem.run_bind, tyD_run h1, Result.andThen, asIntOf, hj, tyS_run h2, adr]
theorem indexAt_array {t e : TypeId} {n : Nat} {a : Addr} {len : Nat} {k : IntKind} {j : Int} (h1 : tyD t = some (.array len e)) (h2 : tyS e = some n) (hj : 0 ≤ j ∧ j < len) (w : World) :
    (Instr.indexAt t (.pointer (some a)) (.int k j)).run Try.prog w = .ok (.pointer (some (adr a j n))) w := by
  simp [Instr.indexAt, Sem.run_bind, tyD_run h1, Result.andThen, asIntOf, hj, tyS_run h2, adr, Instr.sureAddr]
theorem convert_ok {s d : TypeId} {k k' : IntKind} {n : Int} {k0 : IntKind} {v : Value} {p : Prop} (h1 : tyD s = some (.int k0)) (h2 : tyD d = some (.int k)) (h : rngO k n = some (v, p)) (hp : p) (w : World) :
    (convert s d (.int k' n)).run Try.prog w = .ok v w := by
  rw [rngO_ok h hp]
  simp [convert, Sem.run_bind, tyD_run h1, tyD_run h2, Result.andThen, Conv.intToInt]
theorem makeInterface_ok {t : TypeId} {d : TypeDesc} {v : Value} (h1 : tyD t = some d) (hd : ∀ ms, d ≠ .interface ms) (w : World) : (Instr.makeInterface t v).run Try.prog w = .ok (.iface t v) w := by
  simp only [Instr.makeInterface, Sem.run_bind, tyD_run h1, Result.andThen]
  cases d <;> first | rfl | exact absurd rfl (hd _)
theorem placesO_ok : ∀ {fs : List Field} {ps : List (Nat × Nat)}, placesO fs = some ps → ∀ w, (fs.mapM fun f => Prod.mk f.offset <$> sizeOf f.type : Sem (List (Nat × Nat))).run Try.prog w = .ok ps w
  | [], ps, h, w => by simp [placesO] at h; subst h; simp
  | f :: r, ps, h, w => by
    unfold placesO at h
    split at h
    · rename_i n hn
      split at h
      · rename_i qs hq
        injection h with h
        subst h
        have ih := placesO_ok hq w
        simp [List.mapM_cons, Sem.run_bind, tyS_run hn, Result.andThen, ih]
      · cases h
    · cases h
theorem build_struct {t : TypeId} {i : TyI} {fs : List Field} {ps : List (Nat × Nat)} {vs : List (Nat × Value)} {cs : List Value} (h1 : te t = some i) (h2 : i.desc = .struct ⟨fs⟩) (h3 : placesO fs = some ps)
    (h4 : fillL (getO ps) i.zero.cells.toList vs = some cs) (w : World) : (Instr.build t vs.toArray).run Try.prog w = .ok (.agg cs.toArray) w := by
  have ok := te_ok h1
  have hu := run_underlying (h2 ▸ ok.und) w
  have hg : (fun x => ps[x]?) = getO ps := by funext k; rw [getO_eq]
  have hf : Instr.fill (fun x => ps[x]?) i.zero.cells vs = some cs.toArray := by rw [hg]; have := fillL_ok h4; simpa using this
  have hp := placesO_ok h3 w
  simp only [Instr.build, Sem.run_bind, ok.zero w, Result.andThen, hu]
  rw [Array.mapM_eq_mapM_toList]
  simp [Sem.run_bind, hp, Result.andThen, hf]
theorem build_array {t : TypeId} {i : TyI} {m : Nat} {e : TypeId} {n : Nat} {vs : List (Nat × Value)} {cs : List Value} (h1 : te t = some i) (h2 : i.desc = .array m e) (h3 : tyS e = some n)
    (h4 : fillL (fun i => some (i * n, n)) i.zero.cells.toList vs = some cs) (w : World) : (Instr.build t vs.toArray).run Try.prog w = .ok (.agg cs.toArray) w := by
  have ok := te_ok h1
  have hu := run_underlying (h2 ▸ ok.und) w
  have hf : Instr.fill (fun i => some (i * n, n)) i.zero.cells vs = some cs.toArray := by have := fillL_ok h4; simpa using this
  simp [Instr.build, Sem.run_bind, ok.zero w, Result.andThen, hu, tyS_run h3, hf]
theorem slice_ok {t e : TypeId} {n : Nat} {a : Option Addr} {len cap : Nat} {lo hi : Option Value} {l' h' : Int} (h1 : tyD t = some (.slice e)) (h2 : tyS e = some n)
    (hlo : (lo = none ∧ l' = 0) ∨ ∃ k, lo = some (.int k l')) (hhi : (hi = none ∧ h' = len) ∨ ∃ k, hi = some (.int k h')) (hp : 0 ≤ l' ∧ l' ≤ h' ∧ h' ≤ (cap : Int) ∧ 0 ≤ h') (w : World) :
    (Instr.sliceAt t (.slice a len cap) lo hi none).run Try.prog w = .ok (.slice (sadr a l'.toNat cap n) (h'.toNat - l'.toNat) (cap - l'.toNat)) w := by
  obtain ⟨p1, p2, p3, p4⟩ := hp
  have e : l' ≤ max h' 0 := by omega
  rcases hlo with ⟨rfl, rfl⟩ | ⟨k, rfl⟩ <;> rcases hhi with ⟨rfl, rfl⟩ | ⟨k2, rfl⟩ <;>
    simp [Instr.sliceAt, Instr.slice, Instr.sliceBounds, Instr.sliceBound, Sem.run_bind, tyD_run h1, tyS_run h2, Result.andThen, asIntOf, sadr, p1, p2, p3, p4, e]
theorem sliceLo {l : List (Nat × Value)} {a : Act} {n : Nat} {ds : List Deferred} (hF : Fr n ds l a) {lo : Option Operand} {d z : Int} (h : (match lo with | none => some d | some o => match ev l o with | some (.int _ z) => some z | _ => none) = some z) :
    (lo.map a.eval = none ∧ z = d) ∨ ∃ k, lo.map a.eval = some (.int k z) := by
  cases lo with
  | none => injection h with h; exact .inl ⟨rfl, h.symm⟩
  | some o =>
    right
    simp only at h
    split at h
    · rename_i k z' hz
      injection h with h
      subst h
      exact ⟨k, by simp [hF.eval hz]⟩
    · cases h
theorem pureO_ok {n : Nat} {ds : List Deferred} {l : List (Nat × Value)} {a : Act} (hF : Fr n ds l a) {o : Oper} {v : Value} {p : Prop} (h : pureO l o.op = some (v, p)) (hp : p) (w : World) : (execOp a.eval o).run Try.prog w = .ok (.value v) w := by
  obtain ⟨dst, op, ty, pos, af, g⟩ := o
  simp only at h
  cases op
  case move x =>
    simp only [pureO] at h
    split at h
    · rename_i u hu; injection h with h; injection h with h1 h2; subst h1; simp [execOp, hF.eval hu]
    · cases h
  case assign x =>
    simp only [pureO] at h
    split at h
    · rename_i u hu; injection h with h; injection h with h1 h2; subst h1; simp [execOp, hF.eval hu]
    · cases h
  case pick c x y =>
    simp only [pureO] at h
    split at h
    · rename_i b hc
      split at h
      · rename_i u v' hu hv
        cases b <;> (simp only at h; injection h with h; injection h with h1 h2; subst h1; simp [execOp, hF.eval hu, hF.eval hv, hF.eval hc, Sem.run_bind, asBool, Result.andThen])
      · cases h
    · cases h
  case binOp op t x y t' =>
    simp only [pureO] at h
    split at h
    · rename_i u v' hu hv
      have := binO_ok h hp t x y w
      simp only [execOp, hF.eval hu, hF.eval hv]
      rw [Sem.run_bind, this]
      rfl
    · cases h
  case unOp op t x =>
    simp only [pureO] at h
    split at h
    · rename_i u hu
      have := unO_ok h hp w
      simp only [execOp, hF.eval hu]
      rw [Sem.run_bind, this]
      rfl
    · cases h
  case extract x i =>
    simp only [pureO] at h
    split at h
    · rename_i vs hu
      split at h
      · rename_i v' hv
        injection h with h; injection h with h1 h2; subst h1
        have := extract_ok hv w
        simp only [execOp, hF.eval hu]
        rw [Sem.run_bind, this]
        rfl
      · cases h
    · cases h
  case makeFunc fn first capt =>
    obtain ⟨first⟩ := first
    obtain ⟨capt⟩ := capt
    simp only [pureO] at h
    split at h
    · rename_i f c hf hc
      injection h with h; injection h with h1 h2; subst h1
      simp [execOp, Instr.makeFunc, Sem.run_bind, Result.andThen, ← hF.evalL hf, ← hF.evalL hc]
    · cases h
  case nilCheck x =>
    simp only [pureO] at h
    split at h
    · rename_i a' hx
      injection h with h; injection h with h1 h2; subst h1
      simp [execOp, hF.eval hx]
    · rename_i f fi ca hx
      injection h with h; injection h with h1 h2; subst h1
      simp [execOp, hF.eval hx]
    · cases h
  case fieldAddr s x i =>
    simp only [pureO] at h
    split at h
    · rename_i fs hs
      split at h
      · rename_i f hf
        split at h
        · rename_i m hm
          split at h
          · rename_i b o hx
            injection h with h; injection h with h1 h2; subst h1
            have := fieldAt_ok (a := ⟨b, o, none⟩) hs hf hm w
            simp only [execOp, hF.eval hx]
            rw [Sem.run_bind, this, add_lit]
            rfl
          · rename_i a' hne hx
            injection h with h; injection h with h1 h2; subst h1
            have := fieldAt_ok (a := a') hs hf hm w
            simp only [execOp, hF.eval hx]
            rw [Sem.run_bind, this]
            rfl
          · cases h
        · cases h
      · cases h
    · cases h
  case field s x i =>
    simp only [pureO] at h
    split at h
    · rename_i fs hs
      split at h
      · rename_i f hf
        split at h
        · rename_i cs hx
          split at h
          · rename_i v' hv
            injection h with h; injection h with h1 h2; subst h1
            have := rdV_part hv w
            rw [getO_eq] at hf
            simp [execOp, hF.eval hx, Instr.field, Sem.run_bind, tyD_run hs, Result.andThen, hf, asAgg, this]
          · cases h
        · cases h
      · cases h
    · cases h
  case indexAddr t x i =>
    simp only [pureO] at h
    split at h
    · rename_i e he
      split at h
      · rename_i m hm
        split at h
        · rename_i a' len c k j hx hi
          injection h with h; injection h with h1 h2; subst h1 h2
          have := indexAt_slice (a := a') (c := c) (k := k) he hm hp w
          simp only [execOp, hF.eval hx, hF.eval hi]
          rw [Sem.run_bind, this]
          rfl
        · cases h
      · cases h
    · rename_i len e he
      split at h
      · rename_i m hm
        split at h
        · rename_i k j
          split at h
          · rename_i b o hx
            injection h with h; injection h with h1 h2; subst h1 h2
            have := indexAt_array (a := ⟨b, o, none⟩) (k := k) (j := (j : Int)) he hm (by omega) w
            have e : adr ⟨b, o, none⟩ (j : Int) m = ⟨b, o + j * m, none⟩ := by unfold adr; rw [add_lit]; rfl
            rw [e] at this
            have hi : a.eval (.const (.int k (.ofNat j))) = .int k (j : Int) := rfl
            simp only [execOp, hF.eval hx, hi]
            rw [Sem.run_bind, this]
            rfl
          · cases h
        · rename_i t'
          split at h
          · rename_i b o k j hx hi
            injection h with h; injection h with h1 h2; subst h1 h2
            have := indexAt_array (a := ⟨b, o, none⟩) (k := k) he hm hp w
            simp only [execOp, hF.eval hx, hF.eval hi]
            rw [Sem.run_bind, this]
            rfl
          · cases h
        · cases h
      · cases h
    · cases h
  case convert s d x =>
    simp only [pureO] at h
    split at h
    · rename_i k0 hs
      split at h
      · rename_i k hd
        split at h
        · rename_i k' m hx
          have := convert_ok (k' := k') hs hd h hp w
          simp only [execOp, hF.eval hx]
          rw [Sem.run_bind, this]
          rfl
        · cases h
      · cases h
    · cases h
  case makeInterface t x =>
    simp only [pureO] at h
    split at h
    · cases h
    · rename_i d hne hd
      split at h
      · rename_i u hu
        injection h with h; injection h with h1 h2; subst h1
        have := makeInterface_ok (v := u) hd (fun ms e => hne ms e) w
        simp only [execOp, hF.eval hu]
        rw [Sem.run_bind, this]
        rfl
      · cases h
    · cases h
  case call c =>
    obtain ⟨cal, ⟨args⟩, ⟨ts⟩⟩ := c
    cases cal with
    | value f => cases h
    | invoke r m => cases h
    | builtin b =>
      simp only [pureO] at h
      split at h
      · split at h
        · rename_i t x
          split at h
          · rename_i e he
            split at h
            · rename_i a' m c hx
              injection h with h; injection h with h1 h2; subst h1
              simp [execOp, resolve, invoke, builtin, Builtin.len_, hF.eval hx, Sem.run_bind, tyD_run he, Result.andThen, goInt]
            · cases h
          · rename_i m e he
            injection h with h; injection h with h1 h2; subst h1
            simp [execOp, resolve, invoke, builtin, Builtin.len_, Sem.run_bind, tyD_run he, Result.andThen, goInt]
          · cases h
        · cases h
      · split at h
        · rename_i k x k' y hx
          injection h with h; injection h with h1 h2; subst h1
          have := hF.evalL hx
          simp only [execOp, resolve, invoke, builtin, Builtin.max_, List.map_toArray, this]
          simp [Sem.run_bind, Builtin.max2, Result.andThen]
          omega
        · cases h
      · split at h
        · rename_i k x k' y hx
          injection h with h; injection h with h1 h2; subst h1
          have := hF.evalL hx
          simp only [execOp, resolve, invoke, builtin, Builtin.min_, List.map_toArray, this]
          simp [Sem.run_bind, Builtin.min2, Result.andThen]
          omega
        · cases h
      · cases h
  case build t parts =>
    obtain ⟨parts⟩ := parts
    simp only [pureO] at h
    split at h
    · rename_i i hi
      split at h
      · rename_i fs hd
        split at h
        · rename_i ps hps
          split at h
          · rename_i vs hvs
            split at h
            · rename_i cs hcs
              injection h with h; injection h with h1 h2; subst h1
              have := build_struct hi hd hps hcs w
              have he := hF.evalP hvs
              simp only [execOp, List.map_toArray, he]
              rw [Sem.run_bind, this]
              rfl
            · cases h
          · cases h
        · cases h
      · rename_i m e hd
        split at h
        · rename_i k hk
          split at h
          · rename_i vs hvs
            split at h
            · rename_i cs hcs
              injection h with h; injection h with h1 h2; subst h1
              have := build_array hi hd hk hcs w
              have he := hF.evalP hvs
              simp only [execOp, List.map_toArray, he]
              rw [Sem.run_bind, this]
              rfl
            · cases h
          · cases h
        · cases h
      · cases h
    · cases h
  case slice t x lo hi mx =>
    simp only [pureO] at h
    split at h
    · cases h
    · split at h
      · rename_i e he
        split at h
        · rename_i m hm
          split at h
          · rename_i a' len cap hx
            split at h
            · rename_i l' h' hlo hhi
              injection h with h; injection h with h1 h2; subst h1 h2
              have := slice_ok (a := a') he hm (sliceLo hF hlo) (sliceLo hF hhi) hp w
              simp only [execOp, hF.eval hx, Option.map_none]
              rw [Sem.run_bind, this]
              rfl
            · cases h
          · cases h
        · cases h
      · cases h
  all_goals cases h
end Go.Proofs.Ytadfdpkhehdikaa


/- What a call's own memory holds, with facts that hang on memory that nobody writes. -/
namespace Go.Proofs.Ytadfdpkhehdikaa
open Go.RowKit
/-- f holds of w, and goes on to hold while the blocks of w that nobody in own holds stay as they are. -/
def Has (own : Nat → Prop) (w : World) (f : World → Prop) : Prop :=
  ∃ S : Nat → Prop, (∀ b, S b → b < w.heap.size ∧ ¬ own b) ∧ ∀ w', (∀ b, S b → w'.heap[b]? = w.heap[b]?) → w.heap.size ≤ w'.heap.size → f w'
theorem Has.get {own : Nat → Prop} {w : World} {f : World → Prop} (h : Has own w f) : f w := let ⟨_, _, k⟩ := h; k w (fun _ _ => rfl) (Nat.le_refl _)
theorem Has.mono {own own' : Nat → Prop} {w : World} {f : World → Prop} (h : Has own w f) (ho : ∀ b, b < w.heap.size → own' b → own b) : Has own' w f :=
  let ⟨S, h1, h2⟩ := h; ⟨S, fun b hb => ⟨(h1 b hb).1, fun hn => (h1 b hb).2 (ho b (h1 b hb).1 hn)⟩, h2⟩
theorem Has.own_eq {own own' : Nat → Prop} {w : World} {f : World → Prop} (h : Has own w f) (ho : ∀ b, own' b → own b) : Has own' w f := h.mono fun b _ => ho b
theorem Has.imp {own : Nat → Prop} {w : World} {f g : World → Prop} (h : Has own w f) (hi : ∀ w, f w → g w) : Has own w g := let ⟨S, h1, h2⟩ := h; ⟨S, h1, fun w' a b => hi w' (h2 w' a b)⟩
theorem Has.and {own : Nat → Prop} {w : World} {f g : World → Prop} (h : Has own w f) (k : Has own w g) : Has own w fun w => f w ∧ g w := by
  obtain ⟨S, h1, h2⟩ := h
  obtain ⟨T, k1, k2⟩ := k
  exact ⟨fun b => S b ∨ T b, fun b hb => hb.elim (h1 b) (k1 b), fun w' a b => ⟨h2 w' (fun x hx => a x (.inl hx)) b, k2 w' (fun x hx => a x (.inr hx)) b⟩⟩
theorem Has.step {own : Nat → Prop} {w w' : World} {f : World → Prop} (h : Has own w f) (hk : ∀ b, b < w.heap.size → ¬ own b → w'.heap[b]? = w.heap[b]?) (hs : w.heap.size ≤ w'.heap.size) : Has own w' f := by
  obtain ⟨S, h1, h2⟩ := h
  refine ⟨S, fun b hb => ⟨Nat.lt_of_lt_of_le (h1 b hb).1 hs, (h1 b hb).2⟩, fun w2 a b => h2 w2 (fun x hx => (a x hx).trans (hk x (h1 x hx).1 (h1 x hx).2)) (Nat.le_trans hs b)⟩
theorem Has.since {own : Nat → Prop} {w w' : World} {f : World → Prop} (h : Has own w f) (hs : Since w w') : Has own w' f := h.step (fun b hb _ => hs.block b hb) hs.size
theorem Has.pure {own : Nat → Prop} {w : World} {f : World → Prop} (h : ∀ w, f w) : Has own w f := ⟨fun _ => False, fun _ h => h.elim, fun w _ _ => h w⟩
/-- A slice that can be read. -/
def RdF {α : Type} (enc : α → Value) (a : Option Addr) (l : List α) : World → Prop := fun w => Reads enc w a l
theorem RdF.has {α : Type} {enc : α → Value} {a : Option Addr} {l : List α} {own : Nat → Prop} {w : World} (h : Reads enc w a l) (ho : ∀ ad, a = some ad → ¬ own ad.block) : Has own w (RdF enc a l) := by
  refine ⟨fun b => b < w.heap.size ∧ ¬ own b, fun b hb => hb, fun w' hk hs i x hx => ?_⟩
  obtain ⟨b, off, rfl, hb, hc⟩ := h i x hx
  exact ⟨b, off, rfl, Nat.lt_of_lt_of_le hb hs, (World.cell?_of_block (hk b ⟨hb, ho _ rfl⟩)).trans hc⟩
theorem RdF.nil {α : Type} {enc : α → Value} {a : Option Addr} {own : Nat → Prop} {w : World} : Has own w (RdF enc a []) := Has.pure fun _ => Reads.nil _ _ _
/-- Which blocks are held: those of the callers, the boxes, the rows. -/
def ownOf (own : Nat → Prop) (bs : List BoxE) (L : List Ent) (b : Nat) : Prop := own b ∨ (∃ x ∈ bs, x.b = b) ∨ ∃ y ∈ L, y.v.ownBlock = some b
structure Mm (own : Nat → Prop) (w0 : World) (bs : List BoxE) (L : List Ent) (Fs : List (World → Prop)) (w : World) : Prop where
  mem : Mem w0 bs L w
  low : ∀ b, own b → b < w0.heap.size
  facts : ∀ f ∈ Fs, Has (ownOf own bs L) w f
section
variable {own : Nat → Prop} {w0 w w' : World} {bs : List BoxE} {L : List Ent} {Fs : List (World → Prop)}
theorem Mm.start (hl : ∀ b, own b → b < w.heap.size) : Mm own w [] [] [] w := ⟨Mem.start (Since.refl _), hl, by simp⟩
theorem Mm.lt (m : Mm own w0 bs L Fs w) : ∀ b, ownOf own bs L b → b < w.heap.size := by
  rintro b (h | ⟨x, hx, rfl⟩ | ⟨y, hy, he⟩)
  · exact Nat.lt_of_lt_of_le (m.low b h) m.mem.since.size
  · exact (m.mem.box x hx).lt
  · exact (m.mem.own.lt hy _ he).2
theorem Mm.since (m : Mm own w0 bs L Fs w) : Since w0 w := m.mem.since
theorem Mm.addFact (m : Mm own w0 bs L Fs w) {f : World → Prop} (h : Has (ownOf own bs L) w f) : Mm own w0 bs L (f :: Fs) w :=
  ⟨m.mem, m.low, fun g hg => by rcases List.mem_cons.1 hg with rfl | hg; exact h; exact m.facts g hg⟩
theorem Mm.known (m : Mm own w [] [] Fs w) {f : World → Prop} (h : Has own w f) : Mm own w [] [] (f :: Fs) w :=
  m.addFact (h.own_eq (by rintro b (h | ⟨x, hx, -⟩ | ⟨x, hx, -⟩); exact h; cases hx; cases hx))
theorem rd_some (m : Mm own w0 bs L Fs w) {α : Type} {enc : α → Value} {a : Option Addr} {xs : List α} (h : RdF enc a xs ∈ Fs) {k : Nat} {x : α} (hx : xs[k]? = some x) : ∃ ad, a = some ad := by
  obtain ⟨b, off, e, _⟩ := (m.facts _ h).get k x hx
  exact ⟨_, e⟩
theorem Mm.fact (m : Mm own w0 bs L Fs w) {f : World → Prop} (h : f ∈ Fs) : f w := (m.facts f h).get
theorem Mm.keep (m : Mm own w0 bs L Fs w) (h : Since w w') : Mm own w0 bs L Fs w' := ⟨m.mem.keep h, m.low, fun f hf => (m.facts f hf).since h⟩
theorem Mm.drew (m : Mm own w0 bs L Fs w) : Mm own w0 bs L Fs w.drew := m.keep (Since.refl w).drew
theorem Mm.sub (m : Mm own w0 bs L Fs w) {bs' : List BoxE} {L' : List Ent} {Fs' : List (World → Prop)} (h1 : bs'.Sublist bs) (h2 : L'.Sublist L) (h3 : ∀ f ∈ Fs', f ∈ Fs) : Mm own w0 bs' L' Fs' w := by
  have m1 := m.mem.sub h1
  refine ⟨⟨m1.since, m1.box, m1.new, m1.two, ⟨fun x hx => m1.own.own x (h2.subset hx), m1.own.apart.sublist h2⟩, fun x hx y hy => m1.far x hx y (h2.subset hy)⟩, m.low, fun f hf => (m.facts f (h3 f hf)).mono ?_⟩
  rintro b - (h | ⟨x, hx, e⟩ | ⟨y, hy, e⟩)
  · exact .inl h
  · exact .inr (.inl ⟨x, h1.subset hx, e⟩)
  · exact .inr (.inr ⟨y, h2.subset hy, e⟩)
/-- A new box. -/
theorem Mm.box (m : Mm own w0 bs L Fs w) (cs : Array Value) (T : TypeId) : Mm own w0 (⟨w.heap.size, cs, T⟩ :: bs) L Fs (w.alloc (.cells cs T)) := by
  have m' := m.mem.addBox rfl cs T
  have hp : List.Perm (bs ++ [⟨w.heap.size, cs, T⟩]) (⟨w.heap.size, cs, T⟩ :: bs) := List.perm_append_singleton _ _
  refine ⟨⟨m'.since, fun x hx => m'.box x (hp.mem_iff.2 hx), fun x hx => m'.new x (hp.mem_iff.2 hx), ?_, m'.own, fun x hx => m'.far x (hp.mem_iff.2 hx)⟩, m.low, fun f hf => ((m.facts f hf).mono ?_).since ((Since.refl w).alloc _)⟩
  · have := m'.two
    rw [List.pairwise_append] at this
    refine .cons ?_ this.1
    intro y hy
    exact fun e => this.2.2 y hy _ (by simp) e.symm
  · rintro b hb (h | ⟨x, hx, e⟩ | h)
    · exact .inl h
    · rcases List.mem_cons.1 hx with rfl | hx
      · exact absurd hb (by rw [← e]; exact Nat.lt_irrefl _)
      · exact .inr (.inl ⟨x, hx, e⟩)
    · exact .inr (.inr h)
/-- Where x stands in a list, and the list with another one in its place. -/
inductive Upd {α : Type} : List α → α → α → List α → Prop
  | z {x x' : α} {r : List α} : Upd (x :: r) x x' (x' :: r)
  | s {x x' y : α} {r r' : List α} : Upd r x x' r' → Upd (y :: r) x x' (y :: r')
theorem Upd.get {α : Type} {x x' : α} : ∀ {l l' : List α}, Upd l x x' l' → ∃ k, l[k]? = some x ∧ l' = l.set k x'
  | _, _, .z => ⟨0, rfl, rfl⟩
  | _, _, .s h => let ⟨k, h1, h2⟩ := h.get; ⟨k + 1, by simpa using h1, by simp [h2]⟩
theorem ownOf_set {own : Nat → Prop} {bs : List BoxE} {L : List Ent} {k : Nat} {b : Nat} {cs cs' : Array Value} {T T' : TypeId} (hk : bs[k]? = some ⟨b, cs, T⟩) {x : Nat} (h : ownOf own (bs.set k ⟨b, cs', T'⟩) L x) : ownOf own bs L x := by
  rcases h with h | ⟨y, hy, e⟩ | h
  · exact .inl h
  · rcases List.mem_or_eq_of_mem_set hy with hy | rfl
    · exact .inr (.inl ⟨y, hy, e⟩)
    · exact .inr (.inl ⟨_, List.mem_of_getElem? hk, e⟩)
  · exact .inr (.inr h)
/-- A store into a box. -/
theorem Mm.store (m : Mm own w0 bs L Fs w) {b : Nat} {cs : Array Value} {T : TypeId} {bs' : List BoxE} (i : Nat) (v : Value) (hu : Upd bs ⟨b, cs, T⟩ ⟨b, cs.setIfInBounds i v, T⟩ bs') : Mm own w0 bs' L Fs (w.setCell ⟨b, i, none⟩ v) := by
  obtain ⟨k, hk, rfl⟩ := hu.get
  refine ⟨m.mem.store k hk i v, m.low, fun f hf => ?_⟩
  have h1 : Has (ownOf own bs L) (w.setCell ⟨b, i, none⟩ v) f := by
    refine (m.facts f hf).step (fun x _ hx => Below.heap_setCell _ _ _ _ (fun e => hx (.inr (.inl ⟨_, List.mem_of_getElem? hk, e.symm⟩)))) ?_
    simp [World.setCell]
  exact h1.own_eq fun x hx => ownOf_set hk hx
/-- What an append to a row does. -/
theorem Mm.app (m : Mm own w0 bs L Fs w) {i : Nat} {x : Ent} (hx : L[i]? = some x) {v' : Value} {n' : Nat} {xs' : List Value}
    (hown : w'.ownsRow w0.heap.size x.e x.size v' n' xs') (hg : w.grownBy w' x.v.ownBlock) (hat : v'.ownBlock = x.v.ownBlock ∨ v'.ownBlock = some w.heap.size) :
    Mm own w0 bs (L.set i ⟨x.e, x.size, v', n', xs'⟩) Fs w' := by
  refine ⟨m.mem.app hx hown hg hat, m.low, fun f hf => ?_⟩
  have h0 : Has (ownOf own bs (L.set i ⟨x.e, x.size, v', n', xs'⟩)) w f := by
    refine (m.facts f hf).mono ?_
    rintro b hb (h | h | ⟨y, hy, e⟩)
    · exact .inl h
    · exact .inr (.inl h)
    · rcases List.mem_or_eq_of_mem_set hy with hy | rfl
      · exact .inr (.inr ⟨y, hy, e⟩)
      · rcases hat with q | q
        · exact .inr (.inr ⟨x, List.mem_of_getElem? hx, q ▸ e⟩)
        · simp only at e; rw [q] at e; injection e with e; omega
  obtain ⟨S, s1, s2⟩ := h0
  obtain ⟨S1, t1, t2⟩ := m.facts f hf
  refine ⟨fun b => S1 b ∧ S b ∨ S1 b, ?_, ?_⟩
  · intro b hb
    have hb : S1 b := hb.elim (fun h => h.1) id
    refine ⟨Nat.lt_of_lt_of_le (t1 b hb).1 hg.size, ?_⟩
    rintro (h | h | ⟨y, hy, e⟩)
    · exact (t1 b hb).2 (.inl h)
    · exact (t1 b hb).2 (.inr (.inl h))
    · rcases List.mem_or_eq_of_mem_set hy with hy | rfl
      · exact (t1 b hb).2 (.inr (.inr ⟨y, hy, e⟩))
      · rcases hat with q | q
        · exact (t1 b hb).2 (.inr (.inr ⟨x, List.mem_of_getElem? hx, q ▸ e⟩))
        · simp only at e; rw [q] at e; injection e with e; have := (t1 b hb).1; omega
  · intro w2 a b
    refine t2 w2 (fun y hy => (a y (.inr hy)).trans (hg.block y (t1 y hy).1 ?_)) (Nat.le_trans hg.size b)
    intro e
    exact (t1 y hy).2 (.inr (.inr ⟨x, List.mem_of_getElem? hx, e.symm⟩))
/-- A nil slice more. -/
theorem Mm.nilRow (m : Mm own w0 bs L Fs w) (e : TypeId) (size : Nat) : Mm own w0 bs (⟨e, size, .slice none 0 0, 0, []⟩ :: L) Fs w :=
  ⟨m.mem.addNil e size, m.low, fun f hf => (m.facts f hf).own_eq (by
    rintro b (h | h | ⟨y, hy, he⟩)
    · exact .inl h
    · exact .inr (.inl h)
    · rcases List.mem_cons.1 hy with rfl | hy
      · simp [Value.ownBlock] at he
      · exact .inr (.inr ⟨y, hy, he⟩))⟩
/-- A box is a row. -/
theorem Mm.boxRow {b : Nat} {cs : List Value} {e : TypeId} (m : Mm own w0 (⟨b, ⟨cs⟩, e⟩ :: bs) L Fs w) (size n : Nat) (hs : cs.length = n * size) (hn : n ≤ maxLen) :
    Mm own w0 bs (⟨e, size, .slice (some ⟨b, 0, none⟩) n n, n, cs⟩ :: L) Fs w := by
  have hbox := m.mem.box _ List.mem_cons_self
  have hnew := m.mem.new _ List.mem_cons_self
  have htwo := m.mem.two
  rw [List.pairwise_cons] at htwo
  refine ⟨⟨m.mem.since, fun x hx => m.mem.box x (List.mem_cons_of_mem _ hx), fun x hx => m.mem.new x (List.mem_cons_of_mem _ hx), htwo.2, ⟨?_, .cons ?_ m.mem.own.apart⟩, ?_⟩, m.low, fun f hf => (m.facts f hf).own_eq ?_⟩
  · intro x hx
    rcases List.mem_cons.1 hx with rfl | hx
    · refine ⟨hs, .inr ⟨b, n, ⟨cs⟩, rfl, hnew, hbox, Nat.le_refl _, hn, by simpa using hs, ?_⟩⟩
      show cs.take (n * size) = cs
      rw [List.take_of_length_le (by omega)]
    · exact m.mem.own.own x hx
  · intro y hy
    right
    intro e2
    exact m.mem.far _ List.mem_cons_self y hy e2.symm
  · intro x hx y hy
    rcases List.mem_cons.1 hy with rfl | hy
    · intro e2
      injection e2 with e2
      exact htwo.1 x hx e2
    · exact m.mem.far x (List.mem_cons_of_mem _ hx) y hy
  · rintro c (h | ⟨x, hx, h⟩ | ⟨y, hy, he⟩)
    · exact .inl h
    · exact .inr (.inl ⟨x, List.mem_cons_of_mem _ hx, h⟩)
    · rcases List.mem_cons.1 hy with rfl | hy
      · injection he with he; exact .inr (.inl ⟨_, List.mem_cons_self, he⟩)
      · exact .inr (.inr ⟨y, hy, he⟩)
theorem Mm.perm (m : Mm own w0 bs L Fs w) {bs' : List BoxE} (h : bs.Perm bs') : Mm own w0 bs' L Fs w := by
  refine ⟨⟨m.mem.since, fun x hx => m.mem.box x (h.mem_iff.2 hx), fun x hx => m.mem.new x (h.mem_iff.2 hx), ?_, m.mem.own, fun x hx => m.mem.far x (h.mem_iff.2 hx)⟩, m.low, fun f hf => (m.facts f hf).own_eq ?_⟩
  · exact (h.pairwise_iff (fun h e => h e.symm)).1 m.mem.two
  · rintro b (h1 | ⟨x, hx, e⟩ | h1)
    · exact .inl h1
    · exact .inr (.inl ⟨x, h.mem_iff.2 hx, e⟩)
    · exact .inr (.inr h1)
/-- A box, as a fact for the caller. -/
theorem Mm.boxFact (m : Mm own w0 bs L Fs w) {b : Nat} {cs : Array Value} {T : TypeId} (h : ⟨b, cs, T⟩ ∈ bs) : Has own w (Box · b cs T) := by
  refine ⟨fun x => x = b, fun x hx => ?_, fun w' hk _ => (m.mem.box _ h).of_block (hk b rfl)⟩
  subst hx
  refine ⟨(m.mem.box _ h).lt, fun hn => ?_⟩
  have h1 : w0.heap.size ≤ x := m.mem.new _ h
  have := m.low _ hn
  omega
/-- Rows that a call has handed over. -/
theorem Mm.addRows (m : Mm own w0 bs L Fs w) (hs : Since w w') {L' : List Ent} (ho : Owns w' w.heap.size L') : Mm own w0 bs (L' ++ L) Fs w' := by
  have m' := m.keep hs
  have hz := m.mem.since.size
  refine ⟨⟨m'.mem.since, m'.mem.box, m'.mem.new, m'.mem.two, ⟨?_, ?_⟩, ?_⟩, m.low, fun f hf => ?_⟩
  · intro x hx
    rcases List.mem_append.1 hx with hx | hx
    · obtain ⟨h1, h2⟩ := ho.own x hx
      refine ⟨h1, h2.imp id ?_⟩
      rintro ⟨g, cap, cur, r1, r2, r3⟩
      exact ⟨g, cap, cur, r1, Nat.le_trans hz r2, r3⟩
    · exact m'.mem.own.own x hx
  · rw [List.pairwise_append]
    refine ⟨ho.apart, m'.mem.own.apart, ?_⟩
    intro x hx y hy
    cases hb : x.v.ownBlock with
    | none => exact .inl rfl
    | some k =>
      right
      intro e
      have h1 := ho.lt hx k hb
      have h2 := m.mem.own.lt hy k e.symm
      omega
  · intro x hx y hy
    rcases List.mem_append.1 hy with hy | hy
    · intro e
      have h1 := ho.lt hy _ e
      have h2 := (m.mem.box x hx).lt
      omega
    · exact m'.mem.far x hx y hy
  · have h0 := m.facts f hf
    refine (h0.mono ?_).since hs
    rintro b hb (h | h | ⟨y, hy, e⟩)
    · exact .inl h
    · exact .inr (.inl h)
    · rcases List.mem_append.1 hy with hy | hy
      · have h1 := ho.lt hy _ e; omega
      · exact .inr (.inr ⟨y, hy, e⟩)
/-- A row of one-cell elements, as a fact for the caller. -/
theorem Mm.rowFact {α : Type} {enc : α → Value} (m : Mm own w0 bs L Fs w) {e : TypeId} {a : Option Addr} {n c : Nat} {xs : List α} (h : ⟨e, 1, .slice a n c, n, xs.map enc⟩ ∈ L) : Has own w (RdF enc a xs) := by
  have ho : w.ownsRow w0.heap.size e 1 (.slice a n c) n (xs.map enc) := m.mem.own.own _ h
  refine RdF.has (own_reads ho) ?_
  rintro ad rfl hn
  have h1 := m.mem.own.lt h ad.block rfl
  have := m.low _ hn
  omega
theorem Mm.row {α : Type} {enc : α → Value} (m : Mm own w0 bs L Fs w) {e : TypeId} {v : Value} {n : Nat} {xs : List α} (h : ⟨e, 1, v, n, xs.map enc⟩ ∈ L) : ∃ a c, v = .slice a n c ∧ Reads enc w a xs ∧ xs.length = n :=
  own_ints (show w.ownsRow w0.heap.size e 1 v n (xs.map enc) from m.mem.own.own _ h)
theorem Mm.bx (m : Mm own w0 bs L Fs w) {b : Nat} {cs : List Value} {T : TypeId} (h : (⟨b, ⟨cs⟩, T⟩ : BoxE) ∈ bs) : Box w b ⟨cs⟩ T := m.mem.box _ h
/-- What was known when the call began. -/
theorem Mm.old (m : Mm own w0 bs L Fs w) {f : World → Prop} (h : Has own w0 f) : Has (ownOf own bs L) w f := by
  refine Has.since (w := w0) (h.mono ?_) m.since
  rintro b hb (h1 | ⟨x, hx, rfl⟩ | ⟨y, hy, he⟩)
  · exact h1
  · have := m.mem.new x hx; omega
  · have := (m.mem.own.lt hy b he).1; omega
/-- What was known to the caller is known still. -/
theorem Mm.factOut (m : Mm own w0 bs L Fs w) {f : World → Prop} (h : f ∈ Fs) : Has own w f := (m.facts f h).own_eq fun _ hb => .inl hb
end
/-- What holds of the boxes and the facts alone. -/
def Sm (bs : List BoxE) (Fs : List (World → Prop)) (w : World) : Prop := (∀ x ∈ bs, Box w x.b x.cs x.T) ∧ ∀ f ∈ Fs, f w
theorem Mm.sm {own : Nat → Prop} {w0 w : World} {bs : List BoxE} {L : List Ent} {Fs : List (World → Prop)} (m : Mm own w0 bs L Fs w) : Sm bs Fs w := ⟨m.mem.box, fun f hf => m.fact hf⟩
theorem Sm.sub {bs bs' : List BoxE} {Fs Fs' : List (World → Prop)} {w : World} (h : Sm bs Fs w) (h1 : ∀ x ∈ bs', x ∈ bs) (h2 : ∀ f ∈ Fs', f ∈ Fs) : Sm bs' Fs' w := ⟨fun x hx => h.1 x (h1 x hx), fun f hf => h.2 f (h2 f hf)⟩
end Go.Proofs.Ytadfdpkhehdikaa


/- Regions that draw their order and end in stores: what only reads is taken first, under a condition on the world that need hold only until the first store of the tail. -/
namespace Go.Proofs.Ytadfdpkhehdikaa
open Go.RowKit
section
variable {P : Program} {ops : Array Oper} {Q : Exit → Act → World → Prop} {md : Region.Mode} {S : World → Prop} {tail : Nat → Bool}
/-- Whatever order is picked from here on; S holds behind every operation that is no part of the tail. -/
def wpAnyT (P : Program) (md : Region.Mode) (ops : Array Oper) (Q : Exit → Act → World → Prop) (S : World → Prop) (tail : Nat → Bool) : Nat → Array Bool → Act → World → Prop
  | 0, listed, a, w => Region.ready md ops listed = [] ∧ Q .normal a w
  | fuel + 1, listed, a, w =>
    (Region.ready md ops listed = [] → Q .normal a w) ∧
    ∀ i ∈ Region.ready md ops listed, wpOp P ops Q i (fun a' w' => (tail i = false → S w') ∧ wpAnyT P md ops Q S tail fuel (listed.setIfInBounds i true) a' w') a w
theorem wpAny_of_T : ∀ (fuel : Nat) (listed : Array Bool) (a : Act) (w : World), wpAnyT P md ops Q S tail fuel listed a w → wpAny P md ops Q fuel listed a w
  | 0, _, _, _, h => h
  | fuel + 1, _, _, _, h => ⟨h.1, fun i hi => wpOp_mono (fun a' w' h' => wpAny_of_T fuel _ a' w' h'.2) (h.2 i hi)⟩
/-- Whether operation j waits for operation i, directly or through others. -/
def reach (md : Region.Mode) (ops : Array Oper) : Nat → Nat → Nat → Bool
  | 0, _, _ => false
  | n + 1, j, i => ((ops[j]?).map fun o => o.after.any fun e => Region.binds md e && (e.on == i || reach md ops n e.on i)).getD false
/-- What has come up has come up behind all that it waits for. -/
def Closed (md : Region.Mode) (ops : Array Oper) (listed : Array Bool) : Prop :=
  ∀ j oj, ops[j]? = some oj → listed.getD j false = true → ∀ e ∈ oj.after, Region.binds md e = true → listed.getD e.on false = true
def closedB (md : Region.Mode) (ops : Array Oper) (listed : Array Bool) : Bool :=
  (List.range ops.size).all fun j => !listed.getD j false || ((ops[j]?).map fun o => o.after.all fun e => !Region.binds md e || listed.getD e.on false).getD true
theorem closed_of {listed : Array Bool} (h : closedB md ops listed = true) : Closed md ops listed := by
  intro j oj hj hl e he hb
  simp only [closedB, List.all_eq_true, List.mem_range] at h
  have := h j (Array.getElem?_eq_some_iff.1 hj).1
  rw [hl, hj] at this
  simp only [Bool.not_true, Bool.false_or, Option.map_some, Option.getD_some, Array.all_eq_true] at this
  obtain ⟨k, hk, rfl⟩ := Array.mem_iff_getElem.1 he
  have := this k hk
  rw [hb] at this
  simpa using this
theorem reach_listed {listed : Array Bool} (hc : Closed md ops listed) : ∀ (n j i : Nat), (∀ oj, ops[j]? = some oj → ∀ e ∈ oj.after, Region.binds md e = true → listed.getD e.on false = true) → reach md ops n j i = true → listed.getD i false = true := by
  intro n
  induction n with
  | zero => intro j i _ h; simp [reach] at h
  | succ n ih =>
    intro j i hp h
    unfold reach at h
    cases hj : ops[j]? with
    | none => rw [hj] at h; simp at h
    | some oj =>
      rw [hj] at h
      simp only [Option.map_some, Option.getD_some, Array.any_eq_true] at h
      obtain ⟨k, hk, hb⟩ := h
      simp only [Bool.and_eq_true, Bool.or_eq_true, beq_iff_eq] at hb
      have hl := hp oj hj _ (Array.getElem_mem hk) hb.1
      rcases hb.2 with e | e
      · rw [← e]; exact hl
      · exact ih _ _ (fun o ho e' he' hb' => hc _ o ho hl e' he' hb') e
theorem Closed.set {listed : Array Bool} (hc : Closed md ops listed) {i : Nat} (hi : i ∈ Region.ready md ops listed) : Closed md ops (listed.setIfInBounds i true) := by
  obtain ⟨_, oi, hoi, hall⟩ := mem_ready.1 hi
  have up : ∀ k, listed.getD k false = true → (listed.setIfInBounds i true).getD k false = true := by
    intro k hk
    by_cases e : i = k
    · subst e
      have hlt : i < listed.size := by
        rcases Nat.lt_or_ge i listed.size with h | h
        · exact h
        · simp [Array.getElem?_eq_none h] at hk
      simp [hlt]
    · rw [getD_set_ne false e]; exact hk
  intro j oj hj hl e he hb
  by_cases hji : i = j
  · subst hji
    rw [hoi] at hj
    injection hj with hj
    subst hj
    exact up _ (hall e he hb)
  · rw [getD_set_ne false hji] at hl
    exact up _ (hc j oj hj hl e he hb)
/-- Whether each operation of the tail waits for operation i. -/
def tailWaits (md : Region.Mode) (ops : Array Oper) (tail : Nat → Bool) (i : Nat) : Bool :=
  !tail i && (List.range ops.size).all fun j => !tail j || reach md ops ops.size j i
theorem tailWaits_spec {i : Nat} (h : tailWaits md ops tail i = true) : tail i = false ∧ ∀ j oj, ops[j]? = some oj → tail j = true → reach md ops ops.size j i = true := by
  simp only [tailWaits, Bool.and_eq_true, Bool.not_eq_true', List.all_eq_true, List.mem_range] at h
  refine ⟨h.1, fun j oj hj ht => ?_⟩
  have := h.2 j (Array.getElem?_eq_some_iff.1 hj).1
  rw [ht] at this
  simpa using this
theorem wpAnyT_first {i : Nat} {oi : Oper} {v : Value} (hi : ops[i]? = some oi) (hsel : ∀ (j : Nat) (o : Oper) cs b, ops[j]? = some o → o.op ≠ .select cs b)
    (hQ : ∀ c a w, Q (.panic c) (a.put oi.dst v) w → Q (.panic c) a w) (hti : tail i = false) (htl : ∀ j oj, ops[j]? = some oj → tail j = true → reach md ops ops.size j i = true) :
    ∀ (fuel : Nat) (listed : Array Bool) (a : Act) (w : World), Closed md ops listed →
      (∀ j oj, ops[j]? = some oj → j ≠ i → listed.getD j true = false → (∀ e ∈ oj.after, Region.binds md e = true → e.on ≠ i) → oi.apart ops oj = true) →
      i ∈ Region.ready md ops listed → YieldsIf P ops S oi v a → S w →
      wpAnyT P md ops Q S tail fuel (listed.setIfInBounds i true) (a.put oi.dst v) w → wpAnyT P md ops Q S tail (fuel + 1) listed a w := by
  intro fuel
  induction fuel with
  | zero =>
    intro listed a w _ _ hr hy hS H
    refine ⟨fun h => (by rw [h] at hr; cases hr), fun j hj => ?_⟩
    by_cases hji : j = i
    · subst hji; exact hy.wpOp hi hS ⟨fun _ => hS, H⟩
    · have := ready_mono hj hji
      rw [H.1] at this
      cases this
  | succ fuel ih =>
    intro listed a w hcl hfree hr hy hS H
    refine ⟨fun h => (by rw [h] at hr; cases hr), fun j hj => ?_⟩
    by_cases hji : j = i
    · subst hji; exact hy.wpOp hi hS ⟨fun _ => hS, H⟩
    · have h1 := H.2 j (ready_mono hj hji)
      obtain ⟨hjun, oj, hoj, hall⟩ := mem_ready.1 hj
      have hnot : ∀ e ∈ oj.after, Region.binds md e = true → e.on ≠ i := fun e he hb heq => by
        have h1 := hall e he hb
        have h0 := (mem_ready.1 hr).1
        rw [heq] at h1
        rcases Nat.lt_or_ge i listed.size with h' | h'
        · simp [h'] at h0 h1; rw [h0] at h1; cases h1
        · simp [Array.getElem?_eq_none h'] at h1
      have htj : tail j = false := by
        cases ht : tail j
        · rfl
        · have h0 := (mem_ready.1 hr).1
          have h1 := reach_listed hcl _ j i (fun o ho e he hb => by rw [hoj] at ho; injection ho with ho; subst ho; exact hall e he hb) (htl j oj hoj ht)
          rcases Nat.lt_or_ge i listed.size with h' | h'
          · simp [h'] at h0 h1; rw [h0] at h1; cases h1
          · simp [Array.getElem?_eq_none h'] at h1
      have h2 := wpOp_putIf hoj (hfree j oj hoj hji hjun hnot) (fun cs b => hsel i oi cs b hi) (fun cs b => hsel j oj cs b hoj) hQ hy h1
      have hfree' : ∀ k ok, ops[k]? = some ok → k ≠ i → (listed.setIfInBounds j true).getD k true = false →
          (∀ e ∈ ok.after, Region.binds md e = true → e.on ≠ i) → oi.apart ops ok = true := fun k ok hk hki hun hno => by
        refine hfree k ok hk hki ?_ hno
        by_cases hjk : j = k
        · subst hjk; exact hjun
        · rw [getD_set_ne true hjk] at hun; exact hun
      refine wpOp_mono (fun a' w' h3 => ⟨fun _ => h3.2.1 htj, ih (listed.setIfInBounds j true) a' w' (hcl.set hj) hfree' (ready_mono hr (Ne.symm hji)) h3.1 (h3.2.1 htj) ?_⟩) h2
      rw [Array.setIfInBounds_comm _ _ hji]
      exact h3.2.2
/-- Take operation i first: it yields v in every world that meets S. -/
theorem wpAnyT_take {i : Nat} {oi : Oper} {v : Value} {fuel : Nat} {listed : Array Bool} {a : Act} {w : World} (hi : ops[i]? = some oi)
    (hs : Region.noSelect ops = true) (hf : Region.free md ops listed i = true) (hr : (Region.ready md ops listed).contains i = true) (ht : tailWaits md ops tail i = true) (hc : closedB md ops listed = true)
    (hQ : ∀ c a w, Q (.panic c) (a.put oi.dst v) w → Q (.panic c) a w) (hy : YieldsIf P ops S oi v a) (hS : S w)
    (h : wpAnyT P md ops Q S tail fuel (listed.setIfInBounds i true) (a.put oi.dst v) w) : wpAnyT P md ops Q S tail (fuel + 1) listed a w :=
  wpAnyT_first hi (Region.noSelect_spec hs) hQ (tailWaits_spec ht).1 (tailWaits_spec ht).2 fuel listed a w (closed_of hc) (Region.free_spec hi hf) (by simpa using hr) hy hS h
/-- Whichever of those that may come up comes up. -/
theorem wpAnyT_all {rs : List Nat} {fuel : Nat} {listed : Array Bool} {a : Act} {w : World} (hr : Region.ready md ops listed = rs) (hne : rs ≠ [])
    (h : ∀ i ∈ rs, wpOp P ops Q i (fun a' w' => (tail i = false → S w') ∧ wpAnyT P md ops Q S tail fuel (listed.setIfInBounds i true) a' w') a w) : wpAnyT P md ops Q S tail (fuel + 1) listed a w :=
  ⟨fun h0 => absurd (hr ▸ h0) hne, hr ▸ h⟩
/-- Only operation i may come up. -/
theorem wpAnyT_one {i : Nat} {o : Oper} {fuel : Nat} {listed : Array Bool} {a : Act} {w : World} (hr : Region.ready md ops listed = [i]) (hi : ops[i]? = some o) (hw : Region.wanted o (yielded ops a.tmps) = true)
    (h : ∀ K : Act → World → Prop, (∀ a' w', (tail i = false → S w') → ((tail i = false → S w') → wpAnyT P md ops Q S tail fuel (listed.setIfInBounds i true) a' w') → K a' w') → o.wp P a w K Q) : wpAnyT P md ops Q S tail (fuel + 1) listed a w :=
  wpAnyT_all hr (by simp) fun j hj => by
    rw [List.mem_singleton] at hj
    subst hj
    unfold wpOp
    simp only [hi, hw, if_true]
    exact .inl (h _ fun a' w' h1 h2 => ⟨h1, h2 h1⟩)
/-- Two operations may come up. -/
theorem wpAnyT_two {i j : Nat} {o u : Oper} {fuel : Nat} {listed : Array Bool} {a : Act} {w : World} (hr : Region.ready md ops listed = [i, j]) (hi : ops[i]? = some o) (hw : Region.wanted o (yielded ops a.tmps) = true)
    (hj : ops[j]? = some u) (hu : Region.wanted u (yielded ops a.tmps) = true)
    (h : ∀ K : Act → World → Prop, (∀ a' w', (tail i = false → S w') → ((tail i = false → S w') → wpAnyT P md ops Q S tail fuel (listed.setIfInBounds i true) a' w') → K a' w') → o.wp P a w K Q)
    (h' : ∀ K : Act → World → Prop, (∀ a' w', (tail j = false → S w') → ((tail j = false → S w') → wpAnyT P md ops Q S tail fuel (listed.setIfInBounds j true) a' w') → K a' w') → u.wp P a w K Q) : wpAnyT P md ops Q S tail (fuel + 1) listed a w :=
  wpAnyT_all hr (by simp) fun k hk => by
    rw [List.mem_cons, List.mem_singleton] at hk
    rcases hk with rfl | rfl
    · unfold wpOp
      simp only [hi, hw, if_true]
      exact .inl (h _ fun a' w' h1 h2 => ⟨h1, h2 h1⟩)
    · unfold wpOp
      simp only [hj, hu, if_true]
      exact .inl (h' _ fun a' w' h1 h2 => ⟨h1, h2 h1⟩)
theorem wpAnyT_done {listed : Array Bool} {a : Act} {w : World} (hr : Region.ready md ops listed = []) (h : Q .normal a w) : ∀ fuel, wpAnyT P md ops Q S tail fuel listed a w
  | 0 => ⟨hr, h⟩
  | _ + 1 => ⟨fun _ => h, by rw [hr]; simp⟩
theorem wp_region_T {id : Nat} {a : Act} {w : World} (S : World → Prop) (tail : Nat → Bool) (hm : P.follows .mixedOrders = true)
    (hS : S w.drew) (h : S w.drew → wpAnyT P .any ops Q S tail ops.size (Array.replicate ops.size false) a w.drew) : (Code.region id ops true).wp P Q a w :=
  wp_region_any hm (wpAny_of_T _ _ _ _ (h hS))
end
end Go.Proofs.Ytadfdpkhehdikaa


/- The walker's steps. -/
namespace Go.Proofs.Ytadfdpkhehdikaa
open Go.RowKit
/-- Is an operation wanted? -/
def wantO (os : List Oper) (l : List (Nat × Value)) : Option (Nat × Bool) → Option Bool
  | none => some true
  | some (j, want) => match getO os j with
    | some o => match o.dst with
      | some d => match lk l d with
        | some (.bool c) => some (match c, want with | true, true => true | false, false => true | _, _ => false)
        | some (.tuple _) => some false
        | _ => none
      | none => none
    | none => none
theorem wantO_ok {n : Nat} {ds : List Deferred} {l : List (Nat × Value)} {a : Act} (hF : Fr n ds l a) {os : List Oper} {o : Oper} {b : Bool} (h : wantO os l o.guard = some b) : Region.wanted o (yielded ⟨os⟩ a.tmps) = b := by
  unfold Region.wanted
  unfold wantO at h
  split at h
  · rename_i hg; injection h with h; rw [hg]; exact h
  · rename_i j want hg
    rw [hg]
    simp only
    split at h
    · rename_i o' ho
      rw [getO_eq] at ho
      split at h
      · rename_i d hd
        have hy : ∀ u, lk l d = some u → yielded ⟨os⟩ a.tmps j = match (if d < n then some u else none) with | some (.bool b) => some b | _ => none := by
          intro u hu
          have hg := hF.get d u hu
          have ht : a.tmps[d]? = if d < n then some u else none := by
            by_cases hlt : d < n
            · rw [if_pos hlt]
              rw [Array.getD_eq_getD_getElem?, Array.getElem?_eq_getElem (by rw [hF.size]; exact hlt)] at hg
              rw [Array.getElem?_eq_getElem (by rw [hF.size]; exact hlt)]
              simpa using hg
            · rw [if_neg hlt]
              exact Array.getElem?_eq_none (by rw [hF.size]; exact Nat.le_of_not_lt hlt)
          unfold yielded
          rw [show (({ toList := os } : Array Oper)[j]?) = some o' from by simpa using ho]
          simp only [Option.bind_some, hd]
          rw [ht]
          by_cases hlt : d < n
          · rw [if_pos hlt]; cases u <;> rfl
          · rw [if_neg hlt]
        split at h
        · rename_i c hc
          have hlt : d < n := by
            rcases Nat.lt_or_ge d n with g | g
            · exact g
            · have := hF.get d _ hc
              rw [Array.getD_eq_getD_getElem?, Array.getElem?_eq_none (by rw [hF.size]; exact g)] at this
              simp [undef] at this
          rw [hy _ hc, if_pos hlt]
          injection h with h
          subst h
          cases c <;> cases want <;> rfl
        · rename_i u hu
          rw [hy _ hu]
          injection h with h
          subst h
          split
          · rename_i b hb; split at hb <;> cases hb
          · simp
        · cases h
      · cases h
    · cases h
/-- The operations of a region, one after another. -/
def wl (ops : Array Oper) (Q : Exit → Act → World → Prop) : List Oper → Act → World → Prop
  | [], a, w => Q .normal a w
  | o :: rest, a, w => if Region.wanted o (yielded ops a.tmps) then o.wp Try.prog a w (wl ops Q rest) Q else wl ops Q rest (a.put o.dst undef) w
theorem wl_list {ops : Array Oper} {Q : Exit → Act → World → Prop} : ∀ {rest : List Oper} {a : Act} {w : World}, wl ops Q rest a w → wpList Try.prog ops Q rest a w
  | [], _, _, h => h
  | o :: rest, a, w, h => by
    unfold wl at h
    unfold wpList
    split
    · rename_i hw
      rw [if_pos hw] at h
      exact .inl (Oper.wp_mono (fun _ _ h' => wl_list h') h)
    · rename_i hw
      rw [if_neg hw] at h
      exact wl_list h
theorem wl_step {ops : Array Oper} {rest : List Oper} {o : Oper} {a : Act} {w : World} {Q : Exit → Act → World → Prop} (h : ∀ K : Act → World → Prop, (∀ a w, wl ops Q rest a w → K a w) →
      if Region.wanted o (yielded ops a.tmps) then o.wp Try.prog a w K Q else K (a.put o.dst undef) w) : wl ops Q (o :: rest) a w := by
  have := h _ (fun _ _ h => h)
  unfold wl
  exact this
def noDefer (o : Oper) : Bool := match o.op with | .defer _ => false | _ => true
theorem callsIn_w {l n : Nat} {f : FuncId} {args : Array Value} {w : World} {R : Ending → World → Prop} (h : Calls Try.prog f args w R) : CallsIn (Fence.wide.inRound l) n Try.prog f args w R := callsIn_wide.2 h
theorem rowsIn_w {l n : Nat} {row : String} {args : Array Value} {w : World} {R : Value → World → Prop} (h : Rows Try.prog row args w R) : RowsIn (Fence.wide.inRound l) n Try.prog row args w R :=
  fun c cs _ => let ⟨v, w', r, s⟩ := h c cs; ⟨v, w', r, stepsIn_wide.2 s⟩
theorem op_in {l n : Nat} {o : Oper} {a : Act} {w : World} {K : Act → World → Prop} {Q : Exit → Act → World → Prop} (hd : noDefer o = true) (h : o.wp Try.prog a w K Q) : o.wpIn (Fence.wide.inRound l) n Try.prog a w K Q := by
  refine ⟨fun _ _ => trivial, ?_⟩
  have he : o.semAt (Fence.wide.inRound l).round a.eval = execOp a.eval o := by
    unfold noDefer at hd
    simp only [Fence.inRound_round]
    unfold Oper.semAt
    obtain ⟨dst, op, ty, pos, af, g⟩ := o
    cases op <;> first | rfl | (simp at hd)
  rw [he]
  unfold Oper.wp at h
  generalize (execOp a.eval o).run Try.prog w = r at h ⊢
  cases r with
  | ok x w' =>
    cases x <;> simp only [Oper.upon] at h <;> simp only [Oper.uponIn] <;> first
      | exact h
      | exact ⟨fun hz => by simp [Fence.wide] at hz, callsIn_w h⟩
      | exact ⟨fun hz => by simp [Fence.wide] at hz, rowsIn_w h⟩
      | exact h.elim
  | halt x w' => cases x <;> simp only [Oper.upon] at h <;> simp only [Oper.uponIn] <;> first | exact h | exact h.elim
theorem wl_in {l n : Nat} {ops : Array Oper} {Q : Exit → Act → World → Prop} : ∀ {rest : List Oper} {a : Act} {w : World}, rest.all noDefer = true → wl ops Q rest a w → wpListIn (Fence.wide.inRound l) n Try.prog ops Q rest a w
  | [], _, _, _, h => h
  | o :: rest, a, w, hd, h => by
    rw [List.all_cons, Bool.and_eq_true] at hd
    unfold wl at h
    unfold wpListIn
    split
    · rename_i hw
      rw [if_pos hw] at h
      exact op_in hd.1 (Oper.wp_mono (fun _ _ h' => wl_in hd.2 h') h)
    · rename_i hw
      rw [if_neg hw] at h
      exact ⟨fun _ _ => trivial, wl_in hd.2 h⟩
variable {n : Nat} {ds : List Deferred} {l : List (Nat × Value)} {a : Act} {w w0 : World} {own : Nat → Prop} {bs : List BoxE} {L : List Ent} {Fs : List (World → Prop)}
variable {os rest : List Oper} {Q : Exit → Act → World → Prop} {K : Act → World → Prop}
variable {d : Nat} {op : Op} {ty : TypeId} {pos : String} {af : Array Edge} {g : Option (Nat × Bool)}
theorem upon_value {o : Oper} {v : Value} {w' : World} (h : (execOp a.eval o).run Try.prog w = .ok (.value v) w') (hK : K (a.put o.dst v) w') : o.wp Try.prog a w K Q := by
  unfold Oper.wp; rw [h]; exact hK
theorem upon_skip' {o : Oper} {w' : World} (h : (execOp a.eval o).run Try.prog w = .ok .skip w') (hK : K (a.put o.dst undef) w') : o.wp Try.prog a w K Q := by
  unfold Oper.wp; rw [h]; exact hK
/-- One operation, then the others. -/
theorem s_op {o : Oper} (hF : Fr n ds l a) (hg : wantO os l o.guard = some true) (h : ∀ K : Act → World → Prop, (∀ a w, wl ⟨os⟩ Q rest a w → K a w) → o.wp Try.prog a w K Q) : wl ⟨os⟩ Q (o :: rest) a w :=
  wl_step fun K hK => by rw [wantO_ok hF hg]; simp only [if_true]; exact h K hK
theorem s_skip (hF : Fr n ds l a) (hg : wantO os l g = some false) (hd : Nat.blt d n = true) (k : ∀ a, Fr n ds ((d, undef) :: l) a → wl ⟨os⟩ Q rest a w) : wl ⟨os⟩ Q (⟨some d, op, ty, pos, af, g⟩ :: rest) a w :=
  wl_step fun K hK => by rw [wantO_ok (o := ⟨some d, op, ty, pos, af, g⟩) hF hg]; simp only [Bool.false_eq_true, if_false]; exact hK _ _ (k _ (hF.put hd _))
theorem s_pure {v : Value} {p : Prop} (hF : Fr n ds l a) (hg : wantO os l g = some true) (hp : pureO l op = some (v, p)) (hd : Nat.blt d n = true) (ob : p) (k : ∀ a, Fr n ds ((d, v) :: l) a → wl ⟨os⟩ Q rest a w) :
    wl ⟨os⟩ Q (⟨some d, op, ty, pos, af, g⟩ :: rest) a w :=
  s_op hF hg fun _ hK => upon_value (pureO_ok (o := ⟨some d, op, ty, pos, af, g⟩) hF hp ob w) (hK _ _ (k _ (hF.put hd v)))
/-! Loads -/
theorem run_loadVar_rd {T T' : TypeId} {b off : Nat} {cs : List Value} {v : Value} (hb : Box w b ⟨cs⟩ T') (hv : rdV T cs off = some v) : (loadVar T ⟨b, off, none⟩).run Try.prog w = .ok v w := by
  unfold rdV at hv
  split at hv
  · rename_i ag sz by' de ze hi
    have ok := te_ok hi
    have ha := ok.agg w
    have hz := ok.size w
    simp only at ha hz
    have hcell : ∀ o, w.cell? ⟨b, o, none⟩ = cs[o]? := fun o => by rw [(Box.rules hb).1 o]; simp
    split at hv
    · split at hv
      · rename_i r hr
        injection hv with hv
        subst hv
        obtain ⟨h1, h2⟩ := rdV.seg_eq hr
        have := run_loadCells_list (P := Try.prog) w ⟨b, off, none⟩ r (fun j u hu => by
          rw [add_lit, hcell]
          rw [h1, List.getElem?_take] at hu
          split at hu
          · rw [List.getElem?_drop] at hu; exact hu
          · cases hu)
        rw [h2] at this
        simp [loadVar, Sem.run_bind, ha, hz, this, Result.andThen]
      · cases hv
    · rw [rdV.at'_eq] at hv
      have hc := hcell off
      rw [hv] at hc
      simp [loadVar, Sem.run_bind, ha, Result.andThen, load, Sem.run, hc]
  · cases hv
theorem e_load {T T' : TypeId} {X : Operand} {b off : Nat} {cs : List Value} {v : Value} (hF : Fr n ds l a) (hX : ev l X = some (.pointer (some ⟨b, off, none⟩))) (hb : Box w b ⟨cs⟩ T') (hv : rdV T cs off = some v) :
    (execOp a.eval ⟨some d, .load T X, ty, pos, af, g⟩).run Try.prog w = .ok (.value v) w := by
  have := run_loadVar_rd hb hv
  simp [execOp, hF.eval hX, Instr.loadAt, Instr.sureAddr, Sem.run_bind, this, Result.andThen]
theorem s_load {T T' : TypeId} {X : Operand} {b off : Nat} {cs : List Value} {v : Value} (hF : Fr n ds l a) (hM : Mm own w0 bs L Fs w) (hg : wantO os l g = some true) (hX : ev l X = some (.pointer (some ⟨b, off, none⟩))) (hb : ⟨b, ⟨cs⟩, T'⟩ ∈ bs) (hv : rdV T cs off = some v) (hd : Nat.blt d n = true)
    (k : ∀ a, Fr n ds ((d, v) :: l) a → wl ⟨os⟩ Q rest a w) : wl ⟨os⟩ Q (⟨some d, .load T X, ty, pos, af, g⟩ :: rest) a w :=
  s_op hF hg fun _ hK => upon_value (e_load hF hX (hM.mem.box _ hb) hv) (hK _ _ (k _ (hF.put hd v)))
/-- No aggregate. -/
def sclO (T : TypeId) : Option Unit := match te T with | some i => (match i.agg with | false => some () | true => none) | none => none
theorem e_loadF {α : Type} {enc : α → Value} {T : TypeId} {X : Operand} {ad : Addr} {j : Int} {xs : List α} {x : α} (hF : Fr n ds l a) (hX : ev l X = some (.pointer (some (adr ad j 1)))) (hr : Reads enc w (some ad) xs) (hx : xs[j.toNat]? = some x) (hT : sclO T = some ()) :
    (execOp a.eval ⟨some d, .load T X, ty, pos, af, g⟩).run Try.prog w = .ok (.value (enc x)) w := by
  obtain ⟨b, off, e, hb, hc⟩ := hr _ x hx
  injection e with e
  subst e
  have hadr : adr ⟨b, off, none⟩ j 1 = ⟨b, off + j.toNat, none⟩ := by unfold adr; rw [add_lit]; simp
  unfold sclO at hT
  split at hT
  · rename_i i hi
    split at hT
    · rename_i ha
      have hagg := (te_ok hi).agg w
      rw [ha] at hagg
      simp [execOp, hF.eval hX, Instr.loadAt, Instr.sureAddr, Sem.run_bind, loadVar, hadr, hagg, Result.andThen, load, Sem.run, hc]
    · cases hT
  · cases hT
theorem s_loadF {α : Type} {enc : α → Value} {T : TypeId} {X : Operand} {ad : Addr} {j : Int} {xs : List α} {x : α} (hF : Fr n ds l a) (hM : Mm own w0 bs L Fs w) (hg : wantO os l g = some true) (hX : ev l X = some (.pointer (some (adr ad j 1)))) (hr : RdF enc (some ad) xs ∈ Fs) (hT : sclO T = some ()) (hd : Nat.blt d n = true) (hx : xs[j.toNat]? = some x)
    (k : ∀ a, Fr n ds ((d, enc x) :: l) a → wl ⟨os⟩ Q rest a w) : wl ⟨os⟩ Q (⟨some d, .load T X, ty, pos, af, g⟩ :: rest) a w :=
  s_op hF hg fun _ hK => upon_value (e_loadF hF hX (hM.fact hr) hx hT) (hK _ _ (k _ (hF.put hd _)))

/-! New blocks -/
def cellsO : Value → Option (List Value)
  | .agg ⟨cs⟩ => some cs
  | .int k x => some [.int k x]
  | .bool b => some [.bool b]
  | .slice x y z => some [.slice x y z]
  | .pointer x => some [.pointer x]
  | .func x y z => some [.func x y z]
  | .map x => some [.map x]
  | .string x => some [.string x]
  | .iface x y => some [.iface x y]
  | .nilIface => some [.nilIface]
  | .nilFunc => some [.nilFunc]
  | _ => none
theorem cellsO_ok {v : Value} {cs : List Value} (h : cellsO v = some cs) : v.cells = ⟨cs⟩ := by
  unfold cellsO at h
  split at h <;> first | (injection h with h; subst h; rfl) | cases h
def zeroO (T : TypeId) : Option (List Value) := match te T with | some i => cellsO i.zero | none => none
theorem zeroO_ok {T : TypeId} {cs : List Value} (h : zeroO T = some cs) : ∃ z, (∀ w, (zeroValue T).run Try.prog w = .ok z w) ∧ z.cells = ⟨cs⟩ := by
  unfold zeroO at h
  split at h
  · rename_i i hi; exact ⟨i.zero, (te_ok hi).zero, cellsO_ok h⟩
  · cases h
theorem e_alloc {T : TypeId} {cs : List Value} (hz : zeroO T = some cs) (hM : Mm own w0 bs L Fs w)
    (k : ∀ b w', Mm own w0 (⟨b, ⟨cs⟩, T⟩ :: bs) L Fs w' → Since w w' → K (a.put (some d) (.pointer (some ⟨b, 0, none⟩))) w') : (⟨some d, .alloc T, ty, pos, af, g⟩ : Oper).wp Try.prog a w K Q := by
  obtain ⟨z, hz1, hz2⟩ := zeroO_ok hz
  refine upon_value (v := .pointer (some ⟨w.heap.size, 0, none⟩)) (w' := w.alloc (.cells ⟨cs⟩ T)) ?_ (k _ _ (hM.box _ _) ((Since.refl w).alloc _))
  simp [execOp, Instr.alloc, Sem.run_bind, hz1, Result.andThen, newVar, newRow, newObj, Sem.run, hz2]
theorem e_box {T : TypeId} {X : Operand} {v : Value} {cs : List Value} (hF : Fr n ds l a) (hX : ev l X = some v) (hc : cellsO v = some cs) (hM : Mm own w0 bs L Fs w)
    (k : ∀ b w', Mm own w0 (⟨b, ⟨cs⟩, T⟩ :: bs) L Fs w' → Since w w' → K (a.put (some d) (.pointer (some ⟨b, 0, none⟩))) w') : (⟨some d, .box T X, ty, pos, af, g⟩ : Oper).wp Try.prog a w K Q := by
  refine upon_value (v := .pointer (some ⟨w.heap.size, 0, none⟩)) (w' := w.alloc (.cells ⟨cs⟩ T)) ?_ (k _ _ (hM.box _ _) ((Since.refl w).alloc _))
  simp [execOp, Instr.box, Sem.run_bind, Result.andThen, newVar, newRow, newObj, Sem.run, hF.eval hX, cellsO_ok hc]
theorem s_alloc {T : TypeId} {cs : List Value} (hF : Fr n ds l a) (hM : Mm own w0 bs L Fs w) (hg : wantO os l g = some true) (hz : zeroO T = some cs) (hd : Nat.blt d n = true)
    (k : ∀ b w' a, Mm own w0 (⟨b, ⟨cs⟩, T⟩ :: bs) L Fs w' → Fr n ds ((d, .pointer (some ⟨b, 0, none⟩)) :: l) a → wl ⟨os⟩ Q rest a w') : wl ⟨os⟩ Q (⟨some d, .alloc T, ty, pos, af, g⟩ :: rest) a w :=
  s_op hF hg fun _ hK => e_alloc hz hM fun b w' h1 _ => hK _ _ (k b w' _ h1 (hF.put hd _))
theorem s_box {T : TypeId} {X : Operand} {v : Value} {cs : List Value} (hF : Fr n ds l a) (hM : Mm own w0 bs L Fs w) (hg : wantO os l g = some true) (hX : ev l X = some v) (hc : cellsO v = some cs) (hd : Nat.blt d n = true)
    (k : ∀ b w' a, Mm own w0 (⟨b, ⟨cs⟩, T⟩ :: bs) L Fs w' → Fr n ds ((d, .pointer (some ⟨b, 0, none⟩)) :: l) a → wl ⟨os⟩ Q rest a w') : wl ⟨os⟩ Q (⟨some d, .box T X, ty, pos, af, g⟩ :: rest) a w :=
  s_op hF hg fun _ hK => e_box hF hX hc hM fun b w' h1 _ => hK _ _ (k b w' _ h1 (hF.put hd _))

/-! Stores -/
def oneL : List Value → Bool
  | [] => true
  | v :: vs => v.oneCell' && oneL vs
theorem oneL_ok : ∀ {vs : List Value}, oneL vs = true → ∀ v ∈ vs, v.oneCell' = true
  | [], _, v, h => by cases h
  | u :: vs, h, v, hv => by
    unfold oneL at h
    rw [Bool.and_eq_true] at h
    rcases List.mem_cons.1 hv with rfl | hv
    · exact h.1
    · exact oneL_ok h.2 v hv
/-- Cells stored one after another into a box. -/
theorem Mm.storeL : ∀ {vs : List Value} {w : World} {bs bs' : List BoxE} {b i : Nat} {cs cs' : List Value} {T : TypeId}, Mm own w0 bs L Fs w → oneL vs = true → setAt cs i vs = some cs' → Upd bs ⟨b, ⟨cs⟩, T⟩ ⟨b, ⟨cs'⟩, T⟩ bs' →
    ∀ j o, o + j = i → ∃ w', (storeCells ⟨b, o, none⟩ vs j).run Try.prog w = .ok () w' ∧ Mm own w0 bs' L Fs w'
  | [], w, bs, bs', b, i, cs, cs', T, hM, _, hs, hu, j, o, _ => by
    simp [setAt] at hs
    subst hs
    obtain ⟨k, hk, rfl⟩ := hu.get
    refine ⟨w, rfl, ?_⟩
    have : bs.set k ⟨b, ⟨cs⟩, T⟩ = bs := by
      apply List.ext_getElem?
      intro q
      rw [List.getElem?_set]
      split
      · rename_i e; subst e
        split
        · exact hk.symm
        · rename_i hn; rw [List.getElem?_eq_none (by omega)]
      · rfl
    rw [this]
    exact hM
  | v :: vs, w, bs, bs', b, i, cs, cs', T, hM, h1, hs, hu, j, o, hij => by
    obtain ⟨k, hk, rfl⟩ := hu.get
    have hlt : i < cs.length := by
      have : ∀ (l : List Value) (i : Nat) (r : List Value), setAt l i (v :: vs) = some r → i < l.length := by
        intro l
        induction l with
        | nil => intro i r h; simp [setAt] at h
        | cons c l ih =>
          intro i r h
          cases i with
          | zero => simp
          | succ i =>
            unfold setAt at h
            split at h
            · rename_i r' hr; have := ih _ _ hr; simp; omega
            · cases h
      exact this _ _ _ hs
    unfold oneL at h1
    rw [Bool.and_eq_true] at h1
    have hbox := hM.mem.box _ (List.mem_of_getElem? hk)
    have hc : w.cell? ⟨b, i, none⟩ = some cs[i] := by rw [(Box.rules hbox).1]; simp [hlt]
    have hfz : w.frozen? ⟨b, i, none⟩ = false := (Box.rules hbox).2.1 i
    have hkl : k < bs.length := by
      rcases Nat.lt_or_ge k bs.length with g | g
      · exact g
      · rw [List.getElem?_eq_none g] at hk; cases hk
    have upd : ∀ (l : List BoxE) (k : Nat) (x x' : BoxE), l[k]? = some x → Upd l x x' (l.set k x') := by
      intro l
      induction l with
      | nil => intro k x x' h; simp at h
      | cons y l ih =>
        intro k x x' h
        cases k with
        | zero => simp at h; subst h; exact .z
        | succ k => simp at h; simp only [List.set_cons_succ]; exact .s (ih k x x' h)
    have hM2 := hM.store i v (upd bs k _ _ hk)
    obtain ⟨w', r1, r2⟩ := Mm.storeL (vs := vs) (i := i + 1) (cs := cs.set i v) (cs' := cs') hM2 h1.2 (setAt_set hs) (bs' := (bs.set k ⟨b, (⟨cs⟩ : Array Value).setIfInBounds i v, T⟩).set k ⟨b, ⟨cs'⟩, T⟩) (by
      have := upd (bs.set k ⟨b, (⟨cs⟩ : Array Value).setIfInBounds i v, T⟩) k ⟨b, (⟨cs⟩ : Array Value).setIfInBounds i v, T⟩ ⟨b, ⟨cs'⟩, T⟩ (by simp [hkl])
      simpa using this) (j + 1) o (by omega)
    refine ⟨w', ?_, by simpa using r2⟩
    have hadd : (⟨b, o, none⟩ : Addr).add j = ⟨b, i, none⟩ := by rw [add_lit, hij]
    unfold storeCells
    rw [Sem.run_bind, hadd, run_store Try.prog w _ _ _ h1.1, hc, hfz]
    simpa [Result.andThen] using r1
theorem e_store {T T' : TypeId} {X Y : Operand} {b off : Nat} {cs cs' vs : List Value} {v : Value} {bs' : List BoxE} (hF : Fr n ds l a) (hM : Mm own w0 bs L Fs w) (hX : ev l X = some (.pointer (some ⟨b, off, none⟩))) (hY : ev l Y = some v) (hv : cellsO v = some vs)
    (hu : Upd bs ⟨b, ⟨cs⟩, T'⟩ ⟨b, ⟨cs'⟩, T'⟩ bs') (hs : setAt cs off vs = some cs') (hT : tyS T = some vs.length) (h1 : oneL vs = true) {dst : Option Tmp} (k : ∀ w', Mm own w0 bs' L Fs w' → K (a.put dst undef) w') :
    (⟨dst, .store T X Y, ty, pos, af, g⟩ : Oper).wp Try.prog a w K Q := by
  obtain ⟨w', r1, r2⟩ := hM.storeL h1 hs hu 0 off (by omega)
  refine upon_skip' (w' := w') ?_ (k w' r2)
  simp [execOp, Instr.storeAt, Sem.run_bind, hF.eval hX, hF.eval hY, Instr.sureAddr, storeVar, cellsO_ok hv, tyS_run hT, Result.andThen, r1]
theorem s_store {T T' : TypeId} {X Y : Operand} {b off : Nat} {cs cs' vs : List Value} {v : Value} {bs' : List BoxE} (hF : Fr n ds l a) (hM : Mm own w0 bs L Fs w) (hg : wantO os l g = some true) (hX : ev l X = some (.pointer (some ⟨b, off, none⟩))) (hY : ev l Y = some v) (hv : cellsO v = some vs)
    (hu : Upd bs ⟨b, ⟨cs⟩, T'⟩ ⟨b, ⟨cs'⟩, T'⟩ bs') (hs : setAt cs off vs = some cs') (hT : tyS T = some vs.length) (h1 : oneL vs = true) (k : ∀ w', Mm own w0 bs' L Fs w' → wl ⟨os⟩ Q rest a w') : wl ⟨os⟩ Q (⟨none, .store T X Y, ty, pos, af, g⟩ :: rest) a w :=
  s_op hF hg fun _ hK => e_store hF hM hX hY hv hu hs hT h1 fun w' h => hK _ _ (k w' h)
end Go.Proofs.Ytadfdpkhehdikaa


/- The walker's steps: calls, literals. -/
namespace Go.Proofs.Ytadfdpkhehdikaa
open Go.RowKit Go.Shelf
variable {n : Nat} {ds : List Deferred} {l : List (Nat × Value)} {a : Act} {w w0 : World} {own : Nat → Prop} {bs : List BoxE} {L : List Ent} {Fs : List (World → Prop)}
variable {os rest : List Oper} {Q : Exit → Act → World → Prop} {K : Act → World → Prop}
variable {d : Nat} {op : Op} {ty : TypeId} {pos : String} {af : Array Edge} {g : Option (Nat × Bool)}
/-! Calls -/
/-- A call returns, nothing old has turned, and R holds of the result. -/
def Ret (w : World) (R : Value → World → Prop) : Ending → World → Prop := fun e w' => ∃ v, e = .returned v ∧ Since w w' ∧ R v w'
theorem Ret.of {f : FuncId} {args : Array Value} {v : Value} (h : Calls Try.prog f args w fun e w' => e = .returned v ∧ Since w w') : Calls Try.prog f args w (Ret w fun u _ => u = v) := h.mono fun _ _ ⟨h1, h2⟩ => ⟨_, h1, h2, rfl⟩
theorem Ret.to {f : FuncId} {args : Array Value} {v : Value} (h : Calls Try.prog f args w (Ret w fun u _ => u = v)) : Calls Try.prog f args w fun e w' => e = .returned v ∧ Since w w' := h.mono fun _ _ ⟨_, h1, h2, h3⟩ => ⟨by rw [h1, h3], h2⟩
def memB : List Nat → Nat → Bool
  | [], _ => false
  | k :: r, f => match Nat.beq k f with | true => true | false => memB r f
theorem memB_ok : ∀ {l : List Nat} {f : Nat}, memB l f = true → f ∈ l
  | [], _, h => by simp [memB] at h
  | k :: r, f, h => by
    unfold memB at h
    split at h
    · rename_i hb; rw [Nat.eq_of_beq_eq_true hb]; exact List.mem_cons_self
    · exact List.mem_cons_of_mem _ (memB_ok h)
def entL : List Nat := [3, 4, 5, 6, 7, 8, 9, 10, 11, 12, 13, 14, 15, 16, 17, 18, 19, 20, 21, 22, 23, 24, 25, 26, 27, 28, 29, 30, 31, 32, 33, 34, 35, 36, 37, 38, 39, 40, 41, 42, 43, 44, 45, 46, 47, 48, 49, 50, 51, 52, 53, 54, 55, 56, 57, 58, 59, 60, 61, 62, 63, 64, 65, 66, 67, 68, 69, 70, 71, 72, 73, 74, 75, 76, 77, 78, 79, 80, 81, 82, 83, 84, 85, 86, 87, 88, 89, 90, 91, 92, 93, 94, 95, 96, 97, 98, 99, 100, 101, 102, 103, 104, 105, 106, 107, 108, 109, 110, 111, 112, 113, 114, 115, 116, 117, 118, 119, 120, 121, 122, 123, 124, 125, 126, 127, 128, 129, 130, 131, 132, 133, 134, 135, 136, 137, 138, 139, 140, 141, 142, 143, 144, 145, 146, 147, 148, 149]
theorem entL_ok {f : Nat} (h : f ∈ entL) : ∀ args w, (callFunc f args).run Try.prog w = .ok (.enter f args) w := ((List.forall_mem_cons.2 ⟨enters_of Try.func3 (by kernel_rfl) rfl, (List.forall_mem_cons.2 ⟨enters_of Try.func4 (by kernel_rfl) rfl, (List.forall_mem_cons.2 ⟨enters_of Try.func5 (by kernel_rfl) rfl, (List.forall_mem_cons.2 ⟨enters_of Try.func6 (by kernel_rfl) rfl, (List.forall_mem_cons.2 ⟨enters_of Try.func7 (by kernel_rfl) rfl, (List.forall_mem_cons.2 ⟨enters_of Try.func8 (by kernel_rfl) rfl, (List.forall_mem_cons.2 ⟨enters_of Try.func9 (by kernel_rfl) rfl, (List.forall_mem_cons.2 ⟨enters_of Try.func10 (by kernel_rfl) rfl, (List.forall_mem_cons.2 ⟨enters_of Try.func11 (by kernel_rfl) rfl, (List.forall_mem_cons.2 ⟨enters_of Try.func12 (by kernel_rfl) rfl, (List.forall_mem_cons.2 ⟨enters_of Try.func13 (by kernel_rfl) rfl, (List.forall_mem_cons.2 ⟨enters_of Try.func14 (by kernel_rfl) rfl, (List.forall_mem_cons.2 ⟨enters_of Try.func15 (by kernel_rfl) rfl, (List.forall_mem_cons.2 ⟨enters_of Try.func16 (by kernel_rfl) rfl, (List.forall_mem_cons.2 ⟨enters_of Try.func17 (by kernel_rfl) rfl, (List.forall_mem_cons.2 ⟨enters_of Try.func18 (by kernel_rfl) rfl, (List.forall_mem_cons.2 ⟨enters_of Try.func19 (by kernel_rfl) rfl, (List.forall_mem_cons.2 ⟨enters_of Try.func20 (by kernel_rfl) rfl, (List.forall_mem_cons.2 ⟨enters_of Try.func21 (by kernel_rfl) rfl, (List.forall_mem_cons.2 ⟨enters_of Try.func22 (by kernel_rfl) rfl, (List.forall_mem_cons.2 ⟨enters_of Try.func23 (by kernel_rfl) rfl, (List.forall_mem_cons.2 ⟨enters_of Try.func24 (by kernel_rfl) rfl, (List.forall_mem_cons.2 ⟨enters_of Try.func25 (by kernel_rfl) rfl, (List.forall_mem_cons.2 ⟨enters_of Try.func26 (by kernel_rfl) rfl, (List.forall_mem_cons.2 ⟨enters_of Try.func27 (by kernel_rfl) rfl, (List.forall_mem_cons.2 ⟨enters_of Try.func28 (by kernel_rfl) rfl, (List.forall_mem_cons.2 ⟨enters_of Try.func29 (by kernel_rfl) rfl, (List.forall_mem_cons.2 ⟨enters_of Try.func30 (by kernel_rfl) rfl, (List.forall_mem_cons.2 ⟨enters_of Try.func31 (by kernel_rfl) rfl, (List.forall_mem_cons.2 ⟨enters_of Try.func32 (by kernel_rfl) rfl, (List.forall_mem_cons.2 ⟨enters_of Try.func33 (by kernel_rfl) rfl, (List.forall_mem_cons.2 ⟨enters_of Try.func34 (by kernel_rfl) rfl, (List.forall_mem_cons.2 ⟨enters_of Try.func35 (by kernel_rfl) rfl, (List.forall_mem_cons.2 ⟨enters_of Try.func36 (by kernel_rfl) rfl, (List.forall_mem_cons.2 ⟨enters_of Try.func37 (by kernel_rfl) rfl, (List.forall_mem_cons.2 ⟨enters_of Try.func38 (by kernel_rfl) rfl, (List.forall_mem_cons.2 ⟨enters_of Try.func39 (by kernel_rfl) rfl, (List.forall_mem_cons.2 ⟨enters_of Try.func40 (by kernel_rfl) rfl, (List.forall_mem_cons.2 ⟨enters_of Try.func41 (by kernel_rfl) rfl, (List.forall_mem_cons.2 ⟨enters_of Try.func42 (by kernel_rfl) rfl, (List.forall_mem_cons.2 ⟨enters_of Try.func43 (by kernel_rfl) rfl, (List.forall_mem_cons.2 ⟨enters_of Try.func44 (by kernel_rfl) rfl, (List.forall_mem_cons.2 ⟨enters_of Try.func45 (by kernel_rfl) rfl, (List.forall_mem_cons.2 ⟨enters_of Try.func46 (by kernel_rfl) rfl, (List.forall_mem_cons.2 ⟨enters_of Try.func47 (by kernel_rfl) rfl, (List.forall_mem_cons.2 ⟨enters_of Try.func48 (by kernel_rfl) rfl, (List.forall_mem_cons.2 ⟨enters_of Try.func49 (by kernel_rfl) rfl, (List.forall_mem_cons.2 ⟨enters_of Try.func50 (by kernel_rfl) rfl, (List.forall_mem_cons.2 ⟨enters_of Try.func51 (by kernel_rfl) rfl, (List.forall_mem_cons.2 ⟨enters_of Try.func52 (by kernel_rfl) rfl, (List.forall_mem_cons.2 ⟨enters_of Try.func53 (by kernel_rfl) rfl, (List.forall_mem_cons.2 ⟨enters_of Try.func54 (by kernel_rfl) rfl, (List.forall_mem_cons.2 ⟨enters_of Try.func55 (by kernel_rfl) rfl, (List.forall_mem_cons.2 ⟨enters_of Try.func56 (by kernel_rfl) rfl, (List.forall_mem_cons.2 ⟨enters_of Try.func57 (by kernel_rfl) rfl, (List.forall_mem_cons.2 ⟨enters_of Try.func58 (by kernel_rfl) rfl, (List.forall_mem_cons.2 ⟨enters_of Try.func59 (by kernel_rfl) rfl, (List.forall_mem_cons.2 ⟨enters_of Try.func60 (by kernel_rfl) rfl, (List.forall_mem_cons.2 ⟨enters_of Try.func61 (by kernel_rfl) rfl, (List.forall_mem_cons.2 ⟨enters_of Try.func62 (by kernel_rfl) rfl, (List.forall_mem_cons.2 ⟨enters_of Try.func63 (by kernel_rfl) rfl, (List.forall_mem_cons.2 ⟨enters_of Try.func64 (by kernel_rfl) rfl, (List.forall_mem_cons.2 ⟨enters_of Try.func65 (by kernel_rfl) rfl, (List.forall_mem_cons.2 ⟨enters_of Try.func66 (by kernel_rfl) rfl, (List.forall_mem_cons.2 ⟨enters_of Try.func67 (by kernel_rfl) rfl, (List.forall_mem_cons.2 ⟨enters_of Try.func68 (by kernel_rfl) rfl, (List.forall_mem_cons.2 ⟨enters_of Try.func69 (by kernel_rfl) rfl, (List.forall_mem_cons.2 ⟨enters_of Try.func70 (by kernel_rfl) rfl, (List.forall_mem_cons.2 ⟨enters_of Try.func71 (by kernel_rfl) rfl, (List.forall_mem_cons.2 ⟨enters_of Try.func72 (by kernel_rfl) rfl, (List.forall_mem_cons.2 ⟨enters_of Try.func73 (by kernel_rfl) rfl, (List.forall_mem_cons.2 ⟨enters_of Try.func74 (by kernel_rfl) rfl, (List.forall_mem_cons.2 ⟨enters_of Try.func75 (by kernel_rfl) rfl, (List.forall_mem_cons.2 ⟨enters_of Try.func76 (by kernel_rfl) rfl, (List.forall_mem_cons.2 ⟨enters_of Try.func77 (by kernel_rfl) rfl, (List.forall_mem_cons.2 ⟨enters_of Try.func78 (by kernel_rfl) rfl, (List.forall_mem_cons.2 ⟨enters_of Try.func79 (by kernel_rfl) rfl, (List.forall_mem_cons.2 ⟨enters_of Try.func80 (by kernel_rfl) rfl, (List.forall_mem_cons.2 ⟨enters_of Try.func81 (by kernel_rfl) rfl, (List.forall_mem_cons.2 ⟨enters_of Try.func82 (by kernel_rfl) rfl, (List.forall_mem_cons.2 ⟨enters_of Try.func83 (by kernel_rfl) rfl, (List.forall_mem_cons.2 ⟨enters_of Try.func84 (by kernel_rfl) rfl, (List.forall_mem_cons.2 ⟨enters_of Try.func85 (by kernel_rfl) rfl, (List.forall_mem_cons.2 ⟨enters_of Try.func86 (by kernel_rfl) rfl, (List.forall_mem_cons.2 ⟨enters_of Try.func87 (by kernel_rfl) rfl, (List.forall_mem_cons.2 ⟨enters_of Try.func88 (by kernel_rfl) rfl, (List.forall_mem_cons.2 ⟨enters_of Try.func89 (by kernel_rfl) rfl, (List.forall_mem_cons.2 ⟨enters_of Try.func90 (by kernel_rfl) rfl, (List.forall_mem_cons.2 ⟨enters_of Try.func91 (by kernel_rfl) rfl, (List.forall_mem_cons.2 ⟨enters_of Try.func92 (by kernel_rfl) rfl, (List.forall_mem_cons.2 ⟨enters_of Try.func93 (by kernel_rfl) rfl, (List.forall_mem_cons.2 ⟨enters_of Try.func94 (by kernel_rfl) rfl, (List.forall_mem_cons.2 ⟨enters_of Try.func95 (by kernel_rfl) rfl, (List.forall_mem_cons.2 ⟨enters_of Try.func96 (by kernel_rfl) rfl, (List.forall_mem_cons.2 ⟨enters_of Try.func97 (by kernel_rfl) rfl, (List.forall_mem_cons.2 ⟨enters_of Try.func98 (by kernel_rfl) rfl, (List.forall_mem_cons.2 ⟨enters_of Try.func99 (by kernel_rfl) rfl, (List.forall_mem_cons.2 ⟨enters_of Try.func100 (by kernel_rfl) rfl, (List.forall_mem_cons.2 ⟨enters_of Try.func101 (by kernel_rfl) rfl, (List.forall_mem_cons.2 ⟨enters_of Try.func102 (by kernel_rfl) rfl, (List.forall_mem_cons.2 ⟨enters_of Try.func103 (by kernel_rfl) rfl, (List.forall_mem_cons.2 ⟨enters_of Try.func104 (by kernel_rfl) rfl, (List.forall_mem_cons.2 ⟨enters_of Try.func105 (by kernel_rfl) rfl, (List.forall_mem_cons.2 ⟨enters_of Try.func106 (by kernel_rfl) rfl, (List.forall_mem_cons.2 ⟨enters_of Try.func107 (by kernel_rfl) rfl, (List.forall_mem_cons.2 ⟨enters_of Try.func108 (by kernel_rfl) rfl, (List.forall_mem_cons.2 ⟨enters_of Try.func109 (by kernel_rfl) rfl, (List.forall_mem_cons.2 ⟨enters_of Try.func110 (by kernel_rfl) rfl, (List.forall_mem_cons.2 ⟨enters_of Try.func111 (by kernel_rfl) rfl, (List.forall_mem_cons.2 ⟨enters_of Try.func112 (by kernel_rfl) rfl, (List.forall_mem_cons.2 ⟨enters_of Try.func113 (by kernel_rfl) rfl, (List.forall_mem_cons.2 ⟨enters_of Try.func114 (by kernel_rfl) rfl, (List.forall_mem_cons.2 ⟨enters_of Try.func115 (by kernel_rfl) rfl, (List.forall_mem_cons.2 ⟨enters_of Try.func116 (by kernel_rfl) rfl, (List.forall_mem_cons.2 ⟨enters_of Try.func117 (by kernel_rfl) rfl, (List.forall_mem_cons.2 ⟨enters_of Try.func118 (by kernel_rfl) rfl, (List.forall_mem_cons.2 ⟨enters_of Try.func119 (by kernel_rfl) rfl, (List.forall_mem_cons.2 ⟨enters_of Try.func120 (by kernel_rfl) rfl, (List.forall_mem_cons.2 ⟨enters_of Try.func121 (by kernel_rfl) rfl, (List.forall_mem_cons.2 ⟨enters_of Try.func122 (by kernel_rfl) rfl, (List.forall_mem_cons.2 ⟨enters_of Try.func123 (by kernel_rfl) rfl, (List.forall_mem_cons.2 ⟨enters_of Try.func124 (by kernel_rfl) rfl, (List.forall_mem_cons.2 ⟨enters_of Try.func125 (by kernel_rfl) rfl, (List.forall_mem_cons.2 ⟨enters_of Try.func126 (by kernel_rfl) rfl, (List.forall_mem_cons.2 ⟨enters_of Try.func127 (by kernel_rfl) rfl, (List.forall_mem_cons.2 ⟨enters_of Try.func128 (by kernel_rfl) rfl, (List.forall_mem_cons.2 ⟨enters_of Try.func129 (by kernel_rfl) rfl, (List.forall_mem_cons.2 ⟨enters_of Try.func130 (by kernel_rfl) rfl, (List.forall_mem_cons.2 ⟨enters_of Try.func131 (by kernel_rfl) rfl, (List.forall_mem_cons.2 ⟨enters_of Try.func132 (by kernel_rfl) rfl, (List.forall_mem_cons.2 ⟨enters_of Try.func133 (by kernel_rfl) rfl, (List.forall_mem_cons.2 ⟨enters_of Try.func134 (by kernel_rfl) rfl, (List.forall_mem_cons.2 ⟨enters_of Try.func135 (by kernel_rfl) rfl, (List.forall_mem_cons.2 ⟨enters_of Try.func136 (by kernel_rfl) rfl, (List.forall_mem_cons.2 ⟨enters_of Try.func137 (by kernel_rfl) rfl, (List.forall_mem_cons.2 ⟨enters_of Try.func138 (by kernel_rfl) rfl, (List.forall_mem_cons.2 ⟨enters_of Try.func139 (by kernel_rfl) rfl, (List.forall_mem_cons.2 ⟨enters_of Try.func140 (by kernel_rfl) rfl, (List.forall_mem_cons.2 ⟨enters_of Try.func141 (by kernel_rfl) rfl, (List.forall_mem_cons.2 ⟨enters_of Try.func142 (by kernel_rfl) rfl, (List.forall_mem_cons.2 ⟨enters_of Try.func143 (by kernel_rfl) rfl, (List.forall_mem_cons.2 ⟨enters_of Try.func144 (by kernel_rfl) rfl, (List.forall_mem_cons.2 ⟨enters_of Try.func145 (by kernel_rfl) rfl, (List.forall_mem_cons.2 ⟨enters_of Try.func146 (by kernel_rfl) rfl, (List.forall_mem_cons.2 ⟨enters_of Try.func147 (by kernel_rfl) rfl, (List.forall_mem_cons.2 ⟨enters_of Try.func148 (by kernel_rfl) rfl, (List.forall_mem_cons.2 ⟨enters_of Try.func149 (by kernel_rfl) rfl, (fun _ h => by simp at h)⟩)⟩)⟩)⟩)⟩)⟩)⟩)⟩)⟩)⟩)⟩)⟩)⟩)⟩)⟩)⟩)⟩)⟩)⟩)⟩)⟩)⟩)⟩)⟩)⟩)⟩)⟩)⟩)⟩)⟩)⟩)⟩)⟩)⟩)⟩)⟩)⟩)⟩)⟩)⟩)⟩)⟩)⟩)⟩)⟩)⟩)⟩)⟩)⟩)⟩)⟩)⟩)⟩)⟩)⟩)⟩)⟩)⟩)⟩)⟩)⟩)⟩)⟩)⟩)⟩)⟩)⟩)⟩)⟩)⟩)⟩)⟩)⟩)⟩)⟩)⟩)⟩)⟩)⟩)⟩)⟩)⟩)⟩)⟩)⟩)⟩)⟩)⟩)⟩)⟩)⟩)⟩)⟩)⟩)⟩)⟩)⟩)⟩)⟩)⟩)⟩)⟩)⟩)⟩)⟩)⟩)⟩)⟩)⟩)⟩)⟩)⟩)⟩)⟩)⟩)⟩)⟩)⟩)⟩)⟩)⟩)⟩)⟩)⟩)⟩)⟩)⟩)⟩)⟩)⟩)⟩)⟩)⟩)⟩)⟩)⟩)⟩)⟩)⟩)⟩)⟩)⟩)⟩)⟩)⟩)⟩)⟩) : ∀ f ∈ entL, ∀ args w, (callFunc f args).run Try.prog w = .ok (.enter f args) w) f h
theorem e_call {f : FuncId} {X : Operand} {as_ : List Operand} {ts : Array TypeId} {vs : List Value} {R : Value → World → Prop} {dst : Option Tmp} (hF : Fr n ds l a) (hX : ev l X = some (.func (.func f) #[] #[])) (ha : evL l as_ = some vs) (he : memB entL f = true)
    (hC : Calls Try.prog f ⟨vs⟩ w (Ret w R)) (k : ∀ v w', Since w w' → R v w' → K (a.put dst v) w') : (⟨dst, .call ⟨.value X, ⟨as_⟩, ts⟩, ty, pos, af, g⟩ : Oper).wp Try.prog a w K Q := by
  have hr : (execOp a.eval ⟨dst, .call ⟨.value X, ⟨as_⟩, ts⟩, ty, pos, af, g⟩).run Try.prog w = .ok (.enter f ⟨vs⟩) w := by
    have h1 := hF.evalL ha
    simp [execOp, resolve, hF.eval hX, Deferred.ofValue, invoke, h1, Sem.run_bind, Result.andThen, entL_ok (memB_ok he)]
  unfold Oper.wp
  rw [hr]
  refine Calls.mono hC ?_
  rintro e w' ⟨v, rfl, hs, hR⟩
  exact k v w' hs hR
theorem s_call {f : FuncId} {X : Operand} {as_ : List Operand} {ts : Array TypeId} {vs : List Value} {R : Value → World → Prop} (hF : Fr n ds l a) (hM : Mm own w0 bs L Fs w) (hg : wantO os l g = some true) (hX : ev l X = some (.func (.func f) #[] #[])) (ha : evL l as_ = some vs) (he : memB entL f = true) (hd : Nat.blt d n = true)
    (hC : Calls Try.prog f ⟨vs⟩ w (Ret w R)) (k : ∀ v w' a, R v w' → Since w w' → Mm own w0 bs L Fs w' → Fr n ds ((d, v) :: l) a → wl ⟨os⟩ Q rest a w') : wl ⟨os⟩ Q (⟨some d, .call ⟨.value X, ⟨as_⟩, ts⟩, ty, pos, af, g⟩ :: rest) a w :=
  s_op hF hg fun _ hK => e_call hF hX ha he hC fun v w' hs hR => hK _ _ (k v w' _ hR hs (hM.keep hs) (hF.put hd v))
def appL : List Value → List Value → Option (List Value)
  | [], ys => some ys
  | x :: xs, ys => match appL xs ys with | some zs => some (x :: zs) | none => none
theorem appL_ok : ∀ {xs ys zs : List Value}, appL xs ys = some zs → xs ++ ys = zs
  | [], ys, zs, h => by injection h
  | x :: xs, ys, zs, h => by
    unfold appL at h
    split at h
    · rename_i us hu; injection h with h; subst h; rw [List.cons_append, appL_ok hu]
    · cases h
/-- A call of a function value. -/
theorem e_callc {f : FuncId} {X : Operand} {as_ : List Operand} {ts : Array TypeId} {fi ca vs us xs : List Value} {R : Value → World → Prop} {dst : Option Tmp} (hF : Fr n ds l a) (hX : ev l X = some (.func (.func f) ⟨fi⟩ ⟨ca⟩)) (ha : evL l as_ = some vs) (h1 : appL fi vs = some us) (h2 : appL us ca = some xs) (he : memB entL f = true)
    (hC : Calls Try.prog f ⟨xs⟩ w (Ret w R)) (k : ∀ v w', Since w w' → R v w' → K (a.put dst v) w') : (⟨dst, .call ⟨.value X, ⟨as_⟩, ts⟩, ty, pos, af, g⟩ : Oper).wp Try.prog a w K Q := by
  have hr : (execOp a.eval ⟨dst, .call ⟨.value X, ⟨as_⟩, ts⟩, ty, pos, af, g⟩).run Try.prog w = .ok (.enter f ⟨xs⟩) w := by
    have h3 := hF.evalL ha
    have h4 := appL_ok h1
    have h5 := appL_ok h2
    subst h4
    subst h5
    simp [execOp, resolve, hF.eval hX, Deferred.ofValue, invoke, h3, Sem.run_bind, Result.andThen, entL_ok (memB_ok he)]
  unfold Oper.wp
  rw [hr]
  refine Calls.mono hC ?_
  rintro e w' ⟨v, rfl, hs, hR⟩
  exact k v w' hs hR
theorem s_callc {f : FuncId} {X : Operand} {as_ : List Operand} {ts : Array TypeId} {fi ca vs us xs : List Value} {R : Value → World → Prop} (hF : Fr n ds l a) (hM : Mm own w0 bs L Fs w) (hg : wantO os l g = some true) (hX : ev l X = some (.func (.func f) ⟨fi⟩ ⟨ca⟩)) (ha : evL l as_ = some vs) (h1 : appL fi vs = some us) (h2 : appL us ca = some xs) (he : memB entL f = true) (hd : Nat.blt d n = true)
    (hC : Calls Try.prog f ⟨xs⟩ w (Ret w R)) (k : ∀ v w' a, R v w' → Since w w' → Mm own w0 bs L Fs w' → Fr n ds ((d, v) :: l) a → wl ⟨os⟩ Q rest a w') : wl ⟨os⟩ Q (⟨some d, .call ⟨.value X, ⟨as_⟩, ts⟩, ty, pos, af, g⟩ :: rest) a w :=
  s_op hF hg fun _ hK => e_callc hF hX ha h1 h2 he hC fun v w' hs hR => hK _ _ (k v w' _ hR hs (hM.keep hs) (hF.put hd v))

/-! Literals of slices -/
def zerosL (z : List Value) : Nat → List Value
  | 0 => []
  | k + 1 => z ++ zerosL z k
theorem zerosL_len (z : List Value) : ∀ k, (zerosL z k).length = k * z.length
  | 0 => by simp [zerosL]
  | k + 1 => by simp [zerosL, zerosL_len z k, Nat.succ_mul]; omega
theorem zerosL_get (z : List Value) : ∀ (k i : Nat), i < k * z.length → (zerosL z k)[i]? = z[i % z.length]?
  | 0, i, h => by simp at h
  | k + 1, i, h => by
    rw [Nat.succ_mul] at h
    unfold zerosL
    by_cases hi : i < z.length
    · rw [List.getElem?_append_left hi, Nat.mod_eq_of_lt hi]
    · rw [List.getElem?_append_right (by omega), zerosL_get z k _ (by omega), ← Nat.mod_eq_sub_mod (by omega)]
theorem zeros_eq {z : Array Value} {len size : Nat} (hz : z.size = size) : (Array.range (len * size)).map (z[· % z.size]!) = (zerosL z.toList len).toArray := by
  apply Array.ext'
  apply List.ext_getElem?
  intro i
  have hl : (zerosL z.toList len).length = len * size := by rw [zerosL_len]; simp [hz]
  by_cases hi : i < len * size
  · have := zerosL_get z.toList len i (by rw [Array.length_toList, hz]; exact hi)
    simp only [Array.toList_map, Array.toList_range, List.getElem?_map, List.getElem?_range hi, Option.map_some]
    rw [this]
    have h0 : 0 < z.size := by rcases Nat.eq_zero_or_pos z.size with h | h; (rw [hz] at h; subst h; simp at hi); exact h
    have hm : i % z.size < z.size := Nat.mod_lt _ h0
    rw [Array.length_toList, getElem!_pos z _ hm]
    simp [hm]
  · rw [List.getElem?_eq_none (by simp; omega), List.getElem?_eq_none (by simpa [hl] using hi)]
def litO (t : TypeId) (len : Nat) (vs : List (Nat × Value)) : Option (TypeId × List Value) := match tyD t with
  | some (.slice e) => match te e with
    | some i => match cellsO i.zero with
      | some z => match Nat.beq z.length i.size && (Nat.ble 1 (len * i.size) && Nat.ble (len * i.size) 1000) with
        | true => match fillL (fun k => some (k * i.size, i.size)) (zerosL z len) vs with
          | some cs => some (e, cs)
          | none => none
        | false => none
      | none => none
    | none => none
  | _ => none
theorem e_lit {t e : TypeId} {len : Nat} {ps : List (Nat × Operand)} {vs : List (Nat × Value)} {cs : List Value} (hF : Fr n ds l a) (hM : Mm own w0 bs L Fs w) (hp : evP l ps = some vs) (hl : litO t len vs = some (e, cs))
    (k : ∀ b w', Mm own w0 (⟨b, ⟨cs⟩, e⟩ :: bs) L Fs w' → Since w w' → K (a.put (some d) (.slice (some ⟨b, 0, none⟩) len len)) w') : (⟨some d, .buildSlice t len ⟨ps⟩, ty, pos, af, g⟩ : Oper).wp Try.prog a w K Q := by
  refine upon_value (v := .slice (some ⟨w.heap.size, 0, none⟩) len len) (w' := w.alloc (.cells ⟨cs⟩ e)) ?_ (k _ _ (hM.box _ _) ((Since.refl w).alloc _))
  unfold litO at hl
  split at hl
  · rename_i e' he
    split at hl
    · rename_i i hi
      split at hl
      · rename_i z hz
        split at hl
        · rename_i hb
          rw [Bool.and_eq_true, Bool.and_eq_true] at hb
          have b1 := Nat.eq_of_beq_eq_true hb.1
          have b2 := Nat.le_of_ble_eq_true hb.2.1
          have b3 := Nat.le_of_ble_eq_true hb.2.2
          split at hl
          · rename_i cs' hc
            injection hl with hl
            injection hl with h1 h2
            subst h1 h2
            have ok := te_ok hi
            have hzc := cellsO_ok hz
            have hsz : i.zero.cells.size = i.size := by rw [hzc]; simpa using b1
            have hzz := zeros_eq (z := i.zero.cells) (len := len) hsz
            have hf := fillL_ok hc
            have hev := hF.evalP hp
            simp only [execOp, Instr.buildSlice, List.map_toArray, hev]
            simp only [Sem.run_bind, tyD_run he, Result.andThen, ok.size w]
            rw [if_neg (by omega), if_neg (by omega)]
            have hz' : (⟨z⟩ : Array Value).toList = z := rfl
            rw [hzc] at hzz
            simp [Sem.run_bind, ok.zero w, Result.andThen, hzc]
            simp at hzz
            rw [hzz]
            simp [hf, newRow, newObj, Sem.run_bind, Result.andThen, Sem.run]
          · cases hl
        · cases hl
      · cases hl
    · cases hl
  · cases hl
theorem s_lit {t e : TypeId} {len : Nat} {ps : List (Nat × Operand)} {vs : List (Nat × Value)} {cs : List Value} (hF : Fr n ds l a) (hM : Mm own w0 bs L Fs w) (hg : wantO os l g = some true) (hp : evP l ps = some vs) (hl : litO t len vs = some (e, cs)) (hd : Nat.blt d n = true)
    (k : ∀ b w' a, Mm own w0 (⟨b, ⟨cs⟩, e⟩ :: bs) L Fs w' → Fr n ds ((d, .slice (some ⟨b, 0, none⟩) len len) :: l) a → wl ⟨os⟩ Q rest a w') : wl ⟨os⟩ Q (⟨some d, .buildSlice t len ⟨ps⟩, ty, pos, af, g⟩ :: rest) a w :=
  s_op hF hg fun _ hK => e_lit hF hM hp hl fun b w' h1 _ => hK _ _ (k b w' _ h1 (hF.put hd _))
end Go.Proofs.Ytadfdpkhehdikaa


/- The walker's steps: appends, conditions, loops, entry and exit. -/
namespace Go.Proofs.Ytadfdpkhehdikaa
open Go.RowKit Go.Shelf
variable {n : Nat} {ds : List Deferred} {l : List (Nat × Value)} {a : Act} {w w0 : World} {own : Nat → Prop} {bs : List BoxE} {L : List Ent} {Fs : List (World → Prop)}
variable {os rest : List Oper} {Q : Exit → Act → World → Prop} {K : Act → World → Prop}
variable {d : Nat} {op : Op} {ty : TypeId} {pos : String} {af : Array Edge} {g : Option (Nat × Bool)}
inductive Kth {α : Type} : List α → Nat → α → Prop
  | z {x : α} {r : List α} : Kth (x :: r) 0 x
  | s {x y : α} {r : List α} {k : Nat} : Kth r k x → Kth (y :: r) (k + 1) x
theorem Kth.get {α : Type} {x : α} : ∀ {l : List α} {k : Nat}, Kth l k x → l[k]? = some x
  | _, _, .z => rfl
  | _, _, .s h => by simpa using h.get
/-- The element type of a slice type: its size and its bytes. -/
def elO (t : TypeId) : Option (TypeId × Nat × Nat) := match tyD t with
  | some (.slice e) => match te e with
    | some ⟨_, size, bytes, _, zero⟩ => match cellsO zero with
      | some z => match Nat.beq z.length size && Nat.ble 1 size with
        | true => some (e, size, bytes)
        | false => none
      | none => none
    | none => none
  | _ => none
theorem elO_ok {t e : TypeId} {size bytes : Nat} (h : elO t = some (e, size, bytes)) : Try.prog.underlying t = some (.slice e) ∧ 0 < size ∧ ∃ i z, Try.prog.info? e = some i ∧ i.zero = some z ∧ i.size = size ∧ i.bytes = bytes ∧ z.cells.size = size := by
  unfold elO at h
  split at h
  · rename_i e' he
    split at h
    · rename_i ag sz by' de ze hi
      split at h
      · rename_i z hz
        split at h
        · rename_i hb
          rw [Bool.and_eq_true] at hb
          have b1 := Nat.eq_of_beq_eq_true hb.1
          have b2 := Nat.le_of_ble_eq_true hb.2
          injection h with h; injection h with h1 h2; injection h2 with h2 h3
          subst h1 h2 h3
          obtain ⟨j, j1, j2, j3, j4⟩ := (te_ok hi).info
          exact ⟨tyD_ok he, by omega, j, ze, j1, j2, j3, j4, by rw [cellsO_ok hz]; simpa using b1⟩
        · cases h
      · cases h
    · cases h
  · cases h
/-- append to an owned row, of cells that lie anywhere. -/
theorem e_app {t e : TypeId} {size bytes : Nat} {S X : Operand} {v : Value} {m k : Nat} {xs ys : List Value} {ad : Addr} {q c : Nat} (hF : Fr n ds l a) (hM : Mm own w0 bs L Fs w) (hS : ev l S = some v) (hX : ev l X = some (.slice (some ad) q c)) (he : elO t = some (e, size, bytes))
    (hL : Kth L k ⟨e, size, v, m, xs⟩) (hy : ys.length = q * size) (hc : ∀ j u, ys[j]? = some u → w.cell? (ad.add j) = some u) (h1 : ∀ u ∈ ys, u.oneCell' = true) (h0 : 0 < q) (hb : (m + q) * bytes ≤ 140737488355328 ∧ m + q ≤ 9223372036854775807)
    (kk : ∀ g cap w', Mm own w0 bs (L.set k ⟨e, size, .slice (some ⟨g, 0, none⟩) (m + q) cap, m + q, xs ++ ys⟩) Fs w' → K (a.put (some d) (.slice (some ⟨g, 0, none⟩) (m + q) cap)) w') :
    (⟨some d, .call ⟨.builtin .append, #[S, X], #[t, t]⟩, ty, pos, af, g⟩ : Oper).wp Try.prog a w K Q := by
  obtain ⟨e1, e2, i, z, i1, i2, i3, i4, i5⟩ := elO_ok he
  refine wp_append_lies w S X t rfl w0.heap.size e i z size bytes e1 i1 i2 i3 i4 i5 e2 v m xs (hF.eval hS) (hM.mem.own.get hL.get) ad q c ys (hF.eval hX) hy hc h1 h0 (by unfold maxLen; exact hb.2) hb.1 hM.since.size w.heap.size rfl ?_
  intro g cap w' h2 h3 h4 h5
  refine kk g cap w' (hM.app hL.get h2 h3 ?_)
  rcases h4 with h4 | h4
  · exact .inl h4.symm
  · exact .inr (by simp [Value.ownBlock, h4])
/-- append of a literal that was just laid. -/
theorem s_app {t e E : TypeId} {size bytes : Nat} {S X : Operand} {v : Value} {m k : Nat} {xs ys : List Value} {b q c : Nat} (hF : Fr n ds l a) (hM : Mm own w0 (⟨b, ⟨ys⟩, E⟩ :: bs) L Fs w) (hg : wantO os l g = some true) (hX : ev l X = some (.slice (some ⟨b, 0, none⟩) q c)) (hS : ev l S = some v) (he : elO t = some (e, size, bytes))
    (hL : Kth L k ⟨e, size, v, m, xs⟩) (hy : ys.length = q * size) (h1 : oneL ys = true) (h0 : Nat.blt 0 q = true) (hd : Nat.blt d n = true) (hb : (m + q) * bytes ≤ 140737488355328 ∧ m + q ≤ 9223372036854775807)
    (kk : ∀ g cap w' a, Mm own w0 bs (L.set k ⟨e, size, .slice (some ⟨g, 0, none⟩) (m + q) cap, m + q, xs ++ ys⟩) Fs w' → Fr n ds ((d, .slice (some ⟨g, 0, none⟩) (m + q) cap) :: l) a → wl ⟨os⟩ Q rest a w') :
    wl ⟨os⟩ Q (⟨some d, .call ⟨.builtin .append, #[S, X], #[t, t]⟩, ty, pos, af, g⟩ :: rest) a w := by
  have hbox := hM.mem.box _ List.mem_cons_self
  refine s_op hF hg fun _ hK => e_app hF (hM.sub (List.sublist_cons_self _ _) (List.Sublist.refl _) (fun _ h => h)) hS hX he hL hy ?_ (oneL_ok h1) (by simpa using h0) hb fun g cap w' h => hK _ _ (kk g cap w' _ h (hF.put hd _))
  intro j u hu
  rw [add_lit, (Box.rules hbox).1]
  simpa using hu
/-- An element of an owned row. -/
theorem e_loadR {α : Type} {enc : α → Value} {T : TypeId} {X : Operand} {ad : Addr} {j : Int} {xs : List α} {x : α} {e : TypeId} {m c : Nat} (hF : Fr n ds l a) (hM : Mm own w0 bs L Fs w) (hX : ev l X = some (.pointer (some (adr ad j 1)))) (hr : (⟨e, 1, .slice (some ad) m c, m, xs.map enc⟩ : Ent) ∈ L) (hx : xs[j.toNat]? = some x) (hT : sclO T = some ()) :
    (execOp a.eval ⟨some d, .load T X, ty, pos, af, g⟩).run Try.prog w = .ok (.value (enc x)) w := e_loadF hF hX (own_reads (hM.mem.own.own _ hr)) hx hT
theorem s_loadR {α : Type} {enc : α → Value} {T : TypeId} {X : Operand} {ad : Addr} {j : Int} {xs : List α} {x : α} {e : TypeId} {m c : Nat} (hF : Fr n ds l a) (hM : Mm own w0 bs L Fs w) (hg : wantO os l g = some true) (hX : ev l X = some (.pointer (some (adr ad j 1)))) (hr : (⟨e, 1, .slice (some ad) m c, m, xs.map enc⟩ : Ent) ∈ L) (hT : sclO T = some ()) (hd : Nat.blt d n = true) (hx : xs[j.toNat]? = some x)
    (k : ∀ a, Fr n ds ((d, enc x) :: l) a → wl ⟨os⟩ Q rest a w) : wl ⟨os⟩ Q (⟨some d, .load T X, ty, pos, af, g⟩ :: rest) a w :=
  s_op hF hg fun _ hK => upon_value (e_loadR hF hM hX hr hx hT) (hK _ _ (k _ (hF.put hd _)))
/-- A box of somebody else, known as a fact. -/
def BxF (b : Nat) (cs : List Value) (T : TypeId) : World → Prop := fun w => Box w b ⟨cs⟩ T
theorem BxF.has {b : Nat} {cs : List Value} {T : TypeId} {w : World} (h : Box w b ⟨cs⟩ T) : Has (fun _ => False) w (BxF b cs T) :=
  ⟨fun x => x = b, fun x hx => ⟨by subst hx; exact h.lt, id⟩, fun w' hk _ => h.of_block (hk b rfl)⟩
theorem s_loadK {T T' : TypeId} {X : Operand} {b off : Nat} {cs : List Value} {v : Value} (hF : Fr n ds l a) (hM : Mm own w0 bs L Fs w) (hg : wantO os l g = some true) (hX : ev l X = some (.pointer (some ⟨b, off, none⟩))) (hb : BxF b cs T' ∈ Fs) (hv : rdV T cs off = some v) (hd : Nat.blt d n = true)
    (k : ∀ a, Fr n ds ((d, v) :: l) a → wl ⟨os⟩ Q rest a w) : wl ⟨os⟩ Q (⟨some d, .load T X, ty, pos, af, g⟩ :: rest) a w :=
  s_op hF hg fun _ hK => upon_value (e_load hF hX (hM.fact hb) hv) (hK _ _ (k _ (hF.put hd v)))
/-- An element of a literal. -/
theorem s_loadB {T T' : TypeId} {X : Operand} {b off : Nat} {j : Int} {sz : Nat} {cs : List Value} {v : Value} (hF : Fr n ds l a) (hM : Mm own w0 bs L Fs w) (hg : wantO os l g = some true) (hX : ev l X = some (.pointer (some (adr ⟨b, off, none⟩ j sz)))) (hb : (⟨b, ⟨cs⟩, T'⟩ : BoxE) ∈ bs) (hv : rdV T cs (off + j.toNat * sz) = some v) (hd : Nat.blt d n = true)
    (k : ∀ a, Fr n ds ((d, v) :: l) a → wl ⟨os⟩ Q rest a w) : wl ⟨os⟩ Q (⟨some d, .load T X, ty, pos, af, g⟩ :: rest) a w := by
  have e : adr ⟨b, off, none⟩ j sz = ⟨b, off + j.toNat * sz, none⟩ := by unfold adr; rw [add_lit]
  rw [e] at hX
  exact s_op hF hg fun _ hK => upon_value (e_load hF hX (hM.mem.box _ hb) hv) (hK _ _ (k _ (hF.put hd v)))
/-! Structure -/
/-- The walk of a piece of code: in a function, or in a round of a range over a function. -/
def Wk (r : Option (Nat × Nat)) (c : Code) (Q : Exit → Act → World → Prop) (a : Act) (w : World) : Prop :=
  match r with
  | none => c.wp Try.prog Q a w
  | some (l, m) => c.wpIn (Fence.wide.inRound l) m Try.prog Q a w
variable {r : Option (Nat × Nat)}
theorem w_mono {c : Code} {Q' : Exit → Act → World → Prop} (h : Wk r c Q a w) (hq : ∀ e a w, Q e a w → Q' e a w) : Wk r c Q' a w := by
  cases r with
  | none => exact wp_mono h hq
  | some p => exact wpIn_mono h hq
theorem w_seq {x y : Code} (h : Wk r x (Exit.then (Wk r y Q) Q) a w) : Wk r (Code.seq x y) Q a w := by
  cases r with
  | none => exact wp_seq h
  | some p => exact wpIn_seq h
theorem w_skip (h : Q .normal a w) : Wk r .skip Q a w := by
  cases r with
  | none => exact wp_skip h
  | some p => exact wpIn_skip h
theorem w_exit {id : Nat} (h : Q (.exit id) a w) : Wk r (.exit id) Q a w := by
  cases r with
  | none => exact wp_exit h
  | some p => exact wpIn_exit h
theorem w_ret (h : Q .ret a w) : Wk r .ret Q a w := by
  cases r with
  | none => exact wp_ret h
  | some p => exact wpIn_ret h
theorem w_block {id : Nat} {c : Code} (h : Wk r c (Exit.inBlock id Q) a w) : Wk r (.block id c) Q a w := by
  cases r with
  | none => exact wp_block h
  | some p => exact wpIn_block h
theorem c_region {id : Nat} (h : wl ⟨os⟩ Q os a w) : Wk none (Code.region id ⟨os⟩ false) Q a w := wp_region_list (wl_list h)
theorem c_regionR {id l m : Nat} (h : wl ⟨os⟩ Q os a w) (hd : os.all noDefer = true) : Wk (some (l, m)) (Code.region id ⟨os⟩ false) Q a w := wpIn_region_list (wl_in hd h)
theorem s_nil {ops : Array Oper} (h : Q .normal a w) : wl ops Q [] a w := h
theorem q_then_n {K : Act → World → Prop} (h : K a w) : Exit.then K Q .normal a w := h
theorem q_then_x {K : Act → World → Prop} {i : Nat} (h : Q (.exit i) a w) : Exit.then K Q (.exit i) a w := h
theorem q_then_r {K : Act → World → Prop} (h : Q .ret a w) : Exit.then K Q .ret a w := h
theorem q_blk_n {i : Nat} (h : Q .normal a w) : Exit.inBlock i Q .normal a w := h
theorem q_blk_r {i : Nat} (h : Q .ret a w) : Exit.inBlock i Q .ret a w := h
theorem q_blk_x {i : Nat} (h : Q .normal a w) : Exit.inBlock i Q (.exit i) a w := by show (if i = i then _ else _); rw [if_pos rfl]; exact h
theorem w_split {c : Operand} {x y : Code} {t : Bool} (hc : a.eval c = .bool t) (ht : t = true → Wk r x Q a w) (hf : t = false → Wk r y Q a w) : Wk r (Code.cond c x y) Q a w := by
  cases r with
  | none => exact wp_cond_split hc ht hf
  | some p => exact wpIn_cond_split hc ht hf
theorem c_true {c : Operand} {x y : Code} (hF : Fr n ds l a) (hc : ev l c = some (.bool true)) (h : Wk r x Q a w) : Wk r (Code.cond c x y) Q a w := w_split (hF.eval hc) (fun _ => h) (fun h => by cases h)
theorem c_false {c : Operand} {x y : Code} (hF : Fr n ds l a) (hc : ev l c = some (.bool false)) (h : Wk r y Q a w) : Wk r (Code.cond c x y) Q a w := w_split (hF.eval hc) (fun h => by cases h) (fun _ => h)
/-- A condition whose value is known. -/
theorem c_true2 {c : Operand} {x y : Code} {v : Value} (hF : Fr n ds l a) (hc : ev l c = some v) (hv : v = .bool true) (h : Wk r x Q a w) : Wk r (Code.cond c x y) Q a w := by subst hv; exact c_true hF hc h
theorem c_false2 {c : Operand} {x y : Code} {v : Value} (hF : Fr n ds l a) (hc : ev l c = some v) (hv : v = .bool false) (h : Wk r y Q a w) : Wk r (Code.cond c x y) Q a w := by subst hv; exact c_false hF hc h
theorem c_dec {c : Operand} {x y : Code} {p : Prop} {_dp : Decidable p} (hF : Fr n ds l a) (hc : ev l c = some (.bool (decide p))) (ht : p → Wk r x Q a w) (hf : ¬ p → Wk r y Q a w) : Wk r (Code.cond c x y) Q a w :=
  w_split (hF.eval hc) (fun h => ht (of_decide_eq_true h)) (fun h => hf (of_decide_eq_false h))
theorem c_ndec {c : Operand} {x y : Code} {p : Prop} {_dp : Decidable p} (hF : Fr n ds l a) (hc : ev l c = some (.bool (!(decide p)))) (ht : ¬ p → Wk r x Q a w) (hf : p → Wk r y Q a w) : Wk r (Code.cond c x y) Q a w :=
  w_split (hF.eval hc) (fun h => ht (by simpa using h)) (fun h => hf (by simpa using h))
theorem c_loop {c : Code} (I : Nat → Act → World → Prop) {m : Nat} (h0 : I m a w) (round : ∀ m a w, I m a w → Wk r c (Exit.then (fun a' w' => ∃ m', m' < m ∧ I m' a' w') Q) a w) : Wk r (Code.loop c) Q a w := by
  classical
  have key : ∀ a w (h : ∃ m, I m a w), ∃ m, I m a w ∧ ∀ k, I k a w → m ≤ k := by
    intro a w h
    obtain ⟨m, hm⟩ := h
    induction m using Nat.strongRecOn with
    | _ m ih =>
      by_cases hk : ∃ k, k < m ∧ I k a w
      · obtain ⟨k, h1, h2⟩ := hk; exact ih k h1 h2
      · exact ⟨m, hm, fun k hI => Nat.le_of_not_lt fun hlt => hk ⟨k, hlt, hI⟩⟩
  have rd : ∀ a w, (∃ m, I m a w) → Wk r c (Exit.then (fun a' w' => (∃ m, I m a' w') ∧ (if h : ∃ m, I m a' w' then Classical.choose (key a' w' h) else 0) < (if h : ∃ m, I m a w then Classical.choose (key a w h) else 0)) Q) a w := by
    intro a w h
    have hs := Classical.choose_spec (key a w h)
    refine w_mono (round _ a w hs.1) ?_
    intro e a' w' he
    cases e <;> first | exact he | skip
    obtain ⟨m', h1, h2⟩ := he
    refine ⟨⟨m', h2⟩, ?_⟩
    have h3 : ∃ m, I m a' w' := ⟨m', h2⟩
    simp only [dif_pos h3, dif_pos h]
    exact Nat.lt_of_le_of_lt ((Classical.choose_spec (key a' w' h3)).2 m' h2) h1
  cases r with
  | none => exact wp_loop (fun a w => ∃ m, I m a w) (fun a w => if h : ∃ m, I m a w then Classical.choose (key a w h) else 0) ⟨m, h0⟩ rd
  | some p => exact wpIn_loop (fun a w => ∃ m, I m a w) (fun a w => if h : ∃ m, I m a w then Classical.choose (key a w h) else 0) ⟨m, h0⟩ rd
/-- A piece of code by itself. -/
def Cut (J : Act → World → Prop) : Exit → Act → World → Prop
  | .normal, a, w => J a w
  | _, _, _ => False
theorem c_cut {x : Code} {K : Act → World → Prop} (J : Act → World → Prop) (h1 : Wk r x (Cut J) a w) (h2 : ∀ a w, J a w → K a w) : Wk r x (Exit.then K Q) a w :=
  w_mono h1 fun e a w h => by cases e <;> first | exact h2 a w h | exact h.elim
theorem q_cut {J : Act → World → Prop} (h : J a w) : Cut J .normal a w := h
/-! Guards that are not decided -/
def gslot (os : List Oper) : Option (Nat × Bool) → Option Nat
  | none => none
  | some (j, _) => match getO os j with
    | some o => o.dst
    | none => none
theorem Fr.same (hF : Fr n ds l a) {t : Nat} {v u : Value} (h : lk l t = some v) (e : v = u) : Fr n ds ((t, u) :: l) a := by
  refine ⟨hF.size, hF.defs, fun k x hx => ?_⟩
  unfold lk at hx
  cases hb : Nat.beq t k
  · rw [hb] at hx; exact hF.get k x hx
  · rw [hb] at hx
    have := Nat.eq_of_beq_eq_true hb
    subst this
    injection hx with hx
    rw [← hx, ← e]
    exact hF.get _ _ h
/-- A guard that is known needs no split. -/
theorem g_known {dst : Option Tmp} (b : Bool) (_hF : Fr n ds l a) (_hg : wantO os l g = some b) (h : wl ⟨os⟩ Q (⟨dst, op, ty, pos, af, g⟩ :: rest) a w) : wl ⟨os⟩ Q (⟨dst, op, ty, pos, af, g⟩ :: rest) a w := h
theorem g_dec {dst : Option Tmp} {t : Nat} {p : Prop} {_dp : Decidable p} (hF : Fr n ds l a) (ht : gslot os g = some t) (hb : lk l t = some (.bool (decide p))) (h1 : p → Fr n ds ((t, .bool true) :: l) a → wl ⟨os⟩ Q (⟨dst, op, ty, pos, af, g⟩ :: rest) a w)
    (h2 : ¬ p → Fr n ds ((t, .bool false) :: l) a → wl ⟨os⟩ Q (⟨dst, op, ty, pos, af, g⟩ :: rest) a w) : wl ⟨os⟩ Q (⟨dst, op, ty, pos, af, g⟩ :: rest) a w := by
  by_cases hp : p
  · exact h1 hp (hF.same hb (by simp [hp]))
  · exact h2 hp (hF.same hb (by simp [hp]))
/-! Entry and exit -/
def startO : Nat → List Value → Option (List (Nat × Value))
  | _, [] => some []
  | k, v :: r => match startO (k + 1) r with | some x => some ((k, v) :: x) | none => none
theorem startO_ok : ∀ {vs : List Value} {k : Nat} {x : List (Nat × Value)}, startO k vs = some x → startL k vs = x
  | [], _, _, h => by injection h
  | v :: r, k, x, h => by
    unfold startO at h
    split at h
    · rename_i y hy; injection h with h; subst h; unfold startL; rw [startO_ok hy]
    · cases h
theorem f_start {f : FuncId} {fn : Func} {c : Code} {vs : List Value} {R : Ending → World → Prop} (hf : Try.prog.funcs[f]? = some fn) (hb : fn.body = some c) (hn : fn.ntmps = n) (hl : Nat.ble vs.length n = true) (hs : startO 0 vs = some l)
    (k : ∀ a, Fr n [] l a → Wk none c (bodyPost Try.prog fn R) a w) : Calls Try.prog f ⟨vs⟩ w R := by
  have := Fr.start (vs := vs) hn hl
  rw [startO_ok hs] at this
  exact calls_of_wp hf hb (k _ this)
inductive RL (l : List (Nat × Value)) (bs : List BoxE) : List ResultVar → List Value → Prop
  | nil : RL l bs [] []
  | tmp {t : Nat} {v : Value} {r : List ResultVar} {vs : List Value} : lk l t = some v → RL l bs r vs → RL l bs (.tmp t :: r) (v :: vs)
  | cell {t : Nat} {T T' : TypeId} {b off : Nat} {cs : List Value} {v : Value} {r : List ResultVar} {vs : List Value} : lk l t = some (.pointer (some ⟨b, off, none⟩)) → (⟨b, ⟨cs⟩, T'⟩ : BoxE) ∈ bs → rdV T cs off = some v → RL l bs r vs → RL l bs (.cell t T :: r) (v :: vs)
def resV : List Value → Value
  | [v] => v
  | vs => .tuple ⟨vs⟩
def resF (tmps : Array Value) : ResultVar → Sem Value
  | .tmp t => pure (tmps.getD t undef)
  | .cell p t => do loadVar t (← asAddr (tmps.getD p undef))
theorem results_eq (fn : Func) (tmps : Array Value) : results fn tmps = (do let vs ← fn.results.mapM (resF tmps); pure (if h : vs.size = 1 then vs[0] else .tuple vs)) := by
  unfold results
  congr 1
theorem RL.run (hF : Fr n ds l a) (hM : Mm own w0 bs L Fs w) : ∀ {rs : List ResultVar} {vs : List Value}, RL l bs rs vs → (rs.mapM (resF a.tmps)).run Try.prog w = .ok vs w
  | _, _, .nil => by simp
  | _, _, .tmp (t := t) h r => by
    have ih := r.run hF hM
    simp only [List.mapM_cons, Sem.run_bind, Sem.run_pure, Result.andThen, hF.get _ _ h, ih, resF]
  | _, _, .cell h hb hv r => by
    have ih := r.run hF hM
    have := run_loadVar_rd (hM.mem.box _ hb) hv
    simp only [List.mapM_cons, Sem.run_bind, Result.andThen, hF.get _ _ h, asAddr, Sem.run_pure, this, ih, resF]
theorem f_res {fn : Func} {rs : List ResultVar} {vs : List Value} (hr : fn.results = ⟨rs⟩) (hF : Fr n ds l a) (hM : Mm own w0 bs L Fs w) (hv : RL l bs rs vs) : (results fn a.tmps).run Try.prog w = .ok (resV vs) w := by
  have := hv.run hF hM
  rw [results_eq, hr, Array.mapM_eq_mapM_toList]
  simp only [Sem.run_bind, Sem.run_map, this, Result.andThen]
  match vs with
  | [] => rfl
  | [v] => rfl
  | _ :: _ :: _ => rfl
theorem f_ret {fn : Func} {rs : List ResultVar} {vs : List Value} {R : Ending → World → Prop} (hr : fn.results = ⟨rs⟩) (hF : Fr n [] l a) (hM : Mm own w0 bs L Fs w) (hv : RL l bs rs vs) (hR : R (.returned (resV vs)) w) : bodyPost Try.prog fn R .ret a w :=
  bodyPost_ret (f_res hr hF hM hv) hF.defs hR
theorem f_end {fn : Func} {rs : List ResultVar} {vs : List Value} {R : Ending → World → Prop} (hr : fn.results = ⟨rs⟩) (hF : Fr n [] l a) (hM : Mm own w0 bs L Fs w) (hv : RL l bs rs vs) (hR : R (.returned (resV vs)) w) : bodyPost Try.prog fn R .normal a w :=
  bodyPost_end (f_res hr hF hM hv) hF.defs hR
theorem Ret.mk {R : Value → World → Prop} {w w' : World} {v : Value} (hs : Since w w') (h : R v w') : Ret w R (.returned v) w' := ⟨v, rfl, hs, h⟩
end Go.Proofs.Ytadfdpkhehdikaa


/- The walker's steps in a region that draws its order. -/
namespace Go.Proofs.Ytadfdpkhehdikaa
open Go.RowKit Go.Shelf
variable {n : Nat} {ds : List Deferred} {l : List (Nat × Value)} {a : Act} {w w0 : World} {own : Nat → Prop} {bs bs0 : List BoxE} {L : List Ent} {Fs Fs0 : List (World → Prop)}
variable {os : List Oper} {Q : Exit → Act → World → Prop} {K : Act → World → Prop}
variable {d : Nat} {op : Op} {ty : TypeId} {pos : String} {af : Array Edge} {g : Option (Nat × Bool)}
variable {tail : Nat → Bool} {fuel i j : Nat} {listed : Array Bool}
theorem mixed : Try.prog.follows .mixedOrders = true := by kernel_rfl
theorem c_draw {id : Nat} (tail : Nat → Bool) (hM : Mm own w0 bs L Fs w) (h : ∀ w, Mm own w0 bs L Fs w → wpAnyT Try.prog .any ⟨os⟩ Q (Sm bs Fs) tail os.length (Array.replicate os.length false) a w) : Wk none (Code.region id ⟨os⟩ true) Q a w :=
  wp_region_T (Sm bs Fs) tail mixed hM.drew.sm fun _ => by have := h _ hM.drew; simpa using this
def takeB (os : List Oper) (tail : Nat → Bool) (listed : Array Bool) (i : Nat) : Bool :=
  Region.noSelect ⟨os⟩ && (Region.free .any ⟨os⟩ listed i && ((Region.ready .any ⟨os⟩ listed).contains i && (tailWaits .any ⟨os⟩ tail i && closedB .any ⟨os⟩ listed)))
theorem t_take {o : Oper} {v : Value} (hi : getO os i = some o) (hb : takeB os tail listed i = true) (hQ : ∀ c a w, Q (.panic c) (a.put o.dst v) w → Q (.panic c) a w) (hy : YieldsIf Try.prog ⟨os⟩ (Sm bs0 Fs0) o v a) (hS : Sm bs0 Fs0 w)
    (k : wpAnyT Try.prog .any ⟨os⟩ Q (Sm bs0 Fs0) tail fuel (listed.setIfInBounds i true) (a.put o.dst v) w) : wpAnyT Try.prog .any ⟨os⟩ Q (Sm bs0 Fs0) tail (fuel + 1) listed a w := by
  unfold takeB at hb
  simp only [Bool.and_eq_true] at hb
  obtain ⟨h1, h2, h3, h4, h5⟩ := hb
  exact wpAnyT_take (by rw [← hi, getO_eq]; simp) h1 h2 h3 h4 h5 hQ hy hS k
theorem t_pure {v : Value} {p : Prop} (hF : Fr n ds l a) (hi : getO os i = some ⟨some d, op, ty, pos, af, g⟩) (hg : wantO os l g = some true) (hp : pureO l op = some (v, p)) (hd : Nat.blt d n = true) (hb : takeB os tail listed i = true) (hS : Sm bs0 Fs0 w) (hQ : ∀ c a w, Q (.panic c) (a.put (some d) v) w → Q (.panic c) a w) (ob : p)
    (k : ∀ a, Fr n ds ((d, v) :: l) a → wpAnyT Try.prog .any ⟨os⟩ Q (Sm bs0 Fs0) tail fuel (listed.setIfInBounds i true) a w) : wpAnyT Try.prog .any ⟨os⟩ Q (Sm bs0 Fs0) tail (fuel + 1) listed a w :=
  t_take hi hb hQ (.inl ⟨wantO_ok (o := ⟨some d, op, ty, pos, af, g⟩) hF hg, fun w _ => pureO_ok (o := ⟨some d, op, ty, pos, af, g⟩) hF hp ob w⟩) hS (k _ (hF.put hd v))
theorem t_skip (hF : Fr n ds l a) (hi : getO os i = some ⟨some d, op, ty, pos, af, g⟩) (hg : wantO os l g = some false) (hd : Nat.blt d n = true) (hb : takeB os tail listed i = true) (hS : Sm bs0 Fs0 w) (hQ : ∀ c a w, Q (.panic c) (a.put (some d) undef) w → Q (.panic c) a w)
    (k : ∀ a, Fr n ds ((d, undef) :: l) a → wpAnyT Try.prog .any ⟨os⟩ Q (Sm bs0 Fs0) tail fuel (listed.setIfInBounds i true) a w) : wpAnyT Try.prog .any ⟨os⟩ Q (Sm bs0 Fs0) tail (fuel + 1) listed a w :=
  t_take hi hb hQ (.inr ⟨wantO_ok (o := ⟨some d, op, ty, pos, af, g⟩) hF hg, rfl⟩) hS (k _ (hF.put hd _))
theorem t_load {T T' : TypeId} {X : Operand} {b off : Nat} {cs : List Value} {v : Value} (hF : Fr n ds l a) (hi : getO os i = some ⟨some d, .load T X, ty, pos, af, g⟩) (hg : wantO os l g = some true) (hX : ev l X = some (.pointer (some ⟨b, off, none⟩))) (hm : (⟨b, ⟨cs⟩, T'⟩ : BoxE) ∈ bs0) (hv : rdV T cs off = some v) (hd : Nat.blt d n = true) (hb : takeB os tail listed i = true) (hS : Sm bs0 Fs0 w) (hQ : ∀ c a w, Q (.panic c) (a.put (some d) v) w → Q (.panic c) a w)
    (k : ∀ a, Fr n ds ((d, v) :: l) a → wpAnyT Try.prog .any ⟨os⟩ Q (Sm bs0 Fs0) tail fuel (listed.setIfInBounds i true) a w) : wpAnyT Try.prog .any ⟨os⟩ Q (Sm bs0 Fs0) tail (fuel + 1) listed a w :=
  t_take hi hb hQ (.inl ⟨wantO_ok (o := ⟨some d, .load T X, ty, pos, af, g⟩) hF hg, fun _ h => e_load hF hX (h.1 _ hm) hv⟩) hS (k _ (hF.put hd v))
theorem t_loadK {T T' : TypeId} {X : Operand} {b off : Nat} {cs : List Value} {v : Value} (hF : Fr n ds l a) (hi : getO os i = some ⟨some d, .load T X, ty, pos, af, g⟩) (hg : wantO os l g = some true) (hX : ev l X = some (.pointer (some ⟨b, off, none⟩))) (hm : BxF b cs T' ∈ Fs0) (hv : rdV T cs off = some v) (hd : Nat.blt d n = true) (hb : takeB os tail listed i = true) (hS : Sm bs0 Fs0 w) (hQ : ∀ c a w, Q (.panic c) (a.put (some d) v) w → Q (.panic c) a w)
    (k : ∀ a, Fr n ds ((d, v) :: l) a → wpAnyT Try.prog .any ⟨os⟩ Q (Sm bs0 Fs0) tail fuel (listed.setIfInBounds i true) a w) : wpAnyT Try.prog .any ⟨os⟩ Q (Sm bs0 Fs0) tail (fuel + 1) listed a w :=
  t_take hi hb hQ (.inl ⟨wantO_ok (o := ⟨some d, .load T X, ty, pos, af, g⟩) hF hg, fun _ h => e_load hF hX (h.2 _ hm) hv⟩) hS (k _ (hF.put hd v))
theorem t_loadF {α : Type} {enc : α → Value} {T : TypeId} {X : Operand} {ad : Addr} {z : Int} {xs : List α} {x : α} (hF : Fr n ds l a) (hi : getO os i = some ⟨some d, .load T X, ty, pos, af, g⟩) (hg : wantO os l g = some true) (hX : ev l X = some (.pointer (some (adr ad z 1)))) (hr : RdF enc (some ad) xs ∈ Fs0) (hx : xs[z.toNat]? = some x) (hT : sclO T = some ()) (hd : Nat.blt d n = true) (hb : takeB os tail listed i = true) (hS : Sm bs0 Fs0 w) (hQ : ∀ c a w, Q (.panic c) (a.put (some d) (enc x)) w → Q (.panic c) a w)
    (k : ∀ a, Fr n ds ((d, enc x) :: l) a → wpAnyT Try.prog .any ⟨os⟩ Q (Sm bs0 Fs0) tail fuel (listed.setIfInBounds i true) a w) : wpAnyT Try.prog .any ⟨os⟩ Q (Sm bs0 Fs0) tail (fuel + 1) listed a w :=
  t_take hi hb hQ (.inl ⟨wantO_ok (o := ⟨some d, .load T X, ty, pos, af, g⟩) hF hg, fun _ h => e_loadF hF hX (h.2 _ hr) hx hT⟩) hS (k _ (hF.put hd _))
theorem t_done (hr : Region.ready .any ⟨os⟩ listed = []) (h : Q .normal a w) : wpAnyT Try.prog .any ⟨os⟩ Q (Sm bs0 Fs0) tail fuel listed a w := wpAnyT_done hr h fuel
theorem t_one {o : Oper} (hF : Fr n ds l a) (hi : getO os i = some o) (hr : Region.ready .any ⟨os⟩ listed = [i]) (hg : wantO os l o.guard = some true)
    (h : ∀ K : Act → World → Prop, (∀ a' w', (tail i = false → Sm bs0 Fs0 w') → wpAnyT Try.prog .any ⟨os⟩ Q (Sm bs0 Fs0) tail fuel (listed.setIfInBounds i true) a' w' → K a' w') → o.wp Try.prog a w K Q) : wpAnyT Try.prog .any ⟨os⟩ Q (Sm bs0 Fs0) tail (fuel + 1) listed a w :=
  wpAnyT_one hr (by rw [← hi, getO_eq]; simp) (wantO_ok hF hg) fun K hK => h K fun a' w' h1 h2 => hK a' w' h1 (fun _ => h2)
theorem t_two {o u : Oper} (hF : Fr n ds l a) (hi : getO os i = some o) (hj : getO os j = some u) (hr : Region.ready .any ⟨os⟩ listed = [i, j]) (hg : wantO os l o.guard = some true) (hg' : wantO os l u.guard = some true)
    (h : ∀ K : Act → World → Prop, (∀ a' w', (tail i = false → Sm bs0 Fs0 w') → wpAnyT Try.prog .any ⟨os⟩ Q (Sm bs0 Fs0) tail fuel (listed.setIfInBounds i true) a' w' → K a' w') → o.wp Try.prog a w K Q)
    (h' : ∀ K : Act → World → Prop, (∀ a' w', (tail j = false → Sm bs0 Fs0 w') → wpAnyT Try.prog .any ⟨os⟩ Q (Sm bs0 Fs0) tail fuel (listed.setIfInBounds j true) a' w' → K a' w') → u.wp Try.prog a w K Q) : wpAnyT Try.prog .any ⟨os⟩ Q (Sm bs0 Fs0) tail (fuel + 1) listed a w :=
  wpAnyT_two hr (by rw [← hi, getO_eq]; simp) (wantO_ok hF hg) (by rw [← hj, getO_eq]; simp) (wantO_ok hF hg') (fun K hK => h K fun a' w' h1 h2 => hK a' w' h1 (fun _ => h2)) (fun K hK => h' K fun a' w' h1 h2 => hK a' w' h1 (fun _ => h2))
/-- A step that comes up behind all others of its kind, written as a step that a region may take: what it does to K. -/
theorem x_lit {t e : TypeId} {len : Nat} {ps : List (Nat × Operand)} {vs : List (Nat × Value)} {cs : List Value} (hF : Fr n ds l a) (hM : Mm own w0 bs L Fs w) (hp : evP l ps = some vs) (hl : litO t len vs = some (e, cs)) (hd : Nat.blt d n = true)
    (k : ∀ b w' a, Mm own w0 (⟨b, ⟨cs⟩, e⟩ :: bs) L Fs w' → Fr n ds ((d, .slice (some ⟨b, 0, none⟩) len len) :: l) a → K a w') : (⟨some d, .buildSlice t len ⟨ps⟩, ty, pos, af, g⟩ : Oper).wp Try.prog a w K Q :=
  e_lit hF hM hp hl fun b w' h1 _ => k b w' _ h1 (hF.put hd _)
theorem x_alloc {T : TypeId} {cs : List Value} (hF : Fr n ds l a) (hM : Mm own w0 bs L Fs w) (hz : zeroO T = some cs) (hd : Nat.blt d n = true) (k : ∀ b w' a, Mm own w0 (⟨b, ⟨cs⟩, T⟩ :: bs) L Fs w' → Fr n ds ((d, .pointer (some ⟨b, 0, none⟩)) :: l) a → K a w') : (⟨some d, .alloc T, ty, pos, af, g⟩ : Oper).wp Try.prog a w K Q :=
  e_alloc hz hM fun b w' h1 _ => k b w' _ h1 (hF.put hd _)
theorem x_store {T T' : TypeId} {X Y : Operand} {b off : Nat} {cs cs' vs : List Value} {v : Value} {bs' : List BoxE} (hF : Fr n ds l a) (hM : Mm own w0 bs L Fs w) (hX : ev l X = some (.pointer (some ⟨b, off, none⟩))) (hY : ev l Y = some v) (hv : cellsO v = some vs)
    (hu : Upd bs ⟨b, ⟨cs⟩, T'⟩ ⟨b, ⟨cs'⟩, T'⟩ bs') (hs : setAt cs off vs = some cs') (hT : tyS T = some vs.length) (h1 : oneL vs = true) (k : ∀ w' a, Mm own w0 bs' L Fs w' → Fr n ds l a → K a w') : (⟨none, .store T X Y, ty, pos, af, g⟩ : Oper).wp Try.prog a w K Q :=
  e_store hF hM hX hY hv hu hs hT h1 fun w' h => k w' _ h hF
theorem x_call {f : FuncId} {X : Operand} {as_ : List Operand} {ts : Array TypeId} {vs : List Value} {R : Value → World → Prop} (hF : Fr n ds l a) (hM : Mm own w0 bs L Fs w) (hX : ev l X = some (.func (.func f) #[] #[])) (ha : evL l as_ = some vs) (he : memB entL f = true) (hd : Nat.blt d n = true)
    (hC : Calls Try.prog f ⟨vs⟩ w (Ret w R)) (k : ∀ v w' a, R v w' → Since w w' → Mm own w0 bs L Fs w' → Fr n ds ((d, v) :: l) a → K a w') : (⟨some d, .call ⟨.value X, ⟨as_⟩, ts⟩, ty, pos, af, g⟩ : Oper).wp Try.prog a w K Q :=
  e_call hF hX ha he hC fun v w' hs hR => k v w' _ hR hs (hM.keep hs) (hF.put hd v)
theorem x_pure {v : Value} {p : Prop} (hF : Fr n ds l a) (hM : Mm own w0 bs L Fs w) (hp : pureO l op = some (v, p)) (hd : Nat.blt d n = true) (ob : p) (k : ∀ a, Fr n ds ((d, v) :: l) a → K a w) : (⟨some d, op, ty, pos, af, g⟩ : Oper).wp Try.prog a w K Q :=
  upon_value (pureO_ok (o := ⟨some d, op, ty, pos, af, g⟩) hF hp ob w) (k _ (hF.put hd v))
theorem x_load {T T' : TypeId} {X : Operand} {b off : Nat} {cs : List Value} {v : Value} (hF : Fr n ds l a) (hM : Mm own w0 bs L Fs w) (hX : ev l X = some (.pointer (some ⟨b, off, none⟩))) (hb : (⟨b, ⟨cs⟩, T'⟩ : BoxE) ∈ bs) (hv : rdV T cs off = some v) (hd : Nat.blt d n = true) (k : ∀ a, Fr n ds ((d, v) :: l) a → K a w) : (⟨some d, .load T X, ty, pos, af, g⟩ : Oper).wp Try.prog a w K Q :=
  upon_value (e_load hF hX (hM.mem.box _ hb) hv) (k _ (hF.put hd v))
/-- append of a literal that was laid in the region: it may stand at whatever place among the boxes. -/
theorem x_app {t e E : TypeId} {size bytes : Nat} {S X : Operand} {v : Value} {m k : Nat} {xs ys : List Value} {b q c : Nat} (hF : Fr n ds l a) (hM : Mm own w0 bs L Fs w) (hX : ev l X = some (.slice (some ⟨b, 0, none⟩) q c)) (hS : ev l S = some v) (he : elO t = some (e, size, bytes))
    (hm : (⟨b, ⟨ys⟩, E⟩ : BoxE) ∈ bs) (hL : Kth L k ⟨e, size, v, m, xs⟩) (hy : ys.length = q * size) (h1 : oneL ys = true) (h0 : Nat.blt 0 q = true) (hd : Nat.blt d n = true) (hb : (m + q) * bytes ≤ 140737488355328 ∧ m + q ≤ 9223372036854775807)
    (kk : ∀ g cap w' a, Mm own w0 bs (L.set k ⟨e, size, .slice (some ⟨g, 0, none⟩) (m + q) cap, m + q, xs ++ ys⟩) Fs w' → Fr n ds ((d, .slice (some ⟨g, 0, none⟩) (m + q) cap) :: l) a → K a w') :
    (⟨some d, .call ⟨.builtin .append, #[S, X], #[t, t]⟩, ty, pos, af, g⟩ : Oper).wp Try.prog a w K Q := by
  have hbox := hM.mem.box _ hm
  refine e_app hF hM hS hX he hL hy ?_ (oneL_ok h1) (by simpa using h0) hb fun g cap w' h => kk g cap w' _ h (hF.put hd _)
  intro j u hu
  rw [add_lit, (Box.rules hbox).1]
  simpa using hu
end Go.Proofs.Ytadfdpkhehdikaa


/- The walker's step over a range over a function. -/
namespace Go.Proofs.Ytadfdpkhehdikaa
open Go.RowKit Go.Shelf
variable {n : Nat} {ds : List Deferred} {l : List (Nat × Value)} {a : Act} {w w0 : World} {own : Nat → Prop} {bs : List BoxE} {L : List Ent} {Fs : List (World → Prop)}
variable {Q : Exit → Act → World → Prop}
/-- A block that is no row of cells turns: boxes and rows stay. -/
theorem Mm.turn {W W' : World} {row : Option Nat} (m : Mm own w0 bs L Fs W) (hg : W.grownBy W' row) (hr : ∀ r, row = some r → w0.heap.size ≤ r ∧ ∃ o : Obj, W.heap[r]? = some o ∧ o.isCells = false) : Mm own w0 bs L [] W' := by
  have hne : ∀ b (cs : Array Value) (T : TypeId) (fz : Nat × Nat), W.heap[b]? = some (.cells cs T fz) → some b ≠ row := by
    rintro b cs T fz h rfl
    obtain ⟨_, o, h1, h2⟩ := hr b rfl
    rw [h] at h1; injection h1 with h1; subst h1; cases h2
  refine ⟨⟨Below.grown m.since hg m.since.size (fun k e => (hr k e).1), fun x hx => (m.mem.box x hx).grown hg (hne _ _ _ _ (m.mem.box x hx)), m.mem.new, m.mem.two, ⟨fun x hx => ?_, m.mem.own.apart⟩, m.mem.far⟩, m.low, by simp⟩
  obtain ⟨h1, h2⟩ := m.mem.own.own x hx
  refine ⟨h1, ?_⟩
  rcases h2 with h2 | ⟨g, cap, cur, e1, e2, e3, r⟩
  · exact .inl h2
  · exact .inr ⟨g, cap, cur, e1, e2, (hg.block g (Array.getElem?_eq_some_iff.1 e3).1 (hne _ _ _ _ e3)).trans e3, r⟩
/-- A block for deferred calls. -/
def DefF (D : Nat) : World → Prop := fun w => w.heap[D]? = some (.deferred (some []))
theorem Mm.addDef (m : Mm own w0 bs L Fs w) {D : Nat} (h : w.heap[D]? = some (.deferred (some []))) (hD : w0.heap.size ≤ D) : Mm own w0 bs L (DefF D :: Fs) w := by
  refine m.addFact ⟨fun b => b = D, ?_, fun w' hk _ => (hk D rfl).trans h⟩
  rintro b rfl
  refine ⟨(Array.getElem?_eq_some_iff.1 h).1, ?_⟩
  rintro (h1 | ⟨x, hx, rfl⟩ | ⟨y, hy, he⟩)
  · have := m.low b h1; omega
  · rw [show w.heap[x.b]? = _ from m.mem.box x hx] at h; cases h
  · obtain ⟨_, k⟩ := m.mem.own.own y hy
    rcases k with ⟨k, _⟩ | ⟨g, cap, cur, e1, e2, e3, r⟩
    · rw [k] at he; cases he
    · rw [e1] at he
      injection he with he
      have he : g = b := he
      subst he
      rw [e3] at h; cases h
def markL (D : Nat) : List Deferred := [{ target := .collected D, args := #[] }]
/-- The start and the end of a function that holds a range over a function. -/
theorem f_startM {f : FuncId} {fn : Func} {c : Code} {vs : List Value} {R : Ending → World → Prop} (hf : Try.prog.funcs[f]? = some fn) (hb : fn.body = some c) (hn : fn.ntmps = n) (hl : Nat.ble vs.length n = true) (hs : startO 0 vs = some l)
    (k : ∀ a, Fr n [] l a → Wk none c (bodyPostM Fence.wide 9 Try.prog fn R) a w) : Calls Try.prog f ⟨vs⟩ w R := by
  have := Fr.start (vs := vs) hn hl
  rw [startO_ok hs] at this
  exact (callsIn_wide (n := 9)).1 (callsIn_of_wp_marks hf hb trivial (wpIn_wide.2 (k _ this)) rfl)
theorem f_ret0 {fn : Func} {rs : List ResultVar} {vs : List Value} {R : Ending → World → Prop} (hr : fn.results = ⟨rs⟩) (hF : Fr n [] l a) (hM : Mm own w0 bs L Fs w) (hv : RL l bs rs vs) (hR : R (.returned (resV vs)) w) : bodyPostM Fence.wide 9 Try.prog fn R .ret a w := by
  have hres := f_res (fn := fn) hr hF hM hv
  show LeavesInM _ _ _ _ _ _ a.defers _ _
  rw [hF.defs]
  exact ⟨_, hres, hR⟩
end Go.Proofs.Ytadfdpkhehdikaa


/- Literals that are never written again. -/
namespace Go.Proofs.Ytadfdpkhehdikaa
open Go.RowKit Go.Shelf
section
variable {w w0 : World} {own : Nat → Prop} {bs : List BoxE} {L : List Ent} {Fs : List (World → Prop)}
/-- A box that nobody writes again. -/
theorem Mm.freeze {b : Nat} {cs : List Value} {T : TypeId} (m : Mm own w0 (⟨b, ⟨cs⟩, T⟩ :: bs) L Fs w) : Mm own w0 bs L (BxF b cs T :: Fs) w := by
  have hbox := m.mem.box _ List.mem_cons_self
  have hnew := m.mem.new _ List.mem_cons_self
  have htwo := m.mem.two
  rw [List.pairwise_cons] at htwo
  refine (m.sub (.cons _ (.refl _)) (.refl _) (fun f hf => hf)).addFact ⟨fun x => x = b, fun x hx => ⟨by subst hx; exact hbox.lt, ?_⟩, fun w' hk _ => hbox.of_block (hk b rfl)⟩
  subst hx
  rintro (h | ⟨y, hy, e⟩ | ⟨y, hy, e⟩)
  · have := m.low _ h; simp only at hnew; omega
  · exact htwo.1 y hy e.symm
  · exact m.mem.far _ List.mem_cons_self y hy e
theorem Has.lit {α : Type} {enc : α → Value} {b : Nat} {cs : List Value} {T : TypeId} (h : Has own w (BxF b cs T)) (xs : List α) (e : cs = xs.map enc) : Has own w (RdF enc (some ⟨b, 0, none⟩) xs) := by
  subst e
  refine h.imp fun w hb i x hx => ⟨b, 0, rfl, Box.lt hb, ?_⟩
  rw [(Box.rules hb).1 _]
  simp [hx]
theorem Has.ints {b : Nat} {cs : List Value} {T : TypeId} (h : Has own w (BxF b cs T)) (xs : List Int) (e : cs = xs.map (Value.int .i64)) : Has own w (RdF (Value.int .i64) (some ⟨b, 0, none⟩) xs) := h.lit xs e
end
end Go.Proofs.Ytadfdpkhehdikaa


/- Elements of owned rows that are stored into; appends of slices that are known. -/
namespace Go.Proofs.Ytadfdpkhehdikaa
open Go.RowKit Go.Shelf
section
variable {n : Nat} {ds : List Deferred} {l : List (Nat × Value)} {a : Act} {w w0 : World} {own : Nat → Prop} {bs : List BoxE} {L : List Ent} {Fs : List (World → Prop)}
variable {os rest : List Oper} {Q : Exit → Act → World → Prop} {K : Act → World → Prop}
variable {d : Nat} {op : Op} {ty : TypeId} {pos : String} {af : Array Edge} {g : Option (Nat × Bool)}
/-- A cell of an owned row, stored. -/
theorem Mm.rowSet {k : Nat} {e : TypeId} {size m c gb : Nat} {xs : List Value} (hM : Mm own w0 bs L Fs w) (hL : L[k]? = some ⟨e, size, .slice (some ⟨gb, 0, none⟩) m c, m, xs⟩) (j : Nat) (u : Value) :
    Mm own w0 bs (L.set k ⟨e, size, .slice (some ⟨gb, 0, none⟩) m c, m, xs.set j u⟩) Fs (w.setCell ⟨gb, j, none⟩ u) := by
  have h := (hM.mem.own.get hL).stored j u
  exact hM.app hL h.1 h.2 (.inl rfl)
theorem row_zero {base : Nat} {e : TypeId} {size m c : Nat} {ad : Addr} {xs : List Value} (h : w.ownsRow base e size (.slice (some ad) m c) m xs) : ∃ gb, ad = ⟨gb, 0, none⟩ := by
  rcases h.2 with ⟨h', _⟩ | ⟨g', cap', cur, h', _⟩
  · simp at h'
  · simp only [Value.slice.injEq, Option.some.injEq] at h'
    exact ⟨g', h'.1⟩
theorem e_storeR {α : Type} {enc : α → Value} {T : TypeId} {X Y : Operand} {ad : Addr} {j : Int} {xs : List α} {x : α} {e : TypeId} {m c k : Nat} (hF : Fr n ds l a) (hM : Mm own w0 bs L Fs w) (hX : ev l X = some (.pointer (some (adr ad j 1)))) (hL : Kth L k ⟨e, 1, .slice (some ad) m c, m, xs.map enc⟩) (hY : ev l Y = some (enc x))
    (hT : tyS T = some 1) (hc : cellsO (enc x) = some [enc x]) (h1 : (enc x).oneCell' = true) (hj : j.toNat < xs.length) {dst : Option Tmp}
    (kk : ∀ w', Mm own w0 bs (L.set k ⟨e, 1, .slice (some ad) m c, m, (xs.set j.toNat x).map enc⟩) Fs w' → K (a.put dst undef) w') :
    (⟨dst, .store T X Y, ty, pos, af, g⟩ : Oper).wp Try.prog a w K Q := by
  have hown := hM.mem.own.get hL.get
  obtain ⟨gb, rfl⟩ := row_zero hown
  have hadr : adr ⟨gb, 0, none⟩ j 1 = ⟨gb, j.toNat, none⟩ := by
    unfold adr
    rw [add_lit]
    simp
  rw [hadr] at hX
  have hget : w.cell? ⟨gb, j.toNat, none⟩ = some (enc xs[j.toNat]) := by
    obtain ⟨b, off, e1, _, e2⟩ := own_reads hown j.toNat _ (List.getElem?_eq_getElem hj)
    simp only [Option.some.injEq, Addr.mk.injEq, and_true] at e1
    obtain ⟨rfl, rfl⟩ := e1
    simpa using e2
  have hfz := hown.frozenAt j.toNat
  refine upon_skip' (w' := w.setCell ⟨gb, j.toNat, none⟩ (enc x)) ?_ (kk _ (by have := hM.rowSet hL.get j.toNat (enc x); rwa [List.map_set]))
  have hadd : (⟨gb, j.toNat, none⟩ : Addr).add 0 = ⟨gb, j.toNat, none⟩ := by rw [add_lit]; simp
  simp only [execOp, Instr.storeAt, Sem.run_bind, hF.eval hX, hF.eval hY, Instr.sureAddr, storeVar, cellsO_ok hc, tyS_run hT, Result.andThen, Sem.run_pure]
  simp [storeCells, Sem.run_bind, hadd, run_store Try.prog w _ _ _ h1, hget, hfz, Result.andThen]
theorem x_storeR {α : Type} {enc : α → Value} {T : TypeId} {X Y : Operand} {ad : Addr} {j : Int} {xs : List α} {x : α} {e : TypeId} {m c k : Nat} (hF : Fr n ds l a) (hM : Mm own w0 bs L Fs w) (hX : ev l X = some (.pointer (some (adr ad j 1)))) (hL : Kth L k ⟨e, 1, .slice (some ad) m c, m, xs.map enc⟩) (hY : ev l Y = some (enc x))
    (hT : tyS T = some 1) (hc : cellsO (enc x) = some [enc x]) (h1 : (enc x).oneCell' = true) (hj : j.toNat < xs.length)
    (kk : ∀ w' a, Mm own w0 bs (L.set k ⟨e, 1, .slice (some ad) m c, m, (xs.set j.toNat x).map enc⟩) Fs w' → Fr n ds l a → K a w') : (⟨none, .store T X Y, ty, pos, af, g⟩ : Oper).wp Try.prog a w K Q :=
  e_storeR hF hM hX hL hY hT hc h1 hj fun w' h => kk w' _ h hF
/-- append of a slice that can be read. -/
theorem s_appF {α : Type} {enc : α → Value} {t e : TypeId} {bytes : Nat} {S X : Operand} {v : Value} {m k c : Nat} {xs : List Value} {ys : List α} {ao : Option Addr} (hF : Fr n ds l a) (hM : Mm own w0 bs L Fs w) (hg : wantO os l g = some true) (hX : ev l X = some (.slice ao ys.length c)) (hf : RdF enc ao ys ∈ Fs) (hS : ev l S = some v) (he : elO t = some (e, 1, bytes))
    (hL : Kth L k ⟨e, 1, v, m, xs⟩) (h1 : ∀ y, (enc y).oneCell' = true) (hd : Nat.blt d n = true) (hb : (m + ys.length) * bytes ≤ 140737488355328 ∧ m + ys.length ≤ 9223372036854775807)
    (kk : ∀ a' cap w' a, Mm own w0 bs (L.set k ⟨e, 1, .slice a' (m + ys.length) cap, m + ys.length, xs ++ ys.map enc⟩) Fs w' → Fr n ds ((d, .slice a' (m + ys.length) cap) :: l) a → wl ⟨os⟩ Q rest a w') :
    wl ⟨os⟩ Q (⟨some d, .call ⟨.builtin .append, #[S, X], #[t, t]⟩, ty, pos, af, g⟩ :: rest) a w := by
  have hrd := hM.fact hf
  rcases Nat.eq_zero_or_pos ys.length with h0 | h0
  · obtain rfl := List.length_eq_zero_iff.1 h0
    obtain ⟨e1, e2, i, z, i1, i2, i3, i4, i5⟩ := elO_ok he
    have hown := hM.mem.own.get hL.get
    obtain ⟨a', cap, rfl, hle⟩ : ∃ a' cap, v = .slice a' m cap ∧ m ≤ cap := by
      rcases hown.2 with ⟨h', h2⟩ | ⟨g', cap', cur, h', _, _, h3, _⟩
      · simp only at h' h2; exact ⟨none, 0, by rw [h', h2], by omega⟩
      · exact ⟨_, _, h', h3⟩
    have hset : L.set k ⟨e, 1, .slice a' m cap, m, xs⟩ = L := by
      apply List.ext_getElem?
      intro q
      rw [List.getElem?_set]
      split
      · rename_i hq; subst hq
        split
        · exact hL.get.symm
        · rename_i hn; rw [List.getElem?_eq_none (by omega)]
      · rfl
    refine s_op hF hg fun _ hK => ?_
    have hsrc : Src Try.prog i.size t (.slice ao 0 c) 0 [] w := by
      cases ao with
      | none => exact Src.ofNil w e1 c
      | some ad => exact Src.ofSlice w e1 ad 0 c [] (by simp) (by simp) (by simp)
    have hr := run_append_nothing (P := Try.prog) w t t ty e i e1 i1 a' m cap hle _ hsrc
    unfold Oper.wp execOp
    simp only [resolve, invoke, builtin, Sem.run_bind, Sem.run_pure, Result.andThen_ok, List.map_toArray, List.map_cons, List.map_nil, hF.eval hS, hF.eval hX, List.length_nil, hr]
    exact hK _ _ (kk a' cap w _ (by simpa [hset] using hM) (hF.put hd _))
  · obtain ⟨b, off, rfl, _, _⟩ := hrd 0 _ (List.getElem?_eq_getElem h0)
    refine s_op hF hg fun _ hK => e_app hF hM hS hX he hL (ys := ys.map enc) (by simp) ?_ (by intro u hu; obtain ⟨y, _, rfl⟩ := List.mem_map.1 hu; exact h1 y) h0 hb fun g cap w' h => hK _ _ (kk _ cap w' _ h (hF.put hd _))
    intro j u hu
    rw [List.getElem?_map] at hu
    cases hy : ys[j]? with
    | none => rw [hy] at hu; simp at hu
    | some y =>
      rw [hy] at hu
      simp only [Option.map_some, Option.some.injEq] at hu
      obtain ⟨b', off', e1, _, e2⟩ := hrd j y hy
      simp only [Option.some.injEq, Addr.mk.injEq, and_true] at e1
      obtain ⟨rfl, rfl⟩ := e1
      rw [add_lit, e2, hu]
end
end Go.Proofs.Ytadfdpkhehdikaa


/- Comparisons of values other than numbers: with nil, and of truth values. -/
namespace Go.Proofs.Ytadfdpkhehdikaa
open Go.RowKit Go.Shelf
section
variable {n : Nat} {ds : List Deferred} {l : List (Nat × Value)} {a : Act} {w w0 : World} {own : Nat → Prop} {bs : List BoxE} {L : List Ent} {Fs : List (World → Prop)}
variable {os rest : List Oper} {Q : Exit → Act → World → Prop} {K : Act → World → Prop}
variable {d : Nat} {op : Op} {ty : TypeId} {pos : String} {af : Array Edge} {g : Option (Nat × Bool)}
def isConst : Operand → Bool
  | .const _ => true
  | _ => false
/-- Whether two values are equal, where one is nil or both are truth values. -/
def eqO (t : TypeId) (X Y : Operand) (x y : Value) : Option Bool := match tyD t with
  | some (.slice _) => match x, y with
    | .slice none _ _, .slice none _ _ => some true
    | .slice none _ _, .slice (some _) _ _ => some false
    | .slice (some _) _ _, .slice none _ _ => some false
    | _, _ => none
  | some (.pointer _) => match x, y with
    | .pointer none, .pointer none => some true
    | .pointer none, .pointer (some _) => some false
    | .pointer (some _), .pointer none => some false
    | _, _ => none
  | some (.func _ _ _) => match x, y with
    | .nilFunc, .nilFunc => some true
    | .func _ _ _, .nilFunc => some false
    | .nilFunc, .func _ _ _ => some false
    | _, _ => none
  | some (.interface _) => match x, y with
    | .nilIface, .nilIface => match isConst X || isConst Y with
      | true => some true
      | false => none
    | .iface _ _, .nilIface => some false
    | .nilIface, .iface _ _ => some false
    | _, _ => none
  | some .bool => match x, y with
    | .bool p, .bool q => some (p == q)
    | _, _ => none
  | _ => none
def eqV (op : BinOp) (b : Bool) : Option Value := match op with
  | .eql => some (.bool b)
  | .neq => some (.bool (!b))
  | _ => none
theorem eqO_guard {op : BinOp} {t : TypeId} {X Y : Operand} {x y : Value} {b : Bool} (h : eqO t X Y x y = some b) (w : World) : (eqGuard op t X Y x y).run Try.prog w = .ok () w := by
  unfold eqO at h
  unfold eqGuard
  split at h
  all_goals try (split at h)
  all_goals try cases h
  all_goals try (cases op <;> simp <;> done)
  split at h
  · rename_i hc
    unfold isConst at hc
    cases X <;> cases Y <;> simp at hc <;> cases op <;> simp
  · cases h
theorem eqO_ok {t : TypeId} {X Y : Operand} {x y : Value} {b : Bool} (h : eqO t X Y x y = some b) (w : World) : (Op.equal t x y).run Try.prog w = .ok b w := by
  unfold eqO at h
  unfold Op.equal Op.maxDepth
  rw [show (10000 : Nat) = 9999 + 1 from rfl]
  unfold Op.equalIn
  split at h
  all_goals try (rename_i hd; have hu := tyD_run hd w)
  all_goals try (split at h)
  all_goals try (cases h; done)
  all_goals try (injection h with h; subst h; simp only [Sem.run_bind, hu, Result.andThen]; simp; done)
  split at h
  · injection h with h
    subst h
    simp only [Sem.run_bind, hu, Result.andThen]
    simp
  · cases h
theorem e_eqn {t t' : TypeId} {X Y : Operand} {x y v : Value} {b : Bool} {op : BinOp} (hF : Fr n ds l a) (hX : ev l X = some x) (hY : ev l Y = some y) (he : eqO t X Y x y = some b) (hv : eqV op b = some v) (w : World) {dst : Option Tmp} : (execOp a.eval ⟨dst, .binOp op t X Y t', ty, pos, af, g⟩).run Try.prog w = .ok (.value v) w := by
  have h1 := eqO_guard (op := op) he w
  have h2 := eqO_ok he w
  have h3 : (binOp op t x y).run Try.prog w = .ok v w := by
    unfold eqO at he
    unfold eqV at hv
    split at hv
    · injection hv with hv; subst hv
      split at he
      all_goals try (split at he)
      all_goals try (cases he; done)
      all_goals (simp [binOp, Sem.run_bind, h2, Result.andThen])
    · injection hv with hv; subst hv
      split at he
      all_goals try (split at he)
      all_goals try (cases he; done)
      all_goals (simp [binOp, Sem.run_bind, h2, Result.andThen])
    · cases hv
  simp only [execOp, hF.eval hX, hF.eval hY, Sem.run_bind, h1, Result.andThen, h3]
  rfl
theorem s_eqn {t t' : TypeId} {X Y : Operand} {x y v : Value} {b : Bool} {op : BinOp} (hF : Fr n ds l a) (hg : wantO os l g = some true) (hX : ev l X = some x) (hY : ev l Y = some y) (he : eqO t X Y x y = some b) (hv : eqV op b = some v) (hd : Nat.blt d n = true)
    (k : ∀ a, Fr n ds ((d, v) :: l) a → wl ⟨os⟩ Q rest a w) : wl ⟨os⟩ Q (⟨some d, .binOp op t X Y t', ty, pos, af, g⟩ :: rest) a w :=
  s_op hF hg fun _ hK => upon_value (e_eqn hF hX hY he hv w) (hK _ _ (k _ (hF.put hd v)))
/-- A drawn region in which boxes are stored into before others are read: what all its orders see is less. -/
theorem c_drawS {id : Nat} {bs0 : List BoxE} (tail : Nat → Bool) (hs : ∀ x ∈ bs0, x ∈ bs) (hM : Mm own w0 bs L Fs w) (h : ∀ w, Mm own w0 bs L Fs w → wpAnyT Try.prog .any ⟨os⟩ Q (Sm bs0 Fs) tail os.length (Array.replicate os.length false) a w) : Wk none (Code.region id ⟨os⟩ true) Q a w :=
  wp_region_T (Sm bs0 Fs) tail mixed (hM.drew.sm.sub hs fun _ h => h) fun _ => by have := h _ hM.drew; simpa using this
/-- A call that hands over rows: what is known of the world before it stays, for addRows. -/
theorem s_callO {f : FuncId} {X : Operand} {as_ : List Operand} {ts : Array TypeId} {vs : List Value} {R : Value → World → Prop} (hF : Fr n ds l a) (hg : wantO os l g = some true) (hX : ev l X = some (.func (.func f) #[] #[])) (ha : evL l as_ = some vs) (he : memB entL f = true) (hd : Nat.blt d n = true)
    (hC : Calls Try.prog f ⟨vs⟩ w (Ret w R)) (k : ∀ v w' a, R v w' → Since w w' → Fr n ds ((d, v) :: l) a → wl ⟨os⟩ Q rest a w') : wl ⟨os⟩ Q (⟨some d, .call ⟨.value X, ⟨as_⟩, ts⟩, ty, pos, af, g⟩ :: rest) a w :=
  s_op hF hg fun _ hK => e_call hF hX ha he hC fun v w' hs hR => hK _ _ (k v w' _ hR hs (hF.put hd v))
theorem x_callO {f : FuncId} {X : Operand} {as_ : List Operand} {ts : Array TypeId} {vs : List Value} {R : Value → World → Prop} (hF : Fr n ds l a) (hX : ev l X = some (.func (.func f) #[] #[])) (ha : evL l as_ = some vs) (he : memB entL f = true) (hd : Nat.blt d n = true)
    (hC : Calls Try.prog f ⟨vs⟩ w (Ret w R)) (k : ∀ v w' a, R v w' → Since w w' → Fr n ds ((d, v) :: l) a → K a w') : (⟨some d, .call ⟨.value X, ⟨as_⟩, ts⟩, ty, pos, af, g⟩ : Oper).wp Try.prog a w K Q :=
  e_call hF hX ha he hC fun v w' hs hR => k v w' _ hR hs (hF.put hd v)
/-- A literal without elements: a row. -/
theorem e_lit0 {t e : TypeId} {size : Nat} (hM : Mm own w0 bs L Fs w) (he : tyD t = some (.slice e)) (hs : tyS e = some size)
    (k : ∀ b w', Mm own w0 bs (⟨e, size, .slice (some ⟨b, 0, none⟩) 0 0, 0, []⟩ :: L) Fs w' → Since w w' → K (a.put (some d) (.slice (some ⟨b, 0, none⟩) 0 0)) w') : (⟨some d, .buildSlice t 0 ⟨[]⟩, ty, pos, af, g⟩ : Oper).wp Try.prog a w K Q := by
  refine upon_value (v := .slice (some ⟨w.heap.size, 0, none⟩) 0 0) (w' := w.alloc (.cells ⟨[]⟩ e)) ?_ (k _ _ ((hM.box ⟨[]⟩ e).boxRow size 0 (by simp) (by decide)) ((Since.refl w).alloc _))
  simp only [execOp, Instr.buildSlice, List.map_toArray, List.map_nil]
  simp only [Sem.run_bind, tyD_run he, Result.andThen, tyS_run hs]
  rw [if_neg (by omega)]
  simp [Sem.run_bind, Result.andThen, Instr.fill, newRow, newObj, Sem.run]
  rw [show Array.range 0 = #[] from Array.ext' (by simp)]
  simp
theorem s_lit0 {t e : TypeId} {size : Nat} (hF : Fr n ds l a) (hM : Mm own w0 bs L Fs w) (hg : wantO os l g = some true) (he : tyD t = some (.slice e)) (hs : tyS e = some size) (hd : Nat.blt d n = true)
    (k : ∀ b w' a, Mm own w0 bs (⟨e, size, .slice (some ⟨b, 0, none⟩) 0 0, 0, []⟩ :: L) Fs w' → Fr n ds ((d, .slice (some ⟨b, 0, none⟩) 0 0) :: l) a → wl ⟨os⟩ Q rest a w') : wl ⟨os⟩ Q (⟨some d, .buildSlice t 0 ⟨[]⟩, ty, pos, af, g⟩ :: rest) a w :=
  s_op hF hg fun _ hK => e_lit0 hM he hs fun b w' h1 _ => hK _ _ (k b w' _ h1 (hF.put hd _))
end
end Go.Proofs.Ytadfdpkhehdikaa


/- Arguments that came in, opened: structs, slices and arrays of integers; for every seat. -/
namespace Go.Proofs.Ytadfdpkhehdikaa
open Go.RowKit Go.Shelf Go.ChangeShapes Go.WideShapes Go.ChangeAt
theorem Arg.own : ownKnob Try.prog.godebug = none := by kernel_rfl
theorem Arg.laidOut : laidOutB Try.prog = true := by kernel_rfl
theorem wf64 {x : Int} (h : (Lit.int .i64 x).wf = true) : -9223372036854775808 ≤ x ∧ x ≤ 9223372036854775807 := by
  have h2 : (decide (IntKind.i64.min ≤ x) && decide (x ≤ IntKind.i64.max)) = true := h
  simp only [Bool.and_eq_true, decide_eq_true_eq] at h2
  exact h2
section
variable {H : Type} {enc : TypeId × Value → H} {w : World} {r : Reach} {b0 base : Nat} {spare : Nat → Bool} {held : Bool}
theorem of_slice {t e : TypeId} {n : Nat} {c : Value} {y : DataW H × List MemPlace} (ht : Try.prog.underlying t = some (.slice e)) (he : Try.prog.underlying e = some (.int .i64)) (hc : Try.prog.cellsOf e = 1) (h : DataW.trod enc Try.prog w 0 (fun _ => true) held n t [c] = some y) :
    ∃ (a : Option Addr) (xs : List Int) (cap : Nat), c = .slice a xs.length cap ∧ Reads (Value.int .i64) w a xs ∧ xs.length ≤ 9223372036854775807 ∧ xs.length ≤ cap ∧ ∀ x ∈ xs, -9223372036854775808 ≤ x ∧ x ≤ 9223372036854775807 := by
  rcases open_ints ht he hc h with ⟨hcs, _⟩ | ⟨a, len, cap, zs, hcs, _, hl, hm, hz, _, hcell, hwz⟩
  · simp only [List.cons.injEq, and_true] at hcs
    exact ⟨none, [], 0, hcs, fun i x hx => by simp at hx, by simp, by simp, by simp⟩
  · simp only [List.cons.injEq, and_true] at hcs
    simp only [if_true] at hz
    unfold maxLen at hm
    refine ⟨some a, zs.take len, cap, by rw [hcs]; congr 1; simp; omega, ?_, by simp; omega, by simp; omega, ?_⟩
    · intro i x hx
      rw [List.getElem?_take] at hx
      split at hx
      · have hiz : i < zs.length := (List.getElem?_eq_some_iff.1 hx).1
        have h1 := hcell i hiz
        have h0 := hcell 0 (by omega)
        have e0 : a.add 0 = a := rfl
        rw [e0] at h0
        have hsp := World.cell?_spot h0
        have hlt := World.block_lt_of_cell? w _ h0
        obtain ⟨b, off, sp⟩ := a
        simp only at hsp
        subst hsp
        refine ⟨b, off, rfl, hlt, ?_⟩
        have e1 : (⟨b, off, none⟩ : Addr).add i = ⟨b, off + i, none⟩ := by
          unfold Addr.add
          split
          · next h => subst h; rfl
          · rfl
        rw [e1] at h1
        rw [h1]
        simp [hx]
      · cases hx
    · intro x hx
      exact wf64 (hwz x (List.mem_of_mem_take hx))
theorem of_int {t : TypeId} {n : Nat} {c : Value} {y : DataW H × List MemPlace} (ht : Try.prog.underlying t = some (.int .i64)) (h : DataW.trod enc Try.prog w base spare held n t [c] = some y) : ∃ x : Int, c = .int .i64 x ∧ -9223372036854775808 ≤ x ∧ x ≤ 9223372036854775807 := by
  obtain ⟨x, h1, _, h3⟩ := DataW.trod_int ht h
  simp only [List.cons.injEq, and_true] at h1
  exact ⟨x, h1, wf64 h3⟩
theorem Has.reads {α : Type} {en : α → Value} {a : Option Addr} {xs : List α} (h : Reads en w a xs) : Has (fun _ => False) w (RdF en a xs) := RdF.has h fun _ _ k => k
theorem of_sliceK {t e : TypeId} {k : IntKind} {n : Nat} {c : Value} {y : DataW H × List MemPlace} (ht : Try.prog.underlying t = some (.slice e)) (he : Try.prog.underlying e = some (.int k)) (hc : Try.prog.cellsOf e = 1) (h : DataW.trod enc Try.prog w 0 (fun _ => true) held n t [c] = some y) :
    ∃ (a : Option Addr) (xs : List Int) (cap : Nat), c = .slice a xs.length cap ∧ Reads (Value.int k) w a xs ∧ xs.length ≤ 9223372036854775807 ∧ xs.length ≤ cap ∧ ∀ x ∈ xs, (Lit.int k x).wf = true := by
  rcases open_ints ht he hc h with ⟨hcs, _⟩ | ⟨a, len, cap, zs, hcs, _, hl, hm, hz, _, hcell, hwz⟩
  · simp only [List.cons.injEq, and_true] at hcs
    exact ⟨none, [], 0, hcs, fun i x hx => by simp at hx, by simp, by simp, by simp⟩
  · simp only [List.cons.injEq, and_true] at hcs
    simp only [if_true] at hz
    unfold maxLen at hm
    refine ⟨some a, zs.take len, cap, by rw [hcs]; congr 1; simp; omega, ?_, by simp; omega, by simp; omega, ?_⟩
    · intro i x hx
      rw [List.getElem?_take] at hx
      split at hx
      · have hiz : i < zs.length := (List.getElem?_eq_some_iff.1 hx).1
        have h1 := hcell i hiz
        have h0 := hcell 0 (by omega)
        have e0 : a.add 0 = a := rfl
        rw [e0] at h0
        have hsp := World.cell?_spot h0
        have hlt := World.block_lt_of_cell? w _ h0
        obtain ⟨b, off, sp⟩ := a
        simp only at hsp
        subst hsp
        refine ⟨b, off, rfl, hlt, ?_⟩
        have e1 : (⟨b, off, none⟩ : Addr).add i = ⟨b, off + i, none⟩ := by
          unfold Addr.add
          split
          · next h => subst h; rfl
          · rfl
        rw [e1] at h1
        rw [h1]
        simp [hx]
      · cases hx
    · intro x hx
      exact hwz x (List.mem_of_mem_take hx)
theorem of_intK {t : TypeId} {k : IntKind} {n : Nat} {c : Value} {y : DataW H × List MemPlace} (ht : Try.prog.underlying t = some (.int k)) (h : DataW.trod enc Try.prog w base spare held n t [c] = some y) : ∃ x : Int, c = .int k x ∧ (Lit.int k x).wf = true := by
  obtain ⟨x, h1, _, h3⟩ := DataW.trod_int ht h
  simp only [List.cons.injEq, and_true] at h1
  exact ⟨x, h1, h3⟩
/-- A slice of integers that came in. -/
theorem slice_arg {t e : TypeId} {k : IntKind} {v : Value} {d : DataW H} {p : List MemPlace} (ht : Try.prog.underlying t = some (.slice e)) (he : Try.prog.underlying e = some (.int k)) (hc : Try.prog.cellsOf e = 1) (hcl : v.cells = #[v]) (h : DataW.Trod enc Try.prog w 0 (fun _ => true) held t v d p) :
    ∃ (a : Option Addr) (xs : List Int) (cap : Nat), v = .slice a xs.length cap ∧ Reads (Value.int k) w a xs ∧ xs.length ≤ 9223372036854775807 ∧ xs.length ≤ cap ∧ ∀ x ∈ xs, (Lit.int k x).wf = true := by
  obtain ⟨fuel, hf⟩ := h
  rw [hcl] at hf
  exact of_sliceK ht he hc hf
end
end Go.Proofs.Ytadfdpkhehdikaa


/- Arguments that came in, opened: slices of anything; slices of arrays; for every seat. -/
namespace Go.Proofs.Ytadfdpkhehdikaa
open Go.RowKit Go.Shelf Go.ChangeShapes Go.WideShapes Go.ChangeAt
section
variable {H : Type} {enc : TypeId × Value → H} {w : World} {r : Reach} {b0 base : Nat} {spare : Nat → Bool} {held : Bool}
theorem list_of {α β : Type} {f : α → β} {Q : α → Prop} : ∀ {l : List β}, (∀ y ∈ l, ∃ x, y = f x ∧ Q x) → ∃ xs : List α, l = xs.map f ∧ ∀ x ∈ xs, Q x
  | [], _ => ⟨[], rfl, by simp⟩
  | y :: l, h => by
    obtain ⟨x, rfl, hx⟩ := h y (by simp)
    obtain ⟨xs, rfl, hxs⟩ := list_of (l := l) fun z hz => h z (by simp [hz])
    exact ⟨x :: xs, rfl, fun z hz => by rcases List.mem_cons.1 hz with rfl | hz; exact hx; exact hxs z hz⟩
/-- A slice that came in: its elements' cells, each of which came in. -/
theorem of_sliceG {t e : TypeId} {n : Nat} {c : Value} {y : DataW H × List MemPlace} (ht : Try.prog.underlying t = some (.slice e)) (h : DataW.trod enc Try.prog w 0 (fun _ => true) held n t [c] = some y) :
    ∃ (a : Option Addr) (cap : Nat) (rows : List (List Value)), c = .slice a rows.length cap ∧ rows.length ≤ cap ∧ cap ≤ maxLen ∧ (∀ r ∈ rows, r.length = Try.prog.cellsOf e ∧ ∃ n' y', DataW.trod enc Try.prog w 0 (fun _ => true) held n' e r = some y') ∧ Reads (fun v : Value => v) w a rows.flatten := by
  rcases DataW.trod_slice ht h with ⟨hcs, _⟩ | ⟨a, len, cap, elems, rest, m, _, hcs, _, _, hl, hm, hlen, hel, _, _⟩
  · simp only [List.cons.injEq, and_true] at hcs
    exact ⟨none, 0, [], hcs, by simp, by decide, by simp, fun i x hx => by simp at hx⟩
  simp only [List.cons.injEq, and_true] at hcs
  subst hcs
  have each : ∀ i, i < len → ∃ cs, w.cells? 0 (a.add (i * Try.prog.cellsOf e)) (Try.prog.cellsOf e) = some cs ∧ ∃ y', DataW.trod enc Try.prog w 0 (fun _ => true) held m e cs = some y' := by
    intro i hi
    have h1 := hel i hi
    rw [List.getElem?_eq_getElem (by omega), Option.bind_eq_some_iff] at h1
    obtain ⟨cs, h2, h3⟩ := h1
    exact ⟨cs, h2, _, h3⟩
  have key : ∀ k, k ≤ len → ∃ rows : List (List Value), rows.length = k ∧ (∀ i r, rows[i]? = some r → w.cells? 0 (a.add (i * Try.prog.cellsOf e)) (Try.prog.cellsOf e) = some r ∧ ∃ n' y', DataW.trod enc Try.prog w 0 (fun _ => true) held n' e r = some y') := by
    intro k
    induction k with
    | zero => intro _; exact ⟨[], rfl, fun i r h => by simp at h⟩
    | succ k ih =>
      intro hk
      obtain ⟨rows, h1, h2⟩ := ih (by omega)
      obtain ⟨cs, h3, y', h4⟩ := each k (by omega)
      refine ⟨rows ++ [cs], by simp [h1], fun i r hi => ?_⟩
      by_cases hik : i < k
      · rw [List.getElem?_append_left (by omega)] at hi
        exact h2 i r hi
      · rw [List.getElem?_append_right (by omega)] at hi
        have hik2 : i = k := by
          have := (List.getElem?_eq_some_iff.1 hi).1
          simp at this
          omega
        subst hik2
        rw [h1, Nat.sub_self] at hi
        simp at hi
        subst hi
        exact ⟨h3, m, y', h4⟩
  obtain ⟨rows, hr1, hr2⟩ := key len (Nat.le_refl _)
  have hsz : ∀ r ∈ rows, r.length = Try.prog.cellsOf e := by
    intro r hr
    obtain ⟨i, hi⟩ := List.getElem?_of_mem hr
    exact ((World.cells?_some (hr2 i r hi).1).2.1)
  refine ⟨some a, cap, rows, by rw [hr1], by omega, hm, fun r hr => ?_, ?_⟩
  · obtain ⟨i, hi⟩ := List.getElem?_of_mem hr
    exact ⟨hsz r hr, (hr2 i r hi).2⟩
  · intro j x hx
    obtain ⟨i, q, r, h1, h2, h3⟩ : ∃ i q r, rows[i]? = some r ∧ r[q]? = some x ∧ j = i * Try.prog.cellsOf e + q := by
      clear hr1 hr2 key
      induction rows generalizing j with
      | nil => simp at hx
      | cons r rows ih =>
        have hrl := hsz r (by simp)
        rw [List.flatten_cons] at hx
        by_cases hj : j < r.length
        · rw [List.getElem?_append_left hj] at hx
          exact ⟨0, j, r, rfl, hx, by simp⟩
        · rw [List.getElem?_append_right (by omega)] at hx
          obtain ⟨i, q, r', h1, h2, h3⟩ := ih (fun r hr => hsz r (by simp [hr])) (j - r.length) hx
          exact ⟨i + 1, q, r', h1, h2, by rw [Nat.add_mul, Nat.one_mul]; omega⟩
    obtain ⟨_, hq1, hq2⟩ := World.cells?_some (hr2 i r h1).1
    have hqs : q < Try.prog.cellsOf e := by rw [← hsz r (List.mem_of_getElem? h1)]; exact (List.getElem?_eq_some_iff.1 h2).1
    have hc := (hq2 q hqs).trans h2
    have hlt := World.block_lt_of_cell? w _ hc
    obtain ⟨r0, hr0⟩ := get_of_lt (l := rows) (i := 0) (by have := (List.getElem?_eq_some_iff.1 h1).1; omega)
    obtain ⟨_, hz1, hz2⟩ := World.cells?_some (hr2 0 r0 hr0).1
    have hc0 := hz2 0 (by omega)
    rw [List.getElem?_eq_getElem (by omega), Nat.zero_mul, show (a.add 0).add 0 = a from rfl] at hc0
    have hsp2 := World.cell?_spot hc0
    obtain ⟨b, off, sp⟩ := a
    simp only at hsp2
    subst hsp2
    rw [add_lit, add_lit] at hc hlt
    exact ⟨b, off, rfl, hlt, by rw [h3, ← Nat.add_assoc]; exact hc⟩
/-- The cells of an array of integers that came in. -/
theorem of_arr {t e : TypeId} {k : IntKind} {n m : Nat} {cs : List Value} {y : DataW H × List MemPlace} (ht : Try.prog.underlying t = some (.array n e)) (he : Try.prog.underlying e = some (.int k)) (hc : Try.prog.cellsOf e = 1) (hn : Try.prog.cellsOf t = n) (h : DataW.trod enc Try.prog w base spare held m t cs = some y) :
    ∃ xs : List Int, cs = xs.map (Value.int k) ∧ xs.length = n ∧ ∀ x ∈ xs, (Lit.int k x).wf = true := by
  obtain ⟨ys, m', _, _, hl, hlen, hx⟩ := DataW.trod_array ht h
  have hlen2 : cs.length = n := by omega
  obtain ⟨xs, h1, h2⟩ := list_of (f := Value.int k) (Q := fun x => (Lit.int k x).wf = true) (l := cs) (by
    intro v hv
    obtain ⟨i, hi⟩ := List.getElem?_of_mem hv
    have hil := (List.getElem?_eq_some_iff.1 hi).1
    have h2 := hx i (by omega)
    rw [hc, Nat.mul_one, List.getElem?_eq_getElem (show i < ys.length by omega), List.drop_eq_getElem_cons hil, List.take_succ_cons, List.take_zero] at h2
    obtain ⟨x, h3, h4⟩ := of_intK he h2
    refine ⟨x, ?_, h4⟩
    rw [List.getElem?_eq_getElem hil] at hi
    injection hi with hi
    rw [← hi, h3])
  exact ⟨xs, h1, by rw [h1, List.length_map] at hlen2; exact hlen2, h2⟩
/-- The cells of a slice of arrays of integers that came in. -/
theorem of_arrs {t e u : TypeId} {k : IntKind} {m n : Nat} {c : Value} {y : DataW H × List MemPlace} (ht : Try.prog.underlying t = some (.slice e)) (he : Try.prog.underlying e = some (.array n u)) (hu : Try.prog.underlying u = some (.int k)) (hc : Try.prog.cellsOf u = 1) (hn : Try.prog.cellsOf e = n) (h : DataW.trod enc Try.prog w 0 (fun _ => true) held m t [c] = some y) :
    ∃ (a : Option Addr) (cap : Nat) (ls : List (List Int)), c = .slice a ls.length cap ∧ ls.length ≤ cap ∧ cap ≤ maxLen ∧ (∀ s ∈ ls, s.length = n ∧ ∀ x ∈ s, (Lit.int k x).wf = true) ∧ Reads (Value.int k) w a ls.flatten := by
  obtain ⟨a, cap, rows, h1, h2, h3, h4, h5⟩ := of_sliceG ht h
  obtain ⟨ls, rfl, h6⟩ := list_of (f := fun s : List Int => s.map (Value.int k)) (Q := fun s => s.length = n ∧ ∀ x ∈ s, (Lit.int k x).wf = true) (l := rows) (by
    intro r hr
    obtain ⟨_, n', y', hy⟩ := h4 r hr
    obtain ⟨xs, e1, e2, e3⟩ := of_arr he hu hc hn hy
    exact ⟨xs, e1, e2, e3⟩)
  rw [List.length_map] at h1 h2
  refine ⟨a, cap, ls, h1, h2, h3, h6, ?_⟩
  intro i x hx
  refine h5 i (Value.int k x) ?_
  have : (ls.map fun s : List Int => s.map (Value.int k)).flatten = ls.flatten.map (Value.int k) := by rw [List.map_flatten]
  rw [this, List.getElem?_map, hx]
  rfl
end
end Go.Proofs.Ytadfdpkhehdikaa


/- Slices that are made: rows of zeros. -/
namespace Go.Proofs.Ytadfdpkhehdikaa
open Go.RowKit Go.Shelf
section
variable {n : Nat} {ds : List Deferred} {l : List (Nat × Value)} {a : Act} {w w0 : World} {own : Nat → Prop} {bs : List BoxE} {L : List Ent} {Fs : List (World → Prop)}
variable {os rest : List Oper} {Q : Exit → Act → World → Prop} {K : Act → World → Prop}
variable {d : Nat} {op : Op} {ty : TypeId} {pos : String} {af : Array Edge} {g : Option (Nat × Bool)}
theorem made_one (v : Value) (c : Nat) : madeCells #[v] c = (List.replicate c v).toArray := by
  unfold madeCells
  apply Array.ext
  · simp
  · intro i h1 h2
    simp [Nat.mod_one]
/-- The element type of a slice type whose elements have one cell: with its zero and its bytes. -/
def mkO (t : TypeId) : Option (TypeId × Nat × Value) := match tyD t with
  | some (.slice e) => match te e with
    | some ⟨_, size, bytes, _, zero⟩ => match cellsO zero, Nat.beq size 1 with
      | some [v], true => some (e, bytes, v)
      | _, _ => none
    | none => none
  | _ => none
theorem mkO_ok {t e : TypeId} {bytes : Nat} {v : Value} (h : mkO t = some (e, bytes, v)) : Try.prog.underlying t = some (.slice e) ∧ ∃ i z, Try.prog.info? e = some i ∧ i.zero = some z ∧ i.size = 1 ∧ i.bytes = bytes ∧ z.cells = #[v] := by
  unfold mkO at h
  split at h
  · rename_i e' he
    split at h
    · rename_i ag sz by' de ze hi
      split at h
      · rename_i v' hz hb
        injection h with h; injection h with h1 h2; injection h2 with h2 h3
        subst h1 h2 h3
        obtain ⟨j, j1, j2, j3, j4⟩ := (te_ok hi).info
        exact ⟨tyD_ok he, j, ze, j1, j2, by rw [j3]; exact Nat.eq_of_beq_eq_true hb, j4, cellsO_ok hz⟩
      · cases h
    · cases h
  · cases h
theorem e_make {t e : TypeId} {bytes c : Nat} {v : Value} {X Y : Operand} {kl kc : IntKind} {zl zc : Int} (hF : Fr n ds l a) (hM : Mm own w0 bs L Fs w) (hX : ev l X = some (.int kl zl)) (hY : ev l Y = some (.int kc zc)) (hm : mkO t = some (e, bytes, v)) (hl : zl = (c : Int)) (hc : zc = (c : Int)) (hb : (bytes : Int) * (c : Int) ≤ 281474976710656 ∧ (c : Int) ≤ 9223372036854775807)
    (k : ∀ b w', Mm own w0 bs (⟨e, 1, .slice (some ⟨b, 0, none⟩) c c, c, List.replicate c v⟩ :: L) Fs w' → K (a.put (some d) (.slice (some ⟨b, 0, none⟩) c c)) w') : (⟨some d, .makeSlice t X Y, ty, pos, af, g⟩ : Oper).wp Try.prog a w K Q := by
  subst hl
  subst hc
  obtain ⟨e1, i, z, i1, i2, i3, i4, i5⟩ := mkO_ok hm
  have hr := run_make (P := Try.prog) w t e i z e1 i1 i2 kl kc (c : Int) (c : Int) (by omega) (Int.le_refl _) (by rw [i4]; exact hb.1) hb.2
  rw [i5, i3, Nat.mul_one, Int.toNat_natCast, made_one] at hr
  refine upon_value (v := .slice (some ⟨w.heap.size, 0, none⟩) c c) (w' := w.alloc (.cells (List.replicate c v).toArray e)) ?_ (k _ _ ((hM.box ⟨List.replicate c v⟩ e).boxRow 1 c (by simp) (by unfold maxLen; omega)))
  simp [execOp, hF.eval hX, hF.eval hY, hr, Sem.run_bind, Result.andThen]
end
end Go.Proofs.Ytadfdpkhehdikaa


/- Shifts by a place. -/
namespace Go.Proofs.Ytadfdpkhehdikaa
open Go.RowKit Go.Shelf
section
variable {n : Nat} {ds : List Deferred} {l : List (Nat × Value)} {a : Act} {w w0 : World} {own : Nat → Prop} {bs : List BoxE} {L : List Ent} {Fs : List (World → Prop)}
variable {os rest : List Oper} {Q : Exit → Act → World → Prop} {K : Act → World → Prop}
variable {d : Nat} {op : Op} {ty : TypeId} {pos : String} {af : Array Edge} {g : Option (Nat × Bool)}
theorem e_shr1 {t t' : TypeId} {X Y : Operand} {k yk : IntKind} {x : Int} (hF : Fr n ds l a) (hX : ev l X = some (.int k x)) (hY : ev l Y = some (.int yk 1)) (w : World) {dst : Option Tmp} :
    (execOp a.eval ⟨dst, .binOp .shr t X Y t', ty, pos, af, g⟩).run Try.prog w = .ok (.value (.int k (x / 2))) w := by
  have hb : min (1 : Int).toNat k.bits = 1 := by cases k <;> decide
  simp only [execOp, hF.eval hX, hF.eval hY, Sem.run_bind, eqGuard_int, Result.andThen]
  have hb2 : min 1 k.bits = 1 := by cases k <;> decide
  simp [binOp, Op.shift, hb2, Result.andThen, Int.fdiv_eq_ediv]
theorem s_shr1 {t t' : TypeId} {X Y : Operand} {k yk : IntKind} {x : Int} (hF : Fr n ds l a) (hg : wantO os l g = some true) (hX : ev l X = some (.int k x)) (hY : ev l Y = some (.int yk 1)) (hd : Nat.blt d n = true)
    (kk : ∀ a, Fr n ds ((d, .int k (x / 2)) :: l) a → wl ⟨os⟩ Q rest a w) : wl ⟨os⟩ Q (⟨some d, .binOp .shr t X Y t', ty, pos, af, g⟩ :: rest) a w :=
  s_op hF hg fun _ hK => upon_value (e_shr1 hF hX hY w) (hK _ _ (kk _ (hF.put hd _)))
end
end Go.Proofs.Ytadfdpkhehdikaa


/- Calls that change the caller's memory, or that panic; panics; bits. -/
namespace Go.Proofs.Ytadfdpkhehdikaa
open Go.RowKit Go.Shelf
section
variable {n : Nat} {ds : List Deferred} {l : List (Nat × Value)} {a : Act} {w w0 : World} {own : Nat → Prop} {bs : List BoxE} {L : List Ent} {Fs : List (World → Prop)}
variable {os rest : List Oper} {Q : Exit → Act → World → Prop} {K : Act → World → Prop}
variable {d : Nat} {op : Op} {ty : TypeId} {pos : String} {af : Array Edge} {g : Option (Nat × Bool)}
/-- A call returns with R, or panics with E; it may change what its caller holds. -/
def Both (R : Value → World → Prop) (E : List PanicEntry → World → Prop) : Ending → World → Prop
  | .returned v, w => R v w
  | .panicked c, w => E c w
  | .outgrown, _ => False
/-- A call that only returns. -/
def Rtn (R : Value → World → Prop) : Ending → World → Prop := Both R fun _ _ => False
theorem Both.mk {R : Value → World → Prop} {E : List PanicEntry → World → Prop} {v : Value} {w : World} (h : R v w) : Both R E (.returned v) w := h
theorem Both.panic {R : Value → World → Prop} {E : List PanicEntry → World → Prop} {c : List PanicEntry} {w : World} (h : E c w) : Both R E (.panicked c) w := h
theorem e_callB {f : FuncId} {X : Operand} {as_ : List Operand} {ts : Array TypeId} {vs : List Value} {R : Value → World → Prop} {E : List PanicEntry → World → Prop} {dst : Option Tmp} (hF : Fr n ds l a) (hX : ev l X = some (.func (.func f) #[] #[])) (ha : evL l as_ = some vs) (he : memB entL f = true)
    (hC : Calls Try.prog f ⟨vs⟩ w (Both R E)) (kp : ∀ c w', E c w' → Q (.panic c) a w') (k : ∀ v w', R v w' → K (a.put dst v) w') : (⟨dst, .call ⟨.value X, ⟨as_⟩, ts⟩, ty, pos, af, g⟩ : Oper).wp Try.prog a w K Q := by
  have hr : (execOp a.eval ⟨dst, .call ⟨.value X, ⟨as_⟩, ts⟩, ty, pos, af, g⟩).run Try.prog w = .ok (.enter f ⟨vs⟩) w := by
    have h1 := hF.evalL ha
    simp [execOp, resolve, hF.eval hX, Deferred.ofValue, invoke, h1, Sem.run_bind, Result.andThen, entL_ok (memB_ok he)]
  unfold Oper.wp
  rw [hr]
  refine Calls.mono hC ?_
  intro e w' h
  cases e with
  | returned v => exact k v w' h
  | panicked c => exact kp c w' h
  | outgrown => exact h.elim
/-- A call that changes the caller's memory; what is known of it comes from the callee. -/
theorem s_callM {f : FuncId} {X : Operand} {as_ : List Operand} {ts : Array TypeId} {vs : List Value} {R : Value → World → Prop} (hF : Fr n ds l a) (hg : wantO os l g = some true) (hX : ev l X = some (.func (.func f) #[] #[])) (ha : evL l as_ = some vs) (he : memB entL f = true) (hd : Nat.blt d n = true)
    (hC : Calls Try.prog f ⟨vs⟩ w (Rtn R)) (k : ∀ v w' a, R v w' → Fr n ds ((d, v) :: l) a → wl ⟨os⟩ Q rest a w') : wl ⟨os⟩ Q (⟨some d, .call ⟨.value X, ⟨as_⟩, ts⟩, ty, pos, af, g⟩ :: rest) a w :=
  s_op hF hg fun _ hK => e_callB hF hX ha he hC (fun _ _ h => h.elim) fun v w' hR => hK _ _ (k v w' _ hR (hF.put hd v))
theorem x_callM {f : FuncId} {X : Operand} {as_ : List Operand} {ts : Array TypeId} {vs : List Value} {R : Value → World → Prop} (hF : Fr n ds l a) (hX : ev l X = some (.func (.func f) #[] #[])) (ha : evL l as_ = some vs) (he : memB entL f = true) (hd : Nat.blt d n = true)
    (hC : Calls Try.prog f ⟨vs⟩ w (Rtn R)) (k : ∀ v w' a, R v w' → Fr n ds ((d, v) :: l) a → K a w') : (⟨some d, .call ⟨.value X, ⟨as_⟩, ts⟩, ty, pos, af, g⟩ : Oper).wp Try.prog a w K Q :=
  e_callB hF hX ha he hC (fun _ _ h => h.elim) fun v w' hR => k v w' _ hR (hF.put hd v)
/-- A closure that changes the caller's memory. -/
theorem s_callcM {f : FuncId} {X : Operand} {as_ : List Operand} {ts : Array TypeId} {fi ca vs us xs : List Value} {R : Value → World → Prop} (hF : Fr n ds l a) (hg : wantO os l g = some true) (hX : ev l X = some (.func (.func f) ⟨fi⟩ ⟨ca⟩)) (ha : evL l as_ = some vs) (h1 : appL fi vs = some us) (h2 : appL us ca = some xs) (he : memB entL f = true) (hd : Nat.blt d n = true)
    (hC : Calls Try.prog f ⟨xs⟩ w (Rtn R)) (k : ∀ v w' a, R v w' → Fr n ds ((d, v) :: l) a → wl ⟨os⟩ Q rest a w') : wl ⟨os⟩ Q (⟨some d, .call ⟨.value X, ⟨as_⟩, ts⟩, ty, pos, af, g⟩ :: rest) a w := by
  refine s_op hF hg fun K hK => ?_
  have hr : (execOp a.eval ⟨some d, .call ⟨.value X, ⟨as_⟩, ts⟩, ty, pos, af, g⟩).run Try.prog w = .ok (.enter f ⟨xs⟩) w := by
    have h3 := hF.evalL ha
    have h4 := appL_ok h1
    have h5 := appL_ok h2
    subst h4
    subst h5
    simp [execOp, resolve, hF.eval hX, Deferred.ofValue, invoke, h3, Sem.run_bind, Result.andThen, entL_ok (memB_ok he)]
  unfold Oper.wp
  rw [hr]
  refine Calls.mono hC ?_
  intro e w' h
  cases e with
  | returned v => exact hK _ _ (k v w' _ h (hF.put hd v))
  | panicked c => exact h.elim
  | outgrown => exact h.elim
theorem Kth.lt {α : Type} {x : α} : ∀ {l : List α} {k : Nat}, Kth l k x → k < l.length
  | _, _, .z => by simp
  | _, _, .s h => by have := h.lt; simp; omega
theorem Kth.set {α : Type} {x y : α} : ∀ {l : List α} {k : Nat}, Kth l k x → Kth (l.set k y) k y
  | _, _, .z => .z
  | _, _, .s h => .s h.set
/-! Bits -/
theorem bits_run {k : IntKind} {x y : Int} {op : BinOp} (h : op = .and ∨ op = .or) (t : TypeId) (w : World) : (binOp op t (.int k x) (.int k y)).run Try.prog w = .ok (.int k (bits op k x y)) w := by
  rcases h with rfl | rfl
  · simp [binOp, intBits_and]
  · simp [binOp, intBits_or]
theorem e_bits {t t' : TypeId} {X Y : Operand} {k : IntKind} {x y z : Int} {op : BinOp} (hF : Fr n ds l a) (hX : ev l X = some (.int k x)) (hY : ev l Y = some (.int k y)) (h : op = .and ∨ op = .or) (hz : bits op k x y = z) (w : World) {dst : Option Tmp} :
    (execOp a.eval ⟨dst, .binOp op t X Y t', ty, pos, af, g⟩).run Try.prog w = .ok (.value (.int k z)) w := by
  subst hz
  have := bits_run (k := k) (x := x) (y := y) h t w
  simp only [execOp, hF.eval hX, hF.eval hY, Sem.run_bind, eqGuard_int, Result.andThen, this]
  rfl
theorem and127 {x : Int} (h : 0 ≤ x ∧ x < 256) : bits .and .u8 x 127 = x % 128 := bits_mask .u8 8 (by decide) wraps_u8 7 (by decide) x h.1 h.2
theorem and128 {x : Int} (h : 0 ≤ x ∧ x < 256) : bits .and .u8 x 128 = x / 128 * 128 := by
  obtain ⟨m, rfl⟩ : ∃ m : Nat, x = m := ⟨x.toNat, by omega⟩
  rw [show (128 : Int) = ((128 : Nat) : Int) from rfl, (bits_nat .u8 8 (by decide) wraps_u8 m 128 (by omega) (by decide)).1]
  have key : ∀ m : Fin 256, (m.val &&& 128) = m.val / 128 * 128 := by decide +kernel
  have := key ⟨m, by omega⟩
  simp only at this
  omega
theorem or128 {x : Int} (h : 0 ≤ x ∧ x < 128) : bits .or .u8 x 128 = x + 128 := by
  obtain ⟨m, rfl⟩ : ∃ m : Nat, x = m := ⟨x.toNat, by omega⟩
  rw [show (128 : Int) = ((128 : Nat) : Int) from rfl, (bits_nat .u8 8 (by decide) wraps_u8 m 128 (by omega) (by decide)).2]
  have key : ∀ m : Fin 128, (m.val ||| 128) = m.val + 128 := by decide +kernel
  have := key ⟨m, by omega⟩
  simp only at this
  omega
theorem s_and127 {t t' : TypeId} {X Y : Operand} {x : Int} (hF : Fr n ds l a) (hg : wantO os l g = some true) (hX : ev l X = some (.int .u8 x)) (hY : ev l Y = some (.int .u8 127)) (hd : Nat.blt d n = true) (h : 0 ≤ x ∧ x < 256)
    (kk : ∀ a, Fr n ds ((d, .int .u8 (x % 128)) :: l) a → wl ⟨os⟩ Q rest a w) : wl ⟨os⟩ Q (⟨some d, .binOp .and t X Y t', ty, pos, af, g⟩ :: rest) a w :=
  s_op hF hg fun _ hK => upon_value (e_bits hF hX hY (.inl rfl) (and127 h) w) (hK _ _ (kk _ (hF.put hd _)))
theorem s_and128 {t t' : TypeId} {X Y : Operand} {x : Int} (hF : Fr n ds l a) (hg : wantO os l g = some true) (hX : ev l X = some (.int .u8 x)) (hY : ev l Y = some (.int .u8 128)) (hd : Nat.blt d n = true) (h : 0 ≤ x ∧ x < 256)
    (kk : ∀ a, Fr n ds ((d, .int .u8 (x / 128 * 128)) :: l) a → wl ⟨os⟩ Q rest a w) : wl ⟨os⟩ Q (⟨some d, .binOp .and t X Y t', ty, pos, af, g⟩ :: rest) a w :=
  s_op hF hg fun _ hK => upon_value (e_bits hF hX hY (.inl rfl) (and128 h) w) (hK _ _ (kk _ (hF.put hd _)))
theorem s_or128 {t t' : TypeId} {X Y : Operand} {x : Int} (hF : Fr n ds l a) (hg : wantO os l g = some true) (hX : ev l X = some (.int .u8 x)) (hY : ev l Y = some (.int .u8 128)) (hd : Nat.blt d n = true) (h : 0 ≤ x ∧ x < 128)
    (kk : ∀ a, Fr n ds ((d, .int .u8 (x + 128)) :: l) a → wl ⟨os⟩ Q rest a w) : wl ⟨os⟩ Q (⟨some d, .binOp .or t X Y t', ty, pos, af, g⟩ :: rest) a w :=
  s_op hF hg fun _ hK => upon_value (e_bits hF hX hY (.inr rfl) (or128 h) w) (hK _ _ (kk _ (hF.put hd _)))
/-- Two numbers that have no bit in common. -/
def Join (x y : Int) : Prop := ∃ i : Nat, i ≤ 62 ∧ 0 ≤ x ∧ x < 2 ^ i ∧ 0 ≤ y ∧ y % 2 ^ i = 0 ∧ y < 2 ^ 63
theorem wraps_i64 (n : Int) (h₀ : 0 ≤ n) (h₁ : n < 2 ^ 63) : IntKind.i64.wrap n = n := by rw [IntKind.wrap_i64]; omega
theorem or_join {x y : Int} (h : Join x y) : bits .or .i64 x y = x + y := by
  obtain ⟨i, hi, x0, x1, y0, y1, y2⟩ := h
  have hp : (2 : Int) ^ i ≤ 2 ^ 63 := by
    have : (2 : Nat) ^ i ≤ 2 ^ 63 := Nat.pow_le_pow_right (by decide) (by omega)
    exact_mod_cast this
  have h1 := bits_join .i64 63 (by decide) wraps_i64 i y x y0 y1 y2 x0 x1 (by omega)
  have h2 : bits .or .i64 x y = bits .or .i64 y x := by simp [bits, BitVec.or_comm]
  rw [h2, h1]
  omega
theorem s_join {t t' : TypeId} {X Y : Operand} {x y : Int} (hF : Fr n ds l a) (hg : wantO os l g = some true) (hX : ev l X = some (.int .i64 x)) (hY : ev l Y = some (.int .i64 y)) (hd : Nat.blt d n = true) (h : Join x y)
    (kk : ∀ a, Fr n ds ((d, .int .i64 (x + y)) :: l) a → wl ⟨os⟩ Q rest a w) : wl ⟨os⟩ Q (⟨some d, .binOp .or t X Y t', ty, pos, af, g⟩ :: rest) a w :=
  s_op hF hg fun _ hK => upon_value (e_bits hF hX hY (.inr rfl) (or_join h) w) (hK _ _ (kk _ (hF.put hd _)))
/-- A number shifted by a number of places, if it fits. -/
theorem s_shl {t t' : TypeId} {X Y : Operand} {yk : IntKind} {x y z : Int} (hF : Fr n ds l a) (hg : wantO os l g = some true) (hX : ev l X = some (.int .i64 x)) (hY : ev l Y = some (.int yk y)) (hd : Nat.blt d n = true) (h : 0 ≤ y ∧ y ≤ 62 ∧ x * 2 ^ y.toNat = z ∧ 0 ≤ z ∧ z < 9223372036854775808)
    (kk : ∀ a, Fr n ds ((d, .int .i64 z) :: l) a → wl ⟨os⟩ Q rest a w) : wl ⟨os⟩ Q (⟨some d, .binOp .shl t X Y t', ty, pos, af, g⟩ :: rest) a w := by
  refine s_op hF hg fun _ hK => upon_value (v := .int .i64 z) ?_ (hK _ _ (kk _ (hF.put hd _)))
  obtain ⟨h1, h2, rfl, h3, h4⟩ := h
  simp only [execOp, hF.eval hX, hF.eval hY, Sem.run_bind, eqGuard_int, Result.andThen]
  have hb : min y.toNat IntKind.i64.bits = y.toNat := by simp [IntKind.bits]; omega
  have hw : IntKind.i64.wrap (x * 2 ^ y.toNat) = x * 2 ^ y.toNat := wraps_i64 _ h3 (by omega)
  simp [binOp, Op.shift, hb, hw, Result.andThen, show ¬ y < 0 by omega]
end
end Go.Proofs.Ytadfdpkhehdikaa

