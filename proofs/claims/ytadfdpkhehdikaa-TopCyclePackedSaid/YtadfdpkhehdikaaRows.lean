/-
  No cell of these rows narrows 'for every input' (looked for: loops, veiled, ifaces, maps, wideKeys, modest, calm, conditions, laid).
  DERIVED. THE GIVEN ROWS OF THIS SEAT. 3 by the template 'for every input the law returns true; each argument reads behind the call as it read before'; 0 by the template 'total and deterministic' (their statements: YtadfdpkhehdikaaTotals.lean).
  GIVEN WITH THE SEED: the statements are not yours to turn. If you find one false, say at which input.
  Laid BY PROGRAM, IN A SANDBOX (cutbox-rows.mjs): the forced cells as the released guide's own fill.sh prints them over the translation 00646b4a53da9368… (all of the seat's roots in one cut). By AI agents, Wed Nov 11 2026. No macro, syntax, notation, axiom, sorry.
-/
import Derived.Test.YtadfdpkhehdikaaChecked
import GoSem.Claim
import GoSem.ClaimJoined
import GoSem.ClaimMapViews
import Derived.JoinedTies
import Derived.KernelRfl
namespace Go.Proofs.Ytadfdpkhehdikaa
/- THE CELL 'sum', in the pinned program and in every row, IS THE sha256 OF THE DUMP (.gsa) THAT YtadfdpkhehdikaaProg.lean LOADS. Nothing in Lean hashes anything: it is a label: what it is worth is what the hold of that sum in a sandbox is worth. -/
noncomputable def Try.pinned : Pinned := { name := "ytadfdpkhehdikaa", sum := "00646b4a53da9368141dbb7957d251bea8cbf3a10093d7faa5c64db504d6c664", checked := Try.checked }
namespace Rows
def none {H : Type} : Left H := { results := [], args := [] }

/-- 'standbytop.TopCycleDeduplicated': WHATEVER THE INPUT: true; the input reads as it did. -/
def topCycleDeduplicatedSpec : ChangeSpec := { name := "topCycleDeduplicated", fn := fun _ => fun
  | [d] => { results := [.lit (.bool true)], args := [d] }
  | _ => none }
def topCycleDeduplicatedRow : OpenClaim := { program := "ytadfdpkhehdikaa", sum := "00646b4a53da9368141dbb7957d251bea8cbf3a10093d7faa5c64db504d6c664", func := "standby/standbytop.TopCycleDeduplicated", spec := "topCycleDeduplicated", unfollowed := true, recurses := true, plainKeys := false, apart := false }
def TopCycleDeduplicatedSaid : Prop := topCycleDeduplicatedRow.holds Try.pinned (OpenSpec.ofChange topCycleDeduplicatedSpec)

/-- ITS FALSE NEIGHBOUR: 'it returns false'. Refute it at one input. -/
def topCycleDeduplicatedWrong : ChangeSpec := { name := "topCycleDeduplicated", fn := fun _ => fun
  | [d] => { results := [.lit (.bool false)], args := [d] }
  | _ => none }
def TopCycleDeduplicatedWrongFalsely : Prop := topCycleDeduplicatedRow.holds Try.pinned (OpenSpec.ofChange topCycleDeduplicatedWrong)

/-- 'standbytop.TopCycleSupplied': WHATEVER THE INPUT: true; the input reads as it did. -/
def topCycleSuppliedSpec : ChangeSpec := { name := "topCycleSupplied", fn := fun _ => fun
  | [d] => { results := [.lit (.bool true)], args := [d] }
  | _ => none }
def topCycleSuppliedRow : OpenClaim := { program := "ytadfdpkhehdikaa", sum := "00646b4a53da9368141dbb7957d251bea8cbf3a10093d7faa5c64db504d6c664", func := "standby/standbytop.TopCycleSupplied", spec := "topCycleSupplied", unfollowed := true, recurses := true, plainKeys := false, apart := false }
def TopCycleSuppliedSaid : Prop := topCycleSuppliedRow.holds Try.pinned (OpenSpec.ofChange topCycleSuppliedSpec)

/-- ITS FALSE NEIGHBOUR: 'it returns false'. Refute it at one input. -/
def topCycleSuppliedWrong : ChangeSpec := { name := "topCycleSupplied", fn := fun _ => fun
  | [d] => { results := [.lit (.bool false)], args := [d] }
  | _ => none }
def TopCycleSuppliedWrongFalsely : Prop := topCycleSuppliedRow.holds Try.pinned (OpenSpec.ofChange topCycleSuppliedWrong)

/-- 'standbytop.TopCyclePacked': WHATEVER THE INPUT: true; the input reads as it did. -/
def topCyclePackedSpec : ChangeSpec := { name := "topCyclePacked", fn := fun _ => fun
  | [d1, d2, d3] => { results := [.lit (.bool true)], args := [d1, d2, d3] }
  | _ => none }
def topCyclePackedRow : OpenClaim := { program := "ytadfdpkhehdikaa", sum := "00646b4a53da9368141dbb7957d251bea8cbf3a10093d7faa5c64db504d6c664", func := "standby/standbytop.TopCyclePacked", spec := "topCyclePacked", unfollowed := true, recurses := true, plainKeys := false, apart := false }
def TopCyclePackedSaid : Prop := topCyclePackedRow.holds Try.pinned (OpenSpec.ofChange topCyclePackedSpec)

/-- ITS FALSE NEIGHBOUR: 'it returns false'. Refute it at one input. -/
def topCyclePackedWrong : ChangeSpec := { name := "topCyclePacked", fn := fun _ => fun
  | [d1, d2, d3] => { results := [.lit (.bool false)], args := [d1, d2, d3] }
  | _ => none }
def TopCyclePackedWrongFalsely : Prop := topCyclePackedRow.holds Try.pinned (OpenSpec.ofChange topCyclePackedWrong)

/- THE SECOND FORM. 'bulk': how many values and letters a reading holds, each counted each time it is reached (what is shared counts as often as it is met; a slice's spare places count too). A statement '..UptoSaid' is the law's where the arguments, and the package variables that the reading takes, are together of bulk at most 1048576: NARROWER than '..Said'. Prove '..Said' where nothing that the law and all that it calls make is longer than what came in: it says more and counts as full. Else prove '..UptoSaid'. A law counts once. -/
mutual
def uptoBulk {H : Type} : DataW H → Nat
  | .lit (.string bytes) => bytes.length + 1
  | .lit _ => 1
  | .nil => 1
  | .ptr d => uptoBulk d + 1
  | .slice elems spare => uptoBulkAll elems + uptoBulkAll spare + 1
  | .agg parts => uptoBulkAll parts + 1
  | .iface _ d => uptoBulk d + 1
  | .map entries => uptoBulkEntries entries + 1
  | .held _ => 1
def uptoBulkAll {H : Type} : List (DataW H) → Nat
  | [] => 0
  | d :: r => uptoBulk d + uptoBulkAll r
def uptoBulkEntries {H : Type} : List (Lit × DataW H) → Nat
  | [] => 0
  | x :: r => uptoBulkEntry x + uptoBulkEntries r
def uptoBulkEntry {H : Type} : Lit × DataW H → Nat
  | (.string bytes, d) => bytes.length + uptoBulk d + 1
  | (_, d) => uptoBulk d + 1
 end
def uptoSmall : (H : Type) → List (DataW H) → Bool := fun _ ds => decide (uptoBulkAll ds ≤ 1048576)
def OpenSpec.upto (s : _root_.Go.ChangeSpec) : _root_.Go.OpenSpec := { _root_.Go.OpenSpec.ofChange s with cond := some uptoSmall }

/-- 'standbytop.TopCycleDeduplicated', WHERE WHAT IT READS IS OF BULK AT MOST 1048576: true; the input reads as it did. -/
def topCycleDeduplicatedUptoRow : OpenClaim := { program := "ytadfdpkhehdikaa", sum := "00646b4a53da9368141dbb7957d251bea8cbf3a10093d7faa5c64db504d6c664", func := "standby/standbytop.TopCycleDeduplicated", spec := "topCycleDeduplicated", unfollowed := true, recurses := true, plainKeys := false, apart := false, narrowed := true }
def TopCycleDeduplicatedUptoSaid : Prop := topCycleDeduplicatedUptoRow.holds Try.pinned (OpenSpec.upto topCycleDeduplicatedSpec)

/-- 'standbytop.TopCycleSupplied', WHERE WHAT IT READS IS OF BULK AT MOST 1048576: true; the input reads as it did. -/
def topCycleSuppliedUptoRow : OpenClaim := { program := "ytadfdpkhehdikaa", sum := "00646b4a53da9368141dbb7957d251bea8cbf3a10093d7faa5c64db504d6c664", func := "standby/standbytop.TopCycleSupplied", spec := "topCycleSupplied", unfollowed := true, recurses := true, plainKeys := false, apart := false, narrowed := true }
def TopCycleSuppliedUptoSaid : Prop := topCycleSuppliedUptoRow.holds Try.pinned (OpenSpec.upto topCycleSuppliedSpec)

/-- 'standbytop.TopCyclePacked', WHERE WHAT IT READS IS OF BULK AT MOST 1048576: true; the input reads as it did. -/
def topCyclePackedUptoRow : OpenClaim := { program := "ytadfdpkhehdikaa", sum := "00646b4a53da9368141dbb7957d251bea8cbf3a10093d7faa5c64db504d6c664", func := "standby/standbytop.TopCyclePacked", spec := "topCyclePacked", unfollowed := true, recurses := true, plainKeys := false, apart := false, narrowed := true }
def TopCyclePackedUptoSaid : Prop := topCyclePackedUptoRow.holds Try.pinned (OpenSpec.upto topCyclePackedSpec)

end Rows
end Go.Proofs.Ytadfdpkhehdikaa
