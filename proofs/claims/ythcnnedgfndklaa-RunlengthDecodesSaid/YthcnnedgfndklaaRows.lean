/-
  No cell of these rows narrows 'for every input' (looked for: loops, veiled, ifaces, maps, wideKeys, modest, calm, conditions, laid).
  DERIVED. THE GIVEN ROWS OF THIS SEAT. 7 by the template 'for every input the law returns true; each argument reads behind the call as it read before'; 0 by the template 'total and deterministic' (their statements: YthcnnedgfndklaaTotals.lean).
  GIVEN WITH THE SEED: the statements are not yours to turn. If you find one false, say at which input.
  Laid BY PROGRAM, IN A SANDBOX (cutbox-rows.mjs): the forced cells as the released guide's own fill.sh prints them over the translation ad56de9e36d6af8d… (all of the seat's roots in one cut). By AI agents, Wed Nov 11 2026. No macro, syntax, notation, axiom, sorry.
-/
import Derived.Test.YthcnnedgfndklaaChecked
import GoSem.Claim
import GoSem.ClaimJoined
import GoSem.ClaimMapViews
import Derived.JoinedTies
import Derived.KernelRfl
namespace Go.Proofs.Ythcnnedgfndklaa
/- THE CELL 'sum', in the pinned program and in every row, IS THE sha256 OF THE DUMP (.gsa) THAT YthcnnedgfndklaaProg.lean LOADS. Nothing in Lean hashes anything: it is a label: what it is worth is what the hold of that sum in a sandbox is worth. -/
noncomputable def Try.pinned : Pinned := { name := "ythcnnedgfndklaa", sum := "ad56de9e36d6af8dd6d4dbea487f96f3f0c4009cc7d29d112b9afe0e15b1d51e", checked := Try.checked }
namespace Rows
def none {H : Type} : Left H := { results := [], args := [] }

/-- 'standbylaw05.RunlengthEncodes': WHATEVER THE INPUT: true; the input reads as it did. -/
def runlengthEncodesSpec : ChangeSpec := { name := "runlengthEncodes", fn := fun _ => fun
  | [d] => { results := [.lit (.bool true)], args := [d] }
  | _ => none }
def runlengthEncodesRow : OpenClaim := { program := "ythcnnedgfndklaa", sum := "ad56de9e36d6af8dd6d4dbea487f96f3f0c4009cc7d29d112b9afe0e15b1d51e", func := "standby/standbylaw05.RunlengthEncodes", spec := "runlengthEncodes", unfollowed := true, recurses := true, apart := false }
def RunlengthEncodesSaid : Prop := runlengthEncodesRow.holds Try.pinned (OpenSpec.ofChange runlengthEncodesSpec)

/-- ITS FALSE NEIGHBOUR: 'it returns false'. Refute it at one input. -/
def runlengthEncodesWrong : ChangeSpec := { name := "runlengthEncodes", fn := fun _ => fun
  | [d] => { results := [.lit (.bool false)], args := [d] }
  | _ => none }
def RunlengthEncodesWrongFalsely : Prop := runlengthEncodesRow.holds Try.pinned (OpenSpec.ofChange runlengthEncodesWrong)

/-- 'standbylaw05.RunlengthDecodes': WHATEVER THE INPUT: true; the input reads as it did. -/
def runlengthDecodesSpec : ChangeSpec := { name := "runlengthDecodes", fn := fun _ => fun
  | [d1, d2] => { results := [.lit (.bool true)], args := [d1, d2] }
  | _ => none }
def runlengthDecodesRow : OpenClaim := { program := "ythcnnedgfndklaa", sum := "ad56de9e36d6af8dd6d4dbea487f96f3f0c4009cc7d29d112b9afe0e15b1d51e", func := "standby/standbylaw05.RunlengthDecodes", spec := "runlengthDecodes", unfollowed := true, recurses := true, apart := false }
def RunlengthDecodesSaid : Prop := runlengthDecodesRow.holds Try.pinned (OpenSpec.ofChange runlengthDecodesSpec)

/-- ITS FALSE NEIGHBOUR: 'it returns false'. Refute it at one input. -/
def runlengthDecodesWrong : ChangeSpec := { name := "runlengthDecodes", fn := fun _ => fun
  | [d1, d2] => { results := [.lit (.bool false)], args := [d1, d2] }
  | _ => none }
def RunlengthDecodesWrongFalsely : Prop := runlengthDecodesRow.holds Try.pinned (OpenSpec.ofChange runlengthDecodesWrong)

/-- 'standbylaw05.RunlengthReturns': WHATEVER THE INPUT: true; the input reads as it did. -/
def runlengthReturnsSpec : ChangeSpec := { name := "runlengthReturns", fn := fun _ => fun
  | [d] => { results := [.lit (.bool true)], args := [d] }
  | _ => none }
def runlengthReturnsRow : OpenClaim := { program := "ythcnnedgfndklaa", sum := "ad56de9e36d6af8dd6d4dbea487f96f3f0c4009cc7d29d112b9afe0e15b1d51e", func := "standby/standbylaw05.RunlengthReturns", spec := "runlengthReturns", unfollowed := true, recurses := true, apart := false }
def RunlengthReturnsSaid : Prop := runlengthReturnsRow.holds Try.pinned (OpenSpec.ofChange runlengthReturnsSpec)

/-- ITS FALSE NEIGHBOUR: 'it returns false'. Refute it at one input. -/
def runlengthReturnsWrong : ChangeSpec := { name := "runlengthReturns", fn := fun _ => fun
  | [d] => { results := [.lit (.bool false)], args := [d] }
  | _ => none }
def RunlengthReturnsWrongFalsely : Prop := runlengthReturnsRow.holds Try.pinned (OpenSpec.ofChange runlengthReturnsWrong)

/-- 'standbylaw05.RunlengthRepeats': WHATEVER THE INPUT: true; the input reads as it did. -/
def runlengthRepeatsSpec : ChangeSpec := { name := "runlengthRepeats", fn := fun _ => fun
  | [d1, d2] => { results := [.lit (.bool true)], args := [d1, d2] }
  | _ => none }
def runlengthRepeatsRow : OpenClaim := { program := "ythcnnedgfndklaa", sum := "ad56de9e36d6af8dd6d4dbea487f96f3f0c4009cc7d29d112b9afe0e15b1d51e", func := "standby/standbylaw05.RunlengthRepeats", spec := "runlengthRepeats", unfollowed := true, recurses := true, apart := false }
def RunlengthRepeatsSaid : Prop := runlengthRepeatsRow.holds Try.pinned (OpenSpec.ofChange runlengthRepeatsSpec)

/-- ITS FALSE NEIGHBOUR: 'it returns false'. Refute it at one input. -/
def runlengthRepeatsWrong : ChangeSpec := { name := "runlengthRepeats", fn := fun _ => fun
  | [d1, d2] => { results := [.lit (.bool false)], args := [d1, d2] }
  | _ => none }
def RunlengthRepeatsWrongFalsely : Prop := runlengthRepeatsRow.holds Try.pinned (OpenSpec.ofChange runlengthRepeatsWrong)

/-- 'standbylaw05.RunlengthBounds': WHATEVER THE INPUT: true; the input reads as it did. -/
def runlengthBoundsSpec : ChangeSpec := { name := "runlengthBounds", fn := fun _ => fun
  | [d1, d2, d3] => { results := [.lit (.bool true)], args := [d1, d2, d3] }
  | _ => none }
def runlengthBoundsRow : OpenClaim := { program := "ythcnnedgfndklaa", sum := "ad56de9e36d6af8dd6d4dbea487f96f3f0c4009cc7d29d112b9afe0e15b1d51e", func := "standby/standbylaw05.RunlengthBounds", spec := "runlengthBounds", unfollowed := true, recurses := true, apart := false }
def RunlengthBoundsSaid : Prop := runlengthBoundsRow.holds Try.pinned (OpenSpec.ofChange runlengthBoundsSpec)

/-- ITS FALSE NEIGHBOUR: 'it returns false'. Refute it at one input. -/
def runlengthBoundsWrong : ChangeSpec := { name := "runlengthBounds", fn := fun _ => fun
  | [d1, d2, d3] => { results := [.lit (.bool false)], args := [d1, d2, d3] }
  | _ => none }
def RunlengthBoundsWrongFalsely : Prop := runlengthBoundsRow.holds Try.pinned (OpenSpec.ofChange runlengthBoundsWrong)

/-- 'standbylaw05.RunlengthFinds': WHATEVER THE INPUT: true; the input reads as it did. -/
def runlengthFindsSpec : ChangeSpec := { name := "runlengthFinds", fn := fun _ => fun
  | [d] => { results := [.lit (.bool true)], args := [d] }
  | _ => none }
def runlengthFindsRow : OpenClaim := { program := "ythcnnedgfndklaa", sum := "ad56de9e36d6af8dd6d4dbea487f96f3f0c4009cc7d29d112b9afe0e15b1d51e", func := "standby/standbylaw05.RunlengthFinds", spec := "runlengthFinds", unfollowed := true, recurses := true, apart := false }
def RunlengthFindsSaid : Prop := runlengthFindsRow.holds Try.pinned (OpenSpec.ofChange runlengthFindsSpec)

/-- ITS FALSE NEIGHBOUR: 'it returns false'. Refute it at one input. -/
def runlengthFindsWrong : ChangeSpec := { name := "runlengthFinds", fn := fun _ => fun
  | [d] => { results := [.lit (.bool false)], args := [d] }
  | _ => none }
def RunlengthFindsWrongFalsely : Prop := runlengthFindsRow.holds Try.pinned (OpenSpec.ofChange runlengthFindsWrong)

/-- 'standbylaw05.RunlengthParts': WHATEVER THE INPUT: true; the input reads as it did. -/
def runlengthPartsSpec : ChangeSpec := { name := "runlengthParts", fn := fun _ => fun
  | [d] => { results := [.lit (.bool true)], args := [d] }
  | _ => none }
def runlengthPartsRow : OpenClaim := { program := "ythcnnedgfndklaa", sum := "ad56de9e36d6af8dd6d4dbea487f96f3f0c4009cc7d29d112b9afe0e15b1d51e", func := "standby/standbylaw05.RunlengthParts", spec := "runlengthParts", unfollowed := true, recurses := true, apart := false }
def RunlengthPartsSaid : Prop := runlengthPartsRow.holds Try.pinned (OpenSpec.ofChange runlengthPartsSpec)

/-- ITS FALSE NEIGHBOUR: 'it returns false'. Refute it at one input. -/
def runlengthPartsWrong : ChangeSpec := { name := "runlengthParts", fn := fun _ => fun
  | [d] => { results := [.lit (.bool false)], args := [d] }
  | _ => none }
def RunlengthPartsWrongFalsely : Prop := runlengthPartsRow.holds Try.pinned (OpenSpec.ofChange runlengthPartsWrong)

/- THE SECOND FORM. 'bulk': how many values and letters a reading holds, each counted each time it is reached (what is shared counts as often as it is met; a slice's spare places count too). A statement '..UptoSaid' is the law's where the arguments, and the package variables that the reading takes, are together of bulk at most 1048576: NARROWER than '..Said'. Prove '..Said' where nothing that the law and all that it calls make is longer than what came in: it says more and counts as full. Else prove '..UptoSaid'. A law counts once. -/
mutual
def uptoBulk {H : Type} : DataW H → Nat
  | .lit (.string bytes) => bytes.length + 1
  | .lit _ => 1
  | .nil => 1
  | .ptr d => uptoBulk d + 1
  | .slice elems spare => uptoBulkAll elems + uptoBulkAll spare + 1
  | .agg parts => uptoBulkAll parts + 1
  | .iface _ d => uptoBulk d + 1
  | .map entries => uptoBulkEntries entries + 1
  | .held _ => 1
def uptoBulkAll {H : Type} : List (DataW H) → Nat
  | [] => 0
  | d :: r => uptoBulk d + uptoBulkAll r
def uptoBulkEntries {H : Type} : List (Lit × DataW H) → Nat
  | [] => 0
  | x :: r => uptoBulkEntry x + uptoBulkEntries r
def uptoBulkEntry {H : Type} : Lit × DataW H → Nat
  | (.string bytes, d) => bytes.length + uptoBulk d + 1
  | (_, d) => uptoBulk d + 1
 end
def uptoSmall : (H : Type) → List (DataW H) → Bool := fun _ ds => decide (uptoBulkAll ds ≤ 1048576)
def OpenSpec.upto (s : _root_.Go.ChangeSpec) : _root_.Go.OpenSpec := { _root_.Go.OpenSpec.ofChange s with cond := some uptoSmall }

/-- 'standbylaw05.RunlengthEncodes', WHERE WHAT IT READS IS OF BULK AT MOST 1048576: true; the input reads as it did. -/
def runlengthEncodesUptoRow : OpenClaim := { program := "ythcnnedgfndklaa", sum := "ad56de9e36d6af8dd6d4dbea487f96f3f0c4009cc7d29d112b9afe0e15b1d51e", func := "standby/standbylaw05.RunlengthEncodes", spec := "runlengthEncodes", unfollowed := true, recurses := true, apart := false, narrowed := true }
def RunlengthEncodesUptoSaid : Prop := runlengthEncodesUptoRow.holds Try.pinned (OpenSpec.upto runlengthEncodesSpec)

/-- 'standbylaw05.RunlengthDecodes', WHERE WHAT IT READS IS OF BULK AT MOST 1048576: true; the input reads as it did. -/
def runlengthDecodesUptoRow : OpenClaim := { program := "ythcnnedgfndklaa", sum := "ad56de9e36d6af8dd6d4dbea487f96f3f0c4009cc7d29d112b9afe0e15b1d51e", func := "standby/standbylaw05.RunlengthDecodes", spec := "runlengthDecodes", unfollowed := true, recurses := true, apart := false, narrowed := true }
def RunlengthDecodesUptoSaid : Prop := runlengthDecodesUptoRow.holds Try.pinned (OpenSpec.upto runlengthDecodesSpec)

/-- 'standbylaw05.RunlengthReturns', WHERE WHAT IT READS IS OF BULK AT MOST 1048576: true; the input reads as it did. -/
def runlengthReturnsUptoRow : OpenClaim := { program := "ythcnnedgfndklaa", sum := "ad56de9e36d6af8dd6d4dbea487f96f3f0c4009cc7d29d112b9afe0e15b1d51e", func := "standby/standbylaw05.RunlengthReturns", spec := "runlengthReturns", unfollowed := true, recurses := true, apart := false, narrowed := true }
def RunlengthReturnsUptoSaid : Prop := runlengthReturnsUptoRow.holds Try.pinned (OpenSpec.upto runlengthReturnsSpec)

/-- 'standbylaw05.RunlengthRepeats', WHERE WHAT IT READS IS OF BULK AT MOST 1048576: true; the input reads as it did. -/
def runlengthRepeatsUptoRow : OpenClaim := { program := "ythcnnedgfndklaa", sum := "ad56de9e36d6af8dd6d4dbea487f96f3f0c4009cc7d29d112b9afe0e15b1d51e", func := "standby/standbylaw05.RunlengthRepeats", spec := "runlengthRepeats", unfollowed := true, recurses := true, apart := false, narrowed := true }
def RunlengthRepeatsUptoSaid : Prop := runlengthRepeatsUptoRow.holds Try.pinned (OpenSpec.upto runlengthRepeatsSpec)

/-- 'standbylaw05.RunlengthBounds', WHERE WHAT IT READS IS OF BULK AT MOST 1048576: true; the input reads as it did. -/
def runlengthBoundsUptoRow : OpenClaim := { program := "ythcnnedgfndklaa", sum := "ad56de9e36d6af8dd6d4dbea487f96f3f0c4009cc7d29d112b9afe0e15b1d51e", func := "standby/standbylaw05.RunlengthBounds", spec := "runlengthBounds", unfollowed := true, recurses := true, apart := false, narrowed := true }
def RunlengthBoundsUptoSaid : Prop := runlengthBoundsUptoRow.holds Try.pinned (OpenSpec.upto runlengthBoundsSpec)

/-- 'standbylaw05.RunlengthFinds', WHERE WHAT IT READS IS OF BULK AT MOST 1048576: true; the input reads as it did. -/
def runlengthFindsUptoRow : OpenClaim := { program := "ythcnnedgfndklaa", sum := "ad56de9e36d6af8dd6d4dbea487f96f3f0c4009cc7d29d112b9afe0e15b1d51e", func := "standby/standbylaw05.RunlengthFinds", spec := "runlengthFinds", unfollowed := true, recurses := true, apart := false, narrowed := true }
def RunlengthFindsUptoSaid : Prop := runlengthFindsUptoRow.holds Try.pinned (OpenSpec.upto runlengthFindsSpec)

/-- 'standbylaw05.RunlengthParts', WHERE WHAT IT READS IS OF BULK AT MOST 1048576: true; the input reads as it did. -/
def runlengthPartsUptoRow : OpenClaim := { program := "ythcnnedgfndklaa", sum := "ad56de9e36d6af8dd6d4dbea487f96f3f0c4009cc7d29d112b9afe0e15b1d51e", func := "standby/standbylaw05.RunlengthParts", spec := "runlengthParts", unfollowed := true, recurses := true, apart := false, narrowed := true }
def RunlengthPartsUptoSaid : Prop := runlengthPartsUptoRow.holds Try.pinned (OpenSpec.upto runlengthPartsSpec)

end Rows
end Go.Proofs.Ythcnnedgfndklaa
