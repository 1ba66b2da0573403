/-
  No cell of these rows narrows 'for every input' (looked for: loops, veiled, ifaces, maps, wideKeys, modest, calm, conditions, laid).
  DERIVED. THE GIVEN ROWS OF THIS SEAT. 9 by the template 'for every input the law returns true; each argument reads behind the call as it read before'; 0 by the template 'total and deterministic' (their statements: YtonelgecjmpbgaaTotals.lean).
  GIVEN WITH THE SEED: the statements are not yours to turn. If you find one false, say at which input.
  Laid BY PROGRAM, IN A SANDBOX (cutbox-rows.mjs): the forced cells as the released guide's own fill.sh prints them over the translation a8fe7d5176dda25e… (all of the seat's roots in one cut). By AI agents, Wed Nov 11 2026. No macro, syntax, notation, axiom, sorry.
-/
import Derived.Test.YtonelgecjmpbgaaChecked
import GoSem.Claim
import GoSem.ClaimJoined
import GoSem.ClaimMapViews
import Derived.JoinedTies
import Derived.KernelRfl
namespace Go.Proofs.Ytonelgecjmpbgaa
/- THE CELL 'sum', in the pinned program and in every row, IS THE sha256 OF THE DUMP (.gsa) THAT YtonelgecjmpbgaaProg.lean LOADS. Nothing in Lean hashes anything: it is a label: what it is worth is what the hold of that sum in a sandbox is worth. -/
noncomputable def Try.pinned : Pinned := { name := "ytonelgecjmpbgaa", sum := "a8fe7d5176dda25ed54be670aa0cdcd8371292e6eee267488719e124ad286964", checked := Try.checked }
namespace Rows
def none {H : Type} : Left H := { results := [], args := [] }

/-- 'standbylaw29.DedupEncodes': WHATEVER THE INPUT: true; the input reads as it did. -/
def dedupEncodesSpec : ChangeSpec := { name := "dedupEncodes", fn := fun _ => fun
  | [d1, d2, d3] => { results := [.lit (.bool true)], args := [d1, d2, d3] }
  | _ => none }
def dedupEncodesRow : OpenClaim := { program := "ytonelgecjmpbgaa", sum := "a8fe7d5176dda25ed54be670aa0cdcd8371292e6eee267488719e124ad286964", func := "standby/standbylaw29.DedupEncodes", spec := "dedupEncodes", unfollowed := true, recurses := true, apart := false }
def DedupEncodesSaid : Prop := dedupEncodesRow.holds Try.pinned (OpenSpec.ofChange dedupEncodesSpec)

/-- ITS FALSE NEIGHBOUR: 'it returns false'. Refute it at one input. -/
def dedupEncodesWrong : ChangeSpec := { name := "dedupEncodes", fn := fun _ => fun
  | [d1, d2, d3] => { results := [.lit (.bool false)], args := [d1, d2, d3] }
  | _ => none }
def DedupEncodesWrongFalsely : Prop := dedupEncodesRow.holds Try.pinned (OpenSpec.ofChange dedupEncodesWrong)

/-- 'standbylaw29.DedupDecodes': WHATEVER THE INPUT: true; the input reads as it did. -/
def dedupDecodesSpec : ChangeSpec := { name := "dedupDecodes", fn := fun _ => fun
  | [d1, d2] => { results := [.lit (.bool true)], args := [d1, d2] }
  | _ => none }
def dedupDecodesRow : OpenClaim := { program := "ytonelgecjmpbgaa", sum := "a8fe7d5176dda25ed54be670aa0cdcd8371292e6eee267488719e124ad286964", func := "standby/standbylaw29.DedupDecodes", spec := "dedupDecodes", unfollowed := true, recurses := true, apart := false }
def DedupDecodesSaid : Prop := dedupDecodesRow.holds Try.pinned (OpenSpec.ofChange dedupDecodesSpec)

/-- ITS FALSE NEIGHBOUR: 'it returns false'. Refute it at one input. -/
def dedupDecodesWrong : ChangeSpec := { name := "dedupDecodes", fn := fun _ => fun
  | [d1, d2] => { results := [.lit (.bool false)], args := [d1, d2] }
  | _ => none }
def DedupDecodesWrongFalsely : Prop := dedupDecodesRow.holds Try.pinned (OpenSpec.ofChange dedupDecodesWrong)

/-- 'standbylaw29.DedupMirrors': WHATEVER THE INPUT: true; the input reads as it did. -/
def dedupMirrorsSpec : ChangeSpec := { name := "dedupMirrors", fn := fun _ => fun
  | [d1, d2, d3] => { results := [.lit (.bool true)], args := [d1, d2, d3] }
  | _ => none }
def dedupMirrorsRow : OpenClaim := { program := "ytonelgecjmpbgaa", sum := "a8fe7d5176dda25ed54be670aa0cdcd8371292e6eee267488719e124ad286964", func := "standby/standbylaw29.DedupMirrors", spec := "dedupMirrors", unfollowed := true, recurses := true, apart := false }
def DedupMirrorsSaid : Prop := dedupMirrorsRow.holds Try.pinned (OpenSpec.ofChange dedupMirrorsSpec)

/-- ITS FALSE NEIGHBOUR: 'it returns false'. Refute it at one input. -/
def dedupMirrorsWrong : ChangeSpec := { name := "dedupMirrors", fn := fun _ => fun
  | [d1, d2, d3] => { results := [.lit (.bool false)], args := [d1, d2, d3] }
  | _ => none }
def DedupMirrorsWrongFalsely : Prop := dedupMirrorsRow.holds Try.pinned (OpenSpec.ofChange dedupMirrorsWrong)

/-- 'standbylaw29.DedupStores': WHATEVER THE INPUT: true; the input reads as it did. -/
def dedupStoresSpec : ChangeSpec := { name := "dedupStores", fn := fun _ => fun
  | [d1, d2, d3] => { results := [.lit (.bool true)], args := [d1, d2, d3] }
  | _ => none }
def dedupStoresRow : OpenClaim := { program := "ytonelgecjmpbgaa", sum := "a8fe7d5176dda25ed54be670aa0cdcd8371292e6eee267488719e124ad286964", func := "standby/standbylaw29.DedupStores", spec := "dedupStores", unfollowed := true, recurses := true, apart := false }
def DedupStoresSaid : Prop := dedupStoresRow.holds Try.pinned (OpenSpec.ofChange dedupStoresSpec)

/-- ITS FALSE NEIGHBOUR: 'it returns false'. Refute it at one input. -/
def dedupStoresWrong : ChangeSpec := { name := "dedupStores", fn := fun _ => fun
  | [d1, d2, d3] => { results := [.lit (.bool false)], args := [d1, d2, d3] }
  | _ => none }
def DedupStoresWrongFalsely : Prop := dedupStoresRow.holds Try.pinned (OpenSpec.ofChange dedupStoresWrong)

/-- 'standbylaw29.DedupSaves': WHATEVER THE INPUT: true; the input reads as it did. -/
def dedupSavesSpec : ChangeSpec := { name := "dedupSaves", fn := fun _ => fun
  | [d1, d2, d3] => { results := [.lit (.bool true)], args := [d1, d2, d3] }
  | _ => none }
def dedupSavesRow : OpenClaim := { program := "ytonelgecjmpbgaa", sum := "a8fe7d5176dda25ed54be670aa0cdcd8371292e6eee267488719e124ad286964", func := "standby/standbylaw29.DedupSaves", spec := "dedupSaves", unfollowed := true, recurses := true, apart := false }
def DedupSavesSaid : Prop := dedupSavesRow.holds Try.pinned (OpenSpec.ofChange dedupSavesSpec)

/-- ITS FALSE NEIGHBOUR: 'it returns false'. Refute it at one input. -/
def dedupSavesWrong : ChangeSpec := { name := "dedupSaves", fn := fun _ => fun
  | [d1, d2, d3] => { results := [.lit (.bool false)], args := [d1, d2, d3] }
  | _ => none }
def DedupSavesWrongFalsely : Prop := dedupSavesRow.holds Try.pinned (OpenSpec.ofChange dedupSavesWrong)

/-- 'standbylaw29.DedupMisses': WHATEVER THE INPUT: true; the input reads as it did. -/
def dedupMissesSpec : ChangeSpec := { name := "dedupMisses", fn := fun _ => fun
  | [d1, d2, d3] => { results := [.lit (.bool true)], args := [d1, d2, d3] }
  | _ => none }
def dedupMissesRow : OpenClaim := { program := "ytonelgecjmpbgaa", sum := "a8fe7d5176dda25ed54be670aa0cdcd8371292e6eee267488719e124ad286964", func := "standby/standbylaw29.DedupMisses", spec := "dedupMisses", unfollowed := true, recurses := true, apart := false }
def DedupMissesSaid : Prop := dedupMissesRow.holds Try.pinned (OpenSpec.ofChange dedupMissesSpec)

/-- ITS FALSE NEIGHBOUR: 'it returns false'. Refute it at one input. -/
def dedupMissesWrong : ChangeSpec := { name := "dedupMisses", fn := fun _ => fun
  | [d1, d2, d3] => { results := [.lit (.bool false)], args := [d1, d2, d3] }
  | _ => none }
def DedupMissesWrongFalsely : Prop := dedupMissesRow.holds Try.pinned (OpenSpec.ofChange dedupMissesWrong)

/-- 'standbylaw29.DedupRecovers': WHATEVER THE INPUT: true; the input reads as it did. -/
def dedupRecoversSpec : ChangeSpec := { name := "dedupRecovers", fn := fun _ => fun
  | [d1, d2, d3] => { results := [.lit (.bool true)], args := [d1, d2, d3] }
  | _ => none }
def dedupRecoversRow : OpenClaim := { program := "ytonelgecjmpbgaa", sum := "a8fe7d5176dda25ed54be670aa0cdcd8371292e6eee267488719e124ad286964", func := "standby/standbylaw29.DedupRecovers", spec := "dedupRecovers", unfollowed := true, recurses := true, apart := false }
def DedupRecoversSaid : Prop := dedupRecoversRow.holds Try.pinned (OpenSpec.ofChange dedupRecoversSpec)

/-- ITS FALSE NEIGHBOUR: 'it returns false'. Refute it at one input. -/
def dedupRecoversWrong : ChangeSpec := { name := "dedupRecovers", fn := fun _ => fun
  | [d1, d2, d3] => { results := [.lit (.bool false)], args := [d1, d2, d3] }
  | _ => none }
def DedupRecoversWrongFalsely : Prop := dedupRecoversRow.holds Try.pinned (OpenSpec.ofChange dedupRecoversWrong)

/-- 'standbylaw29.DedupWires': WHATEVER THE INPUT: true; the input reads as it did. -/
def dedupWiresSpec : ChangeSpec := { name := "dedupWires", fn := fun _ => fun
  | [d1, d2, d3] => { results := [.lit (.bool true)], args := [d1, d2, d3] }
  | _ => none }
def dedupWiresRow : OpenClaim := { program := "ytonelgecjmpbgaa", sum := "a8fe7d5176dda25ed54be670aa0cdcd8371292e6eee267488719e124ad286964", func := "standby/standbylaw29.DedupWires", spec := "dedupWires", unfollowed := true, recurses := true, apart := false }
def DedupWiresSaid : Prop := dedupWiresRow.holds Try.pinned (OpenSpec.ofChange dedupWiresSpec)

/-- ITS FALSE NEIGHBOUR: 'it returns false'. Refute it at one input. -/
def dedupWiresWrong : ChangeSpec := { name := "dedupWires", fn := fun _ => fun
  | [d1, d2, d3] => { results := [.lit (.bool false)], args := [d1, d2, d3] }
  | _ => none }
def DedupWiresWrongFalsely : Prop := dedupWiresRow.holds Try.pinned (OpenSpec.ofChange dedupWiresWrong)

/-- 'standbylaw29.DedupBack': WHATEVER THE INPUT: true; the input reads as it did. -/
def dedupBackSpec : ChangeSpec := { name := "dedupBack", fn := fun _ => fun
  | [d1, d2] => { results := [.lit (.bool true)], args := [d1, d2] }
  | _ => none }
def dedupBackRow : OpenClaim := { program := "ytonelgecjmpbgaa", sum := "a8fe7d5176dda25ed54be670aa0cdcd8371292e6eee267488719e124ad286964", func := "standby/standbylaw29.DedupBack", spec := "dedupBack", unfollowed := true, recurses := true, apart := false }
def DedupBackSaid : Prop := dedupBackRow.holds Try.pinned (OpenSpec.ofChange dedupBackSpec)

/-- ITS FALSE NEIGHBOUR: 'it returns false'. Refute it at one input. -/
def dedupBackWrong : ChangeSpec := { name := "dedupBack", fn := fun _ => fun
  | [d1, d2] => { results := [.lit (.bool false)], args := [d1, d2] }
  | _ => none }
def DedupBackWrongFalsely : Prop := dedupBackRow.holds Try.pinned (OpenSpec.ofChange dedupBackWrong)

/- THE SECOND FORM. 'bulk': how many values and letters a reading holds, each counted each time it is reached (what is shared counts as often as it is met; a slice's spare places count too). A statement '..UptoSaid' is the law's where the arguments, and the package variables that the reading takes, are together of bulk at most 1048576: NARROWER than '..Said'. Prove '..Said' where nothing that the law and all that it calls make is longer than what came in: it says more and counts as full. Else prove '..UptoSaid'. A law counts once. -/
mutual
def uptoBulk {H : Type} : DataW H → Nat
  | .lit (.string bytes) => bytes.length + 1
  | .lit _ => 1
  | .nil => 1
  | .ptr d => uptoBulk d + 1
  | .slice elems spare => uptoBulkAll elems + uptoBulkAll spare + 1
  | .agg parts => uptoBulkAll parts + 1
  | .iface _ d => uptoBulk d + 1
  | .map entries => uptoBulkEntries entries + 1
  | .held _ => 1
def uptoBulkAll {H : Type} : List (DataW H) → Nat
  | [] => 0
  | d :: r => uptoBulk d + uptoBulkAll r
def uptoBulkEntries {H : Type} : List (Lit × DataW H) → Nat
  | [] => 0
  | x :: r => uptoBulkEntry x + uptoBulkEntries r
def uptoBulkEntry {H : Type} : Lit × DataW H → Nat
  | (.string bytes, d) => bytes.length + uptoBulk d + 1
  | (_, d) => uptoBulk d + 1
 end
def uptoSmall : (H : Type) → List (DataW H) → Bool := fun _ ds => decide (uptoBulkAll ds ≤ 1048576)
def OpenSpec.upto (s : _root_.Go.ChangeSpec) : _root_.Go.OpenSpec := { _root_.Go.OpenSpec.ofChange s with cond := some uptoSmall }

/-- 'standbylaw29.DedupEncodes', WHERE WHAT IT READS IS OF BULK AT MOST 1048576: true; the input reads as it did. -/
def dedupEncodesUptoRow : OpenClaim := { program := "ytonelgecjmpbgaa", sum := "a8fe7d5176dda25ed54be670aa0cdcd8371292e6eee267488719e124ad286964", func := "standby/standbylaw29.DedupEncodes", spec := "dedupEncodes", unfollowed := true, recurses := true, apart := false, narrowed := true }
def DedupEncodesUptoSaid : Prop := dedupEncodesUptoRow.holds Try.pinned (OpenSpec.upto dedupEncodesSpec)

/-- 'standbylaw29.DedupDecodes', WHERE WHAT IT READS IS OF BULK AT MOST 1048576: true; the input reads as it did. -/
def dedupDecodesUptoRow : OpenClaim := { program := "ytonelgecjmpbgaa", sum := "a8fe7d5176dda25ed54be670aa0cdcd8371292e6eee267488719e124ad286964", func := "standby/standbylaw29.DedupDecodes", spec := "dedupDecodes", unfollowed := true, recurses := true, apart := false, narrowed := true }
def DedupDecodesUptoSaid : Prop := dedupDecodesUptoRow.holds Try.pinned (OpenSpec.upto dedupDecodesSpec)

/-- 'standbylaw29.DedupMirrors', WHERE WHAT IT READS IS OF BULK AT MOST 1048576: true; the input reads as it did. -/
def dedupMirrorsUptoRow : OpenClaim := { program := "ytonelgecjmpbgaa", sum := "a8fe7d5176dda25ed54be670aa0cdcd8371292e6eee267488719e124ad286964", func := "standby/standbylaw29.DedupMirrors", spec := "dedupMirrors", unfollowed := true, recurses := true, apart := false, narrowed := true }
def DedupMirrorsUptoSaid : Prop := dedupMirrorsUptoRow.holds Try.pinned (OpenSpec.upto dedupMirrorsSpec)

/-- 'standbylaw29.DedupStores', WHERE WHAT IT READS IS OF BULK AT MOST 1048576: true; the input reads as it did. -/
def dedupStoresUptoRow : OpenClaim := { program := "ytonelgecjmpbgaa", sum := "a8fe7d5176dda25ed54be670aa0cdcd8371292e6eee267488719e124ad286964", func := "standby/standbylaw29.DedupStores", spec := "dedupStores", unfollowed := true, recurses := true, apart := false, narrowed := true }
def DedupStoresUptoSaid : Prop := dedupStoresUptoRow.holds Try.pinned (OpenSpec.upto dedupStoresSpec)

/-- 'standbylaw29.DedupSaves', WHERE WHAT IT READS IS OF BULK AT MOST 1048576: true; the input reads as it did. -/
def dedupSavesUptoRow : OpenClaim := { program := "ytonelgecjmpbgaa", sum := "a8fe7d5176dda25ed54be670aa0cdcd8371292e6eee267488719e124ad286964", func := "standby/standbylaw29.DedupSaves", spec := "dedupSaves", unfollowed := true, recurses := true, apart := false, narrowed := true }
def DedupSavesUptoSaid : Prop := dedupSavesUptoRow.holds Try.pinned (OpenSpec.upto dedupSavesSpec)

/-- 'standbylaw29.DedupMisses', WHERE WHAT IT READS IS OF BULK AT MOST 1048576: true; the input reads as it did. -/
def dedupMissesUptoRow : OpenClaim := { program := "ytonelgecjmpbgaa", sum := "a8fe7d5176dda25ed54be670aa0cdcd8371292e6eee267488719e124ad286964", func := "standby/standbylaw29.DedupMisses", spec := "dedupMisses", unfollowed := true, recurses := true, apart := false, narrowed := true }
def DedupMissesUptoSaid : Prop := dedupMissesUptoRow.holds Try.pinned (OpenSpec.upto dedupMissesSpec)

/-- 'standbylaw29.DedupRecovers', WHERE WHAT IT READS IS OF BULK AT MOST 1048576: true; the input reads as it did. -/
def dedupRecoversUptoRow : OpenClaim := { program := "ytonelgecjmpbgaa", sum := "a8fe7d5176dda25ed54be670aa0cdcd8371292e6eee267488719e124ad286964", func := "standby/standbylaw29.DedupRecovers", spec := "dedupRecovers", unfollowed := true, recurses := true, apart := false, narrowed := true }
def DedupRecoversUptoSaid : Prop := dedupRecoversUptoRow.holds Try.pinned (OpenSpec.upto dedupRecoversSpec)

/-- 'standbylaw29.DedupWires', WHERE WHAT IT READS IS OF BULK AT MOST 1048576: true; the input reads as it did. -/
def dedupWiresUptoRow : OpenClaim := { program := "ytonelgecjmpbgaa", sum := "a8fe7d5176dda25ed54be670aa0cdcd8371292e6eee267488719e124ad286964", func := "standby/standbylaw29.DedupWires", spec := "dedupWires", unfollowed := true, recurses := true, apart := false, narrowed := true }
def DedupWiresUptoSaid : Prop := dedupWiresUptoRow.holds Try.pinned (OpenSpec.upto dedupWiresSpec)

/-- 'standbylaw29.DedupBack', WHERE WHAT IT READS IS OF BULK AT MOST 1048576: true; the input reads as it did. -/
def dedupBackUptoRow : OpenClaim := { program := "ytonelgecjmpbgaa", sum := "a8fe7d5176dda25ed54be670aa0cdcd8371292e6eee267488719e124ad286964", func := "standby/standbylaw29.DedupBack", spec := "dedupBack", unfollowed := true, recurses := true, apart := false, narrowed := true }
def DedupBackUptoSaid : Prop := dedupBackUptoRow.holds Try.pinned (OpenSpec.upto dedupBackSpec)

end Rows
end Go.Proofs.Ytonelgecjmpbgaa
