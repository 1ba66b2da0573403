/-
  No cell of these rows narrows 'for every input' (looked for: loops, veiled, ifaces, maps, wideKeys, modest, calm, conditions, laid).
  DERIVED. THE GIVEN ROWS OF THIS SEAT. 11 by the template 'for every input the law returns true; each argument reads behind the call as it read before'; 0 by the template 'total and deterministic' (their statements: YtabfhoipclbeeaaTotals.lean).
  GIVEN WITH THE SEED: the statements are not yours to turn. If you find one false, say at which input.
  Laid BY PROGRAM, IN A SANDBOX (cutbox-rows.mjs): the forced cells as the released guide's own fill.sh prints them over the translation a905b69305be9de8… (all of the seat's roots in one cut). By AI agents, Wed Nov 11 2026. No macro, syntax, notation, axiom, sorry.
-/
import Derived.Test.YtabfhoipclbeeaaChecked
import GoSem.Claim
import GoSem.ClaimJoined
import GoSem.ClaimMapViews
import Derived.JoinedTies
import Derived.KernelRfl
namespace Go.Proofs.Ytabfhoipclbeeaa
/- THE CELL 'sum', in the pinned program and in every row, IS THE sha256 OF THE DUMP (.gsa) THAT YtabfhoipclbeeaaProg.lean LOADS. Nothing in Lean hashes anything: it is a label: what it is worth is what the hold of that sum in a sandbox is worth. -/
noncomputable def Try.pinned : Pinned := { name := "ytabfhoipclbeeaa", sum := "a905b69305be9de8b257329102430cdcdd1b30f6fd95d17787416207e6c49e29", checked := Try.checked }
namespace Rows
def none {H : Type} : Left H := { results := [], args := [] }

/-- 'standbylaw57.CertificateMakes': WHATEVER THE INPUT: true; the input reads as it did. -/
def certificateMakesSpec : ChangeSpec := { name := "certificateMakes", fn := fun _ => fun
  | [d1, d2, d3] => { results := [.lit (.bool true)], args := [d1, d2, d3] }
  | _ => none }
def certificateMakesRow : OpenClaim := { program := "ytabfhoipclbeeaa", sum := "a905b69305be9de8b257329102430cdcdd1b30f6fd95d17787416207e6c49e29", func := "standby/standbylaw57.CertificateMakes", spec := "certificateMakes", unfollowed := true, recurses := true, apart := false }
def CertificateMakesSaid : Prop := certificateMakesRow.holds Try.pinned (OpenSpec.ofChange certificateMakesSpec)

/-- ITS FALSE NEIGHBOUR: 'it returns false'. Refute it at one input. -/
def certificateMakesWrong : ChangeSpec := { name := "certificateMakes", fn := fun _ => fun
  | [d1, d2, d3] => { results := [.lit (.bool false)], args := [d1, d2, d3] }
  | _ => none }
def CertificateMakesWrongFalsely : Prop := certificateMakesRow.holds Try.pinned (OpenSpec.ofChange certificateMakesWrong)

/-- 'standbylaw57.CertificateWorst': WHATEVER THE INPUT: true; the input reads as it did. -/
def certificateWorstSpec : ChangeSpec := { name := "certificateWorst", fn := fun _ => fun
  | [d1, d2] => { results := [.lit (.bool true)], args := [d1, d2] }
  | _ => none }
def certificateWorstRow : OpenClaim := { program := "ytabfhoipclbeeaa", sum := "a905b69305be9de8b257329102430cdcdd1b30f6fd95d17787416207e6c49e29", func := "standby/standbylaw57.CertificateWorst", spec := "certificateWorst", unfollowed := true, recurses := true, apart := false }
def CertificateWorstSaid : Prop := certificateWorstRow.holds Try.pinned (OpenSpec.ofChange certificateWorstSpec)

/-- ITS FALSE NEIGHBOUR: 'it returns false'. Refute it at one input. -/
def certificateWorstWrong : ChangeSpec := { name := "certificateWorst", fn := fun _ => fun
  | [d1, d2] => { results := [.lit (.bool false)], args := [d1, d2] }
  | _ => none }
def CertificateWorstWrongFalsely : Prop := certificateWorstRow.holds Try.pinned (OpenSpec.ofChange certificateWorstWrong)

/-- 'standbylaw57.CertificateOrders': WHATEVER THE INPUT: true; the input reads as it did. -/
def certificateOrdersSpec : ChangeSpec := { name := "certificateOrders", fn := fun _ => fun
  | [d1, d2, d3] => { results := [.lit (.bool true)], args := [d1, d2, d3] }
  | _ => none }
def certificateOrdersRow : OpenClaim := { program := "ytabfhoipclbeeaa", sum := "a905b69305be9de8b257329102430cdcdd1b30f6fd95d17787416207e6c49e29", func := "standby/standbylaw57.CertificateOrders", spec := "certificateOrders", unfollowed := true, recurses := true, apart := false }
def CertificateOrdersSaid : Prop := certificateOrdersRow.holds Try.pinned (OpenSpec.ofChange certificateOrdersSpec)

/-- ITS FALSE NEIGHBOUR: 'it returns false'. Refute it at one input. -/
def certificateOrdersWrong : ChangeSpec := { name := "certificateOrders", fn := fun _ => fun
  | [d1, d2, d3] => { results := [.lit (.bool false)], args := [d1, d2, d3] }
  | _ => none }
def CertificateOrdersWrongFalsely : Prop := certificateOrdersRow.holds Try.pinned (OpenSpec.ofChange certificateOrdersWrong)

/-- 'standbylaw57.CertificateCodes': WHATEVER THE INPUT: true; the input reads as it did. -/
def certificateCodesSpec : ChangeSpec := { name := "certificateCodes", fn := fun _ => fun
  | [d1, d2] => { results := [.lit (.bool true)], args := [d1, d2] }
  | _ => none }
def certificateCodesRow : OpenClaim := { program := "ytabfhoipclbeeaa", sum := "a905b69305be9de8b257329102430cdcdd1b30f6fd95d17787416207e6c49e29", func := "standby/standbylaw57.CertificateCodes", spec := "certificateCodes", unfollowed := true, recurses := true, apart := false }
def CertificateCodesSaid : Prop := certificateCodesRow.holds Try.pinned (OpenSpec.ofChange certificateCodesSpec)

/-- ITS FALSE NEIGHBOUR: 'it returns false'. Refute it at one input. -/
def certificateCodesWrong : ChangeSpec := { name := "certificateCodes", fn := fun _ => fun
  | [d1, d2] => { results := [.lit (.bool false)], args := [d1, d2] }
  | _ => none }
def CertificateCodesWrongFalsely : Prop := certificateCodesRow.holds Try.pinned (OpenSpec.ofChange certificateCodesWrong)

/-- 'standbylaw57.CertificateBack': WHATEVER THE INPUT: true; the input reads as it did. -/
def certificateBackSpec : ChangeSpec := { name := "certificateBack", fn := fun _ => fun
  | [d1, d2] => { results := [.lit (.bool true)], args := [d1, d2] }
  | _ => none }
def certificateBackRow : OpenClaim := { program := "ytabfhoipclbeeaa", sum := "a905b69305be9de8b257329102430cdcdd1b30f6fd95d17787416207e6c49e29", func := "standby/standbylaw57.CertificateBack", spec := "certificateBack", unfollowed := true, recurses := true, apart := false }
def CertificateBackSaid : Prop := certificateBackRow.holds Try.pinned (OpenSpec.ofChange certificateBackSpec)

/-- ITS FALSE NEIGHBOUR: 'it returns false'. Refute it at one input. -/
def certificateBackWrong : ChangeSpec := { name := "certificateBack", fn := fun _ => fun
  | [d1, d2] => { results := [.lit (.bool false)], args := [d1, d2] }
  | _ => none }
def CertificateBackWrongFalsely : Prop := certificateBackRow.holds Try.pinned (OpenSpec.ofChange certificateBackWrong)

/-- 'standbylaw57.CertificateCovers': WHATEVER THE INPUT: true; the input reads as it did. -/
def certificateCoversSpec : ChangeSpec := { name := "certificateCovers", fn := fun _ => fun
  | [d1, d2] => { results := [.lit (.bool true)], args := [d1, d2] }
  | _ => none }
def certificateCoversRow : OpenClaim := { program := "ytabfhoipclbeeaa", sum := "a905b69305be9de8b257329102430cdcdd1b30f6fd95d17787416207e6c49e29", func := "standby/standbylaw57.CertificateCovers", spec := "certificateCovers", unfollowed := true, recurses := true, apart := false }
def CertificateCoversSaid : Prop := certificateCoversRow.holds Try.pinned (OpenSpec.ofChange certificateCoversSpec)

/-- ITS FALSE NEIGHBOUR: 'it returns false'. Refute it at one input. -/
def certificateCoversWrong : ChangeSpec := { name := "certificateCovers", fn := fun _ => fun
  | [d1, d2] => { results := [.lit (.bool false)], args := [d1, d2] }
  | _ => none }
def CertificateCoversWrongFalsely : Prop := certificateCoversRow.holds Try.pinned (OpenSpec.ofChange certificateCoversWrong)

/-- 'standbylaw57.CertificateHolds': WHATEVER THE INPUT: true; the input reads as it did. -/
def certificateHoldsSpec : ChangeSpec := { name := "certificateHolds", fn := fun _ => fun
  | [d1, d2] => { results := [.lit (.bool true)], args := [d1, d2] }
  | _ => none }
def certificateHoldsRow : OpenClaim := { program := "ytabfhoipclbeeaa", sum := "a905b69305be9de8b257329102430cdcdd1b30f6fd95d17787416207e6c49e29", func := "standby/standbylaw57.CertificateHolds", spec := "certificateHolds", unfollowed := true, recurses := true, apart := false }
def CertificateHoldsSaid : Prop := certificateHoldsRow.holds Try.pinned (OpenSpec.ofChange certificateHoldsSpec)

/-- ITS FALSE NEIGHBOUR: 'it returns false'. Refute it at one input. -/
def certificateHoldsWrong : ChangeSpec := { name := "certificateHolds", fn := fun _ => fun
  | [d1, d2] => { results := [.lit (.bool false)], args := [d1, d2] }
  | _ => none }
def CertificateHoldsWrongFalsely : Prop := certificateHoldsRow.holds Try.pinned (OpenSpec.ofChange certificateHoldsWrong)

/-- 'standbylaw57.CertificateReached': WHATEVER THE INPUT: true; the input reads as it did. -/
def certificateReachedSpec : ChangeSpec := { name := "certificateReached", fn := fun _ => fun
  | [d1, d2, d3] => { results := [.lit (.bool true)], args := [d1, d2, d3] }
  | _ => none }
def certificateReachedRow : OpenClaim := { program := "ytabfhoipclbeeaa", sum := "a905b69305be9de8b257329102430cdcdd1b30f6fd95d17787416207e6c49e29", func := "standby/standbylaw57.CertificateReached", spec := "certificateReached", unfollowed := true, recurses := true, apart := false }
def CertificateReachedSaid : Prop := certificateReachedRow.holds Try.pinned (OpenSpec.ofChange certificateReachedSpec)

/-- ITS FALSE NEIGHBOUR: 'it returns false'. Refute it at one input. -/
def certificateReachedWrong : ChangeSpec := { name := "certificateReached", fn := fun _ => fun
  | [d1, d2, d3] => { results := [.lit (.bool false)], args := [d1, d2, d3] }
  | _ => none }
def CertificateReachedWrongFalsely : Prop := certificateReachedRow.holds Try.pinned (OpenSpec.ofChange certificateReachedWrong)

/-- 'standbylaw57.CertificateMeasured': WHATEVER THE INPUT: true; the input reads as it did. -/
def certificateMeasuredSpec : ChangeSpec := { name := "certificateMeasured", fn := fun _ => fun
  | [d1, d2] => { results := [.lit (.bool true)], args := [d1, d2] }
  | _ => none }
def certificateMeasuredRow : OpenClaim := { program := "ytabfhoipclbeeaa", sum := "a905b69305be9de8b257329102430cdcdd1b30f6fd95d17787416207e6c49e29", func := "standby/standbylaw57.CertificateMeasured", spec := "certificateMeasured", unfollowed := true, recurses := true, apart := false }
def CertificateMeasuredSaid : Prop := certificateMeasuredRow.holds Try.pinned (OpenSpec.ofChange certificateMeasuredSpec)

/-- ITS FALSE NEIGHBOUR: 'it returns false'. Refute it at one input. -/
def certificateMeasuredWrong : ChangeSpec := { name := "certificateMeasured", fn := fun _ => fun
  | [d1, d2] => { results := [.lit (.bool false)], args := [d1, d2] }
  | _ => none }
def CertificateMeasuredWrongFalsely : Prop := certificateMeasuredRow.holds Try.pinned (OpenSpec.ofChange certificateMeasuredWrong)

/-- 'standbytop.TopCertificatesBound': WHATEVER THE INPUT: true; the input reads as it did. -/
def topCertificatesBoundSpec : ChangeSpec := { name := "topCertificatesBound", fn := fun _ => fun
  | [d1, d2] => { results := [.lit (.bool true)], args := [d1, d2] }
  | _ => none }
def topCertificatesBoundRow : OpenClaim := { program := "ytabfhoipclbeeaa", sum := "a905b69305be9de8b257329102430cdcdd1b30f6fd95d17787416207e6c49e29", func := "standby/standbytop.TopCertificatesBound", spec := "topCertificatesBound", unfollowed := true, recurses := true, apart := false }
def TopCertificatesBoundSaid : Prop := topCertificatesBoundRow.holds Try.pinned (OpenSpec.ofChange topCertificatesBoundSpec)

/-- ITS FALSE NEIGHBOUR: 'it returns false'. Refute it at one input. -/
def topCertificatesBoundWrong : ChangeSpec := { name := "topCertificatesBound", fn := fun _ => fun
  | [d1, d2] => { results := [.lit (.bool false)], args := [d1, d2] }
  | _ => none }
def TopCertificatesBoundWrongFalsely : Prop := topCertificatesBoundRow.holds Try.pinned (OpenSpec.ofChange topCertificatesBoundWrong)

/-- 'standbytop.TopCertificatesReached': WHATEVER THE INPUT: true; the input reads as it did. -/
def topCertificatesReachedSpec : ChangeSpec := { name := "topCertificatesReached", fn := fun _ => fun
  | [d1, d2, d3] => { results := [.lit (.bool true)], args := [d1, d2, d3] }
  | _ => none }
def topCertificatesReachedRow : OpenClaim := { program := "ytabfhoipclbeeaa", sum := "a905b69305be9de8b257329102430cdcdd1b30f6fd95d17787416207e6c49e29", func := "standby/standbytop.TopCertificatesReached", spec := "topCertificatesReached", unfollowed := true, recurses := true, apart := false }
def TopCertificatesReachedSaid : Prop := topCertificatesReachedRow.holds Try.pinned (OpenSpec.ofChange topCertificatesReachedSpec)

/-- ITS FALSE NEIGHBOUR: 'it returns false'. Refute it at one input. -/
def topCertificatesReachedWrong : ChangeSpec := { name := "topCertificatesReached", fn := fun _ => fun
  | [d1, d2, d3] => { results := [.lit (.bool false)], args := [d1, d2, d3] }
  | _ => none }
def TopCertificatesReachedWrongFalsely : Prop := topCertificatesReachedRow.holds Try.pinned (OpenSpec.ofChange topCertificatesReachedWrong)

/- THE SECOND FORM. 'bulk': how many values and letters a reading holds, each counted each time it is reached (what is shared counts as often as it is met; a slice's spare places count too). A statement '..UptoSaid' is the law's where the arguments, and the package variables that the reading takes, are together of bulk at most 1048576: NARROWER than '..Said'. Prove '..Said' where nothing that the law and all that it calls make is longer than what came in: it says more and counts as full. Else prove '..UptoSaid'. A law counts once. -/
mutual
def uptoBulk {H : Type} : DataW H → Nat
  | .lit (.string bytes) => bytes.length + 1
  | .lit _ => 1
  | .nil => 1
  | .ptr d => uptoBulk d + 1
  | .slice elems spare => uptoBulkAll elems + uptoBulkAll spare + 1
  | .agg parts => uptoBulkAll parts + 1
  | .iface _ d => uptoBulk d + 1
  | .map entries => uptoBulkEntries entries + 1
  | .held _ => 1
def uptoBulkAll {H : Type} : List (DataW H) → Nat
  | [] => 0
  | d :: r => uptoBulk d + uptoBulkAll r
def uptoBulkEntries {H : Type} : List (Lit × DataW H) → Nat
  | [] => 0
  | x :: r => uptoBulkEntry x + uptoBulkEntries r
def uptoBulkEntry {H : Type} : Lit × DataW H → Nat
  | (.string bytes, d) => bytes.length + uptoBulk d + 1
  | (_, d) => uptoBulk d + 1
 end
def uptoSmall : (H : Type) → List (DataW H) → Bool := fun _ ds => decide (uptoBulkAll ds ≤ 1048576)
def OpenSpec.upto (s : _root_.Go.ChangeSpec) : _root_.Go.OpenSpec := { _root_.Go.OpenSpec.ofChange s with cond := some uptoSmall }

/-- 'standbylaw57.CertificateMakes', WHERE WHAT IT READS IS OF BULK AT MOST 1048576: true; the input reads as it did. -/
def certificateMakesUptoRow : OpenClaim := { program := "ytabfhoipclbeeaa", sum := "a905b69305be9de8b257329102430cdcdd1b30f6fd95d17787416207e6c49e29", func := "standby/standbylaw57.CertificateMakes", spec := "certificateMakes", unfollowed := true, recurses := true, apart := false, narrowed := true }
def CertificateMakesUptoSaid : Prop := certificateMakesUptoRow.holds Try.pinned (OpenSpec.upto certificateMakesSpec)

/-- 'standbylaw57.CertificateWorst', WHERE WHAT IT READS IS OF BULK AT MOST 1048576: true; the input reads as it did. -/
def certificateWorstUptoRow : OpenClaim := { program := "ytabfhoipclbeeaa", sum := "a905b69305be9de8b257329102430cdcdd1b30f6fd95d17787416207e6c49e29", func := "standby/standbylaw57.CertificateWorst", spec := "certificateWorst", unfollowed := true, recurses := true, apart := false, narrowed := true }
def CertificateWorstUptoSaid : Prop := certificateWorstUptoRow.holds Try.pinned (OpenSpec.upto certificateWorstSpec)

/-- 'standbylaw57.CertificateOrders', WHERE WHAT IT READS IS OF BULK AT MOST 1048576: true; the input reads as it did. -/
def certificateOrdersUptoRow : OpenClaim := { program := "ytabfhoipclbeeaa", sum := "a905b69305be9de8b257329102430cdcdd1b30f6fd95d17787416207e6c49e29", func := "standby/standbylaw57.CertificateOrders", spec := "certificateOrders", unfollowed := true, recurses := true, apart := false, narrowed := true }
def CertificateOrdersUptoSaid : Prop := certificateOrdersUptoRow.holds Try.pinned (OpenSpec.upto certificateOrdersSpec)

/-- 'standbylaw57.CertificateCodes', WHERE WHAT IT READS IS OF BULK AT MOST 1048576: true; the input reads as it did. -/
def certificateCodesUptoRow : OpenClaim := { program := "ytabfhoipclbeeaa", sum := "a905b69305be9de8b257329102430cdcdd1b30f6fd95d17787416207e6c49e29", func := "standby/standbylaw57.CertificateCodes", spec := "certificateCodes", unfollowed := true, recurses := true, apart := false, narrowed := true }
def CertificateCodesUptoSaid : Prop := certificateCodesUptoRow.holds Try.pinned (OpenSpec.upto certificateCodesSpec)

/-- 'standbylaw57.CertificateBack', WHERE WHAT IT READS IS OF BULK AT MOST 1048576: true; the input reads as it did. -/
def certificateBackUptoRow : OpenClaim := { program := "ytabfhoipclbeeaa", sum := "a905b69305be9de8b257329102430cdcdd1b30f6fd95d17787416207e6c49e29", func := "standby/standbylaw57.CertificateBack", spec := "certificateBack", unfollowed := true, recurses := true, apart := false, narrowed := true }
def CertificateBackUptoSaid : Prop := certificateBackUptoRow.holds Try.pinned (OpenSpec.upto certificateBackSpec)

/-- 'standbylaw57.CertificateCovers', WHERE WHAT IT READS IS OF BULK AT MOST 1048576: true; the input reads as it did. -/
def certificateCoversUptoRow : OpenClaim := { program := "ytabfhoipclbeeaa", sum := "a905b69305be9de8b257329102430cdcdd1b30f6fd95d17787416207e6c49e29", func := "standby/standbylaw57.CertificateCovers", spec := "certificateCovers", unfollowed := true, recurses := true, apart := false, narrowed := true }
def CertificateCoversUptoSaid : Prop := certificateCoversUptoRow.holds Try.pinned (OpenSpec.upto certificateCoversSpec)

/-- 'standbylaw57.CertificateHolds', WHERE WHAT IT READS IS OF BULK AT MOST 1048576: true; the input reads as it did. -/
def certificateHoldsUptoRow : OpenClaim := { program := "ytabfhoipclbeeaa", sum := "a905b69305be9de8b257329102430cdcdd1b30f6fd95d17787416207e6c49e29", func := "standby/standbylaw57.CertificateHolds", spec := "certificateHolds", unfollowed := true, recurses := true, apart := false, narrowed := true }
def CertificateHoldsUptoSaid : Prop := certificateHoldsUptoRow.holds Try.pinned (OpenSpec.upto certificateHoldsSpec)

/-- 'standbylaw57.CertificateReached', WHERE WHAT IT READS IS OF BULK AT MOST 1048576: true; the input reads as it did. -/
def certificateReachedUptoRow : OpenClaim := { program := "ytabfhoipclbeeaa", sum := "a905b69305be9de8b257329102430cdcdd1b30f6fd95d17787416207e6c49e29", func := "standby/standbylaw57.CertificateReached", spec := "certificateReached", unfollowed := true, recurses := true, apart := false, narrowed := true }
def CertificateReachedUptoSaid : Prop := certificateReachedUptoRow.holds Try.pinned (OpenSpec.upto certificateReachedSpec)

/-- 'standbylaw57.CertificateMeasured', WHERE WHAT IT READS IS OF BULK AT MOST 1048576: true; the input reads as it did. -/
def certificateMeasuredUptoRow : OpenClaim := { program := "ytabfhoipclbeeaa", sum := "a905b69305be9de8b257329102430cdcdd1b30f6fd95d17787416207e6c49e29", func := "standby/standbylaw57.CertificateMeasured", spec := "certificateMeasured", unfollowed := true, recurses := true, apart := false, narrowed := true }
def CertificateMeasuredUptoSaid : Prop := certificateMeasuredUptoRow.holds Try.pinned (OpenSpec.upto certificateMeasuredSpec)

/-- 'standbytop.TopCertificatesBound', WHERE WHAT IT READS IS OF BULK AT MOST 1048576: true; the input reads as it did. -/
def topCertificatesBoundUptoRow : OpenClaim := { program := "ytabfhoipclbeeaa", sum := "a905b69305be9de8b257329102430cdcdd1b30f6fd95d17787416207e6c49e29", func := "standby/standbytop.TopCertificatesBound", spec := "topCertificatesBound", unfollowed := true, recurses := true, apart := false, narrowed := true }
def TopCertificatesBoundUptoSaid : Prop := topCertificatesBoundUptoRow.holds Try.pinned (OpenSpec.upto topCertificatesBoundSpec)

/-- 'standbytop.TopCertificatesReached', WHERE WHAT IT READS IS OF BULK AT MOST 1048576: true; the input reads as it did. -/
def topCertificatesReachedUptoRow : OpenClaim := { program := "ytabfhoipclbeeaa", sum := "a905b69305be9de8b257329102430cdcdd1b30f6fd95d17787416207e6c49e29", func := "standby/standbytop.TopCertificatesReached", spec := "topCertificatesReached", unfollowed := true, recurses := true, apart := false, narrowed := true }
def TopCertificatesReachedUptoSaid : Prop := topCertificatesReachedUptoRow.holds Try.pinned (OpenSpec.upto topCertificatesReachedSpec)

end Rows
end Go.Proofs.Ytabfhoipclbeeaa
