/-
  No cell of these rows narrows 'for every input' (looked for: loops, veiled, ifaces, maps, wideKeys, modest, calm, conditions, laid).
  DERIVED. THE GIVEN ROWS OF THIS SEAT. 7 by the template 'for every input the law returns true; each argument reads behind the call as it read before'; 0 by the template 'total and deterministic' (their statements: YtfjelofpahcfpaaTotals.lean).
  GIVEN WITH THE SEED: the statements are not yours to turn. If you find one false, say at which input.
  Laid BY PROGRAM, IN A SANDBOX (cutbox-rows.mjs): the forced cells as the released guide's own fill.sh prints them over the translation bdd33e582270fcf5… (all of the seat's roots in one cut). By AI agents, Wed Nov 11 2026. No macro, syntax, notation, axiom, sorry.
-/
import Derived.Test.YtfjelofpahcfpaaChecked
import GoSem.Claim
import GoSem.ClaimJoined
import GoSem.ClaimMapViews
import Derived.JoinedTies
import Derived.KernelRfl
namespace Go.Proofs.Ytfjelofpahcfpaa
/- THE CELL 'sum', in the pinned program and in every row, IS THE sha256 OF THE DUMP (.gsa) THAT YtfjelofpahcfpaaProg.lean LOADS. Nothing in Lean hashes anything: it is a label: what it is worth is what the hold of that sum in a sandbox is worth. -/
noncomputable def Try.pinned : Pinned := { name := "ytfjelofpahcfpaa", sum := "bdd33e582270fcf57f41ddf2a57db7a975dbfe29799af0d484e50d15c80c101b", checked := Try.checked }
namespace Rows
def none {H : Type} : Left H := { results := [], args := [] }

/-- 'standbylaw56.PlannerPlans': WHATEVER THE INPUT: true; the input reads as it did. -/
def plannerPlansSpec : ChangeSpec := { name := "plannerPlans", fn := fun _ => fun
  | [d] => { results := [.lit (.bool true)], args := [d] }
  | _ => none }
def plannerPlansRow : OpenClaim := { program := "ytfjelofpahcfpaa", sum := "bdd33e582270fcf57f41ddf2a57db7a975dbfe29799af0d484e50d15c80c101b", func := "standby/standbylaw56.PlannerPlans", spec := "plannerPlans", unfollowed := true, recurses := true, apart := false }
def PlannerPlansSaid : Prop := plannerPlansRow.holds Try.pinned (OpenSpec.ofChange plannerPlansSpec)

/-- ITS FALSE NEIGHBOUR: 'it returns false'. Refute it at one input. -/
def plannerPlansWrong : ChangeSpec := { name := "plannerPlans", fn := fun _ => fun
  | [d] => { results := [.lit (.bool false)], args := [d] }
  | _ => none }
def PlannerPlansWrongFalsely : Prop := plannerPlansRow.holds Try.pinned (OpenSpec.ofChange plannerPlansWrong)

/-- 'standbylaw56.PlannerVerifies': WHATEVER THE INPUT: true; the input reads as it did. -/
def plannerVerifiesSpec : ChangeSpec := { name := "plannerVerifies", fn := fun _ => fun
  | [d1, d2, d3] => { results := [.lit (.bool true)], args := [d1, d2, d3] }
  | _ => none }
def plannerVerifiesRow : OpenClaim := { program := "ytfjelofpahcfpaa", sum := "bdd33e582270fcf57f41ddf2a57db7a975dbfe29799af0d484e50d15c80c101b", func := "standby/standbylaw56.PlannerVerifies", spec := "plannerVerifies", unfollowed := true, recurses := true, apart := false }
def PlannerVerifiesSaid : Prop := plannerVerifiesRow.holds Try.pinned (OpenSpec.ofChange plannerVerifiesSpec)

/-- ITS FALSE NEIGHBOUR: 'it returns false'. Refute it at one input. -/
def plannerVerifiesWrong : ChangeSpec := { name := "plannerVerifies", fn := fun _ => fun
  | [d1, d2, d3] => { results := [.lit (.bool false)], args := [d1, d2, d3] }
  | _ => none }
def PlannerVerifiesWrongFalsely : Prop := plannerVerifiesRow.holds Try.pinned (OpenSpec.ofChange plannerVerifiesWrong)

/-- 'standbylaw56.PlannerSimulates': WHATEVER THE INPUT: true; the input reads as it did. -/
def plannerSimulatesSpec : ChangeSpec := { name := "plannerSimulates", fn := fun _ => fun
  | [d] => { results := [.lit (.bool true)], args := [d] }
  | _ => none }
def plannerSimulatesRow : OpenClaim := { program := "ytfjelofpahcfpaa", sum := "bdd33e582270fcf57f41ddf2a57db7a975dbfe29799af0d484e50d15c80c101b", func := "standby/standbylaw56.PlannerSimulates", spec := "plannerSimulates", unfollowed := true, recurses := true, apart := false }
def PlannerSimulatesSaid : Prop := plannerSimulatesRow.holds Try.pinned (OpenSpec.ofChange plannerSimulatesSpec)

/-- ITS FALSE NEIGHBOUR: 'it returns false'. Refute it at one input. -/
def plannerSimulatesWrong : ChangeSpec := { name := "plannerSimulates", fn := fun _ => fun
  | [d] => { results := [.lit (.bool false)], args := [d] }
  | _ => none }
def PlannerSimulatesWrongFalsely : Prop := plannerSimulatesRow.holds Try.pinned (OpenSpec.ofChange plannerSimulatesWrong)

/-- 'standbylaw56.PlannerOrders': WHATEVER THE INPUT: true; the input reads as it did. -/
def plannerOrdersSpec : ChangeSpec := { name := "plannerOrders", fn := fun _ => fun
  | [d] => { results := [.lit (.bool true)], args := [d] }
  | _ => none }
def plannerOrdersRow : OpenClaim := { program := "ytfjelofpahcfpaa", sum := "bdd33e582270fcf57f41ddf2a57db7a975dbfe29799af0d484e50d15c80c101b", func := "standby/standbylaw56.PlannerOrders", spec := "plannerOrders", unfollowed := true, recurses := true, apart := false }
def PlannerOrdersSaid : Prop := plannerOrdersRow.holds Try.pinned (OpenSpec.ofChange plannerOrdersSpec)

/-- ITS FALSE NEIGHBOUR: 'it returns false'. Refute it at one input. -/
def plannerOrdersWrong : ChangeSpec := { name := "plannerOrders", fn := fun _ => fun
  | [d] => { results := [.lit (.bool false)], args := [d] }
  | _ => none }
def PlannerOrdersWrongFalsely : Prop := plannerOrdersRow.holds Try.pinned (OpenSpec.ofChange plannerOrdersWrong)

/-- 'standbylaw56.PlannerImproves': WHATEVER THE INPUT: true; the input reads as it did. -/
def plannerImprovesSpec : ChangeSpec := { name := "plannerImproves", fn := fun _ => fun
  | [d1, d2] => { results := [.lit (.bool true)], args := [d1, d2] }
  | _ => none }
def plannerImprovesRow : OpenClaim := { program := "ytfjelofpahcfpaa", sum := "bdd33e582270fcf57f41ddf2a57db7a975dbfe29799af0d484e50d15c80c101b", func := "standby/standbylaw56.PlannerImproves", spec := "plannerImproves", unfollowed := true, recurses := true, apart := false }
def PlannerImprovesSaid : Prop := plannerImprovesRow.holds Try.pinned (OpenSpec.ofChange plannerImprovesSpec)

/-- ITS FALSE NEIGHBOUR: 'it returns false'. Refute it at one input. -/
def plannerImprovesWrong : ChangeSpec := { name := "plannerImproves", fn := fun _ => fun
  | [d1, d2] => { results := [.lit (.bool false)], args := [d1, d2] }
  | _ => none }
def PlannerImprovesWrongFalsely : Prop := plannerImprovesRow.holds Try.pinned (OpenSpec.ofChange plannerImprovesWrong)

/-- 'standbylaw56.PlannerChooses': WHATEVER THE INPUT: true; the input reads as it did. -/
def plannerChoosesSpec : ChangeSpec := { name := "plannerChooses", fn := fun _ => fun
  | [d1, d2, d3] => { results := [.lit (.bool true)], args := [d1, d2, d3] }
  | _ => none }
def plannerChoosesRow : OpenClaim := { program := "ytfjelofpahcfpaa", sum := "bdd33e582270fcf57f41ddf2a57db7a975dbfe29799af0d484e50d15c80c101b", func := "standby/standbylaw56.PlannerChooses", spec := "plannerChooses", unfollowed := true, recurses := true, apart := false }
def PlannerChoosesSaid : Prop := plannerChoosesRow.holds Try.pinned (OpenSpec.ofChange plannerChoosesSpec)

/-- ITS FALSE NEIGHBOUR: 'it returns false'. Refute it at one input. -/
def plannerChoosesWrong : ChangeSpec := { name := "plannerChooses", fn := fun _ => fun
  | [d1, d2, d3] => { results := [.lit (.bool false)], args := [d1, d2, d3] }
  | _ => none }
def PlannerChoosesWrongFalsely : Prop := plannerChoosesRow.holds Try.pinned (OpenSpec.ofChange plannerChoosesWrong)

/-- 'standbylaw56.PlannerOptimizes': WHATEVER THE INPUT: true; the input reads as it did. -/
def plannerOptimizesSpec : ChangeSpec := { name := "plannerOptimizes", fn := fun _ => fun
  | [d1, d2, d3] => { results := [.lit (.bool true)], args := [d1, d2, d3] }
  | _ => none }
def plannerOptimizesRow : OpenClaim := { program := "ytfjelofpahcfpaa", sum := "bdd33e582270fcf57f41ddf2a57db7a975dbfe29799af0d484e50d15c80c101b", func := "standby/standbylaw56.PlannerOptimizes", spec := "plannerOptimizes", unfollowed := true, recurses := true, apart := false }
def PlannerOptimizesSaid : Prop := plannerOptimizesRow.holds Try.pinned (OpenSpec.ofChange plannerOptimizesSpec)

/-- ITS FALSE NEIGHBOUR: 'it returns false'. Refute it at one input. -/
def plannerOptimizesWrong : ChangeSpec := { name := "plannerOptimizes", fn := fun _ => fun
  | [d1, d2, d3] => { results := [.lit (.bool false)], args := [d1, d2, d3] }
  | _ => none }
def PlannerOptimizesWrongFalsely : Prop := plannerOptimizesRow.holds Try.pinned (OpenSpec.ofChange plannerOptimizesWrong)

/- THE SECOND FORM. 'bulk': how many values and letters a reading holds, each counted each time it is reached (what is shared counts as often as it is met; a slice's spare places count too). A statement '..UptoSaid' is the law's where the arguments, and the package variables that the reading takes, are together of bulk at most 1048576: NARROWER than '..Said'. Prove '..Said' where nothing that the law and all that it calls make is longer than what came in: it says more and counts as full. Else prove '..UptoSaid'. A law counts once. -/
mutual
def uptoBulk {H : Type} : DataW H → Nat
  | .lit (.string bytes) => bytes.length + 1
  | .lit _ => 1
  | .nil => 1
  | .ptr d => uptoBulk d + 1
  | .slice elems spare => uptoBulkAll elems + uptoBulkAll spare + 1
  | .agg parts => uptoBulkAll parts + 1
  | .iface _ d => uptoBulk d + 1
  | .map entries => uptoBulkEntries entries + 1
  | .held _ => 1
def uptoBulkAll {H : Type} : List (DataW H) → Nat
  | [] => 0
  | d :: r => uptoBulk d + uptoBulkAll r
def uptoBulkEntries {H : Type} : List (Lit × DataW H) → Nat
  | [] => 0
  | x :: r => uptoBulkEntry x + uptoBulkEntries r
def uptoBulkEntry {H : Type} : Lit × DataW H → Nat
  | (.string bytes, d) => bytes.length + uptoBulk d + 1
  | (_, d) => uptoBulk d + 1
 end
def uptoSmall : (H : Type) → List (DataW H) → Bool := fun _ ds => decide (uptoBulkAll ds ≤ 1048576)
def OpenSpec.upto (s : _root_.Go.ChangeSpec) : _root_.Go.OpenSpec := { _root_.Go.OpenSpec.ofChange s with cond := some uptoSmall }

/-- 'standbylaw56.PlannerPlans', WHERE WHAT IT READS IS OF BULK AT MOST 1048576: true; the input reads as it did. -/
def plannerPlansUptoRow : OpenClaim := { program := "ytfjelofpahcfpaa", sum := "bdd33e582270fcf57f41ddf2a57db7a975dbfe29799af0d484e50d15c80c101b", func := "standby/standbylaw56.PlannerPlans", spec := "plannerPlans", unfollowed := true, recurses := true, apart := false, narrowed := true }
def PlannerPlansUptoSaid : Prop := plannerPlansUptoRow.holds Try.pinned (OpenSpec.upto plannerPlansSpec)

/-- 'standbylaw56.PlannerVerifies', WHERE WHAT IT READS IS OF BULK AT MOST 1048576: true; the input reads as it did. -/
def plannerVerifiesUptoRow : OpenClaim := { program := "ytfjelofpahcfpaa", sum := "bdd33e582270fcf57f41ddf2a57db7a975dbfe29799af0d484e50d15c80c101b", func := "standby/standbylaw56.PlannerVerifies", spec := "plannerVerifies", unfollowed := true, recurses := true, apart := false, narrowed := true }
def PlannerVerifiesUptoSaid : Prop := plannerVerifiesUptoRow.holds Try.pinned (OpenSpec.upto plannerVerifiesSpec)

/-- 'standbylaw56.PlannerSimulates', WHERE WHAT IT READS IS OF BULK AT MOST 1048576: true; the input reads as it did. -/
def plannerSimulatesUptoRow : OpenClaim := { program := "ytfjelofpahcfpaa", sum := "bdd33e582270fcf57f41ddf2a57db7a975dbfe29799af0d484e50d15c80c101b", func := "standby/standbylaw56.PlannerSimulates", spec := "plannerSimulates", unfollowed := true, recurses := true, apart := false, narrowed := true }
def PlannerSimulatesUptoSaid : Prop := plannerSimulatesUptoRow.holds Try.pinned (OpenSpec.upto plannerSimulatesSpec)

/-- 'standbylaw56.PlannerOrders', WHERE WHAT IT READS IS OF BULK AT MOST 1048576: true; the input reads as it did. -/
def plannerOrdersUptoRow : OpenClaim := { program := "ytfjelofpahcfpaa", sum := "bdd33e582270fcf57f41ddf2a57db7a975dbfe29799af0d484e50d15c80c101b", func := "standby/standbylaw56.PlannerOrders", spec := "plannerOrders", unfollowed := true, recurses := true, apart := false, narrowed := true }
def PlannerOrdersUptoSaid : Prop := plannerOrdersUptoRow.holds Try.pinned (OpenSpec.upto plannerOrdersSpec)

/-- 'standbylaw56.PlannerImproves', WHERE WHAT IT READS IS OF BULK AT MOST 1048576: true; the input reads as it did. -/
def plannerImprovesUptoRow : OpenClaim := { program := "ytfjelofpahcfpaa", sum := "bdd33e582270fcf57f41ddf2a57db7a975dbfe29799af0d484e50d15c80c101b", func := "standby/standbylaw56.PlannerImproves", spec := "plannerImproves", unfollowed := true, recurses := true, apart := false, narrowed := true }
def PlannerImprovesUptoSaid : Prop := plannerImprovesUptoRow.holds Try.pinned (OpenSpec.upto plannerImprovesSpec)

/-- 'standbylaw56.PlannerChooses', WHERE WHAT IT READS IS OF BULK AT MOST 1048576: true; the input reads as it did. -/
def plannerChoosesUptoRow : OpenClaim := { program := "ytfjelofpahcfpaa", sum := "bdd33e582270fcf57f41ddf2a57db7a975dbfe29799af0d484e50d15c80c101b", func := "standby/standbylaw56.PlannerChooses", spec := "plannerChooses", unfollowed := true, recurses := true, apart := false, narrowed := true }
def PlannerChoosesUptoSaid : Prop := plannerChoosesUptoRow.holds Try.pinned (OpenSpec.upto plannerChoosesSpec)

/-- 'standbylaw56.PlannerOptimizes', WHERE WHAT IT READS IS OF BULK AT MOST 1048576: true; the input reads as it did. -/
def plannerOptimizesUptoRow : OpenClaim := { program := "ytfjelofpahcfpaa", sum := "bdd33e582270fcf57f41ddf2a57db7a975dbfe29799af0d484e50d15c80c101b", func := "standby/standbylaw56.PlannerOptimizes", spec := "plannerOptimizes", unfollowed := true, recurses := true, apart := false, narrowed := true }
def PlannerOptimizesUptoSaid : Prop := plannerOptimizesUptoRow.holds Try.pinned (OpenSpec.upto plannerOptimizesSpec)

end Rows
end Go.Proofs.Ytfjelofpahcfpaa
