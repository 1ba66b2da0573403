/-
  No cell of these rows narrows 'for every input' (looked for: loops, veiled, ifaces, maps, wideKeys, modest, calm, conditions, laid).
  DERIVED. THE GIVEN ROWS OF THIS SEAT. 8 by the template 'for every input the law returns true; each argument reads behind the call as it read before'; 0 by the template 'total and deterministic' (their statements: YtocgpllmfdnfjaaTotals.lean).
  GIVEN WITH THE SEED: the statements are not yours to turn. If you find one false, say at which input.
  Laid BY PROGRAM, IN A SANDBOX (cutbox-rows.mjs): the forced cells as the released guide's own fill.sh prints them over the translation d15955b054c89d90… (all of the seat's roots in one cut). By AI agents, Wed Nov 11 2026. No macro, syntax, notation, axiom, sorry.
-/
import Derived.Test.YtocgpllmfdnfjaaChecked
import GoSem.Claim
import GoSem.ClaimJoined
import GoSem.ClaimMapViews
import Derived.JoinedTies
import Derived.KernelRfl
namespace Go.Proofs.Ytocgpllmfdnfjaa
/- THE CELL 'sum', in the pinned program and in every row, IS THE sha256 OF THE DUMP (.gsa) THAT YtocgpllmfdnfjaaProg.lean LOADS. Nothing in Lean hashes anything: it is a label: what it is worth is what the hold of that sum in a sandbox is worth. -/
noncomputable def Try.pinned : Pinned := { name := "ytocgpllmfdnfjaa", sum := "d15955b054c89d9029b6fa3e07d275d0b5c3877e5bcfadbe147eb735e1f1419c", checked := Try.checked }
namespace Rows
def none {H : Type} : Left H := { results := [], args := [] }

/-- 'standbylaw06.DictionaryEncodes': WHATEVER THE INPUT: true; the input reads as it did. -/
def dictionaryEncodesSpec : ChangeSpec := { name := "dictionaryEncodes", fn := fun _ => fun
  | [d1, d2] => { results := [.lit (.bool true)], args := [d1, d2] }
  | _ => none }
def dictionaryEncodesRow : OpenClaim := { program := "ytocgpllmfdnfjaa", sum := "d15955b054c89d9029b6fa3e07d275d0b5c3877e5bcfadbe147eb735e1f1419c", func := "standby/standbylaw06.DictionaryEncodes", spec := "dictionaryEncodes", unfollowed := true, recurses := true, plainKeys := false, apart := false }
def DictionaryEncodesSaid : Prop := dictionaryEncodesRow.holds Try.pinned (OpenSpec.ofChange dictionaryEncodesSpec)

/-- ITS FALSE NEIGHBOUR: 'it returns false'. Refute it at one input. -/
def dictionaryEncodesWrong : ChangeSpec := { name := "dictionaryEncodes", fn := fun _ => fun
  | [d1, d2] => { results := [.lit (.bool false)], args := [d1, d2] }
  | _ => none }
def DictionaryEncodesWrongFalsely : Prop := dictionaryEncodesRow.holds Try.pinned (OpenSpec.ofChange dictionaryEncodesWrong)

/-- 'standbylaw06.DictionaryDecodes': WHATEVER THE INPUT: true; the input reads as it did. -/
def dictionaryDecodesSpec : ChangeSpec := { name := "dictionaryDecodes", fn := fun _ => fun
  | [d1, d2, d3] => { results := [.lit (.bool true)], args := [d1, d2, d3] }
  | _ => none }
def dictionaryDecodesRow : OpenClaim := { program := "ytocgpllmfdnfjaa", sum := "d15955b054c89d9029b6fa3e07d275d0b5c3877e5bcfadbe147eb735e1f1419c", func := "standby/standbylaw06.DictionaryDecodes", spec := "dictionaryDecodes", unfollowed := true, recurses := true, plainKeys := false, apart := false }
def DictionaryDecodesSaid : Prop := dictionaryDecodesRow.holds Try.pinned (OpenSpec.ofChange dictionaryDecodesSpec)

/-- ITS FALSE NEIGHBOUR: 'it returns false'. Refute it at one input. -/
def dictionaryDecodesWrong : ChangeSpec := { name := "dictionaryDecodes", fn := fun _ => fun
  | [d1, d2, d3] => { results := [.lit (.bool false)], args := [d1, d2, d3] }
  | _ => none }
def DictionaryDecodesWrongFalsely : Prop := dictionaryDecodesRow.holds Try.pinned (OpenSpec.ofChange dictionaryDecodesWrong)

/-- 'standbylaw06.DictionaryPacks': WHATEVER THE INPUT: true; the input reads as it did. -/
def dictionaryPacksSpec : ChangeSpec := { name := "dictionaryPacks", fn := fun _ => fun
  | [d1, d2] => { results := [.lit (.bool true)], args := [d1, d2] }
  | _ => none }
def dictionaryPacksRow : OpenClaim := { program := "ytocgpllmfdnfjaa", sum := "d15955b054c89d9029b6fa3e07d275d0b5c3877e5bcfadbe147eb735e1f1419c", func := "standby/standbylaw06.DictionaryPacks", spec := "dictionaryPacks", unfollowed := true, recurses := true, plainKeys := false, apart := false }
def DictionaryPacksSaid : Prop := dictionaryPacksRow.holds Try.pinned (OpenSpec.ofChange dictionaryPacksSpec)

/-- ITS FALSE NEIGHBOUR: 'it returns false'. Refute it at one input. -/
def dictionaryPacksWrong : ChangeSpec := { name := "dictionaryPacks", fn := fun _ => fun
  | [d1, d2] => { results := [.lit (.bool false)], args := [d1, d2] }
  | _ => none }
def DictionaryPacksWrongFalsely : Prop := dictionaryPacksRow.holds Try.pinned (OpenSpec.ofChange dictionaryPacksWrong)

/-- 'standbylaw06.DictionaryReturns': WHATEVER THE INPUT: true; the input reads as it did. -/
def dictionaryReturnsSpec : ChangeSpec := { name := "dictionaryReturns", fn := fun _ => fun
  | [d1, d2] => { results := [.lit (.bool true)], args := [d1, d2] }
  | _ => none }
def dictionaryReturnsRow : OpenClaim := { program := "ytocgpllmfdnfjaa", sum := "d15955b054c89d9029b6fa3e07d275d0b5c3877e5bcfadbe147eb735e1f1419c", func := "standby/standbylaw06.DictionaryReturns", spec := "dictionaryReturns", unfollowed := true, recurses := true, plainKeys := false, apart := false }
def DictionaryReturnsSaid : Prop := dictionaryReturnsRow.holds Try.pinned (OpenSpec.ofChange dictionaryReturnsSpec)

/-- ITS FALSE NEIGHBOUR: 'it returns false'. Refute it at one input. -/
def dictionaryReturnsWrong : ChangeSpec := { name := "dictionaryReturns", fn := fun _ => fun
  | [d1, d2] => { results := [.lit (.bool false)], args := [d1, d2] }
  | _ => none }
def DictionaryReturnsWrongFalsely : Prop := dictionaryReturnsRow.holds Try.pinned (OpenSpec.ofChange dictionaryReturnsWrong)

/-- 'standbylaw06.DictionaryKnows': WHATEVER THE INPUT: true; the input reads as it did. -/
def dictionaryKnowsSpec : ChangeSpec := { name := "dictionaryKnows", fn := fun _ => fun
  | [d1, d2] => { results := [.lit (.bool true)], args := [d1, d2] }
  | _ => none }
def dictionaryKnowsRow : OpenClaim := { program := "ytocgpllmfdnfjaa", sum := "d15955b054c89d9029b6fa3e07d275d0b5c3877e5bcfadbe147eb735e1f1419c", func := "standby/standbylaw06.DictionaryKnows", spec := "dictionaryKnows", unfollowed := true, recurses := true, plainKeys := false, apart := false }
def DictionaryKnowsSaid : Prop := dictionaryKnowsRow.holds Try.pinned (OpenSpec.ofChange dictionaryKnowsSpec)

/-- ITS FALSE NEIGHBOUR: 'it returns false'. Refute it at one input. -/
def dictionaryKnowsWrong : ChangeSpec := { name := "dictionaryKnows", fn := fun _ => fun
  | [d1, d2] => { results := [.lit (.bool false)], args := [d1, d2] }
  | _ => none }
def DictionaryKnowsWrongFalsely : Prop := dictionaryKnowsRow.holds Try.pinned (OpenSpec.ofChange dictionaryKnowsWrong)

/-- 'standbylaw06.DictionaryTokens': WHATEVER THE INPUT: true; the input reads as it did. -/
def dictionaryTokensSpec : ChangeSpec := { name := "dictionaryTokens", fn := fun _ => fun
  | [d1, d2, d3] => { results := [.lit (.bool true)], args := [d1, d2, d3] }
  | _ => none }
def dictionaryTokensRow : OpenClaim := { program := "ytocgpllmfdnfjaa", sum := "d15955b054c89d9029b6fa3e07d275d0b5c3877e5bcfadbe147eb735e1f1419c", func := "standby/standbylaw06.DictionaryTokens", spec := "dictionaryTokens", unfollowed := true, recurses := true, plainKeys := false, apart := false }
def DictionaryTokensSaid : Prop := dictionaryTokensRow.holds Try.pinned (OpenSpec.ofChange dictionaryTokensSpec)

/-- ITS FALSE NEIGHBOUR: 'it returns false'. Refute it at one input. -/
def dictionaryTokensWrong : ChangeSpec := { name := "dictionaryTokens", fn := fun _ => fun
  | [d1, d2, d3] => { results := [.lit (.bool false)], args := [d1, d2, d3] }
  | _ => none }
def DictionaryTokensWrongFalsely : Prop := dictionaryTokensRow.holds Try.pinned (OpenSpec.ofChange dictionaryTokensWrong)

/-- 'standbylaw06.DictionaryUnpacks': WHATEVER THE INPUT: true; the input reads as it did. -/
def dictionaryUnpacksSpec : ChangeSpec := { name := "dictionaryUnpacks", fn := fun _ => fun
  | [d1, d2, d3] => { results := [.lit (.bool true)], args := [d1, d2, d3] }
  | _ => none }
def dictionaryUnpacksRow : OpenClaim := { program := "ytocgpllmfdnfjaa", sum := "d15955b054c89d9029b6fa3e07d275d0b5c3877e5bcfadbe147eb735e1f1419c", func := "standby/standbylaw06.DictionaryUnpacks", spec := "dictionaryUnpacks", unfollowed := true, recurses := true, plainKeys := false, apart := false }
def DictionaryUnpacksSaid : Prop := dictionaryUnpacksRow.holds Try.pinned (OpenSpec.ofChange dictionaryUnpacksSpec)

/-- ITS FALSE NEIGHBOUR: 'it returns false'. Refute it at one input. -/
def dictionaryUnpacksWrong : ChangeSpec := { name := "dictionaryUnpacks", fn := fun _ => fun
  | [d1, d2, d3] => { results := [.lit (.bool false)], args := [d1, d2, d3] }
  | _ => none }
def DictionaryUnpacksWrongFalsely : Prop := dictionaryUnpacksRow.holds Try.pinned (OpenSpec.ofChange dictionaryUnpacksWrong)

/-- 'standbylaw06.DictionaryRestores': WHATEVER THE INPUT: true; the input reads as it did. -/
def dictionaryRestoresSpec : ChangeSpec := { name := "dictionaryRestores", fn := fun _ => fun
  | [d1, d2] => { results := [.lit (.bool true)], args := [d1, d2] }
  | _ => none }
def dictionaryRestoresRow : OpenClaim := { program := "ytocgpllmfdnfjaa", sum := "d15955b054c89d9029b6fa3e07d275d0b5c3877e5bcfadbe147eb735e1f1419c", func := "standby/standbylaw06.DictionaryRestores", spec := "dictionaryRestores", unfollowed := true, recurses := true, plainKeys := false, apart := false }
def DictionaryRestoresSaid : Prop := dictionaryRestoresRow.holds Try.pinned (OpenSpec.ofChange dictionaryRestoresSpec)

/-- ITS FALSE NEIGHBOUR: 'it returns false'. Refute it at one input. -/
def dictionaryRestoresWrong : ChangeSpec := { name := "dictionaryRestores", fn := fun _ => fun
  | [d1, d2] => { results := [.lit (.bool false)], args := [d1, d2] }
  | _ => none }
def DictionaryRestoresWrongFalsely : Prop := dictionaryRestoresRow.holds Try.pinned (OpenSpec.ofChange dictionaryRestoresWrong)

/- THE SECOND FORM. 'bulk': how many values and letters a reading holds, each counted each time it is reached (what is shared counts as often as it is met; a slice's spare places count too). A statement '..UptoSaid' is the law's where the arguments, and the package variables that the reading takes, are together of bulk at most 1048576: NARROWER than '..Said'. Prove '..Said' where nothing that the law and all that it calls make is longer than what came in: it says more and counts as full. Else prove '..UptoSaid'. A law counts once. -/
mutual
def uptoBulk {H : Type} : DataW H → Nat
  | .lit (.string bytes) => bytes.length + 1
  | .lit _ => 1
  | .nil => 1
  | .ptr d => uptoBulk d + 1
  | .slice elems spare => uptoBulkAll elems + uptoBulkAll spare + 1
  | .agg parts => uptoBulkAll parts + 1
  | .iface _ d => uptoBulk d + 1
  | .map entries => uptoBulkEntries entries + 1
  | .held _ => 1
def uptoBulkAll {H : Type} : List (DataW H) → Nat
  | [] => 0
  | d :: r => uptoBulk d + uptoBulkAll r
def uptoBulkEntries {H : Type} : List (Lit × DataW H) → Nat
  | [] => 0
  | x :: r => uptoBulkEntry x + uptoBulkEntries r
def uptoBulkEntry {H : Type} : Lit × DataW H → Nat
  | (.string bytes, d) => bytes.length + uptoBulk d + 1
  | (_, d) => uptoBulk d + 1
 end
def uptoSmall : (H : Type) → List (DataW H) → Bool := fun _ ds => decide (uptoBulkAll ds ≤ 1048576)
def OpenSpec.upto (s : _root_.Go.ChangeSpec) : _root_.Go.OpenSpec := { _root_.Go.OpenSpec.ofChange s with cond := some uptoSmall }

/-- 'standbylaw06.DictionaryEncodes', WHERE WHAT IT READS IS OF BULK AT MOST 1048576: true; the input reads as it did. -/
def dictionaryEncodesUptoRow : OpenClaim := { program := "ytocgpllmfdnfjaa", sum := "d15955b054c89d9029b6fa3e07d275d0b5c3877e5bcfadbe147eb735e1f1419c", func := "standby/standbylaw06.DictionaryEncodes", spec := "dictionaryEncodes", unfollowed := true, recurses := true, plainKeys := false, apart := false, narrowed := true }
def DictionaryEncodesUptoSaid : Prop := dictionaryEncodesUptoRow.holds Try.pinned (OpenSpec.upto dictionaryEncodesSpec)

/-- 'standbylaw06.DictionaryDecodes', WHERE WHAT IT READS IS OF BULK AT MOST 1048576: true; the input reads as it did. -/
def dictionaryDecodesUptoRow : OpenClaim := { program := "ytocgpllmfdnfjaa", sum := "d15955b054c89d9029b6fa3e07d275d0b5c3877e5bcfadbe147eb735e1f1419c", func := "standby/standbylaw06.DictionaryDecodes", spec := "dictionaryDecodes", unfollowed := true, recurses := true, plainKeys := false, apart := false, narrowed := true }
def DictionaryDecodesUptoSaid : Prop := dictionaryDecodesUptoRow.holds Try.pinned (OpenSpec.upto dictionaryDecodesSpec)

/-- 'standbylaw06.DictionaryPacks', WHERE WHAT IT READS IS OF BULK AT MOST 1048576: true; the input reads as it did. -/
def dictionaryPacksUptoRow : OpenClaim := { program := "ytocgpllmfdnfjaa", sum := "d15955b054c89d9029b6fa3e07d275d0b5c3877e5bcfadbe147eb735e1f1419c", func := "standby/standbylaw06.DictionaryPacks", spec := "dictionaryPacks", unfollowed := true, recurses := true, plainKeys := false, apart := false, narrowed := true }
def DictionaryPacksUptoSaid : Prop := dictionaryPacksUptoRow.holds Try.pinned (OpenSpec.upto dictionaryPacksSpec)

/-- 'standbylaw06.DictionaryReturns', WHERE WHAT IT READS IS OF BULK AT MOST 1048576: true; the input reads as it did. -/
def dictionaryReturnsUptoRow : OpenClaim := { program := "ytocgpllmfdnfjaa", sum := "d15955b054c89d9029b6fa3e07d275d0b5c3877e5bcfadbe147eb735e1f1419c", func := "standby/standbylaw06.DictionaryReturns", spec := "dictionaryReturns", unfollowed := true, recurses := true, plainKeys := false, apart := false, narrowed := true }
def DictionaryReturnsUptoSaid : Prop := dictionaryReturnsUptoRow.holds Try.pinned (OpenSpec.upto dictionaryReturnsSpec)

/-- 'standbylaw06.DictionaryKnows', WHERE WHAT IT READS IS OF BULK AT MOST 1048576: true; the input reads as it did. -/
def dictionaryKnowsUptoRow : OpenClaim := { program := "ytocgpllmfdnfjaa", sum := "d15955b054c89d9029b6fa3e07d275d0b5c3877e5bcfadbe147eb735e1f1419c", func := "standby/standbylaw06.DictionaryKnows", spec := "dictionaryKnows", unfollowed := true, recurses := true, plainKeys := false, apart := false, narrowed := true }
def DictionaryKnowsUptoSaid : Prop := dictionaryKnowsUptoRow.holds Try.pinned (OpenSpec.upto dictionaryKnowsSpec)

/-- 'standbylaw06.DictionaryTokens', WHERE WHAT IT READS IS OF BULK AT MOST 1048576: true; the input reads as it did. -/
def dictionaryTokensUptoRow : OpenClaim := { program := "ytocgpllmfdnfjaa", sum := "d15955b054c89d9029b6fa3e07d275d0b5c3877e5bcfadbe147eb735e1f1419c", func := "standby/standbylaw06.DictionaryTokens", spec := "dictionaryTokens", unfollowed := true, recurses := true, plainKeys := false, apart := false, narrowed := true }
def DictionaryTokensUptoSaid : Prop := dictionaryTokensUptoRow.holds Try.pinned (OpenSpec.upto dictionaryTokensSpec)

/-- 'standbylaw06.DictionaryUnpacks', WHERE WHAT IT READS IS OF BULK AT MOST 1048576: true; the input reads as it did. -/
def dictionaryUnpacksUptoRow : OpenClaim := { program := "ytocgpllmfdnfjaa", sum := "d15955b054c89d9029b6fa3e07d275d0b5c3877e5bcfadbe147eb735e1f1419c", func := "standby/standbylaw06.DictionaryUnpacks", spec := "dictionaryUnpacks", unfollowed := true, recurses := true, plainKeys := false, apart := false, narrowed := true }
def DictionaryUnpacksUptoSaid : Prop := dictionaryUnpacksUptoRow.holds Try.pinned (OpenSpec.upto dictionaryUnpacksSpec)

/-- 'standbylaw06.DictionaryRestores', WHERE WHAT IT READS IS OF BULK AT MOST 1048576: true; the input reads as it did. -/
def dictionaryRestoresUptoRow : OpenClaim := { program := "ytocgpllmfdnfjaa", sum := "d15955b054c89d9029b6fa3e07d275d0b5c3877e5bcfadbe147eb735e1f1419c", func := "standby/standbylaw06.DictionaryRestores", spec := "dictionaryRestores", unfollowed := true, recurses := true, plainKeys := false, apart := false, narrowed := true }
def DictionaryRestoresUptoSaid : Prop := dictionaryRestoresUptoRow.holds Try.pinned (OpenSpec.upto dictionaryRestoresSpec)

end Rows
end Go.Proofs.Ytocgpllmfdnfjaa
