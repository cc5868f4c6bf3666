/-
  No cell of these rows narrows 'for every input' (looked for: loops, veiled, ifaces, maps, wideKeys, modest, calm, conditions, laid).
  DERIVED. THE GIVEN ROWS OF THIS SEAT. 6 by the template 'for every input the law returns true; each argument reads behind the call as it read before'; 0 by the template 'total and deterministic' (their statements: YtomcliklmfkaoaaTotals.lean).
  GIVEN WITH THE SEED: the statements are not yours to turn. If you find one false, say at which input.
  Laid BY PROGRAM, IN A SANDBOX (cutbox-rows.mjs): the forced cells as the released guide's own fill.sh prints them over the translation 5cd7c9d12996d490… (all of the seat's roots in one cut). By AI agents, Wed Nov 11 2026. No macro, syntax, notation, axiom, sorry.
-/
import Derived.Test.YtomcliklmfkaoaaChecked
import GoSem.Claim
import GoSem.ClaimJoined
import GoSem.ClaimMapViews
import Derived.JoinedTies
import Derived.KernelRfl
namespace Go.Proofs.Ytomcliklmfkaoaa
/- THE CELL 'sum', in the pinned program and in every row, IS THE sha256 OF THE DUMP (.gsa) THAT YtomcliklmfkaoaaProg.lean LOADS. Nothing in Lean hashes anything: it is a label: what it is worth is what the hold of that sum in a sandbox is worth. -/
noncomputable def Try.pinned : Pinned := { name := "ytomcliklmfkaoaa", sum := "5cd7c9d12996d49019ee19ba90e3f48b67ded228abfad84278886d525ab62663", checked := Try.checked }
namespace Rows
def none {H : Type} : Left H := { results := [], args := [] }

/-- 'gangwaylaw15.GlobMatches': WHATEVER THE INPUT: true; the input reads as it did. -/
def globMatchesSpec : ChangeSpec := { name := "globMatches", fn := fun _ => fun
  | [d1, d2] => { results := [.lit (.bool true)], args := [d1, d2] }
  | _ => none }
def globMatchesRow : OpenClaim := { program := "ytomcliklmfkaoaa", sum := "5cd7c9d12996d49019ee19ba90e3f48b67ded228abfad84278886d525ab62663", func := "gangway/gangwaylaw15.GlobMatches", spec := "globMatches", apart := false }
def GlobMatchesSaid : Prop := globMatchesRow.holds Try.pinned (OpenSpec.ofChange globMatchesSpec)

/-- ITS FALSE NEIGHBOUR: 'it returns false'. Refute it at one input. -/
def globMatchesWrong : ChangeSpec := { name := "globMatches", fn := fun _ => fun
  | [d1, d2] => { results := [.lit (.bool false)], args := [d1, d2] }
  | _ => none }
def GlobMatchesWrongFalsely : Prop := globMatchesRow.holds Try.pinned (OpenSpec.ofChange globMatchesWrong)

/-- 'gangwaylaw15.GlobParts': WHATEVER THE INPUT: true; the input reads as it did. -/
def globPartsSpec : ChangeSpec := { name := "globParts", fn := fun _ => fun
  | [d1, d2, d3] => { results := [.lit (.bool true)], args := [d1, d2, d3] }
  | _ => none }
def globPartsRow : OpenClaim := { program := "ytomcliklmfkaoaa", sum := "5cd7c9d12996d49019ee19ba90e3f48b67ded228abfad84278886d525ab62663", func := "gangway/gangwaylaw15.GlobParts", spec := "globParts", apart := false }
def GlobPartsSaid : Prop := globPartsRow.holds Try.pinned (OpenSpec.ofChange globPartsSpec)

/-- ITS FALSE NEIGHBOUR: 'it returns false'. Refute it at one input. -/
def globPartsWrong : ChangeSpec := { name := "globParts", fn := fun _ => fun
  | [d1, d2, d3] => { results := [.lit (.bool false)], args := [d1, d2, d3] }
  | _ => none }
def GlobPartsWrongFalsely : Prop := globPartsRow.holds Try.pinned (OpenSpec.ofChange globPartsWrong)

/-- 'gangwaylaw15.GlobSets': WHATEVER THE INPUT: true; the input reads as it did. -/
def globSetsSpec : ChangeSpec := { name := "globSets", fn := fun _ => fun
  | [d1, d2] => { results := [.lit (.bool true)], args := [d1, d2] }
  | _ => none }
def globSetsRow : OpenClaim := { program := "ytomcliklmfkaoaa", sum := "5cd7c9d12996d49019ee19ba90e3f48b67ded228abfad84278886d525ab62663", func := "gangway/gangwaylaw15.GlobSets", spec := "globSets", apart := false }
def GlobSetsSaid : Prop := globSetsRow.holds Try.pinned (OpenSpec.ofChange globSetsSpec)

/-- ITS FALSE NEIGHBOUR: 'it returns false'. Refute it at one input. -/
def globSetsWrong : ChangeSpec := { name := "globSets", fn := fun _ => fun
  | [d1, d2] => { results := [.lit (.bool false)], args := [d1, d2] }
  | _ => none }
def GlobSetsWrongFalsely : Prop := globSetsRow.holds Try.pinned (OpenSpec.ofChange globSetsWrong)

/-- 'gangwaylaw15.GlobRuns': WHATEVER THE INPUT: true; the input reads as it did. -/
def globRunsSpec : ChangeSpec := { name := "globRuns", fn := fun _ => fun
  | [d1, d2] => { results := [.lit (.bool true)], args := [d1, d2] }
  | _ => none }
def globRunsRow : OpenClaim := { program := "ytomcliklmfkaoaa", sum := "5cd7c9d12996d49019ee19ba90e3f48b67ded228abfad84278886d525ab62663", func := "gangway/gangwaylaw15.GlobRuns", spec := "globRuns", apart := false }
def GlobRunsSaid : Prop := globRunsRow.holds Try.pinned (OpenSpec.ofChange globRunsSpec)

/-- ITS FALSE NEIGHBOUR: 'it returns false'. Refute it at one input. -/
def globRunsWrong : ChangeSpec := { name := "globRuns", fn := fun _ => fun
  | [d1, d2] => { results := [.lit (.bool false)], args := [d1, d2] }
  | _ => none }
def GlobRunsWrongFalsely : Prop := globRunsRow.holds Try.pinned (OpenSpec.ofChange globRunsWrong)

/-- 'gangwaylaw15.GlobItself': WHATEVER THE INPUT: true; the input reads as it did. -/
def globItselfSpec : ChangeSpec := { name := "globItself", fn := fun _ => fun
  | [d1, d2] => { results := [.lit (.bool true)], args := [d1, d2] }
  | _ => none }
def globItselfRow : OpenClaim := { program := "ytomcliklmfkaoaa", sum := "5cd7c9d12996d49019ee19ba90e3f48b67ded228abfad84278886d525ab62663", func := "gangway/gangwaylaw15.GlobItself", spec := "globItself", apart := false }
def GlobItselfSaid : Prop := globItselfRow.holds Try.pinned (OpenSpec.ofChange globItselfSpec)

/-- ITS FALSE NEIGHBOUR: 'it returns false'. Refute it at one input. -/
def globItselfWrong : ChangeSpec := { name := "globItself", fn := fun _ => fun
  | [d1, d2] => { results := [.lit (.bool false)], args := [d1, d2] }
  | _ => none }
def GlobItselfWrongFalsely : Prop := globItselfRow.holds Try.pinned (OpenSpec.ofChange globItselfWrong)

/-- 'gangwaylaw15.GlobChecks': WHATEVER THE INPUT: true; the input reads as it did. -/
def globChecksSpec : ChangeSpec := { name := "globChecks", fn := fun _ => fun
  | [d] => { results := [.lit (.bool true)], args := [d] }
  | _ => none }
def globChecksRow : OpenClaim := { program := "ytomcliklmfkaoaa", sum := "5cd7c9d12996d49019ee19ba90e3f48b67ded228abfad84278886d525ab62663", func := "gangway/gangwaylaw15.GlobChecks", spec := "globChecks", apart := false }
def GlobChecksSaid : Prop := globChecksRow.holds Try.pinned (OpenSpec.ofChange globChecksSpec)

/-- ITS FALSE NEIGHBOUR: 'it returns false'. Refute it at one input. -/
def globChecksWrong : ChangeSpec := { name := "globChecks", fn := fun _ => fun
  | [d] => { results := [.lit (.bool false)], args := [d] }
  | _ => none }
def GlobChecksWrongFalsely : Prop := globChecksRow.holds Try.pinned (OpenSpec.ofChange globChecksWrong)

/- THE SECOND FORM. 'bulk': how many values and letters a reading holds, each counted each time it is reached (what is shared counts as often as it is met; a slice's spare places count too). A statement '..UptoSaid' is the law's where the arguments, and the package variables that the reading takes, are together of bulk at most 1048576: NARROWER than '..Said'. Prove '..Said' where nothing that the law and all that it calls make is longer than what came in: it says more and counts as full. Else prove '..UptoSaid'. A law counts once. -/
mutual
def uptoBulk {H : Type} : DataW H → Nat
  | .lit (.string bytes) => bytes.length + 1
  | .lit _ => 1
  | .nil => 1
  | .ptr d => uptoBulk d + 1
  | .slice elems spare => uptoBulkAll elems + uptoBulkAll spare + 1
  | .agg parts => uptoBulkAll parts + 1
  | .iface _ d => uptoBulk d + 1
  | .map entries => uptoBulkEntries entries + 1
  | .held _ => 1
def uptoBulkAll {H : Type} : List (DataW H) → Nat
  | [] => 0
  | d :: r => uptoBulk d + uptoBulkAll r
def uptoBulkEntries {H : Type} : List (Lit × DataW H) → Nat
  | [] => 0
  | x :: r => uptoBulkEntry x + uptoBulkEntries r
def uptoBulkEntry {H : Type} : Lit × DataW H → Nat
  | (.string bytes, d) => bytes.length + uptoBulk d + 1
  | (_, d) => uptoBulk d + 1
 end
def uptoSmall : (H : Type) → List (DataW H) → Bool := fun _ ds => decide (uptoBulkAll ds ≤ 1048576)
def OpenSpec.upto (s : _root_.Go.ChangeSpec) : _root_.Go.OpenSpec := { _root_.Go.OpenSpec.ofChange s with cond := some uptoSmall }

/-- 'gangwaylaw15.GlobMatches', WHERE WHAT IT READS IS OF BULK AT MOST 1048576: true; the input reads as it did. -/
def globMatchesUptoRow : OpenClaim := { program := "ytomcliklmfkaoaa", sum := "5cd7c9d12996d49019ee19ba90e3f48b67ded228abfad84278886d525ab62663", func := "gangway/gangwaylaw15.GlobMatches", spec := "globMatches", apart := false, narrowed := true }
def GlobMatchesUptoSaid : Prop := globMatchesUptoRow.holds Try.pinned (OpenSpec.upto globMatchesSpec)

/-- 'gangwaylaw15.GlobParts', WHERE WHAT IT READS IS OF BULK AT MOST 1048576: true; the input reads as it did. -/
def globPartsUptoRow : OpenClaim := { program := "ytomcliklmfkaoaa", sum := "5cd7c9d12996d49019ee19ba90e3f48b67ded228abfad84278886d525ab62663", func := "gangway/gangwaylaw15.GlobParts", spec := "globParts", apart := false, narrowed := true }
def GlobPartsUptoSaid : Prop := globPartsUptoRow.holds Try.pinned (OpenSpec.upto globPartsSpec)

/-- 'gangwaylaw15.GlobSets', WHERE WHAT IT READS IS OF BULK AT MOST 1048576: true; the input reads as it did. -/
def globSetsUptoRow : OpenClaim := { program := "ytomcliklmfkaoaa", sum := "5cd7c9d12996d49019ee19ba90e3f48b67ded228abfad84278886d525ab62663", func := "gangway/gangwaylaw15.GlobSets", spec := "globSets", apart := false, narrowed := true }
def GlobSetsUptoSaid : Prop := globSetsUptoRow.holds Try.pinned (OpenSpec.upto globSetsSpec)

/-- 'gangwaylaw15.GlobRuns', WHERE WHAT IT READS IS OF BULK AT MOST 1048576: true; the input reads as it did. -/
def globRunsUptoRow : OpenClaim := { program := "ytomcliklmfkaoaa", sum := "5cd7c9d12996d49019ee19ba90e3f48b67ded228abfad84278886d525ab62663", func := "gangway/gangwaylaw15.GlobRuns", spec := "globRuns", apart := false, narrowed := true }
def GlobRunsUptoSaid : Prop := globRunsUptoRow.holds Try.pinned (OpenSpec.upto globRunsSpec)

/-- 'gangwaylaw15.GlobItself', WHERE WHAT IT READS IS OF BULK AT MOST 1048576: true; the input reads as it did. -/
def globItselfUptoRow : OpenClaim := { program := "ytomcliklmfkaoaa", sum := "5cd7c9d12996d49019ee19ba90e3f48b67ded228abfad84278886d525ab62663", func := "gangway/gangwaylaw15.GlobItself", spec := "globItself", apart := false, narrowed := true }
def GlobItselfUptoSaid : Prop := globItselfUptoRow.holds Try.pinned (OpenSpec.upto globItselfSpec)

/-- 'gangwaylaw15.GlobChecks', WHERE WHAT IT READS IS OF BULK AT MOST 1048576: true; the input reads as it did. -/
def globChecksUptoRow : OpenClaim := { program := "ytomcliklmfkaoaa", sum := "5cd7c9d12996d49019ee19ba90e3f48b67ded228abfad84278886d525ab62663", func := "gangway/gangwaylaw15.GlobChecks", spec := "globChecks", apart := false, narrowed := true }
def GlobChecksUptoSaid : Prop := globChecksUptoRow.holds Try.pinned (OpenSpec.upto globChecksSpec)

end Rows
end Go.Proofs.Ytomcliklmfkaoaa
