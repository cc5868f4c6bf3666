/-
  No cell of these rows narrows 'for every input' (looked for: loops, veiled, ifaces, maps, wideKeys, modest, calm, conditions, laid).
  DERIVED. THE GIVEN ROWS OF THIS SEAT. 4 by the template 'for every input the law returns true; each argument reads behind the call as it read before'; 0 by the template 'total and deterministic' (their statements: YtjlcednpohgamaaTotals.lean).
  GIVEN WITH THE SEED: the statements are not yours to turn. If you find one false, say at which input.
  Laid BY PROGRAM, IN A SANDBOX (cutbox-rows.mjs): the forced cells as the released guide's own fill.sh prints them over the translation 01c875ecaacdc199… (all of the seat's roots in one cut). By AI agents, Wed Nov 11 2026. No macro, syntax, notation, axiom, sorry.
-/
import Derived.Test.YtjlcednpohgamaaChecked
import GoSem.Claim
import GoSem.ClaimJoined
import GoSem.ClaimMapViews
import Derived.JoinedTies
import Derived.KernelRfl
namespace Go.Proofs.Ytjlcednpohgamaa
/- THE CELL 'sum', in the pinned program and in every row, IS THE sha256 OF THE DUMP (.gsa) THAT YtjlcednpohgamaaProg.lean LOADS. Nothing in Lean hashes anything: it is a label: what it is worth is what the hold of that sum in a sandbox is worth. -/
noncomputable def Try.pinned : Pinned := { name := "ytjlcednpohgamaa", sum := "01c875ecaacdc199dd4bc8a2067caa5eecd2808920d594db27f5d15176063497", checked := Try.checked }
namespace Rows
def none {H : Type} : Left H := { results := [], args := [] }

/-- 'gangwaylaw17.FrameFeeds': WHATEVER THE INPUT: true; the input reads as it did. -/
def frameFeedsSpec : ChangeSpec := { name := "frameFeeds", fn := fun _ => fun
  | [d] => { results := [.lit (.bool true)], args := [d] }
  | _ => none }
def frameFeedsRow : OpenClaim := { program := "ytjlcednpohgamaa", sum := "01c875ecaacdc199dd4bc8a2067caa5eecd2808920d594db27f5d15176063497", func := "gangway/gangwaylaw17.FrameFeeds", spec := "frameFeeds", apart := false }
def FrameFeedsSaid : Prop := frameFeedsRow.holds Try.pinned (OpenSpec.ofChange frameFeedsSpec)

/-- ITS FALSE NEIGHBOUR: 'it returns false'. Refute it at one input. -/
def frameFeedsWrong : ChangeSpec := { name := "frameFeeds", fn := fun _ => fun
  | [d] => { results := [.lit (.bool false)], args := [d] }
  | _ => none }
def FrameFeedsWrongFalsely : Prop := frameFeedsRow.holds Try.pinned (OpenSpec.ofChange frameFeedsWrong)

/-- 'gangwaylaw17.FrameWrites': WHATEVER THE INPUT: true; the input reads as it did. -/
def frameWritesSpec : ChangeSpec := { name := "frameWrites", fn := fun _ => fun
  | [d] => { results := [.lit (.bool true)], args := [d] }
  | _ => none }
def frameWritesRow : OpenClaim := { program := "ytjlcednpohgamaa", sum := "01c875ecaacdc199dd4bc8a2067caa5eecd2808920d594db27f5d15176063497", func := "gangway/gangwaylaw17.FrameWrites", spec := "frameWrites", apart := false }
def FrameWritesSaid : Prop := frameWritesRow.holds Try.pinned (OpenSpec.ofChange frameWritesSpec)

/-- ITS FALSE NEIGHBOUR: 'it returns false'. Refute it at one input. -/
def frameWritesWrong : ChangeSpec := { name := "frameWrites", fn := fun _ => fun
  | [d] => { results := [.lit (.bool false)], args := [d] }
  | _ => none }
def FrameWritesWrongFalsely : Prop := frameWritesRow.holds Try.pinned (OpenSpec.ofChange frameWritesWrong)

/-- 'gangwaylaw17.FramePieces': WHATEVER THE INPUT: true; the input reads as it did. -/
def framePiecesSpec : ChangeSpec := { name := "framePieces", fn := fun _ => fun
  | [d1, d2] => { results := [.lit (.bool true)], args := [d1, d2] }
  | _ => none }
def framePiecesRow : OpenClaim := { program := "ytjlcednpohgamaa", sum := "01c875ecaacdc199dd4bc8a2067caa5eecd2808920d594db27f5d15176063497", func := "gangway/gangwaylaw17.FramePieces", spec := "framePieces", apart := false }
def FramePiecesSaid : Prop := framePiecesRow.holds Try.pinned (OpenSpec.ofChange framePiecesSpec)

/-- ITS FALSE NEIGHBOUR: 'it returns false'. Refute it at one input. -/
def framePiecesWrong : ChangeSpec := { name := "framePieces", fn := fun _ => fun
  | [d1, d2] => { results := [.lit (.bool false)], args := [d1, d2] }
  | _ => none }
def FramePiecesWrongFalsely : Prop := framePiecesRow.holds Try.pinned (OpenSpec.ofChange framePiecesWrong)

/-- 'gangwaylaw17.FrameStops': WHATEVER THE INPUT: true; the input reads as it did. -/
def frameStopsSpec : ChangeSpec := { name := "frameStops", fn := fun _ => fun
  | [d1, d2, d3] => { results := [.lit (.bool true)], args := [d1, d2, d3] }
  | _ => none }
def frameStopsRow : OpenClaim := { program := "ytjlcednpohgamaa", sum := "01c875ecaacdc199dd4bc8a2067caa5eecd2808920d594db27f5d15176063497", func := "gangway/gangwaylaw17.FrameStops", spec := "frameStops", apart := false }
def FrameStopsSaid : Prop := frameStopsRow.holds Try.pinned (OpenSpec.ofChange frameStopsSpec)

/-- ITS FALSE NEIGHBOUR: 'it returns false'. Refute it at one input. -/
def frameStopsWrong : ChangeSpec := { name := "frameStops", fn := fun _ => fun
  | [d1, d2, d3] => { results := [.lit (.bool false)], args := [d1, d2, d3] }
  | _ => none }
def FrameStopsWrongFalsely : Prop := frameStopsRow.holds Try.pinned (OpenSpec.ofChange frameStopsWrong)

/- THE SECOND FORM. 'bulk': how many values and letters a reading holds, each counted each time it is reached (what is shared counts as often as it is met; a slice's spare places count too). A statement '..UptoSaid' is the law's where the arguments, and the package variables that the reading takes, are together of bulk at most 1048576: NARROWER than '..Said'. Prove '..Said' where nothing that the law and all that it calls make is longer than what came in: it says more and counts as full. Else prove '..UptoSaid'. A law counts once. -/
mutual
def uptoBulk {H : Type} : DataW H → Nat
  | .lit (.string bytes) => bytes.length + 1
  | .lit _ => 1
  | .nil => 1
  | .ptr d => uptoBulk d + 1
  | .slice elems spare => uptoBulkAll elems + uptoBulkAll spare + 1
  | .agg parts => uptoBulkAll parts + 1
  | .iface _ d => uptoBulk d + 1
  | .map entries => uptoBulkEntries entries + 1
  | .held _ => 1
def uptoBulkAll {H : Type} : List (DataW H) → Nat
  | [] => 0
  | d :: r => uptoBulk d + uptoBulkAll r
def uptoBulkEntries {H : Type} : List (Lit × DataW H) → Nat
  | [] => 0
  | x :: r => uptoBulkEntry x + uptoBulkEntries r
def uptoBulkEntry {H : Type} : Lit × DataW H → Nat
  | (.string bytes, d) => bytes.length + uptoBulk d + 1
  | (_, d) => uptoBulk d + 1
 end
def uptoSmall : (H : Type) → List (DataW H) → Bool := fun _ ds => decide (uptoBulkAll ds ≤ 1048576)
def OpenSpec.upto (s : _root_.Go.ChangeSpec) : _root_.Go.OpenSpec := { _root_.Go.OpenSpec.ofChange s with cond := some uptoSmall }

/-- 'gangwaylaw17.FrameFeeds', WHERE WHAT IT READS IS OF BULK AT MOST 1048576: true; the input reads as it did. -/
def frameFeedsUptoRow : OpenClaim := { program := "ytjlcednpohgamaa", sum := "01c875ecaacdc199dd4bc8a2067caa5eecd2808920d594db27f5d15176063497", func := "gangway/gangwaylaw17.FrameFeeds", spec := "frameFeeds", apart := false, narrowed := true }
def FrameFeedsUptoSaid : Prop := frameFeedsUptoRow.holds Try.pinned (OpenSpec.upto frameFeedsSpec)

/-- 'gangwaylaw17.FrameWrites', WHERE WHAT IT READS IS OF BULK AT MOST 1048576: true; the input reads as it did. -/
def frameWritesUptoRow : OpenClaim := { program := "ytjlcednpohgamaa", sum := "01c875ecaacdc199dd4bc8a2067caa5eecd2808920d594db27f5d15176063497", func := "gangway/gangwaylaw17.FrameWrites", spec := "frameWrites", apart := false, narrowed := true }
def FrameWritesUptoSaid : Prop := frameWritesUptoRow.holds Try.pinned (OpenSpec.upto frameWritesSpec)

/-- 'gangwaylaw17.FramePieces', WHERE WHAT IT READS IS OF BULK AT MOST 1048576: true; the input reads as it did. -/
def framePiecesUptoRow : OpenClaim := { program := "ytjlcednpohgamaa", sum := "01c875ecaacdc199dd4bc8a2067caa5eecd2808920d594db27f5d15176063497", func := "gangway/gangwaylaw17.FramePieces", spec := "framePieces", apart := false, narrowed := true }
def FramePiecesUptoSaid : Prop := framePiecesUptoRow.holds Try.pinned (OpenSpec.upto framePiecesSpec)

/-- 'gangwaylaw17.FrameStops', WHERE WHAT IT READS IS OF BULK AT MOST 1048576: true; the input reads as it did. -/
def frameStopsUptoRow : OpenClaim := { program := "ytjlcednpohgamaa", sum := "01c875ecaacdc199dd4bc8a2067caa5eecd2808920d594db27f5d15176063497", func := "gangway/gangwaylaw17.FrameStops", spec := "frameStops", apart := false, narrowed := true }
def FrameStopsUptoSaid : Prop := frameStopsUptoRow.holds Try.pinned (OpenSpec.upto frameStopsSpec)

end Rows
end Go.Proofs.Ytjlcednpohgamaa
