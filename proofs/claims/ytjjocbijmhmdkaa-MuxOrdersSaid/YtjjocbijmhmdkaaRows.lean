/-
  No cell of these rows narrows 'for every input' (looked for: loops, veiled, ifaces, maps, wideKeys, modest, calm, conditions, laid).
  DERIVED. THE GIVEN ROWS OF THIS SEAT. 4 by the template 'for every input the law returns true; each argument reads behind the call as it read before'; 0 by the template 'total and deterministic' (their statements: YtjjocbijmhmdkaaTotals.lean).
  GIVEN WITH THE SEED: the statements are not yours to turn. If you find one false, say at which input.
  Laid BY PROGRAM, IN A SANDBOX (cutbox-rows.mjs): the forced cells as the released guide's own fill.sh prints them over the translation ba9f480df2ccf8a6… (all of the seat's roots in one cut). By AI agents, Wed Nov 11 2026. No macro, syntax, notation, axiom, sorry.
-/
import Derived.Test.YtjjocbijmhmdkaaChecked
import GoSem.Claim
import GoSem.ClaimJoined
import GoSem.ClaimMapViews
import Derived.JoinedTies
import Derived.KernelRfl
namespace Go.Proofs.Ytjjocbijmhmdkaa
/- THE CELL 'sum', in the pinned program and in every row, IS THE sha256 OF THE DUMP (.gsa) THAT YtjjocbijmhmdkaaProg.lean LOADS. Nothing in Lean hashes anything: it is a label: what it is worth is what the hold of that sum in a sandbox is worth. -/
noncomputable def Try.pinned : Pinned := { name := "ytjjocbijmhmdkaa", sum := "ba9f480df2ccf8a65afea6c9ab85aa0f916ba5ba6d651dabe0b6819c6722a31e", checked := Try.checked }
namespace Rows
def none {H : Type} : Left H := { results := [], args := [] }

/-- 'gangwaylaw18.MuxRoom': WHATEVER THE INPUT: true; the input reads as it did. -/
def muxRoomSpec : ChangeSpec := { name := "muxRoom", fn := fun _ => fun
  | [d] => { results := [.lit (.bool true)], args := [d] }
  | _ => none }
def muxRoomRow : OpenClaim := { program := "ytjjocbijmhmdkaa", sum := "ba9f480df2ccf8a65afea6c9ab85aa0f916ba5ba6d651dabe0b6819c6722a31e", func := "gangway/gangwaylaw18.MuxRoom", spec := "muxRoom", apart := false }
def MuxRoomSaid : Prop := muxRoomRow.holds Try.pinned (OpenSpec.ofChange muxRoomSpec)

/-- ITS FALSE NEIGHBOUR: 'it returns false'. Refute it at one input. -/
def muxRoomWrong : ChangeSpec := { name := "muxRoom", fn := fun _ => fun
  | [d] => { results := [.lit (.bool false)], args := [d] }
  | _ => none }
def MuxRoomWrongFalsely : Prop := muxRoomRow.holds Try.pinned (OpenSpec.ofChange muxRoomWrong)

/-- 'gangwaylaw18.MuxApart': WHATEVER THE INPUT: true; the input reads as it did. -/
def muxApartSpec : ChangeSpec := { name := "muxApart", fn := fun _ => fun
  | [d1, d2, d3] => { results := [.lit (.bool true)], args := [d1, d2, d3] }
  | _ => none }
def muxApartRow : OpenClaim := { program := "ytjjocbijmhmdkaa", sum := "ba9f480df2ccf8a65afea6c9ab85aa0f916ba5ba6d651dabe0b6819c6722a31e", func := "gangway/gangwaylaw18.MuxApart", spec := "muxApart", apart := false }
def MuxApartSaid : Prop := muxApartRow.holds Try.pinned (OpenSpec.ofChange muxApartSpec)

/-- ITS FALSE NEIGHBOUR: 'it returns false'. Refute it at one input. -/
def muxApartWrong : ChangeSpec := { name := "muxApart", fn := fun _ => fun
  | [d1, d2, d3] => { results := [.lit (.bool false)], args := [d1, d2, d3] }
  | _ => none }
def MuxApartWrongFalsely : Prop := muxApartRow.holds Try.pinned (OpenSpec.ofChange muxApartWrong)

/-- 'gangwaylaw18.MuxPlays': WHATEVER THE INPUT: true; the input reads as it did. -/
def muxPlaysSpec : ChangeSpec := { name := "muxPlays", fn := fun _ => fun
  | [d] => { results := [.lit (.bool true)], args := [d] }
  | _ => none }
def muxPlaysRow : OpenClaim := { program := "ytjjocbijmhmdkaa", sum := "ba9f480df2ccf8a65afea6c9ab85aa0f916ba5ba6d651dabe0b6819c6722a31e", func := "gangway/gangwaylaw18.MuxPlays", spec := "muxPlays", apart := false }
def MuxPlaysSaid : Prop := muxPlaysRow.holds Try.pinned (OpenSpec.ofChange muxPlaysSpec)

/-- ITS FALSE NEIGHBOUR: 'it returns false'. Refute it at one input. -/
def muxPlaysWrong : ChangeSpec := { name := "muxPlays", fn := fun _ => fun
  | [d] => { results := [.lit (.bool false)], args := [d] }
  | _ => none }
def MuxPlaysWrongFalsely : Prop := muxPlaysRow.holds Try.pinned (OpenSpec.ofChange muxPlaysWrong)

/-- 'gangwaylaw18.MuxOrders': WHATEVER THE INPUT: true; the input reads as it did. -/
def muxOrdersSpec : ChangeSpec := { name := "muxOrders", fn := fun _ => fun
  | [d] => { results := [.lit (.bool true)], args := [d] }
  | _ => none }
def muxOrdersRow : OpenClaim := { program := "ytjjocbijmhmdkaa", sum := "ba9f480df2ccf8a65afea6c9ab85aa0f916ba5ba6d651dabe0b6819c6722a31e", func := "gangway/gangwaylaw18.MuxOrders", spec := "muxOrders", apart := false }
def MuxOrdersSaid : Prop := muxOrdersRow.holds Try.pinned (OpenSpec.ofChange muxOrdersSpec)

/-- ITS FALSE NEIGHBOUR: 'it returns false'. Refute it at one input. -/
def muxOrdersWrong : ChangeSpec := { name := "muxOrders", fn := fun _ => fun
  | [d] => { results := [.lit (.bool false)], args := [d] }
  | _ => none }
def MuxOrdersWrongFalsely : Prop := muxOrdersRow.holds Try.pinned (OpenSpec.ofChange muxOrdersWrong)

/- THE SECOND FORM. 'bulk': how many values and letters a reading holds, each counted each time it is reached (what is shared counts as often as it is met; a slice's spare places count too). A statement '..UptoSaid' is the law's where the arguments, and the package variables that the reading takes, are together of bulk at most 1048576: NARROWER than '..Said'. Prove '..Said' where nothing that the law and all that it calls make is longer than what came in: it says more and counts as full. Else prove '..UptoSaid'. A law counts once. -/
mutual
def uptoBulk {H : Type} : DataW H → Nat
  | .lit (.string bytes) => bytes.length + 1
  | .lit _ => 1
  | .nil => 1
  | .ptr d => uptoBulk d + 1
  | .slice elems spare => uptoBulkAll elems + uptoBulkAll spare + 1
  | .agg parts => uptoBulkAll parts + 1
  | .iface _ d => uptoBulk d + 1
  | .map entries => uptoBulkEntries entries + 1
  | .held _ => 1
def uptoBulkAll {H : Type} : List (DataW H) → Nat
  | [] => 0
  | d :: r => uptoBulk d + uptoBulkAll r
def uptoBulkEntries {H : Type} : List (Lit × DataW H) → Nat
  | [] => 0
  | x :: r => uptoBulkEntry x + uptoBulkEntries r
def uptoBulkEntry {H : Type} : Lit × DataW H → Nat
  | (.string bytes, d) => bytes.length + uptoBulk d + 1
  | (_, d) => uptoBulk d + 1
 end
def uptoSmall : (H : Type) → List (DataW H) → Bool := fun _ ds => decide (uptoBulkAll ds ≤ 1048576)
def OpenSpec.upto (s : _root_.Go.ChangeSpec) : _root_.Go.OpenSpec := { _root_.Go.OpenSpec.ofChange s with cond := some uptoSmall }

/-- 'gangwaylaw18.MuxRoom', WHERE WHAT IT READS IS OF BULK AT MOST 1048576: true; the input reads as it did. -/
def muxRoomUptoRow : OpenClaim := { program := "ytjjocbijmhmdkaa", sum := "ba9f480df2ccf8a65afea6c9ab85aa0f916ba5ba6d651dabe0b6819c6722a31e", func := "gangway/gangwaylaw18.MuxRoom", spec := "muxRoom", apart := false, narrowed := true }
def MuxRoomUptoSaid : Prop := muxRoomUptoRow.holds Try.pinned (OpenSpec.upto muxRoomSpec)

/-- 'gangwaylaw18.MuxApart', WHERE WHAT IT READS IS OF BULK AT MOST 1048576: true; the input reads as it did. -/
def muxApartUptoRow : OpenClaim := { program := "ytjjocbijmhmdkaa", sum := "ba9f480df2ccf8a65afea6c9ab85aa0f916ba5ba6d651dabe0b6819c6722a31e", func := "gangway/gangwaylaw18.MuxApart", spec := "muxApart", apart := false, narrowed := true }
def MuxApartUptoSaid : Prop := muxApartUptoRow.holds Try.pinned (OpenSpec.upto muxApartSpec)

/-- 'gangwaylaw18.MuxPlays', WHERE WHAT IT READS IS OF BULK AT MOST 1048576: true; the input reads as it did. -/
def muxPlaysUptoRow : OpenClaim := { program := "ytjjocbijmhmdkaa", sum := "ba9f480df2ccf8a65afea6c9ab85aa0f916ba5ba6d651dabe0b6819c6722a31e", func := "gangway/gangwaylaw18.MuxPlays", spec := "muxPlays", apart := false, narrowed := true }
def MuxPlaysUptoSaid : Prop := muxPlaysUptoRow.holds Try.pinned (OpenSpec.upto muxPlaysSpec)

/-- 'gangwaylaw18.MuxOrders', WHERE WHAT IT READS IS OF BULK AT MOST 1048576: true; the input reads as it did. -/
def muxOrdersUptoRow : OpenClaim := { program := "ytjjocbijmhmdkaa", sum := "ba9f480df2ccf8a65afea6c9ab85aa0f916ba5ba6d651dabe0b6819c6722a31e", func := "gangway/gangwaylaw18.MuxOrders", spec := "muxOrders", apart := false, narrowed := true }
def MuxOrdersUptoSaid : Prop := muxOrdersUptoRow.holds Try.pinned (OpenSpec.upto muxOrdersSpec)

end Rows
end Go.Proofs.Ytjjocbijmhmdkaa
