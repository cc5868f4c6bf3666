/-
  NARROWER THAN 'FOR EVERY INPUT', by the rows' own cells (each row's printed sentence says how): TeloptWrites: laid · TeloptFeeds: laid · TeloptPieces: laid · TeloptEscapes: laid · TeloptAuths: laid.
  DERIVED. THE GIVEN ROWS OF THIS SEAT. 5 by the template 'for every input the law returns true; each argument reads behind the call as it read before'; 0 by the template 'total and deterministic' (their statements: YtaieafdiomknoaaDoorTotals.lean).
  GIVEN WITH THE SEED: the statements are not yours to turn. If you find one false, say at which input.
  Laid BY PROGRAM, IN A SANDBOX (cutbox-rows.mjs): the forced cells as the released guide's own fill.sh prints them over the translation 34d7ea84658549f3… (all of the seat's roots in one cut). By AI agents, Wed Nov 11 2026. No macro, syntax, notation, axiom, sorry.
-/
import Derived.Test.YtaieafdiomknoaaDoorChecked
import GoSem.PinnedTables
import GoSem.Claim
import GoSem.ClaimJoined
import GoSem.ClaimMapViews
import Derived.JoinedTies
import Derived.KernelRfl
namespace Go.Proofs.YtaieafdiomknoaaDoor
/- THE CELL 'sum', in the pinned program and in every row, IS THE sha256 OF THE DUMP (.gsa) THAT YtaieafdiomknoaaDoorProg.lean LOADS. Nothing in Lean hashes anything: it is a label: what it is worth is what the hold of that sum in a sandbox is worth. -/
noncomputable def Tryd.pinned : Pinned := { name := "ytaieafdiomknoaadoor", sum := "34d7ea84658549f32461f0dd9624ba0f9a62a0835a95f9bc320c27451fd10e09", checked := Tryd.checked }
namespace Rows
def none {H : Type} : Left H := { results := [], args := [] }

/- WHAT THE LISTED PACKAGE-LEVEL VARIABLES READ AS WHEN THE CALL BEGINS. Each datum BY PROGRAM (the guide's laid-datum.mjs) off the statement by which the dump's own 'gosem.cut.vars' lays the variable. In a bare row this is a premise. The card (YtaieafdiomknoaaDoorCards.lean) ties it to the program's text. -/
def laid_unicode_utf8_acceptRanges {H : Type} : DataW H := .agg [.agg [.lit (.int .u8 128), .lit (.int .u8 191)], .agg [.lit (.int .u8 160), .lit (.int .u8 191)], .agg [.lit (.int .u8 128), .lit (.int .u8 159)], .agg [.lit (.int .u8 144), .lit (.int .u8 191)], .agg [.lit (.int .u8 128), .lit (.int .u8 143)], .agg [.lit (.int .u8 0), .lit (.int .u8 0)], .agg [.lit (.int .u8 0), .lit (.int .u8 0)], .agg [.lit (.int .u8 0), .lit (.int .u8 0)], .agg [.lit (.int .u8 0), .lit (.int .u8 0)], .agg [.lit (.int .u8 0), .lit (.int .u8 0)], .agg [.lit (.int .u8 0), .lit (.int .u8 0)], .agg [.lit (.int .u8 0), .lit (.int .u8 0)], .agg [.lit (.int .u8 0), .lit (.int .u8 0)], .agg [.lit (.int .u8 0), .lit (.int .u8 0)], .agg [.lit (.int .u8 0), .lit (.int .u8 0)], .agg [.lit (.int .u8 0), .lit (.int .u8 0)]]
/-- One of Go's own tables, pinned by name: the form's constant. -/
def laid_unicode_utf8_first : DataW Unit := Go.Pinned.utf8First

/-- 'gangwaylaw22.TeloptWrites': WHATEVER THE INPUT: true; the input reads as it did. -/
def teloptWritesSpec : ChangeSpec := { name := "teloptWrites", fn := fun _ => fun
  | [d] => { results := [.lit (.bool true)], args := [d] }
  | _ => none }
def teloptWritesRow : OpenClaim := { program := "ytaieafdiomknoaadoor", sum := "34d7ea84658549f32461f0dd9624ba0f9a62a0835a95f9bc320c27451fd10e09", func := "gangway/gangwaylaw22.TeloptWrites", spec := "teloptWrites", inPlace := ["internal/bytealg.Count", "internal/bytealg.IndexByte", "internal/bytealg.Index"], named := ["internal/bytealg.MaxLen", "unicode/utf8.first", "unicode/utf8.acceptRanges"], apart := false, laid := [("unicode/utf8.acceptRanges", laid_unicode_utf8_acceptRanges), ("unicode/utf8.first", laid_unicode_utf8_first)] }
def TeloptWritesSaid : Prop := teloptWritesRow.holds Tryd.pinned (OpenSpec.ofChange teloptWritesSpec)

/-- ITS FALSE NEIGHBOUR: 'it returns false'. Refute it at one input. -/
def teloptWritesWrong : ChangeSpec := { name := "teloptWrites", fn := fun _ => fun
  | [d] => { results := [.lit (.bool false)], args := [d] }
  | _ => none }
def TeloptWritesWrongFalsely : Prop := teloptWritesRow.holds Tryd.pinned (OpenSpec.ofChange teloptWritesWrong)

/-- 'gangwaylaw22.TeloptFeeds': WHATEVER THE INPUT: true; the input reads as it did. -/
def teloptFeedsSpec : ChangeSpec := { name := "teloptFeeds", fn := fun _ => fun
  | [d] => { results := [.lit (.bool true)], args := [d] }
  | _ => none }
def teloptFeedsRow : OpenClaim := { program := "ytaieafdiomknoaadoor", sum := "34d7ea84658549f32461f0dd9624ba0f9a62a0835a95f9bc320c27451fd10e09", func := "gangway/gangwaylaw22.TeloptFeeds", spec := "teloptFeeds", inPlace := ["internal/bytealg.Count", "internal/bytealg.IndexByte", "internal/bytealg.Index"], named := ["internal/bytealg.MaxLen", "unicode/utf8.first", "unicode/utf8.acceptRanges"], apart := false, laid := [("unicode/utf8.acceptRanges", laid_unicode_utf8_acceptRanges), ("unicode/utf8.first", laid_unicode_utf8_first)] }
def TeloptFeedsSaid : Prop := teloptFeedsRow.holds Tryd.pinned (OpenSpec.ofChange teloptFeedsSpec)

/-- ITS FALSE NEIGHBOUR: 'it returns false'. Refute it at one input. -/
def teloptFeedsWrong : ChangeSpec := { name := "teloptFeeds", fn := fun _ => fun
  | [d] => { results := [.lit (.bool false)], args := [d] }
  | _ => none }
def TeloptFeedsWrongFalsely : Prop := teloptFeedsRow.holds Tryd.pinned (OpenSpec.ofChange teloptFeedsWrong)

/-- 'gangwaylaw22.TeloptPieces': WHATEVER THE INPUT: true; the input reads as it did. -/
def teloptPiecesSpec : ChangeSpec := { name := "teloptPieces", fn := fun _ => fun
  | [d1, d2] => { results := [.lit (.bool true)], args := [d1, d2] }
  | _ => none }
def teloptPiecesRow : OpenClaim := { program := "ytaieafdiomknoaadoor", sum := "34d7ea84658549f32461f0dd9624ba0f9a62a0835a95f9bc320c27451fd10e09", func := "gangway/gangwaylaw22.TeloptPieces", spec := "teloptPieces", inPlace := ["internal/bytealg.Count", "internal/bytealg.IndexByte", "internal/bytealg.Index"], named := ["internal/bytealg.MaxLen", "unicode/utf8.first", "unicode/utf8.acceptRanges"], apart := false, laid := [("unicode/utf8.acceptRanges", laid_unicode_utf8_acceptRanges), ("unicode/utf8.first", laid_unicode_utf8_first)] }
def TeloptPiecesSaid : Prop := teloptPiecesRow.holds Tryd.pinned (OpenSpec.ofChange teloptPiecesSpec)

/-- ITS FALSE NEIGHBOUR: 'it returns false'. Refute it at one input. -/
def teloptPiecesWrong : ChangeSpec := { name := "teloptPieces", fn := fun _ => fun
  | [d1, d2] => { results := [.lit (.bool false)], args := [d1, d2] }
  | _ => none }
def TeloptPiecesWrongFalsely : Prop := teloptPiecesRow.holds Tryd.pinned (OpenSpec.ofChange teloptPiecesWrong)

/-- 'gangwaylaw22.TeloptEscapes': WHATEVER THE INPUT: true; the input reads as it did. -/
def teloptEscapesSpec : ChangeSpec := { name := "teloptEscapes", fn := fun _ => fun
  | [d1, d2, d3] => { results := [.lit (.bool true)], args := [d1, d2, d3] }
  | _ => none }
def teloptEscapesRow : OpenClaim := { program := "ytaieafdiomknoaadoor", sum := "34d7ea84658549f32461f0dd9624ba0f9a62a0835a95f9bc320c27451fd10e09", func := "gangway/gangwaylaw22.TeloptEscapes", spec := "teloptEscapes", inPlace := ["internal/bytealg.Count", "internal/bytealg.IndexByte", "internal/bytealg.Index"], named := ["internal/bytealg.MaxLen", "unicode/utf8.first", "unicode/utf8.acceptRanges"], apart := false, laid := [("unicode/utf8.acceptRanges", laid_unicode_utf8_acceptRanges), ("unicode/utf8.first", laid_unicode_utf8_first)] }
def TeloptEscapesSaid : Prop := teloptEscapesRow.holds Tryd.pinned (OpenSpec.ofChange teloptEscapesSpec)

/-- ITS FALSE NEIGHBOUR: 'it returns false'. Refute it at one input. -/
def teloptEscapesWrong : ChangeSpec := { name := "teloptEscapes", fn := fun _ => fun
  | [d1, d2, d3] => { results := [.lit (.bool false)], args := [d1, d2, d3] }
  | _ => none }
def TeloptEscapesWrongFalsely : Prop := teloptEscapesRow.holds Tryd.pinned (OpenSpec.ofChange teloptEscapesWrong)

/-- 'gangwaylaw22.TeloptAuths': WHATEVER THE INPUT: true; the input reads as it did. -/
def teloptAuthsSpec : ChangeSpec := { name := "teloptAuths", fn := fun _ => fun
  | [d1, d2, d3] => { results := [.lit (.bool true)], args := [d1, d2, d3] }
  | _ => none }
def teloptAuthsRow : OpenClaim := { program := "ytaieafdiomknoaadoor", sum := "34d7ea84658549f32461f0dd9624ba0f9a62a0835a95f9bc320c27451fd10e09", func := "gangway/gangwaylaw22.TeloptAuths", spec := "teloptAuths", inPlace := ["internal/bytealg.Count", "internal/bytealg.IndexByte", "internal/bytealg.Index"], named := ["internal/bytealg.MaxLen", "unicode/utf8.first", "unicode/utf8.acceptRanges"], apart := false, laid := [("unicode/utf8.acceptRanges", laid_unicode_utf8_acceptRanges), ("unicode/utf8.first", laid_unicode_utf8_first)] }
def TeloptAuthsSaid : Prop := teloptAuthsRow.holds Tryd.pinned (OpenSpec.ofChange teloptAuthsSpec)

/-- ITS FALSE NEIGHBOUR: 'it returns false'. Refute it at one input. -/
def teloptAuthsWrong : ChangeSpec := { name := "teloptAuths", fn := fun _ => fun
  | [d1, d2, d3] => { results := [.lit (.bool false)], args := [d1, d2, d3] }
  | _ => none }
def TeloptAuthsWrongFalsely : Prop := teloptAuthsRow.holds Tryd.pinned (OpenSpec.ofChange teloptAuthsWrong)

/- THE SECOND FORM. 'bulk': how many values and letters a reading holds, each counted each time it is reached (what is shared counts as often as it is met; a slice's spare places count too). A statement '..UptoSaid' is the law's where the arguments, and the package variables that the reading takes, are together of bulk at most 1048576: NARROWER than '..Said'. Prove '..Said' where nothing that the law and all that it calls make is longer than what came in: it says more and counts as full. Else prove '..UptoSaid'. A law counts once. -/
mutual
def uptoBulk {H : Type} : DataW H → Nat
  | .lit (.string bytes) => bytes.length + 1
  | .lit _ => 1
  | .nil => 1
  | .ptr d => uptoBulk d + 1
  | .slice elems spare => uptoBulkAll elems + uptoBulkAll spare + 1
  | .agg parts => uptoBulkAll parts + 1
  | .iface _ d => uptoBulk d + 1
  | .map entries => uptoBulkEntries entries + 1
  | .held _ => 1
def uptoBulkAll {H : Type} : List (DataW H) → Nat
  | [] => 0
  | d :: r => uptoBulk d + uptoBulkAll r
def uptoBulkEntries {H : Type} : List (Lit × DataW H) → Nat
  | [] => 0
  | x :: r => uptoBulkEntry x + uptoBulkEntries r
def uptoBulkEntry {H : Type} : Lit × DataW H → Nat
  | (.string bytes, d) => bytes.length + uptoBulk d + 1
  | (_, d) => uptoBulk d + 1
 end
def uptoSmall : (H : Type) → List (DataW H) → Bool := fun _ ds => decide (uptoBulkAll ds ≤ 1048576)
def OpenSpec.upto (s : _root_.Go.ChangeSpec) : _root_.Go.OpenSpec := { _root_.Go.OpenSpec.ofChange s with cond := some uptoSmall }

/-- 'gangwaylaw22.TeloptWrites', WHERE WHAT IT READS IS OF BULK AT MOST 1048576: true; the input reads as it did. -/
def teloptWritesUptoRow : OpenClaim := { program := "ytaieafdiomknoaadoor", sum := "34d7ea84658549f32461f0dd9624ba0f9a62a0835a95f9bc320c27451fd10e09", func := "gangway/gangwaylaw22.TeloptWrites", spec := "teloptWrites", inPlace := ["internal/bytealg.Count", "internal/bytealg.IndexByte", "internal/bytealg.Index"], named := ["internal/bytealg.MaxLen", "unicode/utf8.first", "unicode/utf8.acceptRanges"], apart := false, laid := [("unicode/utf8.acceptRanges", laid_unicode_utf8_acceptRanges), ("unicode/utf8.first", laid_unicode_utf8_first)], narrowed := true }
def TeloptWritesUptoSaid : Prop := teloptWritesUptoRow.holds Tryd.pinned (OpenSpec.upto teloptWritesSpec)

/-- 'gangwaylaw22.TeloptFeeds', WHERE WHAT IT READS IS OF BULK AT MOST 1048576: true; the input reads as it did. -/
def teloptFeedsUptoRow : OpenClaim := { program := "ytaieafdiomknoaadoor", sum := "34d7ea84658549f32461f0dd9624ba0f9a62a0835a95f9bc320c27451fd10e09", func := "gangway/gangwaylaw22.TeloptFeeds", spec := "teloptFeeds", inPlace := ["internal/bytealg.Count", "internal/bytealg.IndexByte", "internal/bytealg.Index"], named := ["internal/bytealg.MaxLen", "unicode/utf8.first", "unicode/utf8.acceptRanges"], apart := false, laid := [("unicode/utf8.acceptRanges", laid_unicode_utf8_acceptRanges), ("unicode/utf8.first", laid_unicode_utf8_first)], narrowed := true }
def TeloptFeedsUptoSaid : Prop := teloptFeedsUptoRow.holds Tryd.pinned (OpenSpec.upto teloptFeedsSpec)

/-- 'gangwaylaw22.TeloptPieces', WHERE WHAT IT READS IS OF BULK AT MOST 1048576: true; the input reads as it did. -/
def teloptPiecesUptoRow : OpenClaim := { program := "ytaieafdiomknoaadoor", sum := "34d7ea84658549f32461f0dd9624ba0f9a62a0835a95f9bc320c27451fd10e09", func := "gangway/gangwaylaw22.TeloptPieces", spec := "teloptPieces", inPlace := ["internal/bytealg.Count", "internal/bytealg.IndexByte", "internal/bytealg.Index"], named := ["internal/bytealg.MaxLen", "unicode/utf8.first", "unicode/utf8.acceptRanges"], apart := false, laid := [("unicode/utf8.acceptRanges", laid_unicode_utf8_acceptRanges), ("unicode/utf8.first", laid_unicode_utf8_first)], narrowed := true }
def TeloptPiecesUptoSaid : Prop := teloptPiecesUptoRow.holds Tryd.pinned (OpenSpec.upto teloptPiecesSpec)

/-- 'gangwaylaw22.TeloptEscapes', WHERE WHAT IT READS IS OF BULK AT MOST 1048576: true; the input reads as it did. -/
def teloptEscapesUptoRow : OpenClaim := { program := "ytaieafdiomknoaadoor", sum := "34d7ea84658549f32461f0dd9624ba0f9a62a0835a95f9bc320c27451fd10e09", func := "gangway/gangwaylaw22.TeloptEscapes", spec := "teloptEscapes", inPlace := ["internal/bytealg.Count", "internal/bytealg.IndexByte", "internal/bytealg.Index"], named := ["internal/bytealg.MaxLen", "unicode/utf8.first", "unicode/utf8.acceptRanges"], apart := false, laid := [("unicode/utf8.acceptRanges", laid_unicode_utf8_acceptRanges), ("unicode/utf8.first", laid_unicode_utf8_first)], narrowed := true }
def TeloptEscapesUptoSaid : Prop := teloptEscapesUptoRow.holds Tryd.pinned (OpenSpec.upto teloptEscapesSpec)

/-- 'gangwaylaw22.TeloptAuths', WHERE WHAT IT READS IS OF BULK AT MOST 1048576: true; the input reads as it did. -/
def teloptAuthsUptoRow : OpenClaim := { program := "ytaieafdiomknoaadoor", sum := "34d7ea84658549f32461f0dd9624ba0f9a62a0835a95f9bc320c27451fd10e09", func := "gangway/gangwaylaw22.TeloptAuths", spec := "teloptAuths", inPlace := ["internal/bytealg.Count", "internal/bytealg.IndexByte", "internal/bytealg.Index"], named := ["internal/bytealg.MaxLen", "unicode/utf8.first", "unicode/utf8.acceptRanges"], apart := false, laid := [("unicode/utf8.acceptRanges", laid_unicode_utf8_acceptRanges), ("unicode/utf8.first", laid_unicode_utf8_first)], narrowed := true }
def TeloptAuthsUptoSaid : Prop := teloptAuthsUptoRow.holds Tryd.pinned (OpenSpec.upto teloptAuthsSpec)

end Rows
end Go.Proofs.YtaieafdiomknoaaDoor
