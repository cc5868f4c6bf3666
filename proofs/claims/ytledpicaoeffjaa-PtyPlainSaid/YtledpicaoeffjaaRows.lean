/-
  No cell of these rows narrows 'for every input' (looked for: loops, veiled, ifaces, maps, wideKeys, modest, calm, conditions, laid).
  DERIVED. THE GIVEN ROWS OF THIS SEAT. 4 by the template 'for every input the law returns true; each argument reads behind the call as it read before'; 0 by the template 'total and deterministic' (their statements: YtledpicaoeffjaaTotals.lean).
  GIVEN WITH THE SEED: the statements are not yours to turn. If you find one false, say at which input.
  Laid BY PROGRAM, IN A SANDBOX (cutbox-rows.mjs): the forced cells as the released guide's own fill.sh prints them over the translation 23cf61471f0033b0… (all of the seat's roots in one cut). By AI agents, Wed Nov 11 2026. No macro, syntax, notation, axiom, sorry.
-/
import Derived.Test.YtledpicaoeffjaaChecked
import GoSem.Claim
import GoSem.ClaimJoined
import GoSem.ClaimMapViews
import Derived.JoinedTies
import Derived.KernelRfl
namespace Go.Proofs.Ytledpicaoeffjaa
/- THE CELL 'sum', in the pinned program and in every row, IS THE sha256 OF THE DUMP (.gsa) THAT YtledpicaoeffjaaProg.lean LOADS. Nothing in Lean hashes anything: it is a label: what it is worth is what the hold of that sum in a sandbox is worth. -/
noncomputable def Try.pinned : Pinned := { name := "ytledpicaoeffjaa", sum := "23cf61471f0033b0d4cff1d9b4b37bcb4cdf38d4b98ef5a6e06bc710c0663ef0", checked := Try.checked }
namespace Rows
def none {H : Type} : Left H := { results := [], args := [] }

/-- 'gangwaylaw21.PtyPlain': WHATEVER THE INPUT: true; the input reads as it did. -/
def ptyPlainSpec : ChangeSpec := { name := "ptyPlain", fn := fun _ => fun
  | [d1, d2] => { results := [.lit (.bool true)], args := [d1, d2] }
  | _ => none }
def ptyPlainRow : OpenClaim := { program := "ytledpicaoeffjaa", sum := "23cf61471f0033b0d4cff1d9b4b37bcb4cdf38d4b98ef5a6e06bc710c0663ef0", func := "gangway/gangwaylaw21.PtyPlain", spec := "ptyPlain", apart := false }
def PtyPlainSaid : Prop := ptyPlainRow.holds Try.pinned (OpenSpec.ofChange ptyPlainSpec)

/-- ITS FALSE NEIGHBOUR: 'it returns false'. Refute it at one input. -/
def ptyPlainWrong : ChangeSpec := { name := "ptyPlain", fn := fun _ => fun
  | [d1, d2] => { results := [.lit (.bool false)], args := [d1, d2] }
  | _ => none }
def PtyPlainWrongFalsely : Prop := ptyPlainRow.holds Try.pinned (OpenSpec.ofChange ptyPlainWrong)

/-- 'gangwaylaw21.PtyRubs': WHATEVER THE INPUT: true; the input reads as it did. -/
def ptyRubsSpec : ChangeSpec := { name := "ptyRubs", fn := fun _ => fun
  | [d1, d2] => { results := [.lit (.bool true)], args := [d1, d2] }
  | _ => none }
def ptyRubsRow : OpenClaim := { program := "ytledpicaoeffjaa", sum := "23cf61471f0033b0d4cff1d9b4b37bcb4cdf38d4b98ef5a6e06bc710c0663ef0", func := "gangway/gangwaylaw21.PtyRubs", spec := "ptyRubs", apart := false }
def PtyRubsSaid : Prop := ptyRubsRow.holds Try.pinned (OpenSpec.ofChange ptyRubsSpec)

/-- ITS FALSE NEIGHBOUR: 'it returns false'. Refute it at one input. -/
def ptyRubsWrong : ChangeSpec := { name := "ptyRubs", fn := fun _ => fun
  | [d1, d2] => { results := [.lit (.bool false)], args := [d1, d2] }
  | _ => none }
def PtyRubsWrongFalsely : Prop := ptyRubsRow.holds Try.pinned (OpenSpec.ofChange ptyRubsWrong)

/-- 'gangwaylaw21.PtyFeeds': WHATEVER THE INPUT: true; the input reads as it did. -/
def ptyFeedsSpec : ChangeSpec := { name := "ptyFeeds", fn := fun _ => fun
  | [d] => { results := [.lit (.bool true)], args := [d] }
  | _ => none }
def ptyFeedsRow : OpenClaim := { program := "ytledpicaoeffjaa", sum := "23cf61471f0033b0d4cff1d9b4b37bcb4cdf38d4b98ef5a6e06bc710c0663ef0", func := "gangway/gangwaylaw21.PtyFeeds", spec := "ptyFeeds", apart := false }
def PtyFeedsSaid : Prop := ptyFeedsRow.holds Try.pinned (OpenSpec.ofChange ptyFeedsSpec)

/-- ITS FALSE NEIGHBOUR: 'it returns false'. Refute it at one input. -/
def ptyFeedsWrong : ChangeSpec := { name := "ptyFeeds", fn := fun _ => fun
  | [d] => { results := [.lit (.bool false)], args := [d] }
  | _ => none }
def PtyFeedsWrongFalsely : Prop := ptyFeedsRow.holds Try.pinned (OpenSpec.ofChange ptyFeedsWrong)

/-- 'gangwaylaw21.PtyPieces': WHATEVER THE INPUT: true; the input reads as it did. -/
def ptyPiecesSpec : ChangeSpec := { name := "ptyPieces", fn := fun _ => fun
  | [d] => { results := [.lit (.bool true)], args := [d] }
  | _ => none }
def ptyPiecesRow : OpenClaim := { program := "ytledpicaoeffjaa", sum := "23cf61471f0033b0d4cff1d9b4b37bcb4cdf38d4b98ef5a6e06bc710c0663ef0", func := "gangway/gangwaylaw21.PtyPieces", spec := "ptyPieces", apart := false }
def PtyPiecesSaid : Prop := ptyPiecesRow.holds Try.pinned (OpenSpec.ofChange ptyPiecesSpec)

/-- ITS FALSE NEIGHBOUR: 'it returns false'. Refute it at one input. -/
def ptyPiecesWrong : ChangeSpec := { name := "ptyPieces", fn := fun _ => fun
  | [d] => { results := [.lit (.bool false)], args := [d] }
  | _ => none }
def PtyPiecesWrongFalsely : Prop := ptyPiecesRow.holds Try.pinned (OpenSpec.ofChange ptyPiecesWrong)

/- THE SECOND FORM. 'bulk': how many values and letters a reading holds, each counted each time it is reached (what is shared counts as often as it is met; a slice's spare places count too). A statement '..UptoSaid' is the law's where the arguments, and the package variables that the reading takes, are together of bulk at most 1048576: NARROWER than '..Said'. Prove '..Said' where nothing that the law and all that it calls make is longer than what came in: it says more and counts as full. Else prove '..UptoSaid'. A law counts once. -/
mutual
def uptoBulk {H : Type} : DataW H → Nat
  | .lit (.string bytes) => bytes.length + 1
  | .lit _ => 1
  | .nil => 1
  | .ptr d => uptoBulk d + 1
  | .slice elems spare => uptoBulkAll elems + uptoBulkAll spare + 1
  | .agg parts => uptoBulkAll parts + 1
  | .iface _ d => uptoBulk d + 1
  | .map entries => uptoBulkEntries entries + 1
  | .held _ => 1
def uptoBulkAll {H : Type} : List (DataW H) → Nat
  | [] => 0
  | d :: r => uptoBulk d + uptoBulkAll r
def uptoBulkEntries {H : Type} : List (Lit × DataW H) → Nat
  | [] => 0
  | x :: r => uptoBulkEntry x + uptoBulkEntries r
def uptoBulkEntry {H : Type} : Lit × DataW H → Nat
  | (.string bytes, d) => bytes.length + uptoBulk d + 1
  | (_, d) => uptoBulk d + 1
 end
def uptoSmall : (H : Type) → List (DataW H) → Bool := fun _ ds => decide (uptoBulkAll ds ≤ 1048576)
def OpenSpec.upto (s : _root_.Go.ChangeSpec) : _root_.Go.OpenSpec := { _root_.Go.OpenSpec.ofChange s with cond := some uptoSmall }

/-- 'gangwaylaw21.PtyPlain', WHERE WHAT IT READS IS OF BULK AT MOST 1048576: true; the input reads as it did. -/
def ptyPlainUptoRow : OpenClaim := { program := "ytledpicaoeffjaa", sum := "23cf61471f0033b0d4cff1d9b4b37bcb4cdf38d4b98ef5a6e06bc710c0663ef0", func := "gangway/gangwaylaw21.PtyPlain", spec := "ptyPlain", apart := false, narrowed := true }
def PtyPlainUptoSaid : Prop := ptyPlainUptoRow.holds Try.pinned (OpenSpec.upto ptyPlainSpec)

/-- 'gangwaylaw21.PtyRubs', WHERE WHAT IT READS IS OF BULK AT MOST 1048576: true; the input reads as it did. -/
def ptyRubsUptoRow : OpenClaim := { program := "ytledpicaoeffjaa", sum := "23cf61471f0033b0d4cff1d9b4b37bcb4cdf38d4b98ef5a6e06bc710c0663ef0", func := "gangway/gangwaylaw21.PtyRubs", spec := "ptyRubs", apart := false, narrowed := true }
def PtyRubsUptoSaid : Prop := ptyRubsUptoRow.holds Try.pinned (OpenSpec.upto ptyRubsSpec)

/-- 'gangwaylaw21.PtyFeeds', WHERE WHAT IT READS IS OF BULK AT MOST 1048576: true; the input reads as it did. -/
def ptyFeedsUptoRow : OpenClaim := { program := "ytledpicaoeffjaa", sum := "23cf61471f0033b0d4cff1d9b4b37bcb4cdf38d4b98ef5a6e06bc710c0663ef0", func := "gangway/gangwaylaw21.PtyFeeds", spec := "ptyFeeds", apart := false, narrowed := true }
def PtyFeedsUptoSaid : Prop := ptyFeedsUptoRow.holds Try.pinned (OpenSpec.upto ptyFeedsSpec)

/-- 'gangwaylaw21.PtyPieces', WHERE WHAT IT READS IS OF BULK AT MOST 1048576: true; the input reads as it did. -/
def ptyPiecesUptoRow : OpenClaim := { program := "ytledpicaoeffjaa", sum := "23cf61471f0033b0d4cff1d9b4b37bcb4cdf38d4b98ef5a6e06bc710c0663ef0", func := "gangway/gangwaylaw21.PtyPieces", spec := "ptyPieces", apart := false, narrowed := true }
def PtyPiecesUptoSaid : Prop := ptyPiecesUptoRow.holds Try.pinned (OpenSpec.upto ptyPiecesSpec)

end Rows
end Go.Proofs.Ytledpicaoeffjaa
