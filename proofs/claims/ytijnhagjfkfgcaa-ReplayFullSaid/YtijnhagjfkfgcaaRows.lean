/-
  No cell of these rows narrows 'for every input' (looked for: loops, veiled, ifaces, maps, wideKeys, modest, calm, conditions, laid).
  DERIVED. THE GIVEN ROWS OF THIS SEAT. 4 by the template 'for every input the law returns true; each argument reads behind the call as it read before'; 0 by the template 'total and deterministic' (their statements: YtijnhagjfkfgcaaTotals.lean).
  GIVEN WITH THE SEED: the statements are not yours to turn. If you find one false, say at which input.
  Laid BY PROGRAM, IN A SANDBOX (cutbox-rows.mjs): the forced cells as the released guide's own fill.sh prints them over the translation 65e359fc918547c9… (all of the seat's roots in one cut). By AI agents, Wed Nov 11 2026. No macro, syntax, notation, axiom, sorry.
-/
import Derived.Test.YtijnhagjfkfgcaaChecked
import GoSem.Claim
import GoSem.ClaimJoined
import GoSem.ClaimMapViews
import Derived.JoinedTies
import Derived.KernelRfl
namespace Go.Proofs.Ytijnhagjfkfgcaa
/- THE CELL 'sum', in the pinned program and in every row, IS THE sha256 OF THE DUMP (.gsa) THAT YtijnhagjfkfgcaaProg.lean LOADS. Nothing in Lean hashes anything: it is a label: what it is worth is what the hold of that sum in a sandbox is worth. -/
noncomputable def Try.pinned : Pinned := { name := "ytijnhagjfkfgcaa", sum := "65e359fc918547c9077ce7e58770924934a8935022bb9dcef5713fb3bd31beca", checked := Try.checked }
namespace Rows
def none {H : Type} : Left H := { results := [], args := [] }

/-- 'gangwaylaw12.ReplayPlays': WHATEVER THE INPUT: true; the input reads as it did. -/
def replayPlaysSpec : ChangeSpec := { name := "replayPlays", fn := fun _ => fun
  | [d1, d2] => { results := [.lit (.bool true)], args := [d1, d2] }
  | _ => none }
def replayPlaysRow : OpenClaim := { program := "ytijnhagjfkfgcaa", sum := "65e359fc918547c9077ce7e58770924934a8935022bb9dcef5713fb3bd31beca", func := "gangway/gangwaylaw12.ReplayPlays", spec := "replayPlays", unfollowed := true, recurses := true, plainKeys := false, apart := false }
def ReplayPlaysSaid : Prop := replayPlaysRow.holds Try.pinned (OpenSpec.ofChange replayPlaysSpec)

/-- ITS FALSE NEIGHBOUR: 'it returns false'. Refute it at one input. -/
def replayPlaysWrong : ChangeSpec := { name := "replayPlays", fn := fun _ => fun
  | [d1, d2] => { results := [.lit (.bool false)], args := [d1, d2] }
  | _ => none }
def ReplayPlaysWrongFalsely : Prop := replayPlaysRow.holds Try.pinned (OpenSpec.ofChange replayPlaysWrong)

/-- 'gangwaylaw12.ReplayOnce': WHATEVER THE INPUT: true; the input reads as it did. -/
def replayOnceSpec : ChangeSpec := { name := "replayOnce", fn := fun _ => fun
  | [d] => { results := [.lit (.bool true)], args := [d] }
  | _ => none }
def replayOnceRow : OpenClaim := { program := "ytijnhagjfkfgcaa", sum := "65e359fc918547c9077ce7e58770924934a8935022bb9dcef5713fb3bd31beca", func := "gangway/gangwaylaw12.ReplayOnce", spec := "replayOnce", unfollowed := true, recurses := true, plainKeys := false, apart := false }
def ReplayOnceSaid : Prop := replayOnceRow.holds Try.pinned (OpenSpec.ofChange replayOnceSpec)

/-- ITS FALSE NEIGHBOUR: 'it returns false'. Refute it at one input. -/
def replayOnceWrong : ChangeSpec := { name := "replayOnce", fn := fun _ => fun
  | [d] => { results := [.lit (.bool false)], args := [d] }
  | _ => none }
def ReplayOnceWrongFalsely : Prop := replayOnceRow.holds Try.pinned (OpenSpec.ofChange replayOnceWrong)

/-- 'gangwaylaw12.ReplayLater': WHATEVER THE INPUT: true; the input reads as it did. -/
def replayLaterSpec : ChangeSpec := { name := "replayLater", fn := fun _ => fun
  | [d1, d2] => { results := [.lit (.bool true)], args := [d1, d2] }
  | _ => none }
def replayLaterRow : OpenClaim := { program := "ytijnhagjfkfgcaa", sum := "65e359fc918547c9077ce7e58770924934a8935022bb9dcef5713fb3bd31beca", func := "gangway/gangwaylaw12.ReplayLater", spec := "replayLater", unfollowed := true, recurses := true, plainKeys := false, apart := false }
def ReplayLaterSaid : Prop := replayLaterRow.holds Try.pinned (OpenSpec.ofChange replayLaterSpec)

/-- ITS FALSE NEIGHBOUR: 'it returns false'. Refute it at one input. -/
def replayLaterWrong : ChangeSpec := { name := "replayLater", fn := fun _ => fun
  | [d1, d2] => { results := [.lit (.bool false)], args := [d1, d2] }
  | _ => none }
def ReplayLaterWrongFalsely : Prop := replayLaterRow.holds Try.pinned (OpenSpec.ofChange replayLaterWrong)

/-- 'gangwaylaw12.ReplayFull': WHATEVER THE INPUT: true; the input reads as it did. -/
def replayFullSpec : ChangeSpec := { name := "replayFull", fn := fun _ => fun
  | [d1, d2, d3] => { results := [.lit (.bool true)], args := [d1, d2, d3] }
  | _ => none }
def replayFullRow : OpenClaim := { program := "ytijnhagjfkfgcaa", sum := "65e359fc918547c9077ce7e58770924934a8935022bb9dcef5713fb3bd31beca", func := "gangway/gangwaylaw12.ReplayFull", spec := "replayFull", unfollowed := true, recurses := true, plainKeys := false, apart := false }
def ReplayFullSaid : Prop := replayFullRow.holds Try.pinned (OpenSpec.ofChange replayFullSpec)

/-- ITS FALSE NEIGHBOUR: 'it returns false'. Refute it at one input. -/
def replayFullWrong : ChangeSpec := { name := "replayFull", fn := fun _ => fun
  | [d1, d2, d3] => { results := [.lit (.bool false)], args := [d1, d2, d3] }
  | _ => none }
def ReplayFullWrongFalsely : Prop := replayFullRow.holds Try.pinned (OpenSpec.ofChange replayFullWrong)

/- THE SECOND FORM. 'bulk': how many values and letters a reading holds, each counted each time it is reached (what is shared counts as often as it is met; a slice's spare places count too). A statement '..UptoSaid' is the law's where the arguments, and the package variables that the reading takes, are together of bulk at most 1048576: NARROWER than '..Said'. Prove '..Said' where nothing that the law and all that it calls make is longer than what came in: it says more and counts as full. Else prove '..UptoSaid'. A law counts once. -/
mutual
def uptoBulk {H : Type} : DataW H → Nat
  | .lit (.string bytes) => bytes.length + 1
  | .lit _ => 1
  | .nil => 1
  | .ptr d => uptoBulk d + 1
  | .slice elems spare => uptoBulkAll elems + uptoBulkAll spare + 1
  | .agg parts => uptoBulkAll parts + 1
  | .iface _ d => uptoBulk d + 1
  | .map entries => uptoBulkEntries entries + 1
  | .held _ => 1
def uptoBulkAll {H : Type} : List (DataW H) → Nat
  | [] => 0
  | d :: r => uptoBulk d + uptoBulkAll r
def uptoBulkEntries {H : Type} : List (Lit × DataW H) → Nat
  | [] => 0
  | x :: r => uptoBulkEntry x + uptoBulkEntries r
def uptoBulkEntry {H : Type} : Lit × DataW H → Nat
  | (.string bytes, d) => bytes.length + uptoBulk d + 1
  | (_, d) => uptoBulk d + 1
 end
def uptoSmall : (H : Type) → List (DataW H) → Bool := fun _ ds => decide (uptoBulkAll ds ≤ 1048576)
def OpenSpec.upto (s : _root_.Go.ChangeSpec) : _root_.Go.OpenSpec := { _root_.Go.OpenSpec.ofChange s with cond := some uptoSmall }

/-- 'gangwaylaw12.ReplayPlays', WHERE WHAT IT READS IS OF BULK AT MOST 1048576: true; the input reads as it did. -/
def replayPlaysUptoRow : OpenClaim := { program := "ytijnhagjfkfgcaa", sum := "65e359fc918547c9077ce7e58770924934a8935022bb9dcef5713fb3bd31beca", func := "gangway/gangwaylaw12.ReplayPlays", spec := "replayPlays", unfollowed := true, recurses := true, plainKeys := false, apart := false, narrowed := true }
def ReplayPlaysUptoSaid : Prop := replayPlaysUptoRow.holds Try.pinned (OpenSpec.upto replayPlaysSpec)

/-- 'gangwaylaw12.ReplayOnce', WHERE WHAT IT READS IS OF BULK AT MOST 1048576: true; the input reads as it did. -/
def replayOnceUptoRow : OpenClaim := { program := "ytijnhagjfkfgcaa", sum := "65e359fc918547c9077ce7e58770924934a8935022bb9dcef5713fb3bd31beca", func := "gangway/gangwaylaw12.ReplayOnce", spec := "replayOnce", unfollowed := true, recurses := true, plainKeys := false, apart := false, narrowed := true }
def ReplayOnceUptoSaid : Prop := replayOnceUptoRow.holds Try.pinned (OpenSpec.upto replayOnceSpec)

/-- 'gangwaylaw12.ReplayLater', WHERE WHAT IT READS IS OF BULK AT MOST 1048576: true; the input reads as it did. -/
def replayLaterUptoRow : OpenClaim := { program := "ytijnhagjfkfgcaa", sum := "65e359fc918547c9077ce7e58770924934a8935022bb9dcef5713fb3bd31beca", func := "gangway/gangwaylaw12.ReplayLater", spec := "replayLater", unfollowed := true, recurses := true, plainKeys := false, apart := false, narrowed := true }
def ReplayLaterUptoSaid : Prop := replayLaterUptoRow.holds Try.pinned (OpenSpec.upto replayLaterSpec)

/-- 'gangwaylaw12.ReplayFull', WHERE WHAT IT READS IS OF BULK AT MOST 1048576: true; the input reads as it did. -/
def replayFullUptoRow : OpenClaim := { program := "ytijnhagjfkfgcaa", sum := "65e359fc918547c9077ce7e58770924934a8935022bb9dcef5713fb3bd31beca", func := "gangway/gangwaylaw12.ReplayFull", spec := "replayFull", unfollowed := true, recurses := true, plainKeys := false, apart := false, narrowed := true }
def ReplayFullUptoSaid : Prop := replayFullUptoRow.holds Try.pinned (OpenSpec.upto replayFullSpec)

end Rows
end Go.Proofs.Ytijnhagjfkfgcaa
