/-
  DERIVED. GIVEN WITH THE SEED: THE CARDS: each row of YtdbonhhdpaklhaaGreatDoorRows.lean that lists a variable, with what it lists TIED to the program's text (the seventh form; the later family's looks); each row that meets fmt, with fmt's text TOLD by the authors' own Lean function (tested against real Go, not proved from fmt's source: count such statements apart). THE CARD IS WHAT COUNTS. Prove the row's statement (the work); the ties are given (YtdbonhhdpaklhaaGreatDoorTie.lean); close each card by the builder's one call (the guide's Derived/Test/ToyasCard.lean, 'card_holds'). Laid BY PROGRAM, IN A SANDBOX (cutbox-door.mjs). By AI agents, Wed Nov 11 2026. No macro, syntax, notation, axiom, sorry.
-/
import Derived.Test.YtdbonhhdpaklhaaGreatDoorRows
import GoSem.ClaimSeven
namespace Go.Proofs.YtdbonhhdpaklhaaGreatDoor
namespace Rows

/-- THE TIED CARD OF 'gangwaylaw23.RcpSources'. -/
def rcpSourcesCard : Claim7 := { stood := { row := rcpSourcesRow, standIns := [], harness := (true, "21edd9c977cf80102784a8ae5429fe2027f3205739e649350766582e1e04d360"), looks := true }, kinds := [], alts := [], laidByText := true, laidKinds := [.data, .data, .data, .data, .pinned], laidTests := true, laidLooks := .later }
def RcpSourcesCardSaid : Prop := Claim7.holds Tryz.pinned (.plain (OpenSpec.ofChange rcpSourcesSpec)) rcpSourcesCard

/-- THE TIED CARD OF 'gangwaylaw23.RcpTwice'. -/
def rcpTwiceCard : Claim7 := { stood := { row := rcpTwiceRow, standIns := [], harness := (true, "21edd9c977cf80102784a8ae5429fe2027f3205739e649350766582e1e04d360"), looks := true }, kinds := [], alts := [], laidByText := true, laidKinds := [.data, .data, .data, .data, .sentinel, .sentinel, .pinned], laidTests := true, laidLooks := .later }
def RcpTwiceCardSaid : Prop := Claim7.holds Tryz.pinned (.plain (OpenSpec.ofChange rcpTwiceSpec)) rcpTwiceCard

/-- THE TIED CARD OF 'gangwaylaw23.RcpInside'. -/
def rcpInsideCard : Claim7 := { stood := { row := rcpInsideRow, standIns := [], harness := (true, "21edd9c977cf80102784a8ae5429fe2027f3205739e649350766582e1e04d360"), looks := true }, kinds := [], alts := [], laidByText := true, laidKinds := [.data, .data, .data, .data, .sentinel, .sentinel, .pinned], laidTests := true, laidLooks := .later }
def RcpInsideCardSaid : Prop := Claim7.holds Tryz.pinned (.plain (OpenSpec.ofChange rcpInsideSpec)) rcpInsideCard

/-- THE TIED CARD OF 'gangwaylaw23.RcpCopies'. -/
def rcpCopiesCard : Claim7 := { stood := { row := rcpCopiesRow, standIns := [], harness := (true, "21edd9c977cf80102784a8ae5429fe2027f3205739e649350766582e1e04d360"), looks := true }, kinds := [], alts := [], laidByText := true, laidKinds := [.data, .data, .data, .data, .sentinel, .sentinel, .pinned], laidTests := true, laidLooks := .later }
def RcpCopiesCardSaid : Prop := Claim7.holds Tryz.pinned (.plain (OpenSpec.ofChange rcpCopiesSpec)) rcpCopiesCard

/-- THE TIED CARD OF 'gangwaylaw23.RcpOver'. -/
def rcpOverCard : Claim7 := { stood := { row := rcpOverRow, standIns := [], harness := (true, "21edd9c977cf80102784a8ae5429fe2027f3205739e649350766582e1e04d360"), looks := true }, kinds := [], alts := [], laidByText := true, laidKinds := [.data, .data, .data, .data, .sentinel, .sentinel, .pinned], laidTests := true, laidLooks := .later }
def RcpOverCardSaid : Prop := Claim7.holds Tryz.pinned (.plain (OpenSpec.ofChange rcpOverSpec)) rcpOverCard

/-- THE SECOND FORM's CARD OF 'gangwaylaw23.RcpSources'. -/
def rcpSourcesUptoCard : Claim7 := { stood := { row := rcpSourcesUptoRow, standIns := [], harness := (true, "21edd9c977cf80102784a8ae5429fe2027f3205739e649350766582e1e04d360"), looks := true }, kinds := [], alts := [], laidByText := true, laidKinds := [.data, .data, .data, .data, .pinned], laidTests := true, laidLooks := .later }
def RcpSourcesUptoCardSaid : Prop := Claim7.holds Tryz.pinned (.plain (OpenSpec.upto rcpSourcesSpec)) rcpSourcesUptoCard

/-- THE SECOND FORM's CARD OF 'gangwaylaw23.RcpTwice'. -/
def rcpTwiceUptoCard : Claim7 := { stood := { row := rcpTwiceUptoRow, standIns := [], harness := (true, "21edd9c977cf80102784a8ae5429fe2027f3205739e649350766582e1e04d360"), looks := true }, kinds := [], alts := [], laidByText := true, laidKinds := [.data, .data, .data, .data, .sentinel, .sentinel, .pinned], laidTests := true, laidLooks := .later }
def RcpTwiceUptoCardSaid : Prop := Claim7.holds Tryz.pinned (.plain (OpenSpec.upto rcpTwiceSpec)) rcpTwiceUptoCard

/-- THE SECOND FORM's CARD OF 'gangwaylaw23.RcpInside'. -/
def rcpInsideUptoCard : Claim7 := { stood := { row := rcpInsideUptoRow, standIns := [], harness := (true, "21edd9c977cf80102784a8ae5429fe2027f3205739e649350766582e1e04d360"), looks := true }, kinds := [], alts := [], laidByText := true, laidKinds := [.data, .data, .data, .data, .sentinel, .sentinel, .pinned], laidTests := true, laidLooks := .later }
def RcpInsideUptoCardSaid : Prop := Claim7.holds Tryz.pinned (.plain (OpenSpec.upto rcpInsideSpec)) rcpInsideUptoCard

/-- THE SECOND FORM's CARD OF 'gangwaylaw23.RcpCopies'. -/
def rcpCopiesUptoCard : Claim7 := { stood := { row := rcpCopiesUptoRow, standIns := [], harness := (true, "21edd9c977cf80102784a8ae5429fe2027f3205739e649350766582e1e04d360"), looks := true }, kinds := [], alts := [], laidByText := true, laidKinds := [.data, .data, .data, .data, .sentinel, .sentinel, .pinned], laidTests := true, laidLooks := .later }
def RcpCopiesUptoCardSaid : Prop := Claim7.holds Tryz.pinned (.plain (OpenSpec.upto rcpCopiesSpec)) rcpCopiesUptoCard

/-- THE SECOND FORM's CARD OF 'gangwaylaw23.RcpOver'. -/
def rcpOverUptoCard : Claim7 := { stood := { row := rcpOverUptoRow, standIns := [], harness := (true, "21edd9c977cf80102784a8ae5429fe2027f3205739e649350766582e1e04d360"), looks := true }, kinds := [], alts := [], laidByText := true, laidKinds := [.data, .data, .data, .data, .sentinel, .sentinel, .pinned], laidTests := true, laidLooks := .later }
def RcpOverUptoCardSaid : Prop := Claim7.holds Tryz.pinned (.plain (OpenSpec.upto rcpOverSpec)) rcpOverUptoCard
end Rows
end Go.Proofs.YtdbonhhdpaklhaaGreatDoor
