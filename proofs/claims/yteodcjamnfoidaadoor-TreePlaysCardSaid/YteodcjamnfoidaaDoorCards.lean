/-
  DERIVED. GIVEN WITH THE SEED: THE CARDS: each row of YteodcjamnfoidaaDoorRows.lean that lists a variable, with what it lists TIED to the program's text (the seventh form; the later family's looks); each row that meets fmt, with fmt's text TOLD by the authors' own Lean function (tested against real Go, not proved from fmt's source: count such statements apart). THE CARD IS WHAT COUNTS. Prove the row's statement (the work); the ties are given (YteodcjamnfoidaaDoorTie.lean); close each card by the builder's one call (the guide's Derived/Test/ToyasCard.lean, 'card_holds'). Laid BY PROGRAM, IN A SANDBOX (cutbox-door.mjs). By AI agents, Wed Nov 11 2026. No macro, syntax, notation, axiom, sorry.
-/
import Derived.Test.YteodcjamnfoidaaDoorRows
import GoSem.ClaimSeven
namespace Go.Proofs.YteodcjamnfoidaaDoor
namespace Rows

/-- THE TIED CARD OF 'gangwaylaw19.TreeBack'. -/
def treeBackCard : Claim7 := { stood := { row := treeBackRow, standIns := [], harness := (true, "f51bbbc64e3a40f5aadb8cde36bd9b8cba2e8013a5a51d40901de8c657759707"), looks := false }, kinds := [], alts := [], laidByText := true, laidKinds := [.data, .pinned], laidTests := true, laidLooks := .later }
def TreeBackCardSaid : Prop := Claim7.holds Tryd.pinned (.plain (OpenSpec.ofChange treeBackSpec)) treeBackCard

/-- THE TIED CARD OF 'gangwaylaw19.TreeOwner'. -/
def treeOwnerCard : Claim7 := { stood := { row := treeOwnerRow, standIns := [], harness := (true, "f51bbbc64e3a40f5aadb8cde36bd9b8cba2e8013a5a51d40901de8c657759707"), looks := false }, kinds := [], alts := [], laidByText := true, laidKinds := [.data, .pinned], laidTests := true, laidLooks := .later }
def TreeOwnerCardSaid : Prop := Claim7.holds Tryd.pinned (.plain (OpenSpec.ofChange treeOwnerSpec)) treeOwnerCard

/-- THE TIED CARD OF 'gangwaylaw19.TreeSound'. -/
def treeSoundCard : Claim7 := { stood := { row := treeSoundRow, standIns := [], harness := (true, "f51bbbc64e3a40f5aadb8cde36bd9b8cba2e8013a5a51d40901de8c657759707"), looks := false }, kinds := [], alts := [], laidByText := true, laidKinds := [.data, .pinned], laidTests := true, laidLooks := .later }
def TreeSoundCardSaid : Prop := Claim7.holds Tryd.pinned (.plain (OpenSpec.ofChange treeSoundSpec)) treeSoundCard

/-- THE TIED CARD OF 'gangwaylaw19.TreeFull'. -/
def treeFullCard : Claim7 := { stood := { row := treeFullRow, standIns := [], harness := (true, "f51bbbc64e3a40f5aadb8cde36bd9b8cba2e8013a5a51d40901de8c657759707"), looks := false }, kinds := [], alts := [], laidByText := true, laidKinds := [.data, .pinned], laidTests := true, laidLooks := .later }
def TreeFullCardSaid : Prop := Claim7.holds Tryd.pinned (.plain (OpenSpec.ofChange treeFullSpec)) treeFullCard

/-- THE TIED CARD OF 'gangwaylaw19.TreeStranger'. -/
def treeStrangerCard : Claim7 := { stood := { row := treeStrangerRow, standIns := [], harness := (true, "f51bbbc64e3a40f5aadb8cde36bd9b8cba2e8013a5a51d40901de8c657759707"), looks := false }, kinds := [], alts := [], laidByText := true, laidKinds := [.data, .pinned], laidTests := true, laidLooks := .later }
def TreeStrangerCardSaid : Prop := Claim7.holds Tryd.pinned (.plain (OpenSpec.ofChange treeStrangerSpec)) treeStrangerCard

/-- THE TIED CARD OF 'gangwaylaw19.TreePlays'. -/
def treePlaysCard : Claim7 := { stood := { row := treePlaysRow, standIns := [], harness := (true, "f51bbbc64e3a40f5aadb8cde36bd9b8cba2e8013a5a51d40901de8c657759707"), looks := false }, kinds := [], alts := [], laidByText := true, laidKinds := [.data, .pinned], laidTests := true, laidLooks := .later }
def TreePlaysCardSaid : Prop := Claim7.holds Tryd.pinned (.plain (OpenSpec.ofChange treePlaysSpec)) treePlaysCard

/-- THE SECOND FORM's CARD OF 'gangwaylaw19.TreeBack'. -/
def treeBackUptoCard : Claim7 := { stood := { row := treeBackUptoRow, standIns := [], harness := (true, "f51bbbc64e3a40f5aadb8cde36bd9b8cba2e8013a5a51d40901de8c657759707"), looks := false }, kinds := [], alts := [], laidByText := true, laidKinds := [.data, .pinned], laidTests := true, laidLooks := .later }
def TreeBackUptoCardSaid : Prop := Claim7.holds Tryd.pinned (.plain (OpenSpec.upto treeBackSpec)) treeBackUptoCard

/-- THE SECOND FORM's CARD OF 'gangwaylaw19.TreeOwner'. -/
def treeOwnerUptoCard : Claim7 := { stood := { row := treeOwnerUptoRow, standIns := [], harness := (true, "f51bbbc64e3a40f5aadb8cde36bd9b8cba2e8013a5a51d40901de8c657759707"), looks := false }, kinds := [], alts := [], laidByText := true, laidKinds := [.data, .pinned], laidTests := true, laidLooks := .later }
def TreeOwnerUptoCardSaid : Prop := Claim7.holds Tryd.pinned (.plain (OpenSpec.upto treeOwnerSpec)) treeOwnerUptoCard

/-- THE SECOND FORM's CARD OF 'gangwaylaw19.TreeSound'. -/
def treeSoundUptoCard : Claim7 := { stood := { row := treeSoundUptoRow, standIns := [], harness := (true, "f51bbbc64e3a40f5aadb8cde36bd9b8cba2e8013a5a51d40901de8c657759707"), looks := false }, kinds := [], alts := [], laidByText := true, laidKinds := [.data, .pinned], laidTests := true, laidLooks := .later }
def TreeSoundUptoCardSaid : Prop := Claim7.holds Tryd.pinned (.plain (OpenSpec.upto treeSoundSpec)) treeSoundUptoCard

/-- THE SECOND FORM's CARD OF 'gangwaylaw19.TreeFull'. -/
def treeFullUptoCard : Claim7 := { stood := { row := treeFullUptoRow, standIns := [], harness := (true, "f51bbbc64e3a40f5aadb8cde36bd9b8cba2e8013a5a51d40901de8c657759707"), looks := false }, kinds := [], alts := [], laidByText := true, laidKinds := [.data, .pinned], laidTests := true, laidLooks := .later }
def TreeFullUptoCardSaid : Prop := Claim7.holds Tryd.pinned (.plain (OpenSpec.upto treeFullSpec)) treeFullUptoCard

/-- THE SECOND FORM's CARD OF 'gangwaylaw19.TreeStranger'. -/
def treeStrangerUptoCard : Claim7 := { stood := { row := treeStrangerUptoRow, standIns := [], harness := (true, "f51bbbc64e3a40f5aadb8cde36bd9b8cba2e8013a5a51d40901de8c657759707"), looks := false }, kinds := [], alts := [], laidByText := true, laidKinds := [.data, .pinned], laidTests := true, laidLooks := .later }
def TreeStrangerUptoCardSaid : Prop := Claim7.holds Tryd.pinned (.plain (OpenSpec.upto treeStrangerSpec)) treeStrangerUptoCard

/-- THE SECOND FORM's CARD OF 'gangwaylaw19.TreePlays'. -/
def treePlaysUptoCard : Claim7 := { stood := { row := treePlaysUptoRow, standIns := [], harness := (true, "f51bbbc64e3a40f5aadb8cde36bd9b8cba2e8013a5a51d40901de8c657759707"), looks := false }, kinds := [], alts := [], laidByText := true, laidKinds := [.data, .pinned], laidTests := true, laidLooks := .later }
def TreePlaysUptoCardSaid : Prop := Claim7.holds Tryd.pinned (.plain (OpenSpec.upto treePlaysSpec)) treePlaysUptoCard
end Rows
end Go.Proofs.YteodcjamnfoidaaDoor
