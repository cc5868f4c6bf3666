/-
  DERIVED. GIVEN WITH THE SEED: THE CARDS: each row of YtdhgidgikjefbaaDoorRows.lean that lists a variable, with what it lists TIED to the program's text (the seventh form; the later family's looks); each row that meets fmt, with fmt's text TOLD by the authors' own Lean function (tested against real Go, not proved from fmt's source: count such statements apart). THE CARD IS WHAT COUNTS. Prove the row's statement (the work); the ties are given (YtdhgidgikjefbaaDoorTie.lean); close each card by the builder's one call (the guide's Derived/Test/ToyasCard.lean, 'card_holds'). Laid BY PROGRAM, IN A SANDBOX (cutbox-door.mjs). By AI agents, Wed Nov 11 2026. No macro, syntax, notation, axiom, sorry.
-/
import Derived.Test.YtdhgidgikjefbaaDoorRows
import GoSem.ClaimSeven
namespace Go.Proofs.YtdhgidgikjefbaaDoor
namespace Rows

/-- THE TIED CARD OF 'gangwaylaw09.BasePlays'. -/
def basePlaysCard : Claim7 := { stood := { row := basePlaysRow, standIns := [], harness := (true, "95fba5595d07e024e8d72c2e4228c7a15b6bbf5f35992d93841cb49a4fcbdb3f"), looks := false }, kinds := [], alts := [], laidByText := true, laidKinds := [.data, .pinned], laidTests := true, laidLooks := .later }
def BasePlaysCardSaid : Prop := Claim7.holds Tryd.pinned (.plain (OpenSpec.ofChange basePlaysSpec)) basePlaysCard

/-- THE TIED CARD OF 'gangwaylaw09.BaseLast'. -/
def baseLastCard : Claim7 := { stood := { row := baseLastRow, standIns := [], harness := (true, "95fba5595d07e024e8d72c2e4228c7a15b6bbf5f35992d93841cb49a4fcbdb3f"), looks := false }, kinds := [], alts := [], laidByText := true, laidKinds := [.data, .pinned], laidTests := true, laidLooks := .later }
def BaseLastCardSaid : Prop := Claim7.holds Tryd.pinned (.plain (OpenSpec.ofChange baseLastSpec)) baseLastCard

/-- THE TIED CARD OF 'gangwaylaw09.BaseFull'. -/
def baseFullCard : Claim7 := { stood := { row := baseFullRow, standIns := [], harness := (true, "95fba5595d07e024e8d72c2e4228c7a15b6bbf5f35992d93841cb49a4fcbdb3f"), looks := false }, kinds := [], alts := [], laidByText := true, laidKinds := [.data, .pinned], laidTests := true, laidLooks := .later }
def BaseFullCardSaid : Prop := Claim7.holds Tryd.pinned (.plain (OpenSpec.ofChange baseFullSpec)) baseFullCard

/-- THE SECOND FORM's CARD OF 'gangwaylaw09.BasePlays'. -/
def basePlaysUptoCard : Claim7 := { stood := { row := basePlaysUptoRow, standIns := [], harness := (true, "95fba5595d07e024e8d72c2e4228c7a15b6bbf5f35992d93841cb49a4fcbdb3f"), looks := false }, kinds := [], alts := [], laidByText := true, laidKinds := [.data, .pinned], laidTests := true, laidLooks := .later }
def BasePlaysUptoCardSaid : Prop := Claim7.holds Tryd.pinned (.plain (OpenSpec.upto basePlaysSpec)) basePlaysUptoCard

/-- THE SECOND FORM's CARD OF 'gangwaylaw09.BaseLast'. -/
def baseLastUptoCard : Claim7 := { stood := { row := baseLastUptoRow, standIns := [], harness := (true, "95fba5595d07e024e8d72c2e4228c7a15b6bbf5f35992d93841cb49a4fcbdb3f"), looks := false }, kinds := [], alts := [], laidByText := true, laidKinds := [.data, .pinned], laidTests := true, laidLooks := .later }
def BaseLastUptoCardSaid : Prop := Claim7.holds Tryd.pinned (.plain (OpenSpec.upto baseLastSpec)) baseLastUptoCard

/-- THE SECOND FORM's CARD OF 'gangwaylaw09.BaseFull'. -/
def baseFullUptoCard : Claim7 := { stood := { row := baseFullUptoRow, standIns := [], harness := (true, "95fba5595d07e024e8d72c2e4228c7a15b6bbf5f35992d93841cb49a4fcbdb3f"), looks := false }, kinds := [], alts := [], laidByText := true, laidKinds := [.data, .pinned], laidTests := true, laidLooks := .later }
def BaseFullUptoCardSaid : Prop := Claim7.holds Tryd.pinned (.plain (OpenSpec.upto baseFullSpec)) baseFullUptoCard
end Rows
end Go.Proofs.YtdhgidgikjefbaaDoor
