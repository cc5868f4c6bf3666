/-
  DERIVED. GIVEN WITH THE SEED: THE CARDS: each row of YtaieafdiomknoaaDoorRows.lean that lists a variable, with what it lists TIED to the program's text (the seventh form; the later family's looks); each row that meets fmt, with fmt's text TOLD by the authors' own Lean function (tested against real Go, not proved from fmt's source: count such statements apart). THE CARD IS WHAT COUNTS. Prove the row's statement (the work); the ties are given (YtaieafdiomknoaaDoorTie.lean); close each card by the builder's one call (the guide's Derived/Test/ToyasCard.lean, 'card_holds'). Laid BY PROGRAM, IN A SANDBOX (cutbox-door.mjs). By AI agents, Wed Nov 11 2026. No macro, syntax, notation, axiom, sorry.
-/
import Derived.Test.YtaieafdiomknoaaDoorRows
import GoSem.ClaimSeven
namespace Go.Proofs.YtaieafdiomknoaaDoor
namespace Rows

/-- THE TIED CARD OF 'gangwaylaw22.TeloptWrites'. -/
def teloptWritesCard : Claim7 := { stood := { row := teloptWritesRow, standIns := [], harness := (true, "fd5d0c1985e92b6c51b9bb70c92405a8a41ce3dc531e300d5408a068f783b10e"), looks := false }, kinds := [], alts := [], laidByText := true, laidKinds := [.data, .pinned], laidTests := true, laidLooks := .later }
def TeloptWritesCardSaid : Prop := Claim7.holds Tryd.pinned (.plain (OpenSpec.ofChange teloptWritesSpec)) teloptWritesCard

/-- THE TIED CARD OF 'gangwaylaw22.TeloptFeeds'. -/
def teloptFeedsCard : Claim7 := { stood := { row := teloptFeedsRow, standIns := [], harness := (true, "fd5d0c1985e92b6c51b9bb70c92405a8a41ce3dc531e300d5408a068f783b10e"), looks := false }, kinds := [], alts := [], laidByText := true, laidKinds := [.data, .pinned], laidTests := true, laidLooks := .later }
def TeloptFeedsCardSaid : Prop := Claim7.holds Tryd.pinned (.plain (OpenSpec.ofChange teloptFeedsSpec)) teloptFeedsCard

/-- THE TIED CARD OF 'gangwaylaw22.TeloptPieces'. -/
def teloptPiecesCard : Claim7 := { stood := { row := teloptPiecesRow, standIns := [], harness := (true, "fd5d0c1985e92b6c51b9bb70c92405a8a41ce3dc531e300d5408a068f783b10e"), looks := false }, kinds := [], alts := [], laidByText := true, laidKinds := [.data, .pinned], laidTests := true, laidLooks := .later }
def TeloptPiecesCardSaid : Prop := Claim7.holds Tryd.pinned (.plain (OpenSpec.ofChange teloptPiecesSpec)) teloptPiecesCard

/-- THE TIED CARD OF 'gangwaylaw22.TeloptEscapes'. -/
def teloptEscapesCard : Claim7 := { stood := { row := teloptEscapesRow, standIns := [], harness := (true, "fd5d0c1985e92b6c51b9bb70c92405a8a41ce3dc531e300d5408a068f783b10e"), looks := false }, kinds := [], alts := [], laidByText := true, laidKinds := [.data, .pinned], laidTests := true, laidLooks := .later }
def TeloptEscapesCardSaid : Prop := Claim7.holds Tryd.pinned (.plain (OpenSpec.ofChange teloptEscapesSpec)) teloptEscapesCard

/-- THE TIED CARD OF 'gangwaylaw22.TeloptAuths'. -/
def teloptAuthsCard : Claim7 := { stood := { row := teloptAuthsRow, standIns := [], harness := (true, "fd5d0c1985e92b6c51b9bb70c92405a8a41ce3dc531e300d5408a068f783b10e"), looks := false }, kinds := [], alts := [], laidByText := true, laidKinds := [.data, .pinned], laidTests := true, laidLooks := .later }
def TeloptAuthsCardSaid : Prop := Claim7.holds Tryd.pinned (.plain (OpenSpec.ofChange teloptAuthsSpec)) teloptAuthsCard

/-- THE SECOND FORM's CARD OF 'gangwaylaw22.TeloptWrites'. -/
def teloptWritesUptoCard : Claim7 := { stood := { row := teloptWritesUptoRow, standIns := [], harness := (true, "fd5d0c1985e92b6c51b9bb70c92405a8a41ce3dc531e300d5408a068f783b10e"), looks := false }, kinds := [], alts := [], laidByText := true, laidKinds := [.data, .pinned], laidTests := true, laidLooks := .later }
def TeloptWritesUptoCardSaid : Prop := Claim7.holds Tryd.pinned (.plain (OpenSpec.upto teloptWritesSpec)) teloptWritesUptoCard

/-- THE SECOND FORM's CARD OF 'gangwaylaw22.TeloptFeeds'. -/
def teloptFeedsUptoCard : Claim7 := { stood := { row := teloptFeedsUptoRow, standIns := [], harness := (true, "fd5d0c1985e92b6c51b9bb70c92405a8a41ce3dc531e300d5408a068f783b10e"), looks := false }, kinds := [], alts := [], laidByText := true, laidKinds := [.data, .pinned], laidTests := true, laidLooks := .later }
def TeloptFeedsUptoCardSaid : Prop := Claim7.holds Tryd.pinned (.plain (OpenSpec.upto teloptFeedsSpec)) teloptFeedsUptoCard

/-- THE SECOND FORM's CARD OF 'gangwaylaw22.TeloptPieces'. -/
def teloptPiecesUptoCard : Claim7 := { stood := { row := teloptPiecesUptoRow, standIns := [], harness := (true, "fd5d0c1985e92b6c51b9bb70c92405a8a41ce3dc531e300d5408a068f783b10e"), looks := false }, kinds := [], alts := [], laidByText := true, laidKinds := [.data, .pinned], laidTests := true, laidLooks := .later }
def TeloptPiecesUptoCardSaid : Prop := Claim7.holds Tryd.pinned (.plain (OpenSpec.upto teloptPiecesSpec)) teloptPiecesUptoCard

/-- THE SECOND FORM's CARD OF 'gangwaylaw22.TeloptEscapes'. -/
def teloptEscapesUptoCard : Claim7 := { stood := { row := teloptEscapesUptoRow, standIns := [], harness := (true, "fd5d0c1985e92b6c51b9bb70c92405a8a41ce3dc531e300d5408a068f783b10e"), looks := false }, kinds := [], alts := [], laidByText := true, laidKinds := [.data, .pinned], laidTests := true, laidLooks := .later }
def TeloptEscapesUptoCardSaid : Prop := Claim7.holds Tryd.pinned (.plain (OpenSpec.upto teloptEscapesSpec)) teloptEscapesUptoCard

/-- THE SECOND FORM's CARD OF 'gangwaylaw22.TeloptAuths'. -/
def teloptAuthsUptoCard : Claim7 := { stood := { row := teloptAuthsUptoRow, standIns := [], harness := (true, "fd5d0c1985e92b6c51b9bb70c92405a8a41ce3dc531e300d5408a068f783b10e"), looks := false }, kinds := [], alts := [], laidByText := true, laidKinds := [.data, .pinned], laidTests := true, laidLooks := .later }
def TeloptAuthsUptoCardSaid : Prop := Claim7.holds Tryd.pinned (.plain (OpenSpec.upto teloptAuthsSpec)) teloptAuthsUptoCard
end Rows
end Go.Proofs.YtaieafdiomknoaaDoor
