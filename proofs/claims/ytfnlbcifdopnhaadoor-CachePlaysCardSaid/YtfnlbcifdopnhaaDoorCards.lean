/-
  DERIVED. GIVEN WITH THE SEED: THE CARDS: each row of YtfnlbcifdopnhaaDoorRows.lean that lists a variable, with what it lists TIED to the program's text (the seventh form; the later family's looks); each row that meets fmt, with fmt's text TOLD by the authors' own Lean function (tested against real Go, not proved from fmt's source: count such statements apart). THE CARD IS WHAT COUNTS. Prove the row's statement (the work); the ties are given (YtfnlbcifdopnhaaDoorTie.lean); close each card by the builder's one call (the guide's Derived/Test/ToyasCard.lean, 'card_holds'). Laid BY PROGRAM, IN A SANDBOX (cutbox-door.mjs). By AI agents, Wed Nov 11 2026. No macro, syntax, notation, axiom, sorry.
-/
import Derived.Test.YtfnlbcifdopnhaaDoorRows
import GoSem.ClaimSeven
namespace Go.Proofs.YtfnlbcifdopnhaaDoor
namespace Rows

/-- THE TIED CARD OF 'gangwaylaw11.CacheFresh'. -/
def cacheFreshCard : Claim7 := { stood := { row := cacheFreshRow, standIns := [], harness := (true, "11d4abf5429584dc5913443800eccd50a840828bb7577d13550d4c5f136c26f3"), looks := false }, kinds := [], alts := [], laidByText := true, laidKinds := [.data, .pinned], laidTests := true, laidLooks := .later }
def CacheFreshCardSaid : Prop := Claim7.holds Tryd.pinned (.plain (OpenSpec.ofChange cacheFreshSpec)) cacheFreshCard

/-- THE TIED CARD OF 'gangwaylaw11.CacheMost'. -/
def cacheMostCard : Claim7 := { stood := { row := cacheMostRow, standIns := [], harness := (true, "11d4abf5429584dc5913443800eccd50a840828bb7577d13550d4c5f136c26f3"), looks := false }, kinds := [], alts := [], laidByText := true, laidKinds := [.data, .pinned], laidTests := true, laidLooks := .later }
def CacheMostCardSaid : Prop := Claim7.holds Tryd.pinned (.plain (OpenSpec.ofChange cacheMostSpec)) cacheMostCard

/-- THE TIED CARD OF 'gangwaylaw11.CachePlays'. -/
def cachePlaysCard : Claim7 := { stood := { row := cachePlaysRow, standIns := [], harness := (true, "11d4abf5429584dc5913443800eccd50a840828bb7577d13550d4c5f136c26f3"), looks := false }, kinds := [], alts := [], laidByText := true, laidKinds := [.data, .pinned], laidTests := true, laidLooks := .later }
def CachePlaysCardSaid : Prop := Claim7.holds Tryd.pinned (.plain (OpenSpec.ofChange cachePlaysSpec)) cachePlaysCard

/-- THE SECOND FORM's CARD OF 'gangwaylaw11.CacheFresh'. -/
def cacheFreshUptoCard : Claim7 := { stood := { row := cacheFreshUptoRow, standIns := [], harness := (true, "11d4abf5429584dc5913443800eccd50a840828bb7577d13550d4c5f136c26f3"), looks := false }, kinds := [], alts := [], laidByText := true, laidKinds := [.data, .pinned], laidTests := true, laidLooks := .later }
def CacheFreshUptoCardSaid : Prop := Claim7.holds Tryd.pinned (.plain (OpenSpec.upto cacheFreshSpec)) cacheFreshUptoCard

/-- THE SECOND FORM's CARD OF 'gangwaylaw11.CacheMost'. -/
def cacheMostUptoCard : Claim7 := { stood := { row := cacheMostUptoRow, standIns := [], harness := (true, "11d4abf5429584dc5913443800eccd50a840828bb7577d13550d4c5f136c26f3"), looks := false }, kinds := [], alts := [], laidByText := true, laidKinds := [.data, .pinned], laidTests := true, laidLooks := .later }
def CacheMostUptoCardSaid : Prop := Claim7.holds Tryd.pinned (.plain (OpenSpec.upto cacheMostSpec)) cacheMostUptoCard

/-- THE SECOND FORM's CARD OF 'gangwaylaw11.CachePlays'. -/
def cachePlaysUptoCard : Claim7 := { stood := { row := cachePlaysUptoRow, standIns := [], harness := (true, "11d4abf5429584dc5913443800eccd50a840828bb7577d13550d4c5f136c26f3"), looks := false }, kinds := [], alts := [], laidByText := true, laidKinds := [.data, .pinned], laidTests := true, laidLooks := .later }
def CachePlaysUptoCardSaid : Prop := Claim7.holds Tryd.pinned (.plain (OpenSpec.upto cachePlaysSpec)) cachePlaysUptoCard
end Rows
end Go.Proofs.YtfnlbcifdopnhaaDoor
