/-
  DERIVED. GIVEN WITH THE SEED: THE CARDS: each row of YtnnclgadfbaldaaGreatDoorRows.lean that lists a variable, with what it lists TIED to the program's text (the seventh form; the later family's looks); each row that meets fmt, with fmt's text TOLD by the authors' own Lean function (tested against real Go, not proved from fmt's source: count such statements apart). THE CARD IS WHAT COUNTS. Prove the row's statement (the work); the ties are given (YtnnclgadfbaldaaGreatDoorTie.lean); close each card by the builder's one call (the guide's Derived/Test/ToyasCard.lean, 'card_holds'). Laid BY PROGRAM, IN A SANDBOX (cutbox-door.mjs). By AI agents, Wed Nov 11 2026. No macro, syntax, notation, axiom, sorry.
-/
import Derived.Test.YtnnclgadfbaldaaGreatDoorRows
import GoSem.ClaimSeven
namespace Go.Proofs.YtnnclgadfbaldaaGreatDoor
namespace Rows

/-- THE TIED CARD OF 'letterboxlaw23.SearchParses'. -/
def searchParsesCard : Claim7 := { stood := { row := searchParsesRow, standIns := [], harness := (true, "68493c405a9e54b2666253a8a438c8a8ece11ca9fd122a08f76cebb9055abbf4"), looks := false }, kinds := [], alts := [], laidByText := true, laidKinds := [.data, .data, .pinned], laidTests := true, laidLooks := .later }
def SearchParsesCardSaid : Prop := Claim7.holds Tryz.pinned (.plain (OpenSpec.ofChange searchParsesSpec)) searchParsesCard

/-- THE TIED CARD OF 'letterboxlaw23.SearchMatches'. -/
def searchMatchesCard : Claim7 := { stood := { row := searchMatchesRow, standIns := [], harness := (true, "68493c405a9e54b2666253a8a438c8a8ece11ca9fd122a08f76cebb9055abbf4"), looks := false }, kinds := [], alts := [], laidByText := true, laidKinds := [.data, .data, .pinned], laidTests := true, laidLooks := .later }
def SearchMatchesCardSaid : Prop := Claim7.holds Tryz.pinned (.plain (OpenSpec.ofChange searchMatchesSpec)) searchMatchesCard

/-- THE TIED CARD OF 'letterboxlaw23.SearchLogic'. -/
def searchLogicCard : Claim7 := { stood := { row := searchLogicRow, standIns := [], harness := (true, "68493c405a9e54b2666253a8a438c8a8ece11ca9fd122a08f76cebb9055abbf4"), looks := false }, kinds := [], alts := [], laidByText := true, laidKinds := [.data, .data, .pinned], laidTests := true, laidLooks := .later }
def SearchLogicCardSaid : Prop := Claim7.holds Tryz.pinned (.plain (OpenSpec.ofChange searchLogicSpec)) searchLogicCard

/-- THE TIED CARD OF 'letterboxlaw23.SearchFlags'. -/
def searchFlagsCard : Claim7 := { stood := { row := searchFlagsRow, standIns := [], harness := (true, "68493c405a9e54b2666253a8a438c8a8ece11ca9fd122a08f76cebb9055abbf4"), looks := false }, kinds := [], alts := [], laidByText := true, laidKinds := [.data, .data, .pinned], laidTests := true, laidLooks := .later }
def SearchFlagsCardSaid : Prop := Claim7.holds Tryz.pinned (.plain (OpenSpec.ofChange searchFlagsSpec)) searchFlagsCard

/-- THE TIED CARD OF 'letterboxlaw23.SearchTexts'. -/
def searchTextsCard : Claim7 := { stood := { row := searchTextsRow, standIns := [], harness := (true, "68493c405a9e54b2666253a8a438c8a8ece11ca9fd122a08f76cebb9055abbf4"), looks := false }, kinds := [], alts := [], laidByText := true, laidKinds := [.data, .data, .pinned], laidTests := true, laidLooks := .later }
def SearchTextsCardSaid : Prop := Claim7.holds Tryz.pinned (.plain (OpenSpec.ofChange searchTextsSpec)) searchTextsCard

/-- THE SECOND FORM's CARD OF 'letterboxlaw23.SearchParses'. -/
def searchParsesUptoCard : Claim7 := { stood := { row := searchParsesUptoRow, standIns := [], harness := (true, "68493c405a9e54b2666253a8a438c8a8ece11ca9fd122a08f76cebb9055abbf4"), looks := false }, kinds := [], alts := [], laidByText := true, laidKinds := [.data, .data, .pinned], laidTests := true, laidLooks := .later }
def SearchParsesUptoCardSaid : Prop := Claim7.holds Tryz.pinned (.plain (OpenSpec.upto searchParsesSpec)) searchParsesUptoCard

/-- THE SECOND FORM's CARD OF 'letterboxlaw23.SearchMatches'. -/
def searchMatchesUptoCard : Claim7 := { stood := { row := searchMatchesUptoRow, standIns := [], harness := (true, "68493c405a9e54b2666253a8a438c8a8ece11ca9fd122a08f76cebb9055abbf4"), looks := false }, kinds := [], alts := [], laidByText := true, laidKinds := [.data, .data, .pinned], laidTests := true, laidLooks := .later }
def SearchMatchesUptoCardSaid : Prop := Claim7.holds Tryz.pinned (.plain (OpenSpec.upto searchMatchesSpec)) searchMatchesUptoCard

/-- THE SECOND FORM's CARD OF 'letterboxlaw23.SearchLogic'. -/
def searchLogicUptoCard : Claim7 := { stood := { row := searchLogicUptoRow, standIns := [], harness := (true, "68493c405a9e54b2666253a8a438c8a8ece11ca9fd122a08f76cebb9055abbf4"), looks := false }, kinds := [], alts := [], laidByText := true, laidKinds := [.data, .data, .pinned], laidTests := true, laidLooks := .later }
def SearchLogicUptoCardSaid : Prop := Claim7.holds Tryz.pinned (.plain (OpenSpec.upto searchLogicSpec)) searchLogicUptoCard

/-- THE SECOND FORM's CARD OF 'letterboxlaw23.SearchFlags'. -/
def searchFlagsUptoCard : Claim7 := { stood := { row := searchFlagsUptoRow, standIns := [], harness := (true, "68493c405a9e54b2666253a8a438c8a8ece11ca9fd122a08f76cebb9055abbf4"), looks := false }, kinds := [], alts := [], laidByText := true, laidKinds := [.data, .data, .pinned], laidTests := true, laidLooks := .later }
def SearchFlagsUptoCardSaid : Prop := Claim7.holds Tryz.pinned (.plain (OpenSpec.upto searchFlagsSpec)) searchFlagsUptoCard

/-- THE SECOND FORM's CARD OF 'letterboxlaw23.SearchTexts'. -/
def searchTextsUptoCard : Claim7 := { stood := { row := searchTextsUptoRow, standIns := [], harness := (true, "68493c405a9e54b2666253a8a438c8a8ece11ca9fd122a08f76cebb9055abbf4"), looks := false }, kinds := [], alts := [], laidByText := true, laidKinds := [.data, .data, .pinned], laidTests := true, laidLooks := .later }
def SearchTextsUptoCardSaid : Prop := Claim7.holds Tryz.pinned (.plain (OpenSpec.upto searchTextsSpec)) searchTextsUptoCard
end Rows
end Go.Proofs.YtnnclgadfbaldaaGreatDoor
