/-
  DERIVED. GIVEN WITH THE SEED: THE CARDS: each row of YtaogfdffgdglkaaGreatDoorRows.lean that lists a variable, with what it lists TIED to the program's text (the seventh form; the later family's looks); each row that meets fmt, with fmt's text TOLD by the authors' own Lean function (tested against real Go, not proved from fmt's source: count such statements apart). THE CARD IS WHAT COUNTS. Prove the row's statement (the work); the ties are given (YtaogfdffgdglkaaGreatDoorTie.lean); close each card by the builder's one call (the guide's Derived/Test/ToyasCard.lean, 'card_holds'). Laid BY PROGRAM, IN A SANDBOX (cutbox-door.mjs). By AI agents, Wed Nov 11 2026. No macro, syntax, notation, axiom, sorry.
-/
import Derived.Test.YtaogfdffgdglkaaGreatDoorRows
import GoSem.ClaimSeven
namespace Go.Proofs.YtaogfdffgdglkaaGreatDoor
namespace Rows

/-- THE TIED CARD OF 'sigillarylaw17.BlockTells'. -/
def blockTellsCard : Claim7 := { stood := { row := blockTellsRow, standIns := [], harness := (true, "239fa5d19fe91f83808cead78acaafef1705ff92b6c18e6249bd261431786f88"), looks := true }, kinds := [], alts := [], laidByText := true, laidKinds := [.data, .data, .data, .data, .handle, .sentinel, .sentinel, .pinned], laidTests := true, laidLooks := .later }
def BlockTellsCardSaid : Prop := Claim7.holds Tryz.pinned (.plain (OpenSpec.ofChange blockTellsSpec)) blockTellsCard

/-- THE TIED CARD OF 'sigillarylaw17.BlockTexts'. -/
def blockTextsCard : Claim7 := { stood := { row := blockTextsRow, standIns := [], harness := (true, "239fa5d19fe91f83808cead78acaafef1705ff92b6c18e6249bd261431786f88"), looks := true }, kinds := [], alts := [], laidByText := true, laidKinds := [.data, .data, .data, .data, .handle, .sentinel, .sentinel, .pinned], laidTests := true, laidLooks := .later }
def BlockTextsCardSaid : Prop := Claim7.holds Tryz.pinned (.plain (OpenSpec.ofChange blockTextsSpec)) blockTextsCard

/-- THE TIED CARD OF 'sigillarylaw17.BlockMoves'. -/
def blockMovesCard : Claim7 := { stood := { row := blockMovesRow, standIns := [], harness := (true, "239fa5d19fe91f83808cead78acaafef1705ff92b6c18e6249bd261431786f88"), looks := true }, kinds := [], alts := [], laidByText := true, laidKinds := [.data, .data, .data, .data, .handle, .sentinel, .sentinel, .pinned], laidTests := true, laidLooks := .later }
def BlockMovesCardSaid : Prop := Claim7.holds Tryz.pinned (.plain (OpenSpec.ofChange blockMovesSpec)) blockMovesCard

/-- THE TIED CARD OF 'sigillarylaw17.BlockBelow'. -/
def blockBelowCard : Claim7 := { stood := { row := blockBelowRow, standIns := [], harness := (true, "239fa5d19fe91f83808cead78acaafef1705ff92b6c18e6249bd261431786f88"), looks := true }, kinds := [], alts := [], laidByText := true, laidKinds := [.data, .data, .data, .data, .handle, .sentinel, .sentinel, .pinned], laidTests := true, laidLooks := .later }
def BlockBelowCardSaid : Prop := Claim7.holds Tryz.pinned (.plain (OpenSpec.ofChange blockBelowSpec)) blockBelowCard

/-- THE TIED CARD OF 'sigillarylaw17.BlockOne'. -/
def blockOneCard : Claim7 := { stood := { row := blockOneRow, standIns := [], harness := (true, "239fa5d19fe91f83808cead78acaafef1705ff92b6c18e6249bd261431786f88"), looks := true }, kinds := [], alts := [], laidByText := true, laidKinds := [.data, .data, .data, .data, .handle, .sentinel, .sentinel, .pinned], laidTests := true, laidLooks := .later }
def BlockOneCardSaid : Prop := Claim7.holds Tryz.pinned (.plain (OpenSpec.ofChange blockOneSpec)) blockOneCard

/-- THE TIED CARD OF 'sigillarylaw17.BlockItems'. -/
def blockItemsCard : Claim7 := { stood := { row := blockItemsRow, standIns := [], harness := (true, "239fa5d19fe91f83808cead78acaafef1705ff92b6c18e6249bd261431786f88"), looks := true }, kinds := [], alts := [], laidByText := true, laidKinds := [.data, .data, .data, .data, .handle, .sentinel, .sentinel, .pinned], laidTests := true, laidLooks := .later }
def BlockItemsCardSaid : Prop := Claim7.holds Tryz.pinned (.plain (OpenSpec.ofChange blockItemsSpec)) blockItemsCard

/-- THE TIED CARD OF 'sigillarylaw17.BlockPairs'. -/
def blockPairsCard : Claim7 := { stood := { row := blockPairsRow, standIns := [], harness := (true, "239fa5d19fe91f83808cead78acaafef1705ff92b6c18e6249bd261431786f88"), looks := true }, kinds := [], alts := [], laidByText := true, laidKinds := [.data, .data, .data, .data, .handle, .sentinel, .sentinel, .pinned], laidTests := true, laidLooks := .later }
def BlockPairsCardSaid : Prop := Claim7.holds Tryz.pinned (.plain (OpenSpec.ofChange blockPairsSpec)) blockPairsCard

/-- THE SECOND FORM's CARD OF 'sigillarylaw17.BlockTells'. -/
def blockTellsUptoCard : Claim7 := { stood := { row := blockTellsUptoRow, standIns := [], harness := (true, "239fa5d19fe91f83808cead78acaafef1705ff92b6c18e6249bd261431786f88"), looks := true }, kinds := [], alts := [], laidByText := true, laidKinds := [.data, .data, .data, .data, .handle, .sentinel, .sentinel, .pinned], laidTests := true, laidLooks := .later }
def BlockTellsUptoCardSaid : Prop := Claim7.holds Tryz.pinned (.plain (OpenSpec.upto blockTellsSpec)) blockTellsUptoCard

/-- THE SECOND FORM's CARD OF 'sigillarylaw17.BlockTexts'. -/
def blockTextsUptoCard : Claim7 := { stood := { row := blockTextsUptoRow, standIns := [], harness := (true, "239fa5d19fe91f83808cead78acaafef1705ff92b6c18e6249bd261431786f88"), looks := true }, kinds := [], alts := [], laidByText := true, laidKinds := [.data, .data, .data, .data, .handle, .sentinel, .sentinel, .pinned], laidTests := true, laidLooks := .later }
def BlockTextsUptoCardSaid : Prop := Claim7.holds Tryz.pinned (.plain (OpenSpec.upto blockTextsSpec)) blockTextsUptoCard

/-- THE SECOND FORM's CARD OF 'sigillarylaw17.BlockMoves'. -/
def blockMovesUptoCard : Claim7 := { stood := { row := blockMovesUptoRow, standIns := [], harness := (true, "239fa5d19fe91f83808cead78acaafef1705ff92b6c18e6249bd261431786f88"), looks := true }, kinds := [], alts := [], laidByText := true, laidKinds := [.data, .data, .data, .data, .handle, .sentinel, .sentinel, .pinned], laidTests := true, laidLooks := .later }
def BlockMovesUptoCardSaid : Prop := Claim7.holds Tryz.pinned (.plain (OpenSpec.upto blockMovesSpec)) blockMovesUptoCard

/-- THE SECOND FORM's CARD OF 'sigillarylaw17.BlockBelow'. -/
def blockBelowUptoCard : Claim7 := { stood := { row := blockBelowUptoRow, standIns := [], harness := (true, "239fa5d19fe91f83808cead78acaafef1705ff92b6c18e6249bd261431786f88"), looks := true }, kinds := [], alts := [], laidByText := true, laidKinds := [.data, .data, .data, .data, .handle, .sentinel, .sentinel, .pinned], laidTests := true, laidLooks := .later }
def BlockBelowUptoCardSaid : Prop := Claim7.holds Tryz.pinned (.plain (OpenSpec.upto blockBelowSpec)) blockBelowUptoCard

/-- THE SECOND FORM's CARD OF 'sigillarylaw17.BlockOne'. -/
def blockOneUptoCard : Claim7 := { stood := { row := blockOneUptoRow, standIns := [], harness := (true, "239fa5d19fe91f83808cead78acaafef1705ff92b6c18e6249bd261431786f88"), looks := true }, kinds := [], alts := [], laidByText := true, laidKinds := [.data, .data, .data, .data, .handle, .sentinel, .sentinel, .pinned], laidTests := true, laidLooks := .later }
def BlockOneUptoCardSaid : Prop := Claim7.holds Tryz.pinned (.plain (OpenSpec.upto blockOneSpec)) blockOneUptoCard

/-- THE SECOND FORM's CARD OF 'sigillarylaw17.BlockItems'. -/
def blockItemsUptoCard : Claim7 := { stood := { row := blockItemsUptoRow, standIns := [], harness := (true, "239fa5d19fe91f83808cead78acaafef1705ff92b6c18e6249bd261431786f88"), looks := true }, kinds := [], alts := [], laidByText := true, laidKinds := [.data, .data, .data, .data, .handle, .sentinel, .sentinel, .pinned], laidTests := true, laidLooks := .later }
def BlockItemsUptoCardSaid : Prop := Claim7.holds Tryz.pinned (.plain (OpenSpec.upto blockItemsSpec)) blockItemsUptoCard

/-- THE SECOND FORM's CARD OF 'sigillarylaw17.BlockPairs'. -/
def blockPairsUptoCard : Claim7 := { stood := { row := blockPairsUptoRow, standIns := [], harness := (true, "239fa5d19fe91f83808cead78acaafef1705ff92b6c18e6249bd261431786f88"), looks := true }, kinds := [], alts := [], laidByText := true, laidKinds := [.data, .data, .data, .data, .handle, .sentinel, .sentinel, .pinned], laidTests := true, laidLooks := .later }
def BlockPairsUptoCardSaid : Prop := Claim7.holds Tryz.pinned (.plain (OpenSpec.upto blockPairsSpec)) blockPairsUptoCard
end Rows
end Go.Proofs.YtaogfdffgdglkaaGreatDoor
