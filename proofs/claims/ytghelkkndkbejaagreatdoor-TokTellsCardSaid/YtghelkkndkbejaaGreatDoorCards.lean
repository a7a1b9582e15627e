/-
  DERIVED. GIVEN WITH THE SEED: THE CARDS: each row of YtghelkkndkbejaaGreatDoorRows.lean that lists a variable, with what it lists TIED to the program's text (the seventh form; the later family's looks); each row that meets fmt, with fmt's text TOLD by the authors' own Lean function (tested against real Go, not proved from fmt's source: count such statements apart). THE CARD IS WHAT COUNTS. Prove the row's statement (the work); the ties are given (YtghelkkndkbejaaGreatDoorTie.lean); close each card by the builder's one call (the guide's Derived/Test/ToyasCard.lean, 'card_holds'). Laid BY PROGRAM, IN A SANDBOX (cutbox-door.mjs). By AI agents, Wed Nov 11 2026. No macro, syntax, notation, axiom, sorry.
-/
import Derived.Test.YtghelkkndkbejaaGreatDoorRows
import GoSem.ClaimSeven
namespace Go.Proofs.YtghelkkndkbejaaGreatDoor
namespace Rows

/-- THE TIED CARD OF 'sigillarylaw15.TokTells'. -/
def tokTellsCard : Claim7 := { stood := { row := tokTellsRow, standIns := [], harness := (true, "25a6bd43796f3f58394fe6f9f1ca8fe3dfab650db5ec038590ca94a78bd97f47"), looks := true }, kinds := [], alts := [], laidByText := true, laidKinds := [.data, .data, .data, .data, .handle, .sentinel, .sentinel, .pinned], laidTests := true, laidLooks := .later }
def TokTellsCardSaid : Prop := Claim7.holds Tryz.pinned (.plain (OpenSpec.ofChange tokTellsSpec)) tokTellsCard

/-- THE TIED CARD OF 'sigillarylaw15.TokRise'. -/
def tokRiseCard : Claim7 := { stood := { row := tokRiseRow, standIns := [], harness := (true, "25a6bd43796f3f58394fe6f9f1ca8fe3dfab650db5ec038590ca94a78bd97f47"), looks := true }, kinds := [], alts := [], laidByText := true, laidKinds := [.data, .data, .data, .data, .handle, .sentinel, .sentinel, .pinned], laidTests := true, laidLooks := .later }
def TokRiseCardSaid : Prop := Claim7.holds Tryz.pinned (.plain (OpenSpec.ofChange tokRiseSpec)) tokRiseCard

/-- THE TIED CARD OF 'sigillarylaw15.TokMoves'. -/
def tokMovesCard : Claim7 := { stood := { row := tokMovesRow, standIns := [], harness := (true, "25a6bd43796f3f58394fe6f9f1ca8fe3dfab650db5ec038590ca94a78bd97f47"), looks := true }, kinds := [], alts := [], laidByText := true, laidKinds := [.data, .data, .data, .data, .handle, .sentinel, .sentinel, .pinned], laidTests := true, laidLooks := .later }
def TokMovesCardSaid : Prop := Claim7.holds Tryz.pinned (.plain (OpenSpec.ofChange tokMovesSpec)) tokMovesCard

/-- THE TIED CARD OF 'sigillarylaw15.TokNotes'. -/
def tokNotesCard : Claim7 := { stood := { row := tokNotesRow, standIns := [], harness := (true, "25a6bd43796f3f58394fe6f9f1ca8fe3dfab650db5ec038590ca94a78bd97f47"), looks := true }, kinds := [], alts := [], laidByText := true, laidKinds := [.data, .data, .data, .data, .handle, .sentinel, .sentinel, .pinned], laidTests := true, laidLooks := .later }
def TokNotesCardSaid : Prop := Claim7.holds Tryz.pinned (.plain (OpenSpec.ofChange tokNotesSpec)) tokNotesCard

/-- THE TIED CARD OF 'sigillarylaw15.TokNames'. -/
def tokNamesCard : Claim7 := { stood := { row := tokNamesRow, standIns := [], harness := (true, "25a6bd43796f3f58394fe6f9f1ca8fe3dfab650db5ec038590ca94a78bd97f47"), looks := true }, kinds := [], alts := [], laidByText := true, laidKinds := [.data, .data, .data, .data, .handle, .sentinel, .sentinel, .pinned], laidTests := true, laidLooks := .later }
def TokNamesCardSaid : Prop := Claim7.holds Tryz.pinned (.plain (OpenSpec.ofChange tokNamesSpec)) tokNamesCard

/-- THE TIED CARD OF 'sigillarylaw15.TokPlains'. -/
def tokPlainsCard : Claim7 := { stood := { row := tokPlainsRow, standIns := [], harness := (true, "25a6bd43796f3f58394fe6f9f1ca8fe3dfab650db5ec038590ca94a78bd97f47"), looks := true }, kinds := [], alts := [], laidByText := true, laidKinds := [.data, .data, .data, .data, .handle, .sentinel, .sentinel, .pinned], laidTests := true, laidLooks := .later }
def TokPlainsCardSaid : Prop := Claim7.holds Tryz.pinned (.plain (OpenSpec.ofChange tokPlainsSpec)) tokPlainsCard

/-- THE TIED CARD OF 'sigillarylaw15.TokQuotes'. -/
def tokQuotesCard : Claim7 := { stood := { row := tokQuotesRow, standIns := [], harness := (true, "25a6bd43796f3f58394fe6f9f1ca8fe3dfab650db5ec038590ca94a78bd97f47"), looks := true }, kinds := [], alts := [], laidByText := true, laidKinds := [.data, .data, .data, .data, .handle, .sentinel, .sentinel, .pinned], laidTests := true, laidLooks := .later }
def TokQuotesCardSaid : Prop := Claim7.holds Tryz.pinned (.plain (OpenSpec.ofChange tokQuotesSpec)) tokQuotesCard

/-- THE SECOND FORM's CARD OF 'sigillarylaw15.TokTells'. -/
def tokTellsUptoCard : Claim7 := { stood := { row := tokTellsUptoRow, standIns := [], harness := (true, "25a6bd43796f3f58394fe6f9f1ca8fe3dfab650db5ec038590ca94a78bd97f47"), looks := true }, kinds := [], alts := [], laidByText := true, laidKinds := [.data, .data, .data, .data, .handle, .sentinel, .sentinel, .pinned], laidTests := true, laidLooks := .later }
def TokTellsUptoCardSaid : Prop := Claim7.holds Tryz.pinned (.plain (OpenSpec.upto tokTellsSpec)) tokTellsUptoCard

/-- THE SECOND FORM's CARD OF 'sigillarylaw15.TokRise'. -/
def tokRiseUptoCard : Claim7 := { stood := { row := tokRiseUptoRow, standIns := [], harness := (true, "25a6bd43796f3f58394fe6f9f1ca8fe3dfab650db5ec038590ca94a78bd97f47"), looks := true }, kinds := [], alts := [], laidByText := true, laidKinds := [.data, .data, .data, .data, .handle, .sentinel, .sentinel, .pinned], laidTests := true, laidLooks := .later }
def TokRiseUptoCardSaid : Prop := Claim7.holds Tryz.pinned (.plain (OpenSpec.upto tokRiseSpec)) tokRiseUptoCard

/-- THE SECOND FORM's CARD OF 'sigillarylaw15.TokMoves'. -/
def tokMovesUptoCard : Claim7 := { stood := { row := tokMovesUptoRow, standIns := [], harness := (true, "25a6bd43796f3f58394fe6f9f1ca8fe3dfab650db5ec038590ca94a78bd97f47"), looks := true }, kinds := [], alts := [], laidByText := true, laidKinds := [.data, .data, .data, .data, .handle, .sentinel, .sentinel, .pinned], laidTests := true, laidLooks := .later }
def TokMovesUptoCardSaid : Prop := Claim7.holds Tryz.pinned (.plain (OpenSpec.upto tokMovesSpec)) tokMovesUptoCard

/-- THE SECOND FORM's CARD OF 'sigillarylaw15.TokNotes'. -/
def tokNotesUptoCard : Claim7 := { stood := { row := tokNotesUptoRow, standIns := [], harness := (true, "25a6bd43796f3f58394fe6f9f1ca8fe3dfab650db5ec038590ca94a78bd97f47"), looks := true }, kinds := [], alts := [], laidByText := true, laidKinds := [.data, .data, .data, .data, .handle, .sentinel, .sentinel, .pinned], laidTests := true, laidLooks := .later }
def TokNotesUptoCardSaid : Prop := Claim7.holds Tryz.pinned (.plain (OpenSpec.upto tokNotesSpec)) tokNotesUptoCard

/-- THE SECOND FORM's CARD OF 'sigillarylaw15.TokNames'. -/
def tokNamesUptoCard : Claim7 := { stood := { row := tokNamesUptoRow, standIns := [], harness := (true, "25a6bd43796f3f58394fe6f9f1ca8fe3dfab650db5ec038590ca94a78bd97f47"), looks := true }, kinds := [], alts := [], laidByText := true, laidKinds := [.data, .data, .data, .data, .handle, .sentinel, .sentinel, .pinned], laidTests := true, laidLooks := .later }
def TokNamesUptoCardSaid : Prop := Claim7.holds Tryz.pinned (.plain (OpenSpec.upto tokNamesSpec)) tokNamesUptoCard

/-- THE SECOND FORM's CARD OF 'sigillarylaw15.TokPlains'. -/
def tokPlainsUptoCard : Claim7 := { stood := { row := tokPlainsUptoRow, standIns := [], harness := (true, "25a6bd43796f3f58394fe6f9f1ca8fe3dfab650db5ec038590ca94a78bd97f47"), looks := true }, kinds := [], alts := [], laidByText := true, laidKinds := [.data, .data, .data, .data, .handle, .sentinel, .sentinel, .pinned], laidTests := true, laidLooks := .later }
def TokPlainsUptoCardSaid : Prop := Claim7.holds Tryz.pinned (.plain (OpenSpec.upto tokPlainsSpec)) tokPlainsUptoCard

/-- THE SECOND FORM's CARD OF 'sigillarylaw15.TokQuotes'. -/
def tokQuotesUptoCard : Claim7 := { stood := { row := tokQuotesUptoRow, standIns := [], harness := (true, "25a6bd43796f3f58394fe6f9f1ca8fe3dfab650db5ec038590ca94a78bd97f47"), looks := true }, kinds := [], alts := [], laidByText := true, laidKinds := [.data, .data, .data, .data, .handle, .sentinel, .sentinel, .pinned], laidTests := true, laidLooks := .later }
def TokQuotesUptoCardSaid : Prop := Claim7.holds Tryz.pinned (.plain (OpenSpec.upto tokQuotesSpec)) tokQuotesUptoCard
end Rows
end Go.Proofs.YtghelkkndkbejaaGreatDoor
