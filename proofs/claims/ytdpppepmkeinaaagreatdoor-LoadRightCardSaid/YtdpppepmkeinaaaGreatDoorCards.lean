/-
  DERIVED. GIVEN WITH THE SEED: THE CARDS: each row of YtdpppepmkeinaaaGreatDoorRows.lean that lists a variable, with what it lists TIED to the program's text (the seventh form; the later family's looks); each row that meets fmt, with fmt's text TOLD by the authors' own Lean function (tested against real Go, not proved from fmt's source: count such statements apart). THE CARD IS WHAT COUNTS. Prove the row's statement (the work); the ties are given (YtdpppepmkeinaaaGreatDoorTie.lean); close each card by the builder's one call (the guide's Derived/Test/ToyasCard.lean, 'card_holds'). Laid BY PROGRAM, IN A SANDBOX (cutbox-door.mjs). By AI agents, Wed Nov 11 2026. No macro, syntax, notation, axiom, sorry.
-/
import Derived.Test.YtdpppepmkeinaaaGreatDoorRows
import GoSem.ClaimSeven
namespace Go.Proofs.YtdpppepmkeinaaaGreatDoor
namespace Rows

/-- THE TIED CARD OF 'sigillarylaw19.LoadNotes'. -/
def loadNotesCard : Claim7 := { stood := { row := loadNotesRow, standIns := [], harness := (true, "cfc74d912061bb176694fef6f78bba40aeddb6d7abb3b9a8a91b69ed22c166cb"), looks := true }, kinds := [], alts := [], laidByText := true, laidKinds := [.data, .data, .data, .data, .handle, .sentinel, .sentinel, .sentinel, .pinned], laidTests := true, laidLooks := .later }
def LoadNotesCardSaid : Prop := Claim7.holds Tryz.pinned (.plain (OpenSpec.ofChange loadNotesSpec)) loadNotesCard

/-- THE TIED CARD OF 'sigillarylaw19.LoadMoves'. -/
def loadMovesCard : Claim7 := { stood := { row := loadMovesRow, standIns := [], harness := (true, "cfc74d912061bb176694fef6f78bba40aeddb6d7abb3b9a8a91b69ed22c166cb"), looks := true }, kinds := [], alts := [], laidByText := true, laidKinds := [.data, .data, .data, .data, .handle, .sentinel, .sentinel, .sentinel, .pinned], laidTests := true, laidLooks := .later }
def LoadMovesCardSaid : Prop := Claim7.holds Tryz.pinned (.plain (OpenSpec.ofChange loadMovesSpec)) loadMovesCard

/-- THE TIED CARD OF 'sigillarylaw19.LoadQuotes'. -/
def loadQuotesCard : Claim7 := { stood := { row := loadQuotesRow, standIns := [], harness := (true, "cfc74d912061bb176694fef6f78bba40aeddb6d7abb3b9a8a91b69ed22c166cb"), looks := true }, kinds := [], alts := [], laidByText := true, laidKinds := [.data, .data, .data, .data, .handle, .sentinel, .sentinel, .sentinel, .pinned], laidTests := true, laidLooks := .later }
def LoadQuotesCardSaid : Prop := Claim7.holds Tryz.pinned (.plain (OpenSpec.ofChange loadQuotesSpec)) loadQuotesCard

/-- THE TIED CARD OF 'sigillarylaw19.LoadOrder'. -/
def loadOrderCard : Claim7 := { stood := { row := loadOrderRow, standIns := [], harness := (true, "cfc74d912061bb176694fef6f78bba40aeddb6d7abb3b9a8a91b69ed22c166cb"), looks := true }, kinds := [], alts := [], laidByText := true, laidKinds := [.data, .data, .data, .data, .handle, .sentinel, .sentinel, .sentinel, .pinned], laidTests := true, laidLooks := .later }
def LoadOrderCardSaid : Prop := Claim7.holds Tryz.pinned (.plain (OpenSpec.ofChange loadOrderSpec)) loadOrderCard

/-- THE TIED CARD OF 'sigillarylaw19.LoadAliases'. -/
def loadAliasesCard : Claim7 := { stood := { row := loadAliasesRow, standIns := [], harness := (true, "cfc74d912061bb176694fef6f78bba40aeddb6d7abb3b9a8a91b69ed22c166cb"), looks := true }, kinds := [], alts := [], laidByText := true, laidKinds := [.data, .data, .data, .data, .handle, .sentinel, .sentinel, .sentinel, .pinned], laidTests := true, laidLooks := .later }
def LoadAliasesCardSaid : Prop := Claim7.holds Tryz.pinned (.plain (OpenSpec.ofChange loadAliasesSpec)) loadAliasesCard

/-- THE TIED CARD OF 'sigillarylaw19.LoadTwice'. -/
def loadTwiceCard : Claim7 := { stood := { row := loadTwiceRow, standIns := [], harness := (true, "cfc74d912061bb176694fef6f78bba40aeddb6d7abb3b9a8a91b69ed22c166cb"), looks := true }, kinds := [], alts := [], laidByText := true, laidKinds := [.data, .data, .data, .data, .handle, .sentinel, .sentinel, .sentinel, .pinned], laidTests := true, laidLooks := .later }
def LoadTwiceCardSaid : Prop := Claim7.holds Tryz.pinned (.plain (OpenSpec.ofChange loadTwiceSpec)) loadTwiceCard

/-- THE TIED CARD OF 'sigillarylaw19.LoadPlains'. -/
def loadPlainsCard : Claim7 := { stood := { row := loadPlainsRow, standIns := [], harness := (true, "cfc74d912061bb176694fef6f78bba40aeddb6d7abb3b9a8a91b69ed22c166cb"), looks := true }, kinds := [], alts := [], laidByText := true, laidKinds := [.data, .data, .data, .data, .handle, .sentinel, .sentinel, .sentinel, .pinned], laidTests := true, laidLooks := .later }
def LoadPlainsCardSaid : Prop := Claim7.holds Tryz.pinned (.plain (OpenSpec.ofChange loadPlainsSpec)) loadPlainsCard

/-- THE TIED CARD OF 'sigillarylaw19.LoadRight'. -/
def loadRightCard : Claim7 := { stood := { row := loadRightRow, standIns := [], harness := (true, "cfc74d912061bb176694fef6f78bba40aeddb6d7abb3b9a8a91b69ed22c166cb"), looks := true }, kinds := [], alts := [], laidByText := true, laidKinds := [.data, .data, .data, .data, .handle, .sentinel, .sentinel, .sentinel, .pinned], laidTests := true, laidLooks := .later }
def LoadRightCardSaid : Prop := Claim7.holds Tryz.pinned (.plain (OpenSpec.ofChange loadRightSpec)) loadRightCard

/-- THE SECOND FORM's CARD OF 'sigillarylaw19.LoadNotes'. -/
def loadNotesUptoCard : Claim7 := { stood := { row := loadNotesUptoRow, standIns := [], harness := (true, "cfc74d912061bb176694fef6f78bba40aeddb6d7abb3b9a8a91b69ed22c166cb"), looks := true }, kinds := [], alts := [], laidByText := true, laidKinds := [.data, .data, .data, .data, .handle, .sentinel, .sentinel, .sentinel, .pinned], laidTests := true, laidLooks := .later }
def LoadNotesUptoCardSaid : Prop := Claim7.holds Tryz.pinned (.plain (OpenSpec.upto loadNotesSpec)) loadNotesUptoCard

/-- THE SECOND FORM's CARD OF 'sigillarylaw19.LoadMoves'. -/
def loadMovesUptoCard : Claim7 := { stood := { row := loadMovesUptoRow, standIns := [], harness := (true, "cfc74d912061bb176694fef6f78bba40aeddb6d7abb3b9a8a91b69ed22c166cb"), looks := true }, kinds := [], alts := [], laidByText := true, laidKinds := [.data, .data, .data, .data, .handle, .sentinel, .sentinel, .sentinel, .pinned], laidTests := true, laidLooks := .later }
def LoadMovesUptoCardSaid : Prop := Claim7.holds Tryz.pinned (.plain (OpenSpec.upto loadMovesSpec)) loadMovesUptoCard

/-- THE SECOND FORM's CARD OF 'sigillarylaw19.LoadQuotes'. -/
def loadQuotesUptoCard : Claim7 := { stood := { row := loadQuotesUptoRow, standIns := [], harness := (true, "cfc74d912061bb176694fef6f78bba40aeddb6d7abb3b9a8a91b69ed22c166cb"), looks := true }, kinds := [], alts := [], laidByText := true, laidKinds := [.data, .data, .data, .data, .handle, .sentinel, .sentinel, .sentinel, .pinned], laidTests := true, laidLooks := .later }
def LoadQuotesUptoCardSaid : Prop := Claim7.holds Tryz.pinned (.plain (OpenSpec.upto loadQuotesSpec)) loadQuotesUptoCard

/-- THE SECOND FORM's CARD OF 'sigillarylaw19.LoadOrder'. -/
def loadOrderUptoCard : Claim7 := { stood := { row := loadOrderUptoRow, standIns := [], harness := (true, "cfc74d912061bb176694fef6f78bba40aeddb6d7abb3b9a8a91b69ed22c166cb"), looks := true }, kinds := [], alts := [], laidByText := true, laidKinds := [.data, .data, .data, .data, .handle, .sentinel, .sentinel, .sentinel, .pinned], laidTests := true, laidLooks := .later }
def LoadOrderUptoCardSaid : Prop := Claim7.holds Tryz.pinned (.plain (OpenSpec.upto loadOrderSpec)) loadOrderUptoCard

/-- THE SECOND FORM's CARD OF 'sigillarylaw19.LoadAliases'. -/
def loadAliasesUptoCard : Claim7 := { stood := { row := loadAliasesUptoRow, standIns := [], harness := (true, "cfc74d912061bb176694fef6f78bba40aeddb6d7abb3b9a8a91b69ed22c166cb"), looks := true }, kinds := [], alts := [], laidByText := true, laidKinds := [.data, .data, .data, .data, .handle, .sentinel, .sentinel, .sentinel, .pinned], laidTests := true, laidLooks := .later }
def LoadAliasesUptoCardSaid : Prop := Claim7.holds Tryz.pinned (.plain (OpenSpec.upto loadAliasesSpec)) loadAliasesUptoCard

/-- THE SECOND FORM's CARD OF 'sigillarylaw19.LoadTwice'. -/
def loadTwiceUptoCard : Claim7 := { stood := { row := loadTwiceUptoRow, standIns := [], harness := (true, "cfc74d912061bb176694fef6f78bba40aeddb6d7abb3b9a8a91b69ed22c166cb"), looks := true }, kinds := [], alts := [], laidByText := true, laidKinds := [.data, .data, .data, .data, .handle, .sentinel, .sentinel, .sentinel, .pinned], laidTests := true, laidLooks := .later }
def LoadTwiceUptoCardSaid : Prop := Claim7.holds Tryz.pinned (.plain (OpenSpec.upto loadTwiceSpec)) loadTwiceUptoCard

/-- THE SECOND FORM's CARD OF 'sigillarylaw19.LoadPlains'. -/
def loadPlainsUptoCard : Claim7 := { stood := { row := loadPlainsUptoRow, standIns := [], harness := (true, "cfc74d912061bb176694fef6f78bba40aeddb6d7abb3b9a8a91b69ed22c166cb"), looks := true }, kinds := [], alts := [], laidByText := true, laidKinds := [.data, .data, .data, .data, .handle, .sentinel, .sentinel, .sentinel, .pinned], laidTests := true, laidLooks := .later }
def LoadPlainsUptoCardSaid : Prop := Claim7.holds Tryz.pinned (.plain (OpenSpec.upto loadPlainsSpec)) loadPlainsUptoCard

/-- THE SECOND FORM's CARD OF 'sigillarylaw19.LoadRight'. -/
def loadRightUptoCard : Claim7 := { stood := { row := loadRightUptoRow, standIns := [], harness := (true, "cfc74d912061bb176694fef6f78bba40aeddb6d7abb3b9a8a91b69ed22c166cb"), looks := true }, kinds := [], alts := [], laidByText := true, laidKinds := [.data, .data, .data, .data, .handle, .sentinel, .sentinel, .sentinel, .pinned], laidTests := true, laidLooks := .later }
def LoadRightUptoCardSaid : Prop := Claim7.holds Tryz.pinned (.plain (OpenSpec.upto loadRightSpec)) loadRightUptoCard
end Rows
end Go.Proofs.YtdpppepmkeinaaaGreatDoor
