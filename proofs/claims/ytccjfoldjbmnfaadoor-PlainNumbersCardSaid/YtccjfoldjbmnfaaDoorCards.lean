/-
  DERIVED. GIVEN WITH THE SEED: THE CARDS: each row of YtccjfoldjbmnfaaDoorRows.lean that lists a variable, with what it lists TIED to the program's text (the seventh form; the later family's looks); each row that meets fmt, with fmt's text TOLD by the authors' own Lean function (tested against real Go, not proved from fmt's source: count such statements apart). THE CARD IS WHAT COUNTS. Prove the row's statement (the work); the ties are given (YtccjfoldjbmnfaaDoorTie.lean); close each card by the builder's one call (the guide's Derived/Test/ToyasCard.lean, 'card_holds'). Laid BY PROGRAM, IN A SANDBOX (cutbox-door.mjs). By AI agents, Wed Nov 11 2026. No macro, syntax, notation, axiom, sorry.
-/
import Derived.Test.YtccjfoldjbmnfaaDoorRows
import GoSem.ClaimSeven
namespace Go.Proofs.YtccjfoldjbmnfaaDoor
namespace Rows

/-- THE TIED CARD OF 'sigillarylaw05.PlainTells'. -/
def plainTellsCard : Claim7 := { stood := { row := plainTellsRow, standIns := [], harness := (true, "df76bab961bc23e7a6db4e4448f02738ac558db442074cf606bfd6aa4fd45e2f"), looks := true }, kinds := [], alts := [], laidByText := true, laidKinds := [.data, .data, .data, .data, .sentinel, .sentinel, .pinned], laidTests := true, laidLooks := .later }
def PlainTellsCardSaid : Prop := Claim7.holds Tryd.pinned (.plain (OpenSpec.ofChange plainTellsSpec)) plainTellsCard

/-- THE TIED CARD OF 'sigillarylaw05.PlainRight'. -/
def plainRightCard : Claim7 := { stood := { row := plainRightRow, standIns := [], harness := (true, "df76bab961bc23e7a6db4e4448f02738ac558db442074cf606bfd6aa4fd45e2f"), looks := true }, kinds := [], alts := [], laidByText := true, laidKinds := [.data, .data, .data, .data, .sentinel, .sentinel, .pinned], laidTests := true, laidLooks := .later }
def PlainRightCardSaid : Prop := Claim7.holds Tryd.pinned (.plain (OpenSpec.ofChange plainRightSpec)) plainRightCard

/-- THE TIED CARD OF 'sigillarylaw05.PlainNumbers'. -/
def plainNumbersCard : Claim7 := { stood := { row := plainNumbersRow, standIns := [], harness := (true, "df76bab961bc23e7a6db4e4448f02738ac558db442074cf606bfd6aa4fd45e2f"), looks := true }, kinds := [], alts := [], laidByText := true, laidKinds := [.data, .data, .data, .data, .sentinel, .sentinel, .pinned], laidTests := true, laidLooks := .later }
def PlainNumbersCardSaid : Prop := Claim7.holds Tryd.pinned (.plain (OpenSpec.ofChange plainNumbersSpec)) plainNumbersCard

/-- THE TIED CARD OF 'sigillarylaw05.PlainWords'. -/
def plainWordsCard : Claim7 := { stood := { row := plainWordsRow, standIns := [], harness := (true, "df76bab961bc23e7a6db4e4448f02738ac558db442074cf606bfd6aa4fd45e2f"), looks := true }, kinds := [], alts := [], laidByText := true, laidKinds := [.data, .data, .data, .data, .sentinel, .sentinel, .pinned], laidTests := true, laidLooks := .later }
def PlainWordsCardSaid : Prop := Claim7.holds Tryd.pinned (.plain (OpenSpec.ofChange plainWordsSpec)) plainWordsCard

/-- THE TIED CARD OF 'sigillarylaw05.PlainFlows'. -/
def plainFlowsCard : Claim7 := { stood := { row := plainFlowsRow, standIns := [], harness := (true, "df76bab961bc23e7a6db4e4448f02738ac558db442074cf606bfd6aa4fd45e2f"), looks := true }, kinds := [], alts := [], laidByText := true, laidKinds := [.data, .data, .data, .data, .sentinel, .sentinel, .pinned], laidTests := true, laidLooks := .later }
def PlainFlowsCardSaid : Prop := Claim7.holds Tryd.pinned (.plain (OpenSpec.ofChange plainFlowsSpec)) plainFlowsCard

/-- THE SECOND FORM's CARD OF 'sigillarylaw05.PlainTells'. -/
def plainTellsUptoCard : Claim7 := { stood := { row := plainTellsUptoRow, standIns := [], harness := (true, "df76bab961bc23e7a6db4e4448f02738ac558db442074cf606bfd6aa4fd45e2f"), looks := true }, kinds := [], alts := [], laidByText := true, laidKinds := [.data, .data, .data, .data, .sentinel, .sentinel, .pinned], laidTests := true, laidLooks := .later }
def PlainTellsUptoCardSaid : Prop := Claim7.holds Tryd.pinned (.plain (OpenSpec.upto plainTellsSpec)) plainTellsUptoCard

/-- THE SECOND FORM's CARD OF 'sigillarylaw05.PlainRight'. -/
def plainRightUptoCard : Claim7 := { stood := { row := plainRightUptoRow, standIns := [], harness := (true, "df76bab961bc23e7a6db4e4448f02738ac558db442074cf606bfd6aa4fd45e2f"), looks := true }, kinds := [], alts := [], laidByText := true, laidKinds := [.data, .data, .data, .data, .sentinel, .sentinel, .pinned], laidTests := true, laidLooks := .later }
def PlainRightUptoCardSaid : Prop := Claim7.holds Tryd.pinned (.plain (OpenSpec.upto plainRightSpec)) plainRightUptoCard

/-- THE SECOND FORM's CARD OF 'sigillarylaw05.PlainNumbers'. -/
def plainNumbersUptoCard : Claim7 := { stood := { row := plainNumbersUptoRow, standIns := [], harness := (true, "df76bab961bc23e7a6db4e4448f02738ac558db442074cf606bfd6aa4fd45e2f"), looks := true }, kinds := [], alts := [], laidByText := true, laidKinds := [.data, .data, .data, .data, .sentinel, .sentinel, .pinned], laidTests := true, laidLooks := .later }
def PlainNumbersUptoCardSaid : Prop := Claim7.holds Tryd.pinned (.plain (OpenSpec.upto plainNumbersSpec)) plainNumbersUptoCard

/-- THE SECOND FORM's CARD OF 'sigillarylaw05.PlainWords'. -/
def plainWordsUptoCard : Claim7 := { stood := { row := plainWordsUptoRow, standIns := [], harness := (true, "df76bab961bc23e7a6db4e4448f02738ac558db442074cf606bfd6aa4fd45e2f"), looks := true }, kinds := [], alts := [], laidByText := true, laidKinds := [.data, .data, .data, .data, .sentinel, .sentinel, .pinned], laidTests := true, laidLooks := .later }
def PlainWordsUptoCardSaid : Prop := Claim7.holds Tryd.pinned (.plain (OpenSpec.upto plainWordsSpec)) plainWordsUptoCard

/-- THE SECOND FORM's CARD OF 'sigillarylaw05.PlainFlows'. -/
def plainFlowsUptoCard : Claim7 := { stood := { row := plainFlowsUptoRow, standIns := [], harness := (true, "df76bab961bc23e7a6db4e4448f02738ac558db442074cf606bfd6aa4fd45e2f"), looks := true }, kinds := [], alts := [], laidByText := true, laidKinds := [.data, .data, .data, .data, .sentinel, .sentinel, .pinned], laidTests := true, laidLooks := .later }
def PlainFlowsUptoCardSaid : Prop := Claim7.holds Tryd.pinned (.plain (OpenSpec.upto plainFlowsSpec)) plainFlowsUptoCard
end Rows
end Go.Proofs.YtccjfoldjbmnfaaDoor
