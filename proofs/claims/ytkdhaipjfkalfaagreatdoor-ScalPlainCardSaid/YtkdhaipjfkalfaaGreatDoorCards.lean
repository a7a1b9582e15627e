/-
  DERIVED. GIVEN WITH THE SEED: THE CARDS: each row of YtkdhaipjfkalfaaGreatDoorRows.lean that lists a variable, with what it lists TIED to the program's text (the seventh form; the later family's looks); each row that meets fmt, with fmt's text TOLD by the authors' own Lean function (tested against real Go, not proved from fmt's source: count such statements apart). THE CARD IS WHAT COUNTS. Prove the row's statement (the work); the ties are given (YtkdhaipjfkalfaaGreatDoorTie.lean); close each card by the builder's one call (the guide's Derived/Test/ToyasCard.lean, 'card_holds'). Laid BY PROGRAM, IN A SANDBOX (cutbox-door.mjs). By AI agents, Wed Nov 11 2026. No macro, syntax, notation, axiom, sorry.
-/
import Derived.Test.YtkdhaipjfkalfaaGreatDoorRows
import GoSem.ClaimSeven
namespace Go.Proofs.YtkdhaipjfkalfaaGreatDoor
namespace Rows

/-- THE TIED CARD OF 'sigillarylaw06.ScalTells'. -/
def scalTellsCard : Claim7 := { stood := { row := scalTellsRow, standIns := [], harness := (true, "f6a845747d4d85d8dd68d0a8e218b75c49a546c120cc2ddad56bf40591370ef1"), looks := true }, kinds := [], alts := [], laidByText := true, laidKinds := [.data, .data, .data, .data, .sentinel, .sentinel, .pinned], laidTests := true, laidLooks := .later }
def ScalTellsCardSaid : Prop := Claim7.holds Tryz.pinned (.plain (OpenSpec.ofChange scalTellsSpec)) scalTellsCard

/-- THE TIED CARD OF 'sigillarylaw06.ScalSorts'. -/
def scalSortsCard : Claim7 := { stood := { row := scalSortsRow, standIns := [], harness := (true, "f6a845747d4d85d8dd68d0a8e218b75c49a546c120cc2ddad56bf40591370ef1"), looks := true }, kinds := [], alts := [], laidByText := true, laidKinds := [.data, .data, .data, .data, .sentinel, .sentinel, .pinned], laidTests := true, laidLooks := .later }
def ScalSortsCardSaid : Prop := Claim7.holds Tryz.pinned (.plain (OpenSpec.ofChange scalSortsSpec)) scalSortsCard

/-- THE TIED CARD OF 'sigillarylaw06.ScalBack'. -/
def scalBackCard : Claim7 := { stood := { row := scalBackRow, standIns := [], harness := (true, "f6a845747d4d85d8dd68d0a8e218b75c49a546c120cc2ddad56bf40591370ef1"), looks := true }, kinds := [], alts := [], laidByText := true, laidKinds := [.data, .data, .data, .data, .sentinel, .sentinel, .pinned], laidTests := true, laidLooks := .later }
def ScalBackCardSaid : Prop := Claim7.holds Tryz.pinned (.plain (OpenSpec.ofChange scalBackSpec)) scalBackCard

/-- THE TIED CARD OF 'sigillarylaw06.ScalOrder'. -/
def scalOrderCard : Claim7 := { stood := { row := scalOrderRow, standIns := [], harness := (true, "f6a845747d4d85d8dd68d0a8e218b75c49a546c120cc2ddad56bf40591370ef1"), looks := true }, kinds := [], alts := [], laidByText := true, laidKinds := [.data, .data, .data, .data, .sentinel, .sentinel, .pinned], laidTests := true, laidLooks := .later }
def ScalOrderCardSaid : Prop := Claim7.holds Tryz.pinned (.plain (OpenSpec.ofChange scalOrderSpec)) scalOrderCard

/-- THE TIED CARD OF 'sigillarylaw06.ScalSame'. -/
def scalSameCard : Claim7 := { stood := { row := scalSameRow, standIns := [], harness := (true, "f6a845747d4d85d8dd68d0a8e218b75c49a546c120cc2ddad56bf40591370ef1"), looks := true }, kinds := [], alts := [], laidByText := true, laidKinds := [.data, .data, .data, .data, .sentinel, .sentinel, .pinned], laidTests := true, laidLooks := .later }
def ScalSameCardSaid : Prop := Claim7.holds Tryz.pinned (.plain (OpenSpec.ofChange scalSameSpec)) scalSameCard

/-- THE TIED CARD OF 'sigillarylaw06.ScalApart'. -/
def scalApartCard : Claim7 := { stood := { row := scalApartRow, standIns := [], harness := (true, "f6a845747d4d85d8dd68d0a8e218b75c49a546c120cc2ddad56bf40591370ef1"), looks := true }, kinds := [], alts := [], laidByText := true, laidKinds := [.data, .data, .data, .data, .sentinel, .sentinel, .pinned], laidTests := true, laidLooks := .later }
def ScalApartCardSaid : Prop := Claim7.holds Tryz.pinned (.plain (OpenSpec.ofChange scalApartSpec)) scalApartCard

/-- THE TIED CARD OF 'sigillarylaw06.ScalJoins'. -/
def scalJoinsCard : Claim7 := { stood := { row := scalJoinsRow, standIns := [], harness := (true, "f6a845747d4d85d8dd68d0a8e218b75c49a546c120cc2ddad56bf40591370ef1"), looks := true }, kinds := [], alts := [], laidByText := true, laidKinds := [.data, .data, .data, .data, .sentinel, .sentinel, .pinned], laidTests := true, laidLooks := .later }
def ScalJoinsCardSaid : Prop := Claim7.holds Tryz.pinned (.plain (OpenSpec.ofChange scalJoinsSpec)) scalJoinsCard

/-- THE TIED CARD OF 'sigillarylaw06.ScalPlain'. -/
def scalPlainCard : Claim7 := { stood := { row := scalPlainRow, standIns := [], harness := (true, "f6a845747d4d85d8dd68d0a8e218b75c49a546c120cc2ddad56bf40591370ef1"), looks := true }, kinds := [], alts := [], laidByText := true, laidKinds := [.data, .data, .data, .data, .sentinel, .sentinel, .pinned], laidTests := true, laidLooks := .later }
def ScalPlainCardSaid : Prop := Claim7.holds Tryz.pinned (.plain (OpenSpec.ofChange scalPlainSpec)) scalPlainCard

/-- THE SECOND FORM's CARD OF 'sigillarylaw06.ScalTells'. -/
def scalTellsUptoCard : Claim7 := { stood := { row := scalTellsUptoRow, standIns := [], harness := (true, "f6a845747d4d85d8dd68d0a8e218b75c49a546c120cc2ddad56bf40591370ef1"), looks := true }, kinds := [], alts := [], laidByText := true, laidKinds := [.data, .data, .data, .data, .sentinel, .sentinel, .pinned], laidTests := true, laidLooks := .later }
def ScalTellsUptoCardSaid : Prop := Claim7.holds Tryz.pinned (.plain (OpenSpec.upto scalTellsSpec)) scalTellsUptoCard

/-- THE SECOND FORM's CARD OF 'sigillarylaw06.ScalSorts'. -/
def scalSortsUptoCard : Claim7 := { stood := { row := scalSortsUptoRow, standIns := [], harness := (true, "f6a845747d4d85d8dd68d0a8e218b75c49a546c120cc2ddad56bf40591370ef1"), looks := true }, kinds := [], alts := [], laidByText := true, laidKinds := [.data, .data, .data, .data, .sentinel, .sentinel, .pinned], laidTests := true, laidLooks := .later }
def ScalSortsUptoCardSaid : Prop := Claim7.holds Tryz.pinned (.plain (OpenSpec.upto scalSortsSpec)) scalSortsUptoCard

/-- THE SECOND FORM's CARD OF 'sigillarylaw06.ScalBack'. -/
def scalBackUptoCard : Claim7 := { stood := { row := scalBackUptoRow, standIns := [], harness := (true, "f6a845747d4d85d8dd68d0a8e218b75c49a546c120cc2ddad56bf40591370ef1"), looks := true }, kinds := [], alts := [], laidByText := true, laidKinds := [.data, .data, .data, .data, .sentinel, .sentinel, .pinned], laidTests := true, laidLooks := .later }
def ScalBackUptoCardSaid : Prop := Claim7.holds Tryz.pinned (.plain (OpenSpec.upto scalBackSpec)) scalBackUptoCard

/-- THE SECOND FORM's CARD OF 'sigillarylaw06.ScalOrder'. -/
def scalOrderUptoCard : Claim7 := { stood := { row := scalOrderUptoRow, standIns := [], harness := (true, "f6a845747d4d85d8dd68d0a8e218b75c49a546c120cc2ddad56bf40591370ef1"), looks := true }, kinds := [], alts := [], laidByText := true, laidKinds := [.data, .data, .data, .data, .sentinel, .sentinel, .pinned], laidTests := true, laidLooks := .later }
def ScalOrderUptoCardSaid : Prop := Claim7.holds Tryz.pinned (.plain (OpenSpec.upto scalOrderSpec)) scalOrderUptoCard

/-- THE SECOND FORM's CARD OF 'sigillarylaw06.ScalSame'. -/
def scalSameUptoCard : Claim7 := { stood := { row := scalSameUptoRow, standIns := [], harness := (true, "f6a845747d4d85d8dd68d0a8e218b75c49a546c120cc2ddad56bf40591370ef1"), looks := true }, kinds := [], alts := [], laidByText := true, laidKinds := [.data, .data, .data, .data, .sentinel, .sentinel, .pinned], laidTests := true, laidLooks := .later }
def ScalSameUptoCardSaid : Prop := Claim7.holds Tryz.pinned (.plain (OpenSpec.upto scalSameSpec)) scalSameUptoCard

/-- THE SECOND FORM's CARD OF 'sigillarylaw06.ScalApart'. -/
def scalApartUptoCard : Claim7 := { stood := { row := scalApartUptoRow, standIns := [], harness := (true, "f6a845747d4d85d8dd68d0a8e218b75c49a546c120cc2ddad56bf40591370ef1"), looks := true }, kinds := [], alts := [], laidByText := true, laidKinds := [.data, .data, .data, .data, .sentinel, .sentinel, .pinned], laidTests := true, laidLooks := .later }
def ScalApartUptoCardSaid : Prop := Claim7.holds Tryz.pinned (.plain (OpenSpec.upto scalApartSpec)) scalApartUptoCard

/-- THE SECOND FORM's CARD OF 'sigillarylaw06.ScalJoins'. -/
def scalJoinsUptoCard : Claim7 := { stood := { row := scalJoinsUptoRow, standIns := [], harness := (true, "f6a845747d4d85d8dd68d0a8e218b75c49a546c120cc2ddad56bf40591370ef1"), looks := true }, kinds := [], alts := [], laidByText := true, laidKinds := [.data, .data, .data, .data, .sentinel, .sentinel, .pinned], laidTests := true, laidLooks := .later }
def ScalJoinsUptoCardSaid : Prop := Claim7.holds Tryz.pinned (.plain (OpenSpec.upto scalJoinsSpec)) scalJoinsUptoCard

/-- THE SECOND FORM's CARD OF 'sigillarylaw06.ScalPlain'. -/
def scalPlainUptoCard : Claim7 := { stood := { row := scalPlainUptoRow, standIns := [], harness := (true, "f6a845747d4d85d8dd68d0a8e218b75c49a546c120cc2ddad56bf40591370ef1"), looks := true }, kinds := [], alts := [], laidByText := true, laidKinds := [.data, .data, .data, .data, .sentinel, .sentinel, .pinned], laidTests := true, laidLooks := .later }
def ScalPlainUptoCardSaid : Prop := Claim7.holds Tryz.pinned (.plain (OpenSpec.upto scalPlainSpec)) scalPlainUptoCard
end Rows
end Go.Proofs.YtkdhaipjfkalfaaGreatDoor
