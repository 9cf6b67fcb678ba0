/-
  DERIVED. GIVEN WITH THE SEED: THE CARDS: each row of YtimkkkdabmhedaaGreatDoorRows.lean that lists a variable, with what it lists TIED to the program's text (the seventh form; the later family's looks); each row that meets fmt, with fmt's text TOLD by the authors' own Lean function (tested against real Go, not proved from fmt's source: count such statements apart). THE CARD IS WHAT COUNTS. Prove the row's statement (the work); the ties are given (YtimkkkdabmhedaaGreatDoorTie.lean); close each card by the builder's one call (the guide's Derived/Test/ToyasCard.lean, 'card_holds'). Laid BY PROGRAM, IN A SANDBOX (cutbox-door.mjs). By AI agents, Wed Nov 11 2026. No macro, syntax, notation, axiom, sorry.
-/
import Derived.Test.YtimkkkdabmhedaaGreatDoorRows
import GoSem.ClaimSeven
namespace Go.Proofs.YtimkkkdabmhedaaGreatDoor
namespace Rows

/-- THE TIED CARD OF 'footbridgelaw16.TextNew'. -/
def textNewCard : Claim7 := { stood := { row := textNewRow, standIns := [], harness := (true, "37f45f2d94411fe8e2a3f043468b365421bafc7f5c00b6958f101e768fac320f"), looks := true }, kinds := [], alts := [], laidByText := true, laidKinds := [.widerDeep], laidTests := true, laidLooks := .later }
def TextNewCardSaid : Prop := Claim7.holds Tryz.pinned (.plain (OpenSpec.ofChange textNewSpec)) textNewCard

/-- THE TIED CARD OF 'footbridgelaw16.TextRooms'. -/
def textRoomsCard : Claim7 := { stood := { row := textRoomsRow, standIns := [], harness := (true, "37f45f2d94411fe8e2a3f043468b365421bafc7f5c00b6958f101e768fac320f"), looks := true }, kinds := [], alts := [], laidByText := true, laidKinds := [.widerDeep], laidTests := true, laidLooks := .later }
def TextRoomsCardSaid : Prop := Claim7.holds Tryz.pinned (.plain (OpenSpec.ofChange textRoomsSpec)) textRoomsCard

/-- THE TIED CARD OF 'footbridgelaw16.TextMarks'. -/
def textMarksCard : Claim7 := { stood := { row := textMarksRow, standIns := [], harness := (true, "37f45f2d94411fe8e2a3f043468b365421bafc7f5c00b6958f101e768fac320f"), looks := true }, kinds := [], alts := [], laidByText := true, laidKinds := [.widerDeep], laidTests := true, laidLooks := .later }
def TextMarksCardSaid : Prop := Claim7.holds Tryz.pinned (.plain (OpenSpec.ofChange textMarksSpec)) textMarksCard

/-- THE TIED CARD OF 'footbridgelaw20.CommitFew'. -/
def commitFewCard : Claim7 := { stood := { row := commitFewRow, standIns := [], harness := (true, "37f45f2d94411fe8e2a3f043468b365421bafc7f5c00b6958f101e768fac320f"), looks := true }, kinds := [], alts := [], laidByText := true, laidKinds := [.widerDeep], laidTests := true, laidLooks := .later }
def CommitFewCardSaid : Prop := Claim7.holds Tryz.pinned (.plain (OpenSpec.ofChange commitFewSpec)) commitFewCard

/-- THE TIED CARD OF 'footbridgelaw16.TextEncodes'. -/
def textEncodesCard : Claim7 := { stood := { row := textEncodesRow, standIns := [], harness := (true, "37f45f2d94411fe8e2a3f043468b365421bafc7f5c00b6958f101e768fac320f"), looks := true }, kinds := [], alts := [], laidByText := true, laidKinds := [.widerDeep], laidTests := true, laidLooks := .later }
def TextEncodesCardSaid : Prop := Claim7.holds Tryz.pinned (.plain (OpenSpec.ofChange textEncodesSpec)) textEncodesCard

/-- THE TIED CARD OF 'footbridgelaw16.TextDecodes'. -/
def textDecodesCard : Claim7 := { stood := { row := textDecodesRow, standIns := [], harness := (true, "37f45f2d94411fe8e2a3f043468b365421bafc7f5c00b6958f101e768fac320f"), looks := true }, kinds := [], alts := [], laidByText := true, laidKinds := [.widerDeep], laidTests := true, laidLooks := .later }
def TextDecodesCardSaid : Prop := Claim7.holds Tryz.pinned (.plain (OpenSpec.ofChange textDecodesSpec)) textDecodesCard

/-- THE TIED CARD OF 'footbridgelaw20.CommitCopies'. -/
def commitCopiesCard : Claim7 := { stood := { row := commitCopiesRow, standIns := [], harness := (true, "37f45f2d94411fe8e2a3f043468b365421bafc7f5c00b6958f101e768fac320f"), looks := true }, kinds := [], alts := [], laidByText := true, laidKinds := [.widerDeep], laidTests := true, laidLooks := .later }
def CommitCopiesCardSaid : Prop := Claim7.holds Tryz.pinned (.plain (OpenSpec.ofChange commitCopiesSpec)) commitCopiesCard

/-- THE TIED CARD OF 'footbridgelaw20.CommitStays'. -/
def commitStaysCard : Claim7 := { stood := { row := commitStaysRow, standIns := [], harness := (true, "37f45f2d94411fe8e2a3f043468b365421bafc7f5c00b6958f101e768fac320f"), looks := true }, kinds := [], alts := [], laidByText := true, laidKinds := [.widerDeep], laidTests := true, laidLooks := .later }
def CommitStaysCardSaid : Prop := Claim7.holds Tryz.pinned (.plain (OpenSpec.ofChange commitStaysSpec)) commitStaysCard

/-- THE TIED CARD OF 'footbridgelaw20.CommitNil'. -/
def commitNilCard : Claim7 := { stood := { row := commitNilRow, standIns := [], harness := (true, "37f45f2d94411fe8e2a3f043468b365421bafc7f5c00b6958f101e768fac320f"), looks := true }, kinds := [], alts := [], laidByText := true, laidKinds := [.widerDeep], laidTests := true, laidLooks := .later }
def CommitNilCardSaid : Prop := Claim7.holds Tryz.pinned (.plain (OpenSpec.ofChange commitNilSpec)) commitNilCard

/-- THE SECOND FORM's CARD OF 'footbridgelaw16.TextNew'. -/
def textNewUptoCard : Claim7 := { stood := { row := textNewUptoRow, standIns := [], harness := (true, "37f45f2d94411fe8e2a3f043468b365421bafc7f5c00b6958f101e768fac320f"), looks := true }, kinds := [], alts := [], laidByText := true, laidKinds := [.widerDeep], laidTests := true, laidLooks := .later }
def TextNewUptoCardSaid : Prop := Claim7.holds Tryz.pinned (.plain (OpenSpec.upto textNewSpec)) textNewUptoCard

/-- THE SECOND FORM's CARD OF 'footbridgelaw16.TextRooms'. -/
def textRoomsUptoCard : Claim7 := { stood := { row := textRoomsUptoRow, standIns := [], harness := (true, "37f45f2d94411fe8e2a3f043468b365421bafc7f5c00b6958f101e768fac320f"), looks := true }, kinds := [], alts := [], laidByText := true, laidKinds := [.widerDeep], laidTests := true, laidLooks := .later }
def TextRoomsUptoCardSaid : Prop := Claim7.holds Tryz.pinned (.plain (OpenSpec.upto textRoomsSpec)) textRoomsUptoCard

/-- THE SECOND FORM's CARD OF 'footbridgelaw16.TextMarks'. -/
def textMarksUptoCard : Claim7 := { stood := { row := textMarksUptoRow, standIns := [], harness := (true, "37f45f2d94411fe8e2a3f043468b365421bafc7f5c00b6958f101e768fac320f"), looks := true }, kinds := [], alts := [], laidByText := true, laidKinds := [.widerDeep], laidTests := true, laidLooks := .later }
def TextMarksUptoCardSaid : Prop := Claim7.holds Tryz.pinned (.plain (OpenSpec.upto textMarksSpec)) textMarksUptoCard

/-- THE SECOND FORM's CARD OF 'footbridgelaw20.CommitFew'. -/
def commitFewUptoCard : Claim7 := { stood := { row := commitFewUptoRow, standIns := [], harness := (true, "37f45f2d94411fe8e2a3f043468b365421bafc7f5c00b6958f101e768fac320f"), looks := true }, kinds := [], alts := [], laidByText := true, laidKinds := [.widerDeep], laidTests := true, laidLooks := .later }
def CommitFewUptoCardSaid : Prop := Claim7.holds Tryz.pinned (.plain (OpenSpec.upto commitFewSpec)) commitFewUptoCard

/-- THE SECOND FORM's CARD OF 'footbridgelaw16.TextEncodes'. -/
def textEncodesUptoCard : Claim7 := { stood := { row := textEncodesUptoRow, standIns := [], harness := (true, "37f45f2d94411fe8e2a3f043468b365421bafc7f5c00b6958f101e768fac320f"), looks := true }, kinds := [], alts := [], laidByText := true, laidKinds := [.widerDeep], laidTests := true, laidLooks := .later }
def TextEncodesUptoCardSaid : Prop := Claim7.holds Tryz.pinned (.plain (OpenSpec.upto textEncodesSpec)) textEncodesUptoCard

/-- THE SECOND FORM's CARD OF 'footbridgelaw16.TextDecodes'. -/
def textDecodesUptoCard : Claim7 := { stood := { row := textDecodesUptoRow, standIns := [], harness := (true, "37f45f2d94411fe8e2a3f043468b365421bafc7f5c00b6958f101e768fac320f"), looks := true }, kinds := [], alts := [], laidByText := true, laidKinds := [.widerDeep], laidTests := true, laidLooks := .later }
def TextDecodesUptoCardSaid : Prop := Claim7.holds Tryz.pinned (.plain (OpenSpec.upto textDecodesSpec)) textDecodesUptoCard

/-- THE SECOND FORM's CARD OF 'footbridgelaw20.CommitCopies'. -/
def commitCopiesUptoCard : Claim7 := { stood := { row := commitCopiesUptoRow, standIns := [], harness := (true, "37f45f2d94411fe8e2a3f043468b365421bafc7f5c00b6958f101e768fac320f"), looks := true }, kinds := [], alts := [], laidByText := true, laidKinds := [.widerDeep], laidTests := true, laidLooks := .later }
def CommitCopiesUptoCardSaid : Prop := Claim7.holds Tryz.pinned (.plain (OpenSpec.upto commitCopiesSpec)) commitCopiesUptoCard

/-- THE SECOND FORM's CARD OF 'footbridgelaw20.CommitStays'. -/
def commitStaysUptoCard : Claim7 := { stood := { row := commitStaysUptoRow, standIns := [], harness := (true, "37f45f2d94411fe8e2a3f043468b365421bafc7f5c00b6958f101e768fac320f"), looks := true }, kinds := [], alts := [], laidByText := true, laidKinds := [.widerDeep], laidTests := true, laidLooks := .later }
def CommitStaysUptoCardSaid : Prop := Claim7.holds Tryz.pinned (.plain (OpenSpec.upto commitStaysSpec)) commitStaysUptoCard

/-- THE SECOND FORM's CARD OF 'footbridgelaw20.CommitNil'. -/
def commitNilUptoCard : Claim7 := { stood := { row := commitNilUptoRow, standIns := [], harness := (true, "37f45f2d94411fe8e2a3f043468b365421bafc7f5c00b6958f101e768fac320f"), looks := true }, kinds := [], alts := [], laidByText := true, laidKinds := [.widerDeep], laidTests := true, laidLooks := .later }
def CommitNilUptoCardSaid : Prop := Claim7.holds Tryz.pinned (.plain (OpenSpec.upto commitNilSpec)) commitNilUptoCard
end Rows
end Go.Proofs.YtimkkkdabmhedaaGreatDoor
