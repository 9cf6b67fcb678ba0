/-
  DERIVED. GIVEN WITH THE SEED: THE CARDS: each row of YtjlokfejnijokaaGreatDoorRows.lean that lists a variable, with what it lists TIED to the program's text (the seventh form; the later family's looks); each row that meets fmt, with fmt's text TOLD by the authors' own Lean function (tested against real Go, not proved from fmt's source: count such statements apart). THE CARD IS WHAT COUNTS. Prove the row's statement (the work); the ties are given (YtjlokfejnijokaaGreatDoorTie.lean); close each card by the builder's one call (the guide's Derived/Test/ToyasCard.lean, 'card_holds'). Laid BY PROGRAM, IN A SANDBOX (cutbox-door.mjs). By AI agents, Wed Nov 11 2026. No macro, syntax, notation, axiom, sorry.
-/
import Derived.Test.YtjlokfejnijokaaGreatDoorRows
import GoSem.ClaimSeven
namespace Go.Proofs.YtjlokfejnijokaaGreatDoor
namespace Rows

/-- THE TIED CARD OF 'footbridgelaw22.RetokNew'. -/
def retokNewCard : Claim7 := { stood := { row := retokNewRow, standIns := [], harness := (true, "d332cd58a48ed7d17c39f13a87ced48db83857977b0d85bcbc96953adfbca642"), looks := true }, kinds := [], alts := [], laidByText := true, laidKinds := [.widerDeep], laidTests := true, laidLooks := .later }
def RetokNewCardSaid : Prop := Claim7.holds Tryz.pinned (.plain (OpenSpec.ofChange retokNewSpec)) retokNewCard

/-- THE TIED CARD OF 'footbridgelaw23.ForceFirst'. -/
def forceFirstCard : Claim7 := { stood := { row := forceFirstRow, standIns := [], harness := (true, "d332cd58a48ed7d17c39f13a87ced48db83857977b0d85bcbc96953adfbca642"), looks := true }, kinds := [], alts := [], laidByText := true, laidKinds := [.widerDeep], laidTests := true, laidLooks := .later }
def ForceFirstCardSaid : Prop := Claim7.holds Tryz.pinned (.plain (OpenSpec.ofChange forceFirstSpec)) forceFirstCard

/-- THE SECOND FORM's CARD OF 'footbridgelaw22.RetokNew'. -/
def retokNewUptoCard : Claim7 := { stood := { row := retokNewUptoRow, standIns := [], harness := (true, "d332cd58a48ed7d17c39f13a87ced48db83857977b0d85bcbc96953adfbca642"), looks := true }, kinds := [], alts := [], laidByText := true, laidKinds := [.widerDeep], laidTests := true, laidLooks := .later }
def RetokNewUptoCardSaid : Prop := Claim7.holds Tryz.pinned (.plain (OpenSpec.upto retokNewSpec)) retokNewUptoCard

/-- THE SECOND FORM's CARD OF 'footbridgelaw23.ForceFirst'. -/
def forceFirstUptoCard : Claim7 := { stood := { row := forceFirstUptoRow, standIns := [], harness := (true, "d332cd58a48ed7d17c39f13a87ced48db83857977b0d85bcbc96953adfbca642"), looks := true }, kinds := [], alts := [], laidByText := true, laidKinds := [.widerDeep], laidTests := true, laidLooks := .later }
def ForceFirstUptoCardSaid : Prop := Claim7.holds Tryz.pinned (.plain (OpenSpec.upto forceFirstSpec)) forceFirstUptoCard
end Rows
end Go.Proofs.YtjlokfejnijokaaGreatDoor
