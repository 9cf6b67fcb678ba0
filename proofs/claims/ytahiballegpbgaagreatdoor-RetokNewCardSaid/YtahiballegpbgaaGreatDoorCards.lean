/-
  DERIVED. GIVEN WITH THE SEED: THE CARDS: each row of YtahiballegpbgaaGreatDoorRows.lean that lists a variable, with what it lists TIED to the program's text (the seventh form; the later family's looks); each row that meets fmt, with fmt's text TOLD by the authors' own Lean function (tested against real Go, not proved from fmt's source: count such statements apart). THE CARD IS WHAT COUNTS. Prove the row's statement (the work); the ties are given (YtahiballegpbgaaGreatDoorTie.lean); close each card by the builder's one call (the guide's Derived/Test/ToyasCard.lean, 'card_holds'). Laid BY PROGRAM, IN A SANDBOX (cutbox-door.mjs). By AI agents, Wed Nov 11 2026. No macro, syntax, notation, axiom, sorry.
-/
import Derived.Test.YtahiballegpbgaaGreatDoorRows
import GoSem.ClaimSeven
namespace Go.Proofs.YtahiballegpbgaaGreatDoor
namespace Rows

/-- THE TIED CARD OF 'footbridgelaw22.RetokFollows'. -/
def retokFollowsCard : Claim7 := { stood := { row := retokFollowsRow, standIns := [], harness := (true, "bcba66a7b5b6b0286979b66d570c861ad70a9f5343e52efb00dfb20e6def214a"), looks := true }, kinds := [], alts := [], laidByText := true, laidKinds := [.widerDeep], laidTests := true, laidLooks := .later }
def RetokFollowsCardSaid : Prop := Claim7.holds Tryz.pinned (.plain (OpenSpec.ofChange retokFollowsSpec)) retokFollowsCard

/-- THE TIED CARD OF 'footbridgelaw22.RetokTurns'. -/
def retokTurnsCard : Claim7 := { stood := { row := retokTurnsRow, standIns := [], harness := (true, "bcba66a7b5b6b0286979b66d570c861ad70a9f5343e52efb00dfb20e6def214a"), looks := true }, kinds := [], alts := [], laidByText := true, laidKinds := [.widerDeep], laidTests := true, laidLooks := .later }
def RetokTurnsCardSaid : Prop := Claim7.holds Tryz.pinned (.plain (OpenSpec.ofChange retokTurnsSpec)) retokTurnsCard

/-- THE TIED CARD OF 'footbridgelaw22.RetokNew'. -/
def retokNewCard : Claim7 := { stood := { row := retokNewRow, standIns := [], harness := (true, "bcba66a7b5b6b0286979b66d570c861ad70a9f5343e52efb00dfb20e6def214a"), looks := true }, kinds := [], alts := [], laidByText := true, laidKinds := [.widerDeep], laidTests := true, laidLooks := .later }
def RetokNewCardSaid : Prop := Claim7.holds Tryz.pinned (.plain (OpenSpec.ofChange retokNewSpec)) retokNewCard

/-- THE SECOND FORM's CARD OF 'footbridgelaw22.RetokFollows'. -/
def retokFollowsUptoCard : Claim7 := { stood := { row := retokFollowsUptoRow, standIns := [], harness := (true, "bcba66a7b5b6b0286979b66d570c861ad70a9f5343e52efb00dfb20e6def214a"), looks := true }, kinds := [], alts := [], laidByText := true, laidKinds := [.widerDeep], laidTests := true, laidLooks := .later }
def RetokFollowsUptoCardSaid : Prop := Claim7.holds Tryz.pinned (.plain (OpenSpec.upto retokFollowsSpec)) retokFollowsUptoCard

/-- THE SECOND FORM's CARD OF 'footbridgelaw22.RetokTurns'. -/
def retokTurnsUptoCard : Claim7 := { stood := { row := retokTurnsUptoRow, standIns := [], harness := (true, "bcba66a7b5b6b0286979b66d570c861ad70a9f5343e52efb00dfb20e6def214a"), looks := true }, kinds := [], alts := [], laidByText := true, laidKinds := [.widerDeep], laidTests := true, laidLooks := .later }
def RetokTurnsUptoCardSaid : Prop := Claim7.holds Tryz.pinned (.plain (OpenSpec.upto retokTurnsSpec)) retokTurnsUptoCard

/-- THE SECOND FORM's CARD OF 'footbridgelaw22.RetokNew'. -/
def retokNewUptoCard : Claim7 := { stood := { row := retokNewUptoRow, standIns := [], harness := (true, "bcba66a7b5b6b0286979b66d570c861ad70a9f5343e52efb00dfb20e6def214a"), looks := true }, kinds := [], alts := [], laidByText := true, laidKinds := [.widerDeep], laidTests := true, laidLooks := .later }
def RetokNewUptoCardSaid : Prop := Claim7.holds Tryz.pinned (.plain (OpenSpec.upto retokNewSpec)) retokNewUptoCard
end Rows
end Go.Proofs.YtahiballegpbgaaGreatDoor
