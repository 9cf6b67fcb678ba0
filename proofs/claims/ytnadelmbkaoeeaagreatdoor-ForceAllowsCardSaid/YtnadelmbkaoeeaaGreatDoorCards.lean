/-
  DERIVED. GIVEN WITH THE SEED: THE CARDS: each row of YtnadelmbkaoeeaaGreatDoorRows.lean that lists a variable, with what it lists TIED to the program's text (the seventh form; the later family's looks); each row that meets fmt, with fmt's text TOLD by the authors' own Lean function (tested against real Go, not proved from fmt's source: count such statements apart). THE CARD IS WHAT COUNTS. Prove the row's statement (the work); the ties are given (YtnadelmbkaoeeaaGreatDoorTie.lean); close each card by the builder's one call (the guide's Derived/Test/ToyasCard.lean, 'card_holds'). Laid BY PROGRAM, IN A SANDBOX (cutbox-door.mjs). By AI agents, Wed Nov 11 2026. No macro, syntax, notation, axiom, sorry.
-/
import Derived.Test.YtnadelmbkaoeeaaGreatDoorRows
import GoSem.ClaimSeven
namespace Go.Proofs.YtnadelmbkaoeeaaGreatDoor
namespace Rows

/-- THE TIED CARD OF 'footbridgelaw16.TextNew'. -/
def textNewCard : Claim7 := { stood := { row := textNewRow, standIns := [], harness := (true, "399a4a81d9c997beb6a297296992508e4f16131ee6c4a40c6243924ef095ad44"), looks := true }, kinds := [], alts := [], laidByText := true, laidKinds := [.widerDeep], laidTests := true, laidLooks := .later }
def TextNewCardSaid : Prop := Claim7.holds Tryz.pinned (.plain (OpenSpec.ofChange textNewSpec)) textNewCard

/-- THE TIED CARD OF 'footbridgelaw16.TextDecodes'. -/
def textDecodesCard : Claim7 := { stood := { row := textDecodesRow, standIns := [], harness := (true, "399a4a81d9c997beb6a297296992508e4f16131ee6c4a40c6243924ef095ad44"), looks := true }, kinds := [], alts := [], laidByText := true, laidKinds := [.widerDeep], laidTests := true, laidLooks := .later }
def TextDecodesCardSaid : Prop := Claim7.holds Tryz.pinned (.plain (OpenSpec.ofChange textDecodesSpec)) textDecodesCard

/-- THE TIED CARD OF 'footbridgelaw23.ForceAllows'. -/
def forceAllowsCard : Claim7 := { stood := { row := forceAllowsRow, standIns := [], harness := (true, "399a4a81d9c997beb6a297296992508e4f16131ee6c4a40c6243924ef095ad44"), looks := true }, kinds := [], alts := [], laidByText := true, laidKinds := [.widerDeep], laidTests := true, laidLooks := .later }
def ForceAllowsCardSaid : Prop := Claim7.holds Tryz.pinned (.plain (OpenSpec.ofChange forceAllowsSpec)) forceAllowsCard

/-- THE TIED CARD OF 'footbridgelaw23.ForceMore'. -/
def forceMoreCard : Claim7 := { stood := { row := forceMoreRow, standIns := [], harness := (true, "399a4a81d9c997beb6a297296992508e4f16131ee6c4a40c6243924ef095ad44"), looks := true }, kinds := [], alts := [], laidByText := true, laidKinds := [.widerDeep], laidTests := true, laidLooks := .later }
def ForceMoreCardSaid : Prop := Claim7.holds Tryz.pinned (.plain (OpenSpec.ofChange forceMoreSpec)) forceMoreCard

/-- THE TIED CARD OF 'footbridgelaw23.ForceNil'. -/
def forceNilCard : Claim7 := { stood := { row := forceNilRow, standIns := [], harness := (true, "399a4a81d9c997beb6a297296992508e4f16131ee6c4a40c6243924ef095ad44"), looks := true }, kinds := [], alts := [], laidByText := true, laidKinds := [.widerDeep], laidTests := true, laidLooks := .later }
def ForceNilCardSaid : Prop := Claim7.holds Tryz.pinned (.plain (OpenSpec.ofChange forceNilSpec)) forceNilCard

/-- THE SECOND FORM's CARD OF 'footbridgelaw16.TextNew'. -/
def textNewUptoCard : Claim7 := { stood := { row := textNewUptoRow, standIns := [], harness := (true, "399a4a81d9c997beb6a297296992508e4f16131ee6c4a40c6243924ef095ad44"), looks := true }, kinds := [], alts := [], laidByText := true, laidKinds := [.widerDeep], laidTests := true, laidLooks := .later }
def TextNewUptoCardSaid : Prop := Claim7.holds Tryz.pinned (.plain (OpenSpec.upto textNewSpec)) textNewUptoCard

/-- THE SECOND FORM's CARD OF 'footbridgelaw16.TextDecodes'. -/
def textDecodesUptoCard : Claim7 := { stood := { row := textDecodesUptoRow, standIns := [], harness := (true, "399a4a81d9c997beb6a297296992508e4f16131ee6c4a40c6243924ef095ad44"), looks := true }, kinds := [], alts := [], laidByText := true, laidKinds := [.widerDeep], laidTests := true, laidLooks := .later }
def TextDecodesUptoCardSaid : Prop := Claim7.holds Tryz.pinned (.plain (OpenSpec.upto textDecodesSpec)) textDecodesUptoCard

/-- THE SECOND FORM's CARD OF 'footbridgelaw23.ForceAllows'. -/
def forceAllowsUptoCard : Claim7 := { stood := { row := forceAllowsUptoRow, standIns := [], harness := (true, "399a4a81d9c997beb6a297296992508e4f16131ee6c4a40c6243924ef095ad44"), looks := true }, kinds := [], alts := [], laidByText := true, laidKinds := [.widerDeep], laidTests := true, laidLooks := .later }
def ForceAllowsUptoCardSaid : Prop := Claim7.holds Tryz.pinned (.plain (OpenSpec.upto forceAllowsSpec)) forceAllowsUptoCard

/-- THE SECOND FORM's CARD OF 'footbridgelaw23.ForceMore'. -/
def forceMoreUptoCard : Claim7 := { stood := { row := forceMoreUptoRow, standIns := [], harness := (true, "399a4a81d9c997beb6a297296992508e4f16131ee6c4a40c6243924ef095ad44"), looks := true }, kinds := [], alts := [], laidByText := true, laidKinds := [.widerDeep], laidTests := true, laidLooks := .later }
def ForceMoreUptoCardSaid : Prop := Claim7.holds Tryz.pinned (.plain (OpenSpec.upto forceMoreSpec)) forceMoreUptoCard

/-- THE SECOND FORM's CARD OF 'footbridgelaw23.ForceNil'. -/
def forceNilUptoCard : Claim7 := { stood := { row := forceNilUptoRow, standIns := [], harness := (true, "399a4a81d9c997beb6a297296992508e4f16131ee6c4a40c6243924ef095ad44"), looks := true }, kinds := [], alts := [], laidByText := true, laidKinds := [.widerDeep], laidTests := true, laidLooks := .later }
def ForceNilUptoCardSaid : Prop := Claim7.holds Tryz.pinned (.plain (OpenSpec.upto forceNilSpec)) forceNilUptoCard
end Rows
end Go.Proofs.YtnadelmbkaoeeaaGreatDoor
