/-
  No cell of these rows narrows 'for every input' (looked for: loops, veiled, ifaces, maps, wideKeys, modest, calm, conditions, laid).
  DERIVED. THE GIVEN ROWS OF THIS SEAT. 5 by the template 'for every input the law returns true; each argument reads behind the call as it read before'; 0 by the template 'total and deterministic' (their statements: YtkceidcedkknfaaTotals.lean).
  GIVEN WITH THE SEED: the statements are not yours to turn. If you find one false, say at which input.
  Laid BY PROGRAM, IN A SANDBOX (cutbox-rows.mjs): the forced cells as the released guide's own fill.sh prints them over the translation 0ba855ce14b475cc… (all of the seat's roots in one cut). By AI agents, Wed Nov 11 2026. No macro, syntax, notation, axiom, sorry.
-/
import Derived.Test.YtkceidcedkknfaaChecked
import GoSem.Claim
import GoSem.ClaimJoined
import GoSem.ClaimMapViews
import Derived.JoinedTies
import Derived.KernelRfl
namespace Go.Proofs.Ytkceidcedkknfaa
/- THE CELL 'sum', in the pinned program and in every row, IS THE sha256 OF THE DUMP (.gsa) THAT YtkceidcedkknfaaProg.lean LOADS. Nothing in Lean hashes anything: it is a label: what it is worth is what the hold of that sum in a sandbox is worth. -/
noncomputable def Try.pinned : Pinned := { name := "ytkceidcedkknfaa", sum := "0ba855ce14b475ccdb36749a77dfdd3aa7e556ff006851003f1fd8b27f1fbb2c", checked := Try.checked }
namespace Rows
def none {H : Type} : Left H := { results := [], args := [] }

/-- 'footbridgelaw17.EditLeast': WHATEVER THE INPUT: true; the input reads as it did. -/
def editLeastSpec : ChangeSpec := { name := "editLeast", fn := fun _ => fun
  | [d1, d2] => { results := [.lit (.bool true)], args := [d1, d2] }
  | _ => none }
def editLeastRow : OpenClaim := { program := "ytkceidcedkknfaa", sum := "0ba855ce14b475ccdb36749a77dfdd3aa7e556ff006851003f1fd8b27f1fbb2c", func := "footbridge/footbridgelaw17.EditLeast", spec := "editLeast", apart := false }
def EditLeastSaid : Prop := editLeastRow.holds Try.pinned (OpenSpec.ofChange editLeastSpec)

/-- ITS FALSE NEIGHBOUR: 'it returns false'. Refute it at one input. -/
def editLeastWrong : ChangeSpec := { name := "editLeast", fn := fun _ => fun
  | [d1, d2] => { results := [.lit (.bool false)], args := [d1, d2] }
  | _ => none }
def EditLeastWrongFalsely : Prop := editLeastRow.holds Try.pinned (OpenSpec.ofChange editLeastWrong)

/-- 'footbridgelaw17.EditThen': WHATEVER THE INPUT: true; the input reads as it did. -/
def editThenSpec : ChangeSpec := { name := "editThen", fn := fun _ => fun
  | [d1, d2, d3] => { results := [.lit (.bool true)], args := [d1, d2, d3] }
  | _ => none }
def editThenRow : OpenClaim := { program := "ytkceidcedkknfaa", sum := "0ba855ce14b475ccdb36749a77dfdd3aa7e556ff006851003f1fd8b27f1fbb2c", func := "footbridge/footbridgelaw17.EditThen", spec := "editThen", apart := false }
def EditThenSaid : Prop := editThenRow.holds Try.pinned (OpenSpec.ofChange editThenSpec)

/-- ITS FALSE NEIGHBOUR: 'it returns false'. Refute it at one input. -/
def editThenWrong : ChangeSpec := { name := "editThen", fn := fun _ => fun
  | [d1, d2, d3] => { results := [.lit (.bool false)], args := [d1, d2, d3] }
  | _ => none }
def EditThenWrongFalsely : Prop := editThenRow.holds Try.pinned (OpenSpec.ofChange editThenWrong)

/-- 'footbridgelaw17.EditApplies': WHATEVER THE INPUT: true; the input reads as it did. -/
def editAppliesSpec : ChangeSpec := { name := "editApplies", fn := fun _ => fun
  | [d1, d2] => { results := [.lit (.bool true)], args := [d1, d2] }
  | _ => none }
def editAppliesRow : OpenClaim := { program := "ytkceidcedkknfaa", sum := "0ba855ce14b475ccdb36749a77dfdd3aa7e556ff006851003f1fd8b27f1fbb2c", func := "footbridge/footbridgelaw17.EditApplies", spec := "editApplies", apart := false }
def EditAppliesSaid : Prop := editAppliesRow.holds Try.pinned (OpenSpec.ofChange editAppliesSpec)

/-- ITS FALSE NEIGHBOUR: 'it returns false'. Refute it at one input. -/
def editAppliesWrong : ChangeSpec := { name := "editApplies", fn := fun _ => fun
  | [d1, d2] => { results := [.lit (.bool false)], args := [d1, d2] }
  | _ => none }
def EditAppliesWrongFalsely : Prop := editAppliesRow.holds Try.pinned (OpenSpec.ofChange editAppliesWrong)

/-- 'footbridgelaw17.EditRow': WHATEVER THE INPUT: true; the input reads as it did. -/
def editRowSpec : ChangeSpec := { name := "editRow", fn := fun _ => fun
  | [d] => { results := [.lit (.bool true)], args := [d] }
  | _ => none }
def editRowRow : OpenClaim := { program := "ytkceidcedkknfaa", sum := "0ba855ce14b475ccdb36749a77dfdd3aa7e556ff006851003f1fd8b27f1fbb2c", func := "footbridge/footbridgelaw17.EditRow", spec := "editRow", apart := false }
def EditRowSaid : Prop := editRowRow.holds Try.pinned (OpenSpec.ofChange editRowSpec)

/-- ITS FALSE NEIGHBOUR: 'it returns false'. Refute it at one input. -/
def editRowWrong : ChangeSpec := { name := "editRow", fn := fun _ => fun
  | [d] => { results := [.lit (.bool false)], args := [d] }
  | _ => none }
def EditRowWrongFalsely : Prop := editRowRow.holds Try.pinned (OpenSpec.ofChange editRowWrong)

/-- 'footbridgelaw17.EditOf': WHATEVER THE INPUT: true; the input reads as it did. -/
def editOfSpec : ChangeSpec := { name := "editOf", fn := fun _ => fun
  | [d1, d2] => { results := [.lit (.bool true)], args := [d1, d2] }
  | _ => none }
def editOfRow : OpenClaim := { program := "ytkceidcedkknfaa", sum := "0ba855ce14b475ccdb36749a77dfdd3aa7e556ff006851003f1fd8b27f1fbb2c", func := "footbridge/footbridgelaw17.EditOf", spec := "editOf", apart := false }
def EditOfSaid : Prop := editOfRow.holds Try.pinned (OpenSpec.ofChange editOfSpec)

/-- ITS FALSE NEIGHBOUR: 'it returns false'. Refute it at one input. -/
def editOfWrong : ChangeSpec := { name := "editOf", fn := fun _ => fun
  | [d1, d2] => { results := [.lit (.bool false)], args := [d1, d2] }
  | _ => none }
def EditOfWrongFalsely : Prop := editOfRow.holds Try.pinned (OpenSpec.ofChange editOfWrong)

/- THE SECOND FORM. 'bulk': how many values and letters a reading holds, each counted each time it is reached (what is shared counts as often as it is met; a slice's spare places count too). A statement '..UptoSaid' is the law's where the arguments, and the package variables that the reading takes, are together of bulk at most 1048576: NARROWER than '..Said'. Prove '..Said' where nothing that the law and all that it calls make is longer than what came in: it says more and counts as full. Else prove '..UptoSaid'. A law counts once. -/
mutual
def uptoBulk {H : Type} : DataW H → Nat
  | .lit (.string bytes) => bytes.length + 1
  | .lit _ => 1
  | .nil => 1
  | .ptr d => uptoBulk d + 1
  | .slice elems spare => uptoBulkAll elems + uptoBulkAll spare + 1
  | .agg parts => uptoBulkAll parts + 1
  | .iface _ d => uptoBulk d + 1
  | .map entries => uptoBulkEntries entries + 1
  | .held _ => 1
def uptoBulkAll {H : Type} : List (DataW H) → Nat
  | [] => 0
  | d :: r => uptoBulk d + uptoBulkAll r
def uptoBulkEntries {H : Type} : List (Lit × DataW H) → Nat
  | [] => 0
  | x :: r => uptoBulkEntry x + uptoBulkEntries r
def uptoBulkEntry {H : Type} : Lit × DataW H → Nat
  | (.string bytes, d) => bytes.length + uptoBulk d + 1
  | (_, d) => uptoBulk d + 1
 end
def uptoSmall : (H : Type) → List (DataW H) → Bool := fun _ ds => decide (uptoBulkAll ds ≤ 1048576)
def OpenSpec.upto (s : _root_.Go.ChangeSpec) : _root_.Go.OpenSpec := { _root_.Go.OpenSpec.ofChange s with cond := some uptoSmall }

/-- 'footbridgelaw17.EditLeast', WHERE WHAT IT READS IS OF BULK AT MOST 1048576: true; the input reads as it did. -/
def editLeastUptoRow : OpenClaim := { program := "ytkceidcedkknfaa", sum := "0ba855ce14b475ccdb36749a77dfdd3aa7e556ff006851003f1fd8b27f1fbb2c", func := "footbridge/footbridgelaw17.EditLeast", spec := "editLeast", apart := false, narrowed := true }
def EditLeastUptoSaid : Prop := editLeastUptoRow.holds Try.pinned (OpenSpec.upto editLeastSpec)

/-- 'footbridgelaw17.EditThen', WHERE WHAT IT READS IS OF BULK AT MOST 1048576: true; the input reads as it did. -/
def editThenUptoRow : OpenClaim := { program := "ytkceidcedkknfaa", sum := "0ba855ce14b475ccdb36749a77dfdd3aa7e556ff006851003f1fd8b27f1fbb2c", func := "footbridge/footbridgelaw17.EditThen", spec := "editThen", apart := false, narrowed := true }
def EditThenUptoSaid : Prop := editThenUptoRow.holds Try.pinned (OpenSpec.upto editThenSpec)

/-- 'footbridgelaw17.EditApplies', WHERE WHAT IT READS IS OF BULK AT MOST 1048576: true; the input reads as it did. -/
def editAppliesUptoRow : OpenClaim := { program := "ytkceidcedkknfaa", sum := "0ba855ce14b475ccdb36749a77dfdd3aa7e556ff006851003f1fd8b27f1fbb2c", func := "footbridge/footbridgelaw17.EditApplies", spec := "editApplies", apart := false, narrowed := true }
def EditAppliesUptoSaid : Prop := editAppliesUptoRow.holds Try.pinned (OpenSpec.upto editAppliesSpec)

/-- 'footbridgelaw17.EditRow', WHERE WHAT IT READS IS OF BULK AT MOST 1048576: true; the input reads as it did. -/
def editRowUptoRow : OpenClaim := { program := "ytkceidcedkknfaa", sum := "0ba855ce14b475ccdb36749a77dfdd3aa7e556ff006851003f1fd8b27f1fbb2c", func := "footbridge/footbridgelaw17.EditRow", spec := "editRow", apart := false, narrowed := true }
def EditRowUptoSaid : Prop := editRowUptoRow.holds Try.pinned (OpenSpec.upto editRowSpec)

/-- 'footbridgelaw17.EditOf', WHERE WHAT IT READS IS OF BULK AT MOST 1048576: true; the input reads as it did. -/
def editOfUptoRow : OpenClaim := { program := "ytkceidcedkknfaa", sum := "0ba855ce14b475ccdb36749a77dfdd3aa7e556ff006851003f1fd8b27f1fbb2c", func := "footbridge/footbridgelaw17.EditOf", spec := "editOf", apart := false, narrowed := true }
def EditOfUptoSaid : Prop := editOfUptoRow.holds Try.pinned (OpenSpec.upto editOfSpec)

end Rows
end Go.Proofs.Ytkceidcedkknfaa
