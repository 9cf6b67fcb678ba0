/-
  No cell of these rows narrows 'for every input' (looked for: loops, veiled, ifaces, maps, wideKeys, modest, calm, conditions, laid).
  DERIVED. THE GIVEN ROWS OF THIS SEAT. 4 by the template 'for every input the law returns true; each argument reads behind the call as it read before'; 0 by the template 'total and deterministic' (their statements: YtjfpbhdcbjaahaaTotals.lean).
  GIVEN WITH THE SEED: the statements are not yours to turn. If you find one false, say at which input.
  Laid BY PROGRAM, IN A SANDBOX (cutbox-rows.mjs): the forced cells as the released guide's own fill.sh prints them over the translation e7cae9b5de9eb1ca… (all of the seat's roots in one cut). By AI agents, Wed Nov 11 2026. No macro, syntax, notation, axiom, sorry.
-/
import Derived.Test.YtjfpbhdcbjaahaaChecked
import GoSem.Claim
import GoSem.ClaimJoined
import GoSem.ClaimMapViews
import Derived.JoinedTies
import Derived.KernelRfl
namespace Go.Proofs.Ytjfpbhdcbjaahaa
/- THE CELL 'sum', in the pinned program and in every row, IS THE sha256 OF THE DUMP (.gsa) THAT YtjfpbhdcbjaahaaProg.lean LOADS. Nothing in Lean hashes anything: it is a label: what it is worth is what the hold of that sum in a sandbox is worth. -/
noncomputable def Try.pinned : Pinned := { name := "ytjfpbhdcbjaahaa", sum := "e7cae9b5de9eb1ca8e72f062e9a2dce44a9fc4d8a89dd8c84e74bc831c21bedf", checked := Try.checked }
namespace Rows
def none {H : Type} : Left H := { results := [], args := [] }

/-- 'footbridgelaw15.CacheOwn': WHATEVER THE INPUT: true; the input reads as it did. -/
def cacheOwnSpec : ChangeSpec := { name := "cacheOwn", fn := fun _ => fun
  | [d1, d2] => { results := [.lit (.bool true)], args := [d1, d2] }
  | _ => none }
def cacheOwnRow : OpenClaim := { program := "ytjfpbhdcbjaahaa", sum := "e7cae9b5de9eb1ca8e72f062e9a2dce44a9fc4d8a89dd8c84e74bc831c21bedf", func := "footbridge/footbridgelaw15.CacheOwn", spec := "cacheOwn", apart := false }
def CacheOwnSaid : Prop := cacheOwnRow.holds Try.pinned (OpenSpec.ofChange cacheOwnSpec)

/-- ITS FALSE NEIGHBOUR: 'it returns false'. Refute it at one input. -/
def cacheOwnWrong : ChangeSpec := { name := "cacheOwn", fn := fun _ => fun
  | [d1, d2] => { results := [.lit (.bool false)], args := [d1, d2] }
  | _ => none }
def CacheOwnWrongFalsely : Prop := cacheOwnRow.holds Try.pinned (OpenSpec.ofChange cacheOwnWrong)

/-- 'footbridgelaw15.CacheLast': WHATEVER THE INPUT: true; the input reads as it did. -/
def cacheLastSpec : ChangeSpec := { name := "cacheLast", fn := fun _ => fun
  | [d1, d2] => { results := [.lit (.bool true)], args := [d1, d2] }
  | _ => none }
def cacheLastRow : OpenClaim := { program := "ytjfpbhdcbjaahaa", sum := "e7cae9b5de9eb1ca8e72f062e9a2dce44a9fc4d8a89dd8c84e74bc831c21bedf", func := "footbridge/footbridgelaw15.CacheLast", spec := "cacheLast", apart := false }
def CacheLastSaid : Prop := cacheLastRow.holds Try.pinned (OpenSpec.ofChange cacheLastSpec)

/-- ITS FALSE NEIGHBOUR: 'it returns false'. Refute it at one input. -/
def cacheLastWrong : ChangeSpec := { name := "cacheLast", fn := fun _ => fun
  | [d1, d2] => { results := [.lit (.bool false)], args := [d1, d2] }
  | _ => none }
def CacheLastWrongFalsely : Prop := cacheLastRow.holds Try.pinned (OpenSpec.ofChange cacheLastWrong)

/-- 'footbridgelaw15.CachePlays': WHATEVER THE INPUT: true; the input reads as it did. -/
def cachePlaysSpec : ChangeSpec := { name := "cachePlays", fn := fun _ => fun
  | [d1, d2] => { results := [.lit (.bool true)], args := [d1, d2] }
  | _ => none }
def cachePlaysRow : OpenClaim := { program := "ytjfpbhdcbjaahaa", sum := "e7cae9b5de9eb1ca8e72f062e9a2dce44a9fc4d8a89dd8c84e74bc831c21bedf", func := "footbridge/footbridgelaw15.CachePlays", spec := "cachePlays", apart := false }
def CachePlaysSaid : Prop := cachePlaysRow.holds Try.pinned (OpenSpec.ofChange cachePlaysSpec)

/-- ITS FALSE NEIGHBOUR: 'it returns false'. Refute it at one input. -/
def cachePlaysWrong : ChangeSpec := { name := "cachePlays", fn := fun _ => fun
  | [d1, d2] => { results := [.lit (.bool false)], args := [d1, d2] }
  | _ => none }
def CachePlaysWrongFalsely : Prop := cachePlaysRow.holds Try.pinned (OpenSpec.ofChange cachePlaysWrong)

/-- 'footbridgelaw15.CacheNil': WHATEVER THE INPUT: true; the input reads as it did. -/
def cacheNilSpec : ChangeSpec := { name := "cacheNil", fn := fun _ => fun
  | [d1, d2] => { results := [.lit (.bool true)], args := [d1, d2] }
  | _ => none }
def cacheNilRow : OpenClaim := { program := "ytjfpbhdcbjaahaa", sum := "e7cae9b5de9eb1ca8e72f062e9a2dce44a9fc4d8a89dd8c84e74bc831c21bedf", func := "footbridge/footbridgelaw15.CacheNil", spec := "cacheNil", apart := false }
def CacheNilSaid : Prop := cacheNilRow.holds Try.pinned (OpenSpec.ofChange cacheNilSpec)

/-- ITS FALSE NEIGHBOUR: 'it returns false'. Refute it at one input. -/
def cacheNilWrong : ChangeSpec := { name := "cacheNil", fn := fun _ => fun
  | [d1, d2] => { results := [.lit (.bool false)], args := [d1, d2] }
  | _ => none }
def CacheNilWrongFalsely : Prop := cacheNilRow.holds Try.pinned (OpenSpec.ofChange cacheNilWrong)

/- THE SECOND FORM. 'bulk': how many values and letters a reading holds, each counted each time it is reached (what is shared counts as often as it is met; a slice's spare places count too). A statement '..UptoSaid' is the law's where the arguments, and the package variables that the reading takes, are together of bulk at most 1048576: NARROWER than '..Said'. Prove '..Said' where nothing that the law and all that it calls make is longer than what came in: it says more and counts as full. Else prove '..UptoSaid'. A law counts once. -/
mutual
def uptoBulk {H : Type} : DataW H → Nat
  | .lit (.string bytes) => bytes.length + 1
  | .lit _ => 1
  | .nil => 1
  | .ptr d => uptoBulk d + 1
  | .slice elems spare => uptoBulkAll elems + uptoBulkAll spare + 1
  | .agg parts => uptoBulkAll parts + 1
  | .iface _ d => uptoBulk d + 1
  | .map entries => uptoBulkEntries entries + 1
  | .held _ => 1
def uptoBulkAll {H : Type} : List (DataW H) → Nat
  | [] => 0
  | d :: r => uptoBulk d + uptoBulkAll r
def uptoBulkEntries {H : Type} : List (Lit × DataW H) → Nat
  | [] => 0
  | x :: r => uptoBulkEntry x + uptoBulkEntries r
def uptoBulkEntry {H : Type} : Lit × DataW H → Nat
  | (.string bytes, d) => bytes.length + uptoBulk d + 1
  | (_, d) => uptoBulk d + 1
 end
def uptoSmall : (H : Type) → List (DataW H) → Bool := fun _ ds => decide (uptoBulkAll ds ≤ 1048576)
def OpenSpec.upto (s : _root_.Go.ChangeSpec) : _root_.Go.OpenSpec := { _root_.Go.OpenSpec.ofChange s with cond := some uptoSmall }

/-- 'footbridgelaw15.CacheOwn', WHERE WHAT IT READS IS OF BULK AT MOST 1048576: true; the input reads as it did. -/
def cacheOwnUptoRow : OpenClaim := { program := "ytjfpbhdcbjaahaa", sum := "e7cae9b5de9eb1ca8e72f062e9a2dce44a9fc4d8a89dd8c84e74bc831c21bedf", func := "footbridge/footbridgelaw15.CacheOwn", spec := "cacheOwn", apart := false, narrowed := true }
def CacheOwnUptoSaid : Prop := cacheOwnUptoRow.holds Try.pinned (OpenSpec.upto cacheOwnSpec)

/-- 'footbridgelaw15.CacheLast', WHERE WHAT IT READS IS OF BULK AT MOST 1048576: true; the input reads as it did. -/
def cacheLastUptoRow : OpenClaim := { program := "ytjfpbhdcbjaahaa", sum := "e7cae9b5de9eb1ca8e72f062e9a2dce44a9fc4d8a89dd8c84e74bc831c21bedf", func := "footbridge/footbridgelaw15.CacheLast", spec := "cacheLast", apart := false, narrowed := true }
def CacheLastUptoSaid : Prop := cacheLastUptoRow.holds Try.pinned (OpenSpec.upto cacheLastSpec)

/-- 'footbridgelaw15.CachePlays', WHERE WHAT IT READS IS OF BULK AT MOST 1048576: true; the input reads as it did. -/
def cachePlaysUptoRow : OpenClaim := { program := "ytjfpbhdcbjaahaa", sum := "e7cae9b5de9eb1ca8e72f062e9a2dce44a9fc4d8a89dd8c84e74bc831c21bedf", func := "footbridge/footbridgelaw15.CachePlays", spec := "cachePlays", apart := false, narrowed := true }
def CachePlaysUptoSaid : Prop := cachePlaysUptoRow.holds Try.pinned (OpenSpec.upto cachePlaysSpec)

/-- 'footbridgelaw15.CacheNil', WHERE WHAT IT READS IS OF BULK AT MOST 1048576: true; the input reads as it did. -/
def cacheNilUptoRow : OpenClaim := { program := "ytjfpbhdcbjaahaa", sum := "e7cae9b5de9eb1ca8e72f062e9a2dce44a9fc4d8a89dd8c84e74bc831c21bedf", func := "footbridge/footbridgelaw15.CacheNil", spec := "cacheNil", apart := false, narrowed := true }
def CacheNilUptoSaid : Prop := cacheNilUptoRow.holds Try.pinned (OpenSpec.upto cacheNilSpec)

end Rows
end Go.Proofs.Ytjfpbhdcbjaahaa
