/- What the laws on vocabularies share. -/
import Derived.Test.YteoncpkfinheoaaBytes
import Derived.Test.YteoncpkfinheoaaOpenV
import Derived.Deep.RegionHeld3
import Derived.Deep.RegionWith
namespace Go.Proofs.Yteoncpkfinheoaa
open Go.RowKit
set_option linter.unusedVariables false

theorem own : ownKnob Try.prog.godebug = none := by kernel_rfl
theorem laidOut : laidOutB Try.prog = true := by kernel_rfl

open Classical in
noncomputable def mV (V : Vc) : Bool := decide (May V)
theorem mV_iff (V : Vc) : mV V = true ↔ May V := by unfold mV; simp
theorem bool_of {b c : Bool} {p : Prop} (h1 : b = true ↔ p) (h2 : c = true ↔ p) : b = c := by
  cases b <;> cases c <;> simp_all

theorem may_val {V : Vc} {dd : Vd} (w : World) (hV : VocR w dd V) (hok : VOk V) :
    Calls Try.prog 31 #[dd.val] w fun e w' => e = .returned (.bool (mV V)) ∧ Below w.heap.size w w' :=
  (may_calls w hV hok).mono fun e w' ⟨⟨b, he, hb⟩, hw⟩ => ⟨by rw [he, bool_of hb (mV_iff V)], hw⟩
theorem rmay_val {V : Vc} {dd : Vd} (w : World) (hV : VocR w dd V) (hok : VOk V) :
    Calls Try.prog 21 #[dd.val] w fun e w' => e = .returned (.bool (mV V)) ∧ Below w.heap.size w w' :=
  (rmay_calls w hV hok).mono fun e w' ⟨⟨b, he, hb⟩, hw⟩ => ⟨by rw [he, bool_of hb (mV_iff V)], hw⟩

theorem keepV {w0 w w' : World} {p1 p2 p3 : Addr} {v1 v2 v3 : Value} (h : w.cell? p1 = some v1 ∧ w.cell? p2 = some v2 ∧ w.cell? p3 = some v3 ∧ Below w0.heap.size w0 w) (hb : Below w.heap.size w w') :
    w'.cell? p1 = some v1 ∧ w'.cell? p2 = some v2 ∧ w'.cell? p3 = some v3 ∧ Below w0.heap.size w0 w' :=
  ⟨cell_below hb _ _ h.1, cell_below hb _ _ h.2.1, cell_below hb _ _ h.2.2.1, h.2.2.2.trans (hb.mono h.2.2.2.size)⟩

end Go.Proofs.Yteoncpkfinheoaa
