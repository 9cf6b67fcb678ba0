/- Proved: ForceNil: for every input the law answers true and leaves its arguments as they were; condition: the table class.usual reads as the program's text lays it (tied by the card). -/
import Derived.Test.YtnadelmbkaoeeaaGreatDoorK10
import Derived.Test.YtnadelmbkaoeeaaGreatDoorCards
import Derived.Test.YtnadelmbkaoeeaaGreatDoorTie
import Derived.SevenTiedAt
import Derived.ProofKit
namespace Go.Proofs.YtnadelmbkaoeeaaGreatDoor
open Go.ChangeShapes Go.WideShapes Go.ChangeAt Go.RowKit Go.Joins Go.Deep
set_option linter.unusedVariables false

set_option maxRecDepth 100000 in
theorem forceNil_law (W : World) (base : Nat) {H : Type} {enc : TypeId × Value → H} (args : Array Value) (ds : List (DataW H)) (p : List MemPlace)
    (hval : ∀ (j : Nat) t v, Tryz.f7.params[j]? = some t → args[j]? = some v → Value.okWide Tryz.prog W .any base t v)
    (hA : DataW.TrodAll enc Tryz.prog W 0 (fun _ => true) true Tryz.f7.params.toList args.toList ds p) (hL : laidMetH Tryz.prog laidU W) :
    Frame.Law Tryz.prog 7 args W := by
  rw [Tryz.params7] at hA hval
  obtain ⟨v0, d0, rfl, rfl, h0⟩ := Go.ChangeShapes.trodAll_one hA
  obtain ⟨ao0, n0, c0, A0, rfl, hs0, hw0⟩ := sli_open Tryz.underlying41 Tryz.underlying3 cellsInt (hval 0 41 v0 rfl rfl) h0
  exact forceNil_walk _ W (of_laid hL)

set_option maxRecDepth 100000 in
theorem forceNil_lifted (os : Os) (started : os.Started) (H : Type) (enc : TypeId × Value → H) :
    ReturnsInHanded {} Tryz.checked os 7 .any (fun w args => (Rows.forceNilSpec.pre enc Tryz.prog Tryz.f7 [] false w args ∧ laidMetH Tryz.prog laidU w) ∧ sizedMet enc Tryz.prog Tryz.f7 (OpenSpec.ofChange Rows.forceNilSpec) false w args)
      (Rows.forceNilSpec.post enc Tryz.prog Tryz.f7 false true false false) :=
  law_laid (C := Tryz.checked) (fn := Tryz.f7) own started (by kernel_rfl) Tryz.func7 laidOut (by decide +kernel) rfl Tryz.underlying4 rfl
    (fun ds h => by match ds, h with | [d1], _ => rfl)
    (ChangeSpec.witness_shaped (enc := enc) (C := Tryz.checked) (os := os) (X := fun w _ => laidMetH Tryz.prog laidU w) false (World.doorLaid Tryz.prog 400 os) #[.slice none 0 0] 8 rfl (World.shaped_of_RefB (by kernel_rfl) (by kernel_rfl)) (by kernel_rfl) (by kernel_rfl) (by kernel_rfl) (door_met os _))
    (fun W base args ds p hval hA hL => forceNil_law W base args ds p hval hA hL)

theorem forceNil_said : Rows.ForceNilSaid :=
  OpenClaim.holds_of_wide 7 Tryz.f7 rfl rfl rfl rfl rfl rfl rfl ⟨rfl, rfl, rfl, rfl, rfl⟩ rfl rfl rfl rfl rfl (by kernel_rfl) Tryz.func7 (by kernel_rfl)
    (of_decide_eq_true (by kernel_rfl)) (by unfold Func.isWrapper; rw [if_neg (of_decide_eq_false (by kernel_rfl))]; exact ⟨rfl, rfl⟩)
    (fun os started H enc _ => forceNil_lifted os started H enc)

theorem forceNil_holds : Rows.ForceNilCardSaid :=
  Claim7.holds_tied_plain_at .later [] [.widerDeep] true Rows.forceNilCard.stood.harness true
    forceNil_said (fun _ h => by cases h) (by kernel_rfl) (fun _ h => by cases h) forceNil_row_tie rfl ⟨rfl, rfl⟩ (by kernel_rfl) rfl
    (fun f fn hf hfn => by
      obtain rfl : f = 7 := Option.some.inj ((show Tryz.prog.funcNamed "footbridge/footbridgelaw23.ForceNil" = some 7 by kernel_rfl).symm.trans hf) |>.symm
      obtain rfl : fn = Tryz.f7 := (Option.some.inj (Tryz.func7.symm.trans hfn)).symm
      exact ⟨by kernel_rfl, fun j t ht => by
        rw [Tryz.params7] at ht
        have hm : t ∈ [41] := by simpa using Array.mem_of_getElem? ht
        have hall : ([41].all fun u => !Tryz.prog.wantsStandIn u) = true := by kernel_rfl
        exact (show Tryz.prog.wantsStandIn t = false by simpa using List.all_eq_true.1 hall t hm)⟩)
    (by kernel_rfl)

#print axioms forceNil_holds
end Go.Proofs.YtnadelmbkaoeeaaGreatDoor
