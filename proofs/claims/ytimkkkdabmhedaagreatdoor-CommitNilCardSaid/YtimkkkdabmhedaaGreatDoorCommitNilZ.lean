/- Proved: CommitNil: for every input the law answers true and leaves its arguments as they were; condition: the table class.usual reads as the program's text lays it (tied by the card). -/
import Derived.Test.YtimkkkdabmhedaaGreatDoorD45
import Derived.Test.YtimkkkdabmhedaaGreatDoorD37
import Derived.Test.YtimkkkdabmhedaaGreatDoorCards
import Derived.Test.YtimkkkdabmhedaaGreatDoorTie
import Derived.SevenTiedAt
import Derived.ProofKit
set_option linter.unusedVariables false
set_option maxHeartbeats 400000
set_option maxRecDepth 100000
namespace Go.Proofs.YtimkkkdabmhedaaGreatDoor
open Go.ChangeShapes Go.WideShapes Go.ChangeAt Go.RowKit Go.Joins Go.Deep
theorem commitNil_law (W:World) (base:Nat) {H:Type} {enc:TypeId×Value→H} (args:Array Value) (ds:List (DataW H)) (p:List MemPlace)
  (hval:∀(j:Nat) t v,Tryz.f11.params[j]?=some t→args[j]?=some v→Value.okWide Tryz.prog W .any base t v)
  (hA:DataW.TrodAll enc Tryz.prog W 0 (fun _=>true) true Tryz.f11.params.toList args.toList ds p) (hL:laidMetH Tryz.prog laidU W):
  Frame.Law Tryz.prog 11 args W:=by
 rw[Tryz.params11]at hA hval
 obtain⟨v0,d0,rfl,rfl,h0⟩:=Go.ChangeShapes.trodAll_one hA
 obtain⟨ao0,n0,c0,A0,rfl,hs0,hw0⟩:=sli_open Tryz.underlying43 Tryz.underlying3 cellsInt (hval 0 43 v0 rfl rfl) h0
 exact commitNil_walk W hs0 (of_laid hL)
theorem commitNil_lifted (os:Os) (started:os.Started) (H:Type) (enc:TypeId×Value→H):
  ReturnsInHanded {} Tryz.checked os 11 .any (fun w args=>(Rows.commitNilSpec.pre enc Tryz.prog Tryz.f11 [] false w args∧laidMetH Tryz.prog laidU w)∧sizedMet enc Tryz.prog Tryz.f11 (OpenSpec.ofChange Rows.commitNilSpec) false w args)
   (Rows.commitNilSpec.post enc Tryz.prog Tryz.f11 false true false false):=
 law_laid (C:=Tryz.checked) (fn:=Tryz.f11) own started (by kernel_rfl) Tryz.func11 laidOut (by decide +kernel) rfl Tryz.underlying4 rfl
  (fun ds h=>by match ds,h with | [d1],_=>rfl)
  (ChangeSpec.witness_shaped (enc:=enc) (C:=Tryz.checked) (os:=os) (X:=fun w _=>laidMetH Tryz.prog laidU w) false (World.doorLaid Tryz.prog 400 os) #[.slice none 0 0] 8 rfl (World.shaped_of_RefB (by kernel_rfl) (by kernel_rfl)) (by kernel_rfl) (by kernel_rfl) (by kernel_rfl) (door_met os _))
  (fun W base args ds p hval hA hL=>commitNil_law W base args ds p hval hA hL)
theorem commitNil_said:Rows.CommitNilSaid:=
 OpenClaim.holds_of_wide 11 Tryz.f11 rfl rfl rfl rfl rfl rfl rfl ⟨rfl,rfl,rfl,rfl,rfl⟩ rfl rfl rfl rfl rfl (by kernel_rfl) Tryz.func11 (by kernel_rfl)
  (of_decide_eq_true (by kernel_rfl)) (by unfold Func.isWrapper;rw[if_neg (of_decide_eq_false (by kernel_rfl))];exact⟨rfl,rfl⟩)
  (fun os started H enc _=>commitNil_lifted os started H enc)
theorem commitNil_holds:Rows.CommitNilCardSaid:=
 Claim7.holds_tied_plain_at .later [] [.widerDeep] true Rows.commitNilCard.stood.harness true
  commitNil_said (fun _ h=>by cases h) (by kernel_rfl) (fun _ h=>by cases h) commitNil_row_tie rfl ⟨rfl,rfl⟩ (by kernel_rfl) rfl
  (fun f fn hf hfn=>by
   obtain rfl:f=11:=Option.some.inj ((show Tryz.prog.funcNamed "footbridge/footbridgelaw20.CommitNil" = some 11 by kernel_rfl).symm.trans hf) |>.symm
   obtain rfl:fn=Tryz.f11:=(Option.some.inj (Tryz.func11.symm.trans hfn)).symm
   exact⟨by kernel_rfl,fun j t ht=>by
    rw[Tryz.params11]at ht
    have hm:t∈[43]:=by simpa using Array.mem_of_getElem? ht
    have hall:([43].all fun u=>!Tryz.prog.wantsStandIn u)=true:=by kernel_rfl
    exact(show Tryz.prog.wantsStandIn t=false by simpa using List.all_eq_true.1 hall t hm)⟩)
  (by kernel_rfl)
#print axioms commitNil_holds
end Go.Proofs.YtimkkkdabmhedaaGreatDoor
