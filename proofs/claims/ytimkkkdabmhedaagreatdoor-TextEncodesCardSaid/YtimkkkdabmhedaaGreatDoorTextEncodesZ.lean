/- Proved: TextEncodes: for every input the law answers true and leaves its arguments as they were; condition: the table class.usual reads as the program's text lays it (tied by the card). -/
import Derived.Test.YtimkkkdabmhedaaGreatDoorF43
import Derived.Test.YtimkkkdabmhedaaGreatDoorCards
import Derived.Test.YtimkkkdabmhedaaGreatDoorTie
import Derived.SevenTiedAt
import Derived.ProofKit
set_option linter.unusedVariables false
set_option maxHeartbeats 400000
set_option maxRecDepth 100000
namespace Go.Proofs.YtimkkkdabmhedaaGreatDoor
open Go.ChangeShapes Go.WideShapes Go.ChangeAt Go.RowKit Go.Joins Go.Deep
theorem P8 (W:World) (base:Nat) {H:Type} {enc:TypeId×Value->H} (args:Array Value) (ds:List (DataW H)) (p:List MemPlace)
  (hval:∀(j:Nat) t v,Tryz.f7.params[j]?=some t->args[j]?=some v->Value.okWide Tryz.prog W .any base t v)
  (hA:DataW.TrodAll enc Tryz.prog W 0 (fun _=>true) true Tryz.f7.params.toList args.toList ds p) (hL:laidMetH Tryz.prog X7 W):
  Frame.Law Tryz.prog 7 args W:=by
 rw[Tryz.params7]at hA hval;obtain⟨v0,v1,d0,d1,p0,p1,rfl,rfl,rfl,h0,h1⟩:=Go.ChangeShapes.trodAll_two hA;obtain⟨dd0,V0,no0,nn0,nc0,N0,kind0,to0,tn0,tc0,T0,room0,rfl,hV0,hT0,hS0,hN0,hR0⟩:=kit_open (hval 0 29 v0 rfl rfl) h0;obtain⟨ao1,n1,c1,A1,rfl,hs1,hw1⟩:=sli_open Tryz.underlying43 Tryz.underlying3 cellsInt (hval 1 43 v1 rfl rfl) h1;exact qO W hV0 ⟨hT0,hS0⟩ hN0.1 hN0.2 hR0 hs1 (of_laid hL)
theorem fM (os:Os) (started:os.Started) (H:Type) (enc:TypeId×Value->H):
  ReturnsInHanded {} Tryz.checked os 7 .any (fun w args=>(Rows.textEncodesSpec.pre enc Tryz.prog Tryz.f7 [] false w args/\laidMetH Tryz.prog X7 w)/\sizedMet enc Tryz.prog Tryz.f7 (OpenSpec.ofChange Rows.textEncodesSpec) false w args)
   (Rows.textEncodesSpec.post enc Tryz.prog Tryz.f7 false true false false):=
 law_laid (C:=Tryz.checked) (fn:=Tryz.f7) own started (by kernel_rfl) Tryz.func7 laidOut (by decide +kernel) rfl Tryz.underlying4 rfl
  (fun ds h=>by match ds,h with | [d1,d2],_=>rfl)
  (ChangeSpec.witness_shaped (enc:=enc) (C:=Tryz.checked) (os:=os) (X:=fun w _=>laidMetH Tryz.prog X7 w) false (World.doorLaid Tryz.prog 400 os) #[.agg #[.slice none 0 0, .slice none 0 0, .slice none 0 0, .slice none 0 0, .int .i64 0, .slice none 0 0, .int .i64 0], .slice none 0 0] 8 rfl (World.shaped_of_RefB (by kernel_rfl) (by kernel_rfl)) (by kernel_rfl) (by kernel_rfl) (by kernel_rfl) (door_met os _))
  (fun W base args ds p hval hA hL=>P8 W base args ds p hval hA hL)
theorem textEncodes_said:Rows.TextEncodesSaid:=
 OpenClaim.holds_of_wide 7 Tryz.f7 rfl rfl rfl rfl rfl rfl rfl ⟨rfl,rfl,rfl,rfl,rfl⟩ rfl rfl rfl rfl rfl (by kernel_rfl) Tryz.func7 (by kernel_rfl)
  (of_decide_eq_true (by kernel_rfl)) (by unfold Func.isWrapper;rw[if_neg (of_decide_eq_false (by kernel_rfl))];exact⟨rfl,rfl⟩)
  (fun os started H enc _=>fM os started H enc)
theorem textEncodes_holds:Rows.TextEncodesCardSaid:=
 Claim7.holds_tied_plain_at .later [] [.widerDeep] true Rows.textEncodesCard.stood.harness true
  textEncodes_said (fun _ h=>by cases h) (by kernel_rfl) (fun _ h=>by cases h) textEncodes_row_tie rfl ⟨rfl,rfl⟩ (by kernel_rfl) rfl
  (fun f fn hf hfn=>by
   obtain rfl:f=7:=Option.some.inj ((show Tryz.prog.funcNamed "footbridge/footbridgelaw16.TextEncodes" = some 7 by kernel_rfl).symm.trans hf) |>.symm
   obtain rfl:fn=Tryz.f7:=(Option.some.inj (Tryz.func7.symm.trans hfn)).symm;exact⟨by kernel_rfl,fun j t ht=>by
    rw[Tryz.params7]at ht;have hm:t∈[29,43]:=by simpa using Array.mem_of_getElem? ht
    have hall:([29,43].all fun u=>!Tryz.prog.wantsStandIn u)=true:=by kernel_rfl
    exact(show Tryz.prog.wantsStandIn t=false by simpa using List.all_eq_true.1 hall t hm)⟩)
  (by kernel_rfl)
#print axioms textEncodes_holds
end Go.Proofs.YtimkkkdabmhedaaGreatDoor
