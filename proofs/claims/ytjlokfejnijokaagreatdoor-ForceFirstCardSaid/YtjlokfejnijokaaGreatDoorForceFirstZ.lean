/- Proved: ForceFirst: for every input the law answers true and leaves its arguments as they were; condition: the table class.usual reads as the program's text lays it (tied by the card). -/
import Derived.Test.YtjlokfejnijokaaGreatDoorH38
import Derived.Test.YtjlokfejnijokaaGreatDoorCards
import Derived.Test.YtjlokfejnijokaaGreatDoorTie
import Derived.SevenTiedAt
import Derived.ProofKit
set_option linter.unusedVariables false
set_option maxHeartbeats 400000
set_option maxRecDepth 100000
namespace Go.Proofs.YtjlokfejnijokaaGreatDoor
open Go.ChangeShapes Go.WideShapes Go.ChangeAt Go.RowKit Go.Joins Go.Deep
theorem nQ (W:World) (base:Nat) {H:Type} {enc:TypeId×Value->H} (args:Array Value) (ds:List (DataW H)) (p:List MemPlace)
  (hval:∀(j:Nat) t v,Tryz.f4.params[j]?=some t->args[j]?=some v->Value.okWide Tryz.prog W .any base t v)
  (hA:DataW.TrodAll enc Tryz.prog W 0 (fun _=>true) true Tryz.f4.params.toList args.toList ds p) (hL:laidMetH Tryz.prog tW W):
  Frame.Law Tryz.prog 4 args W:=by
 rw[Tryz.params4]at hA hval;obtain⟨v0,v1,v2,v3,d0,d1,d2,d3,p0,p1,p2,p3,rfl,rfl,rfl,h0,h1,h2,h3⟩:=aCc hA;obtain⟨dd0,V0,no0,nn0,nc0,N0,kind0,to0,tn0,tc0,T0,room0,rfl,hV0,hT0,hS0,hN0,hR0⟩:=kit_open (hval 0 29 v0 rfl rfl) h0;obtain⟨ao1,n1,c1,A1,rfl,hs1,hw1⟩:=xV Tryz.underlying40 Tryz.underlying3 X3 (hval 1 40 v1 rfl rfl) h1;obtain⟨z2,rfl,hz2⟩:=aBA Tryz.underlying5 (hval 2 5 v2 rfl rfl);obtain⟨ao3,n3,c3,A3,rfl,hs3,hw3⟩:=xV Tryz.underlying40 Tryz.underlying3 X3 (hval 3 40 v3 rfl rfl) h3;exact O9 z2 W hV0 ⟨hT0,hS0⟩ hN0.1 hN0.2 hR0 hs1 hs3 ⟨hz2.1,by have:=hz2.2;omega⟩ (of_laid hL)
theorem tM (os:Os) (started:os.Started) (H:Type) (enc:TypeId×Value->H):
  ReturnsInHanded {} Tryz.checked os 4 .any (fun w args=>(Rows.forceFirstSpec.pre enc Tryz.prog Tryz.f4 [] false w args/\laidMetH Tryz.prog tW w)/\sizedMet enc Tryz.prog Tryz.f4 (OpenSpec.ofChange Rows.forceFirstSpec) false w args)
   (Rows.forceFirstSpec.post enc Tryz.prog Tryz.f4 false true false false):=
 law_laid (C:=Tryz.checked) (fn:=Tryz.f4) own started (by kernel_rfl) Tryz.func4 laidOut (by decide +kernel) rfl Tryz.underlying4 rfl
  (fun ds h=>by match ds,h with | [d1,d2,d3,d4],_=>rfl)
  (ChangeSpec.witness_shaped (enc:=enc) (C:=Tryz.checked) (os:=os) (X:=fun w _=>laidMetH Tryz.prog tW w) false (World.doorLaid Tryz.prog 400 os) #[.agg #[.slice none 0 0, .slice none 0 0, .slice none 0 0, .slice none 0 0, .int .i64 0, .slice none 0 0, .int .i64 0], .slice none 0 0, .int .u8 0, .slice none 0 0] 8 rfl (World.shaped_of_RefB (by kernel_rfl) (by kernel_rfl)) (by kernel_rfl) (by kernel_rfl) (by kernel_rfl) (door_met os _))
  (fun W base args ds p hval hA hL=>nQ W base args ds p hval hA hL)
theorem forceFirst_said:Rows.ForceFirstSaid:=
 OpenClaim.holds_of_wide 4 Tryz.f4 rfl rfl rfl rfl rfl rfl rfl ⟨rfl,rfl,rfl,rfl,rfl⟩ rfl rfl rfl rfl rfl (by kernel_rfl) Tryz.func4 (by kernel_rfl)
  (of_decide_eq_true (by kernel_rfl)) (by unfold Func.isWrapper;rw[if_neg (of_decide_eq_false (by kernel_rfl))];exact⟨rfl,rfl⟩)
  (fun os started H enc _=>tM os started H enc)
theorem forceFirst_holds:Rows.ForceFirstCardSaid:=
 Claim7.holds_tied_plain_at .later [] [.widerDeep] true Rows.forceFirstCard.stood.harness true
  forceFirst_said (fun _ h=>by cases h) (by kernel_rfl) (fun _ h=>by cases h) forceFirst_row_tie rfl ⟨rfl,rfl⟩ (by kernel_rfl) rfl
  (fun f fn hf hfn=>by
   obtain rfl:f=4:=Option.some.inj ((show Tryz.prog.funcNamed "footbridge/footbridgelaw23.ForceFirst" = some 4 by kernel_rfl).symm.trans hf) |>.symm
   obtain rfl:fn=Tryz.f4:=(Option.some.inj (Tryz.func4.symm.trans hfn)).symm;exact⟨by kernel_rfl,fun j t ht=>by
    rw[Tryz.params4]at ht;have hm:t∈[29,40,5,40]:=by simpa using Array.mem_of_getElem? ht
    have hall:([29,40,5,40].all fun u=>!Tryz.prog.wantsStandIn u)=true:=by kernel_rfl
    exact(show Tryz.prog.wantsStandIn t=false by simpa using List.all_eq_true.1 hall t hm)⟩)
  (by kernel_rfl)
#print axioms forceFirst_holds
end Go.Proofs.YtjlokfejnijokaaGreatDoor
