/- Proved: RetokNew: for every input the law answers true and leaves its arguments as they were; condition: the table class.usual reads as the program's text lays it (tied by the card). -/
import Derived.Test.YtahiballegpbgaaGreatDoorR42
import Derived.Test.YtahiballegpbgaaGreatDoorR43
import Derived.Test.YtahiballegpbgaaGreatDoorCards
import Derived.Test.YtahiballegpbgaaGreatDoorTie
import Derived.SevenTiedAt
set_option linter.unusedVariables false
set_option maxHeartbeats 400000
set_option maxRecDepth 100000
namespace Go.Proofs.YtahiballegpbgaaGreatDoor
open Go.ChangeShapes Go.WideShapes Go.ChangeAt Go.RowKit Go.Joins Go.Deep
theorem dW (W:World) (base:Nat) {H:Type} {enc:TypeId×Value->H} (args:Array Value) (ds:List (DataW H)) (p:List MemPlace)
  (hval:∀(j:Nat) t v,Tryz.f5.params[j]?=some t->args[j]?=some v->Value.okWide Tryz.prog W .any base t v)
  (hA:DataW.TrodAll enc Tryz.prog W 0 (fun _=>true) true Tryz.f5.params.toList args.toList ds p) (hL:laidMetH Tryz.prog Y4 W):
  Frame.Law Tryz.prog 5 args W:=by
 rw[Tryz.params5]at hA hval;obtain⟨v0,v1,v2,v3,d0,d1,d2,d3,p0,p1,p2,p3,rfl,rfl,rfl,h0,h1,h2,h3⟩:=aDR hA;obtain⟨dd0,V0,no0,nn0,nc0,N0,kind0,to0,tn0,tc0,T0,room0,rfl,hV0,hT0,hS0,hN0,hR0⟩:=kit_open (hval 0 29 v0 rfl rfl) h0;obtain⟨z1,rfl⟩:=okWide_int Tryz.underlying3 (hval 1 3 v1 rfl rfl);obtain⟨z2,rfl⟩:=okWide_int Tryz.underlying3 (hval 2 3 v2 rfl rfl);obtain⟨z3,rfl⟩:=okWide_int Tryz.underlying3 (hval 3 3 v3 rfl rfl);exact rT W hV0 ⟨hT0,hS0⟩ hN0.1 hN0.2 hR0 (of_laid hL)
theorem oQ (os:Os) (started:os.Started) (H:Type) (enc:TypeId×Value->H):
  ReturnsInHanded {} Tryz.checked os 5 .any (fun w args=>(Rows.retokNewSpec.pre enc Tryz.prog Tryz.f5 [] false w args/\laidMetH Tryz.prog Y4 w)/\sizedMet enc Tryz.prog Tryz.f5 (OpenSpec.ofChange Rows.retokNewSpec) false w args)
   (Rows.retokNewSpec.post enc Tryz.prog Tryz.f5 false true false false):=
 law_laid (C:=Tryz.checked) (fn:=Tryz.f5) own started (by kernel_rfl) Tryz.func5 laidOut (by decide +kernel) rfl Tryz.underlying4 rfl
  (fun ds h=>by match ds,h with | [d1,d2,d3,d4],_=>rfl)
  (ChangeSpec.witness_shaped (enc:=enc) (C:=Tryz.checked) (os:=os) (X:=fun w _=>laidMetH Tryz.prog Y4 w) false (World.doorLaid Tryz.prog 400 os) #[.agg #[.slice none 0 0, .slice none 0 0, .slice none 0 0, .slice none 0 0, .int .i64 0, .slice none 0 0, .int .i64 0], .int .i64 0, .int .i64 0, .int .i64 0] 8 rfl (World.shaped_of_RefB (by kernel_rfl) (by kernel_rfl)) (by kernel_rfl) (by kernel_rfl) (by kernel_rfl) (door_met os _))
  (fun W base args ds p hval hA hL=>dW W base args ds p hval hA hL)
theorem retokNew_said:Rows.RetokNewSaid:=
 OpenClaim.holds_of_wide 5 Tryz.f5 rfl rfl rfl rfl rfl rfl rfl ⟨rfl,rfl,rfl,rfl,rfl⟩ rfl rfl rfl rfl rfl (by kernel_rfl) Tryz.func5 (by kernel_rfl)
  (of_decide_eq_true (by kernel_rfl)) (by unfold Func.isWrapper;rw[if_neg (of_decide_eq_false (by kernel_rfl))];exact⟨rfl,rfl⟩)
  (fun os started H enc _=>oQ os started H enc)
theorem retokNew_holds:Rows.RetokNewCardSaid:=
 Claim7.holds_tied_plain_at .later [] [.widerDeep] true Rows.retokNewCard.stood.harness true
  retokNew_said (fun _ h=>by cases h) (by kernel_rfl) (fun _ h=>by cases h) retokNew_row_tie rfl ⟨rfl,rfl⟩ (by kernel_rfl) rfl
  (fun f fn hf hfn=>by
   obtain rfl:f=5:=Option.some.inj ((show Tryz.prog.funcNamed "footbridge/footbridgelaw22.RetokNew" = some 5 by kernel_rfl).symm.trans hf) |>.symm
   obtain rfl:fn=Tryz.f5:=(Option.some.inj (Tryz.func5.symm.trans hfn)).symm;exact⟨by kernel_rfl,fun j t ht=>by
    rw[Tryz.params5]at ht;have hm:t∈[29,3,3,3]:=by simpa using Array.mem_of_getElem? ht
    have hall:([29,3,3,3].all fun u=>!Tryz.prog.wantsStandIn u)=true:=by kernel_rfl
    exact(show Tryz.prog.wantsStandIn t=false by simpa using List.all_eq_true.1 hall t hm)⟩)
  (by kernel_rfl)
#print axioms retokNew_holds
end Go.Proofs.YtahiballegpbgaaGreatDoor
