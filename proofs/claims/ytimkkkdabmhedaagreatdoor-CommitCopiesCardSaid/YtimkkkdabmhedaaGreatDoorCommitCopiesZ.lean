/- Proved: CommitCopies: for every input the law answers true and leaves its arguments as they were; condition: the table class.usual reads as the program's text lays it (tied by the card). -/
import Derived.Test.YtimkkkdabmhedaaGreatDoorE43
import Derived.Test.YtimkkkdabmhedaaGreatDoorE44
import Derived.Test.YtimkkkdabmhedaaGreatDoorCards
import Derived.Test.YtimkkkdabmhedaaGreatDoorTie
import Derived.SevenTiedAt
import Derived.ProofKit
set_option linter.unusedVariables false
set_option maxHeartbeats 400000
set_option maxRecDepth 100000
namespace Go.Proofs.YtimkkkdabmhedaaGreatDoor
open Go.ChangeShapes Go.WideShapes Go.ChangeAt Go.RowKit Go.Joins Go.Deep
theorem O4 (W:World) (base:Nat) {H:Type} {enc:TypeId×Value->H} (args:Array Value) (ds:List (DataW H)) (p:List MemPlace)
  (hval:∀(j:Nat) t v,Tryz.f9.params[j]?=some t->args[j]?=some v->Value.okWide Tryz.prog W .any base t v)
  (hA:DataW.TrodAll enc Tryz.prog W 0 (fun _=>true) true Tryz.f9.params.toList args.toList ds p) (hL:laidMetH Tryz.prog yX W):
  Frame.Law Tryz.prog 9 args W:=by
 rw[Tryz.params9]at hA hval;obtain⟨v0,v1,v2,v3,d0,d1,d2,d3,p0,p1,p2,p3,rfl,rfl,rfl,h0,h1,h2,h3⟩:=aCC hA;obtain⟨dd0,V0,no0,nn0,nc0,N0,kind0,to0,tn0,tc0,T0,room0,rfl,hV0,hT0,hS0,hN0,hR0⟩:=kit_open (hval 0 29 v0 rfl rfl) h0;obtain⟨ao1,n1,c1,A1,rfl,hs1,hw1⟩:=Q3 Tryz.underlying43 Tryz.underlying3 R6 (hval 1 43 v1 rfl rfl) h1;obtain⟨ao2,n2,c2,A2,rfl,hs2,hw2⟩:=Q3 Tryz.underlying43 Tryz.underlying3 R6 (hval 2 43 v2 rfl rfl) h2;obtain⟨ao3,n3,c3,A3,rfl,hs3,hw3⟩:=Q3 Tryz.underlying43 Tryz.underlying3 R6 (hval 3 43 v3 rfl rfl) h3;exact N9 W hV0 ⟨hT0,hS0⟩ hN0.1 hN0.2 hR0 hs1 hs2 hs3 (of_laid hL)
theorem pL (os:Os) (started:os.Started) (H:Type) (enc:TypeId×Value->H):
  ReturnsInHanded {} Tryz.checked os 9 .any (fun w args=>(Rows.commitCopiesSpec.pre enc Tryz.prog Tryz.f9 [] false w args/\laidMetH Tryz.prog yX w)/\sizedMet enc Tryz.prog Tryz.f9 (OpenSpec.ofChange Rows.commitCopiesSpec) false w args)
   (Rows.commitCopiesSpec.post enc Tryz.prog Tryz.f9 false true false false):=
 law_laid (C:=Tryz.checked) (fn:=Tryz.f9) own started (by kernel_rfl) Tryz.func9 laidOut (by decide +kernel) rfl Tryz.underlying4 rfl
  (fun ds h=>by match ds,h with | [d1,d2,d3,d4],_=>rfl)
  (ChangeSpec.witness_shaped (enc:=enc) (C:=Tryz.checked) (os:=os) (X:=fun w _=>laidMetH Tryz.prog yX w) false (World.doorLaid Tryz.prog 400 os) #[.agg #[.slice none 0 0, .slice none 0 0, .slice none 0 0, .slice none 0 0, .int .i64 0, .slice none 0 0, .int .i64 0], .slice none 0 0, .slice none 0 0, .slice none 0 0] 8 rfl (World.shaped_of_RefB (by kernel_rfl) (by kernel_rfl)) (by kernel_rfl) (by kernel_rfl) (by kernel_rfl) (door_met os _))
  (fun W base args ds p hval hA hL=>O4 W base args ds p hval hA hL)
theorem commitCopies_said:Rows.CommitCopiesSaid:=
 OpenClaim.holds_of_wide 9 Tryz.f9 rfl rfl rfl rfl rfl rfl rfl ⟨rfl,rfl,rfl,rfl,rfl⟩ rfl rfl rfl rfl rfl (by kernel_rfl) Tryz.func9 (by kernel_rfl)
  (of_decide_eq_true (by kernel_rfl)) (by unfold Func.isWrapper;rw[if_neg (of_decide_eq_false (by kernel_rfl))];exact⟨rfl,rfl⟩)
  (fun os started H enc _=>pL os started H enc)
theorem commitCopies_holds:Rows.CommitCopiesCardSaid:=
 Claim7.holds_tied_plain_at .later [] [.widerDeep] true Rows.commitCopiesCard.stood.harness true
  commitCopies_said (fun _ h=>by cases h) (by kernel_rfl) (fun _ h=>by cases h) commitCopies_row_tie rfl ⟨rfl,rfl⟩ (by kernel_rfl) rfl
  (fun f fn hf hfn=>by
   obtain rfl:f=9:=Option.some.inj ((show Tryz.prog.funcNamed "footbridge/footbridgelaw20.CommitCopies" = some 9 by kernel_rfl).symm.trans hf) |>.symm
   obtain rfl:fn=Tryz.f9:=(Option.some.inj (Tryz.func9.symm.trans hfn)).symm;exact⟨by kernel_rfl,fun j t ht=>by
    rw[Tryz.params9]at ht;have hm:t∈[29,43,43,43]:=by simpa using Array.mem_of_getElem? ht
    have hall:([29,43,43,43].all fun u=>!Tryz.prog.wantsStandIn u)=true:=by kernel_rfl
    exact(show Tryz.prog.wantsStandIn t=false by simpa using List.all_eq_true.1 hall t hm)⟩)
  (by kernel_rfl)
#print axioms commitCopies_holds
end Go.Proofs.YtimkkkdabmhedaaGreatDoor
