/- An argument that is a number of a small kind: its bounds. -/
import Derived.Test.YtimkkkdabmhedaaGreatDoorE14
import Derived.Test.YtimkkkdabmhedaaGreatDoorE20
set_option linter.unusedVariables false
set_option maxHeartbeats 400000
namespace Go.Proofs.YtimkkkdabmhedaaGreatDoor
open Go.ChangeShapes Go.WideShapes Go.RowKit
theorem aCC {H:Type} {enc:TypeId×Value->H} {P:Program} {w:World} {base:Nat} {spare:Nat->Bool} {held:Bool} {t1 t2 t3 t4:TypeId} {args:Array Value} {ds:List (DataW H)} {ps:List MemPlace} (h:DataW.TrodAll enc P w base spare held [t1,t2,t3,t4] args.toList ds ps):
  ∃v1 v2 v3 v4 d1 d2 d3 d4 p1 p2 p3 p4,args= #[v1,v2,v3,v4]/\ds= [d1,d2,d3,d4]/\ps=p1++p2++p3++p4/\DataW.Trod enc P w base spare held t1 v1 d1 p1/\DataW.Trod enc P w base spare held t2 v2 d2 p2/\DataW.Trod enc P w base spare held t3 v3 d3 p3/\DataW.Trod enc P w base spare held t4 v4 d4 p4:=by
 obtain⟨v1,vs,d1,ds1,p1,q1,hargs,rfl,rfl,hd1,hr1⟩:=trodAll_cons h;obtain⟨v2,vs2,d2,ds2,p2,q2,rfl,rfl,rfl,hd2,hr2⟩:=trodAll_cons hr1;obtain⟨v3,vs3,d3,ds3,p3,q3,rfl,rfl,rfl,hd3,hr3⟩:=trodAll_cons hr2;obtain⟨v4,vs4,d4,ds4,p4,q4,rfl,rfl,rfl,hd4,hr4⟩:=trodAll_cons hr3;obtain⟨rfl,rfl,rfl⟩:=trodAll_nil hr4;exact⟨v1,v2,v3,v4,d1,d2,d3,d4,p1,p2,p3,p4,by cases args;simp_all,rfl,by simp,hd1,hd2,hd3,hd4⟩
theorem own:ownKnob Tryz.prog.godebug=none:=by kernel_rfl
theorem laidOut:laidOutB Tryz.prog=true:=by kernel_rfl
end Go.Proofs.YtimkkkdabmhedaaGreatDoor
