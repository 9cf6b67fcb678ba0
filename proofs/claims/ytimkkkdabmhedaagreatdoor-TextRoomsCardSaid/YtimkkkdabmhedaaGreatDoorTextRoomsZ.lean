/- Proved: TextRooms: for every input the law answers true and leaves its arguments as they were; condition: the table class.usual reads as the program's text lays it (tied by the card). -/
import Derived.Test.YtimkkkdabmhedaaGreatDoorD50
import Derived.Test.YtimkkkdabmhedaaGreatDoorD42
import Derived.Test.YtimkkkdabmhedaaGreatDoorD37
import Derived.Test.YtimkkkdabmhedaaGreatDoorCards
import Derived.Test.YtimkkkdabmhedaaGreatDoorTie
import Derived.SevenTiedAt
import Derived.ProofKit
set_option linter.unusedVariables false
set_option maxHeartbeats 400000
set_option maxRecDepth 100000
namespace Go.Proofs.YtimkkkdabmhedaaGreatDoor
open Go.ChangeShapes Go.WideShapes Go.ChangeAt Go.RowKit Go.Joins Go.Deep
theorem textRooms_law (W:World) (base:Nat) {H:Type} {enc:TypeId×Value→H} (args:Array Value) (ds:List (DataW H)) (p:List MemPlace)
  (hval:∀(j:Nat) t v,Tryz.f4.params[j]?=some t→args[j]?=some v→Value.okWide Tryz.prog W .any base t v)
  (hA:DataW.TrodAll enc Tryz.prog W 0 (fun _=>true) true Tryz.f4.params.toList args.toList ds p) (hL:laidMetH Tryz.prog laidU W):
  Frame.Law Tryz.prog 4 args W:=by
 rw[Tryz.params4]at hA hval
 obtain⟨v0,v1,v2,v3,d0,d1,d2,d3,p0,p1,p2,p3,rfl,rfl,rfl,h0,h1,h2,h3⟩:=four_args hA
 obtain⟨dd0,V0,no0,nn0,nc0,N0,kind0,to0,tn0,tc0,T0,room0,rfl,hV0,hT0,hS0,hN0,hR0⟩:=kit_open (hval 0 29 v0 rfl rfl) h0
 obtain⟨z1,rfl,hz1⟩:=okWide_u16 Tryz.underlying41 (hval 1 41 v1 rfl rfl)
 obtain⟨ao2,n2,c2,R2,rfl,hs2⟩:=rows_open Tryz.underlying42 Tryz.underlying43 Tryz.underlying3 (by kernel_rfl) cellsInt (hval 2 42 v2 rfl rfl) h2
 obtain⟨ao3,n3,c3,A3,rfl,hs3,hw3⟩:=sli_open Tryz.underlying43 Tryz.underlying3 cellsInt (hval 3 43 v3 rfl rfl) h3
 exact textRooms_walk z1 hz1 W hV0 ⟨hT0,hS0⟩ hN0.1 hN0.2 hR0 hs2 hs3 (of_laid hL)
theorem textRooms_lifted (os:Os) (started:os.Started) (H:Type) (enc:TypeId×Value→H):
  ReturnsInHanded {} Tryz.checked os 4 .any (fun w args=>(Rows.textRoomsSpec.pre enc Tryz.prog Tryz.f4 [] false w args∧laidMetH Tryz.prog laidU w)∧sizedMet enc Tryz.prog Tryz.f4 (OpenSpec.ofChange Rows.textRoomsSpec) false w args)
   (Rows.textRoomsSpec.post enc Tryz.prog Tryz.f4 false true false false):=
 law_laid (C:=Tryz.checked) (fn:=Tryz.f4) own started (by kernel_rfl) Tryz.func4 laidOut (by decide +kernel) rfl Tryz.underlying4 rfl
  (fun ds h=>by match ds,h with | [d1,d2,d3,d4],_=>rfl)
  (ChangeSpec.witness_shaped (enc:=enc) (C:=Tryz.checked) (os:=os) (X:=fun w _=>laidMetH Tryz.prog laidU w) false (World.doorLaid Tryz.prog 400 os) #[.agg #[.slice none 0 0, .slice none 0 0, .slice none 0 0, .slice none 0 0, .int .i64 0, .slice none 0 0, .int .i64 0], .int .u16 0, .slice none 0 0, .slice none 0 0] 8 rfl (World.shaped_of_RefB (by kernel_rfl) (by kernel_rfl)) (by kernel_rfl) (by kernel_rfl) (by kernel_rfl) (door_met os _))
  (fun W base args ds p hval hA hL=>textRooms_law W base args ds p hval hA hL)
theorem textRooms_said:Rows.TextRoomsSaid:=
 OpenClaim.holds_of_wide 4 Tryz.f4 rfl rfl rfl rfl rfl rfl rfl ⟨rfl,rfl,rfl,rfl,rfl⟩ rfl rfl rfl rfl rfl (by kernel_rfl) Tryz.func4 (by kernel_rfl)
  (of_decide_eq_true (by kernel_rfl)) (by unfold Func.isWrapper;rw[if_neg (of_decide_eq_false (by kernel_rfl))];exact⟨rfl,rfl⟩)
  (fun os started H enc _=>textRooms_lifted os started H enc)
theorem textRooms_holds:Rows.TextRoomsCardSaid:=
 Claim7.holds_tied_plain_at .later [] [.widerDeep] true Rows.textRoomsCard.stood.harness true
  textRooms_said (fun _ h=>by cases h) (by kernel_rfl) (fun _ h=>by cases h) textRooms_row_tie rfl ⟨rfl,rfl⟩ (by kernel_rfl) rfl
  (fun f fn hf hfn=>by
   obtain rfl:f=4:=Option.some.inj ((show Tryz.prog.funcNamed "footbridge/footbridgelaw16.TextRooms" = some 4 by kernel_rfl).symm.trans hf) |>.symm
   obtain rfl:fn=Tryz.f4:=(Option.some.inj (Tryz.func4.symm.trans hfn)).symm
   exact⟨by kernel_rfl,fun j t ht=>by
    rw[Tryz.params4]at ht
    have hm:t∈[29,41,42,43]:=by simpa using Array.mem_of_getElem? ht
    have hall:([29,41,42,43].all fun u=>!Tryz.prog.wantsStandIn u)=true:=by kernel_rfl
    exact(show Tryz.prog.wantsStandIn t=false by simpa using List.all_eq_true.1 hall t hm)⟩)
  (by kernel_rfl)
#print axioms textRooms_holds
end Go.Proofs.YtimkkkdabmhedaaGreatDoor
