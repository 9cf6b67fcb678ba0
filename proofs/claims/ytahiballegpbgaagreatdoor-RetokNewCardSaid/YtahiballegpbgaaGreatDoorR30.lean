/- Walks: what is more than is gone through; the document's coder. (Printed by gKit16.py.) -/
import Derived.Test.YtahiballegpbgaaGreatDoorR29
import Derived.Test.YtahiballegpbgaaGreatDoorR8
import Derived.Test.YtahiballegpbgaaGreatDoorR19
import Derived.Test.YtahiballegpbgaaGreatDoorR6
import Derived.Deep.LoopGhost
import Derived.Test.YtahiballegpbgaaGreatDoorR21
import Derived.Test.YtahiballegpbgaaGreatDoorR22
import Derived.Test.YtahiballegpbgaaGreatDoorR1
import Derived.Test.YtahiballegpbgaaGreatDoorR17
import Derived.Test.YtahiballegpbgaaGreatDoorR18
import Derived.Test.YtahiballegpbgaaGreatDoorR28
set_option linter.unusedVariables false
set_option maxHeartbeats 2000000
set_option maxRecDepth 100000
namespace Go.Proofs.YtahiballegpbgaaGreatDoor
open Go.RowKit
def sJ (V:Vc) (N:List ByteArray) (T:List Rg):Prop:=K6 V\/20<N.length\/80<T.length\/∃s∈N,40<s.size
def aAl (V:Vc) (N:List ByteArray) (T:List Rg) (w:World) (e:Ending) (w':World):Prop:=(∃b,e= .returned (.bool b)/\(b=true↔sJ V N T))/\Below w.heap.size w w'
theorem T3 {V:Vc} {dd:Vd} {N:List ByteArray} {T:List Rg} {no to_:Option Addr} {nn nc tn tc:Nat} (w:World) (hV:xE w dd V) (hok:(∀s∈V.tokens,s.size<=maxLen)/\lO V.specials) (hN:SlS w no nn nc N) (hNs:∀s∈N,s.size<=maxLen)
  (hT:SlF 3 w to_ tn tc (flat Rg.enc T)):Calls Tryz.prog 55 #[dd.val, .slice no nn nc, .slice to_ tn tc] w (aAl V N T w):=by
 obtain⟨ta,tn',tc',ma,mn,mc,sa,sn,sc⟩:=dd;obtain⟨w0,hw0⟩:∃w0,w.alloc (.cells #[.slice ta tn' tc', .slice ma mn mc, .slice sa sn sc] 26)=w0:=⟨_,rfl⟩;have hb0:Below w.heap.size w w0:=hw0▸aA w _;have hx0:w0.heap[w.heap.size]?=some (.cells #[.slice ta tn' tc', .slice ma mn mc, .slice sa sn sc] 26):=by rw[<-hw0];exact heap_alloc_new w _
 obtain⟨c0,c1,c2⟩:=A4 hx0;have hgr:=pW (dd:=⟨ta,tn',tc',ma,mn,mc,sa,sn,sc⟩) w0 (hV.below hb0) hok;have HN:=hW_ (hN.below hb0);have HB0:=hW_ hb0;have HNS:=hW_ hNs;have HNL:=hW_ hN.count;have HTL:=hW_ (hT.count Rg.enc_len (by omega));have hm1:=Nat.le_trans (Sl.le hN) (Sl.max hN);have hm2:=Nat.le_trans hT.le hT.max;unfold maxLen at hm1 hm2;have HW0:=hW_ hw0;clear hV hN hT hNs hb0 hx0 hw0 hok;go_enter Tryz.func55,Tryz.ntmps55;go_wp2_with (fail);rw[HW0.out];refine hgr.mono ?_
 rintro e w1 ⟨⟨b,rfl,hb⟩,hb1⟩;have HB1:=hW_ (HB0.out.trans (hb1.mono HB0.out.size));have HG:=hW_ hb;have HN1:=hW_ (Sl.below HN.out hb1);clear hb hb1 hgr c0 c1 c2 HN
 cases b with
 | true=>
  have HF:Hid (sJ V N T):=hW_ (.inl (HG.out.1 rfl));go_wp2_with (fail);go_ret;exact⟨⟨_,rfl,(fun _=>HF.out),(fun _=>rfl)⟩,HB1.out⟩
 | false=>
 by_cases h20:(20:Int)<nn
 ·have HF:Hid (sJ V N T):=hW_ (.inr (.inl (by rw[HNL.out];omega)));go_wp2_with (fail);go_ret;exact⟨⟨_,rfl,(fun _=>HF.out),(fun _=>rfl)⟩,HB1.out⟩
 by_cases h80:(80:Int)<tn
 ·have HF:Hid (sJ V N T):=hW_ (.inr (.inr (.inl (by rw[HTL.out];omega))));go_wp2_with (fail);go_ret;exact⟨⟨_,rfl,(fun _=>HF.out),(fun _=>rfl)⟩,HB1.out⟩
 go_wp2_with (fail);go_loop [7,22] (fun _ i=>∃k:Nat,k<=nn/\i= .int .i64 k/\Hid (∀j,j<k->¬40<(tk N j).size)) (fun _ i=>nn-(intOf i).toNat)
 case atStart=>exact⟨0,Nat.zero_le _,rfl,hW_ (fun j h=>by omega)⟩
 case round=>
  obtain⟨k,hk,rfl,HK⟩:=hrel
  by_cases hlt:k<nn
  ·have hkT:k<N.length:=by have:=HNL.out;omega
   obtain⟨b,o,hao,hc⟩:=SlS.cell HN1.out (sB hkT);subst hao;have hks:=HNS.out _ (qB hkT);unfold maxLen at hks
   by_cases h40:(40:Int)<(tk N k).size
   ·have HF:Hid (sJ V N T):=hW_ (.inr (.inr (.inr ⟨_,qB hkT,by omega⟩)));go_wp2_with (fail);go_ret;exact⟨⟨_,rfl,(fun _=>HF.out),(fun _=>rfl)⟩,HB1.out⟩
   ·have HK2:Hid (∀j,j<k+1->¬40<(tk N j).size):=hW_ (fun j hj=>by
     by_cases e:j=k
     ·subst e;omega
     ·exact HK.out j (by omega))
    go_wp2_with (fail);go_round
    case rel=>exact⟨k+1,by omega,by go_num,HK2⟩
    case measure=>simp[intOf];omega
  ·have HF:Hid (¬sJ V N T):=hW_ (by
    rintro(h | h | h | ⟨s,hs,h⟩)
    ·have:=HG.out.2 h;cases this
    ·have:=HNL.out;omega
    ·have:=HTL.out;omega
    ·obtain⟨j,hj,rfl⟩:=iI hs;exact HK.out j (by have:=HNL.out;omega) h)
   go_wp2_with (fail);go_ret;exact⟨⟨_,rfl,(fun h=>by cases h),(fun h=>absurd h HF.out)⟩,HB1.out⟩
def noC:Value:= .agg #[.slice none 0 0, .slice none 0 0, .slice none 0 0, .slice none 0 0, .int .i64 0, .slice none 0 0]
def aEl (dd:Vd) (no:Option Addr) (nn nc:Nat) (V:Vc) (N:List ByteArray) (kind:Int) (T:List Rg) (room:Int) (w:World) (e:Ending) (w':World):Prop:=
 ((¬May V/\e= .returned (.tuple #[noC, .int .i64 2]))\/(May V/\¬wE N kind T room/\e= .returned (.tuple #[noC, .int .i64 1]))\/
  (May V/\wE N kind T room/\∃to_ tn tc,e= .returned (.tuple #[.agg #[.slice dd.ta dd.tn dd.tc, .slice dd.ma dd.mn dd.mc, .slice dd.sa dd.sn dd.sc, .slice no nn nc, .int .i64 kind, .slice to_ tn tc], .int .i64 0])/\SlF 3 w' to_ tn tc (flat Rg.enc (D4 T))))/\Below w.heap.size w w'
theorem vQ {w:World} {g:Nat} {a b c d e f:Value} {t:TypeId} (h:w.heap[g]?=some (.cells #[a,b,c,d,e,f] t)):
  w.cell? ⟨g,0,none⟩=some a/\w.cell? ⟨g,1,none⟩=some b/\w.cell? ⟨g,2,none⟩=some c/\w.cell? ⟨g,3,none⟩=some d/\w.cell? ⟨g,4,none⟩=some e/\w.cell? ⟨g,5,none⟩=some f/\∀o,w.frozen? ⟨g,o,none⟩=false:=by
 simp[World.cell?,World.frozen?,h]
theorem V8 {V:Vc} {dd:Vd} {N:List ByteArray} {kind:Int} {T:List Rg} {room:Int} {no to_:Option Addr} {nn nc tn tc:Nat} (w:World) (hV:xE w dd V) (hok:VOk V) (hN:SlS w no nn nc N) (hNs:∀s∈N,s.size<=maxLen)
  (hT:SlF 3 w to_ tn tc (flat Rg.enc T)):Calls Tryz.prog 56 #[dd.val, .slice no nn nc, .int .i64 kind, .slice to_ tn tc, .int .i64 room] w (aEl dd no nn nc V N kind T room w):=by
 obtain⟨ta,tn',tc',ma,mn,mc,sa,sn,sc⟩:=dd;obtain⟨w0,hw0⟩:∃w0,(w.alloc (.cells #[.slice ta tn' tc', .slice ma mn mc, .slice sa sn sc] 26)).alloc (.cells #[.slice none 0 0, .slice none 0 0, .slice none 0 0, .slice none 0 0, .int .i64 0, .slice none 0 0] 33)=w0:=⟨_,rfl⟩;have hb0:Below w.heap.size w w0:=hw0▸(aA w _).alloc (by simp) _;have hx0:w0.heap[w.heap.size]?=some (.cells #[.slice ta tn' tc', .slice ma mn mc, .slice sa sn sc] 26):=by rw[<-hw0];exact(Below.heap_alloc _ _ _ (by simp)).trans (heap_alloc_new w _)
 have hx1:w0.heap[w.heap.size+1]?=some (.cells #[.slice none 0 0, .slice none 0 0, .slice none 0 0, .slice none 0 0, .int .i64 0, .slice none 0 0] 33):=by
  rw[<-hw0];have:=heap_alloc_new (w.alloc (.cells #[.slice ta tn' tc', .slice ma mn mc, .slice sa sn sc] 26)) (.cells #[.slice none 0 0, .slice none 0 0, .slice none 0 0, .slice none 0 0, .int .i64 0, .slice none 0 0] 33);simpa using this
 have hsz1:w.heap.size<w0.heap.size:=by rw[<-hw0];simp;omega
 have hsz2:w.heap.size+1<w0.heap.size:=by rw[<-hw0];simp
 have HSZ1:=hW_ hsz1;have HSZ2:=hW_ hsz2;obtain⟨c0,c1,c2⟩:=A4 hx0;have hma:=uR (dd:=⟨ta,tn',tc',ma,mn,mc,sa,sn,sc⟩) w0 (hV.below hb0) hok;have HBC:Hid (w.heap.size<=w.heap.size+1):=hW_ (by omega);have HN:=hW_ (Sl.below hN hb0);have HT:=hW_ (hT.below hb0);have HTW:=hW_ hT;have HB0:=hW_ hb0;have HX0:=hW_ hx0;have HX1:=hW_ hx1;have HNS:=hW_ hNs;have HTL:=hW_ (hT.count Rg.enc_len (by omega));have HW0:=hW_ hw0;clear hV hN hT hNs hb0 hx0 hx1 hw0 hok hsz1 hsz2;go_enter Tryz.func56,Tryz.ntmps56;go_wp2_with (fail);rw[HW0.out];refine hma.mono ?_
 rintro e w1 ⟨⟨b,rfl,hb⟩,hb1⟩;have HB1:=hW_ hb1;have HM:=hW_ hb;clear hb hb1 hma c0 c1 c2
 cases b with
 | false=>
  have HF:Hid (¬May V):=hW_ (fun h=>vJ HM.out rfl h);obtain⟨c0,c1,c2⟩:=A4 ((HB1.out.block w.heap.size HSZ1.out).trans HX0.out);obtain⟨b0,b1,b2,b3,b4,b5,bf⟩:=vQ ((HB1.out.block (w.heap.size+1) HSZ2.out).trans HX1.out);go_wp2_with (fail);refine bodyPost_ret (v:= .tuple #[noC, .int .i64 2]) ?_ rfl ⟨.inl ⟨HF.out,rfl⟩,?_⟩
  ·simp[results,Tryz.results56,go_sem,b0,b1,b2,b3,b4,b5,noC]
  ·exact((((((HB0.out.trans ((HB1.out).mono HB0.out.size)).setCell HBC.out _).setCell HBC.out _).setCell HBC.out _).setCell HBC.out _).setCell HBC.out _).setCell HBC.out _
 | true=>
 have HM1:=hW_ (HM.out.1 rfl);have hmn:=mQ w1 (Sl.below HN.out HB1.out) HNS.out;clear HM;go_wp2_with (fail);refine hmn.mono ?_
 rintro e w2 ⟨⟨b,rfl,hb⟩,hb2⟩;have HB2:=hW_ (HB1.out.trans (hb2.mono HB1.out.size));have HI1:=hW_ hb;clear hb hb2 hmn
 cases b with
 | false=>
  have HF:Hid (¬wE N kind T room):=hW_ (fun h=>vJ HI1.out rfl h.1);obtain⟨c0,c1,c2⟩:=A4 ((HB2.out.block w.heap.size HSZ1.out).trans HX0.out);obtain⟨b0,b1,b2,b3,b4,b5,bf⟩:=vQ ((HB2.out.block (w.heap.size+1) HSZ2.out).trans HX1.out);go_wp2_with (fail);refine bodyPost_ret (v:= .tuple #[noC, .int .i64 1]) ?_ rfl ⟨.inr (.inl ⟨HM1.out,HF.out,rfl⟩),?_⟩
  ·simp[results,Tryz.results56,go_sem,b0,b1,b2,b3,b4,b5,noC]
  ·exact((((((HB0.out.trans ((HB2.out).mono HB0.out.size)).setCell HBC.out _).setCell HBC.out _).setCell HBC.out _).setCell HBC.out _).setCell HBC.out _).setCell HBC.out _
 | true=>
 have HN1:=hW_ (HI1.out.1 rfl)
 by_cases hk0:kind<0
 ·have HF:Hid (¬wE N kind T room):=hW_ (fun h=>by have:=h.2.1;omega);obtain⟨c0,c1,c2⟩:=A4 ((HB2.out.block w.heap.size HSZ1.out).trans HX0.out);obtain⟨b0,b1,b2,b3,b4,b5,bf⟩:=vQ ((HB2.out.block (w.heap.size+1) HSZ2.out).trans HX1.out);go_wp2_with (fail);refine bodyPost_ret (v:= .tuple #[noC, .int .i64 1]) ?_ rfl ⟨.inr (.inl ⟨HM1.out,HF.out,rfl⟩),?_⟩
  ·simp[results,Tryz.results56,go_sem,b0,b1,b2,b3,b4,b5,noC]
  ·exact((((((HB0.out.trans ((HB2.out).mono HB0.out.size)).setCell HBC.out _).setCell HBC.out _).setCell HBC.out _).setCell HBC.out _).setCell HBC.out _).setCell HBC.out _
 by_cases hk3:(3:Int)<kind
 ·have HF:Hid (¬wE N kind T room):=hW_ (fun h=>by have:=h.2.2.1;omega);obtain⟨c0,c1,c2⟩:=A4 ((HB2.out.block w.heap.size HSZ1.out).trans HX0.out);obtain⟨b0,b1,b2,b3,b4,b5,bf⟩:=vQ ((HB2.out.block (w.heap.size+1) HSZ2.out).trans HX1.out);go_wp2_with (fail);refine bodyPost_ret (v:= .tuple #[noC, .int .i64 1]) ?_ rfl ⟨.inr (.inl ⟨HM1.out,HF.out,rfl⟩),?_⟩
  ·simp[results,Tryz.results56,go_sem,b0,b1,b2,b3,b4,b5,noC]
  ·exact((((((HB0.out.trans ((HB2.out).mono HB0.out.size)).setCell HBC.out _).setCell HBC.out _).setCell HBC.out _).setCell HBC.out _).setCell HBC.out _).setCell HBC.out _
 have hcm:=pQ w2 (HT.out.below HB2.out);go_wp2_with (fail);refine hcm.mono ?_
 rintro e w3 ⟨⟨b,rfl,hb⟩,hb3⟩;have HB3:=hW_ (HB2.out.trans (hb3.mono HB2.out.size));have HI2:=hW_ hb;clear hb hb3 hcm;obtain⟨c0,c1,c2⟩:=A4 ((HB3.out.block w.heap.size HSZ1.out).trans HX0.out);obtain⟨b0,b1,b2,b3,b4,b5,bf⟩:=vQ ((HB3.out.block (w.heap.size+1) HSZ2.out).trans HX1.out)
 cases b with
 | false=>
  have HF:Hid (¬wE N kind T room):=hW_ (fun h=>vJ HI2.out rfl h.2.2.2.1);go_wp2_with (fail);refine bodyPost_ret (v:= .tuple #[noC, .int .i64 1]) ?_ rfl ⟨.inr (.inl ⟨HM1.out,HF.out,rfl⟩),?_⟩
  ·simp[results,Tryz.results56,go_sem,b0,b1,b2,b3,b4,b5,noC]
  ·exact((((((HB0.out.trans ((HB3.out).mono HB0.out.size)).setCell HBC.out _).setCell HBC.out _).setCell HBC.out _).setCell HBC.out _).setCell HBC.out _).setCell HBC.out _
 | true=>
 have HT1:=hW_ (HI2.out.1 rfl)
 by_cases hr0:room<0
 ·have HF:Hid (¬wE N kind T room):=hW_ (fun h=>by have:=h.2.2.2.2.1;omega);go_wp2_with (fail);refine bodyPost_ret (v:= .tuple #[noC, .int .i64 1]) ?_ rfl ⟨.inr (.inl ⟨HM1.out,HF.out,rfl⟩),?_⟩
  ·simp[results,Tryz.results56,go_sem,b0,b1,b2,b3,b4,b5,noC]
  ·exact((((((HB0.out.trans ((HB3.out).mono HB0.out.size)).setCell HBC.out _).setCell HBC.out _).setCell HBC.out _).setCell HBC.out _).setCell HBC.out _).setCell HBC.out _
 by_cases hr1:(1048576:Int)<room
 ·have HF:Hid (¬wE N kind T room):=hW_ (fun h=>by have:=h.2.2.2.2.2;omega);go_wp2_with (fail);refine bodyPost_ret (v:= .tuple #[noC, .int .i64 1]) ?_ rfl ⟨.inr (.inl ⟨HM1.out,HF.out,rfl⟩),?_⟩
  ·simp[results,Tryz.results56,go_sem,b0,b1,b2,b3,b4,b5,noC]
  ·exact((((((HB0.out.trans ((HB3.out).mono HB0.out.size)).setCell HBC.out _).setCell HBC.out _).setCell HBC.out _).setCell HBC.out _).setCell HBC.out _).setCell HBC.out _
 have HOKK:Hid (wE N kind T room):=hW_ ⟨HN1.out,by omega,by omega,HT1.out,by omega,by omega⟩
 by_cases ht0:tn=0
 ·have hT0:T= []:=List.eq_nil_of_length_eq_zero (by have:=HTL.out;omega);have HTU:Hid (D4 T=usR):=hW_ (by unfold D4;rw[if_pos hT0]);have htc:=uX w3;subst ht0;clear hT0;go_wp2_with (fail);refine htc.mono ?_
  rintro e w4 ⟨v,rfl,ho,hb4⟩;obtain⟨ua,uc,rfl,hs⟩:=ho.sl;have HB4:=hW_ (HB3.out.trans (hb4.mono HB3.out.size));have HS:=hW_ ho;clear ho hb4 hs htc;obtain⟨c0,c1,c2⟩:=A4 ((HB4.out.block w.heap.size HSZ1.out).trans HX0.out);obtain⟨b0,b1,b2,b3,b4,b5,bf⟩:=vQ ((HB4.out.block (w.heap.size+1) HSZ2.out).trans HX1.out);go_wp2_with (fail);refine bodyPost_ret (v:= .tuple #[.agg #[.slice ta tn' tc', .slice ma mn mc, .slice sa sn sc, .slice no nn nc, .int .i64 kind, .slice ua usR.length uc], .int .i64 0]) ?_ rfl ⟨.inr (.inr ⟨HM1.out,HOKK.out,ua,_,uc,rfl,?_⟩),?_⟩
  ·simp[results,Tryz.results56,go_sem,b0,b1,b2,b3,b4,b5]
  ·rw[HTU.out];obtain⟨ao',cap',e',hs'⟩:=iA.sl (iA.keepG HS.out ((((((fB.refl (w.heap.size+1) w4).set 0 _).set 1 _).set 2 _).set 3 _).set 4 _ |>.set 5 _) (fun q hq=>by have:=(World.ownsRow.lt HS.out q hq).1;have:=HSZ2.out;have:=HB3.out.size;omega));simp only[Value.slice.injEq]at e';obtain⟨rfl,_,rfl⟩:=e';exact hs'
  ·exact((((((HB0.out.trans (HB4.out.mono HB0.out.size)).setCell HBC.out _).setCell HBC.out _).setCell HBC.out _).setCell HBC.out _).setCell HBC.out _).setCell HBC.out _
 ·have HTU:Hid (D4 T=T):=hW_ (by unfold D4;rw[if_neg (fun e=>ht0 (by have:=HTL.out;rw[e]at this;simpa using this.symm))]);have HS:=hW_ (HT.out.below HB3.out);go_wp2_with (fail);refine bodyPost_ret (v:= .tuple #[.agg #[.slice ta tn' tc', .slice ma mn mc, .slice sa sn sc, .slice no nn nc, .int .i64 kind, .slice to_ tn tc], .int .i64 0]) ?_ rfl ⟨.inr (.inr ⟨HM1.out,HOKK.out,to_,tn,tc,rfl,?_⟩),?_⟩
  ·simp[results,Tryz.results56,go_sem,b0,b1,b2,b3,b4,b5]
  ·rw[HTU.out];exact HTW.out.below (((((((HB0.out.trans (HB3.out.mono HB0.out.size)).setCell HBC.out _).setCell HBC.out _).setCell HBC.out _).setCell HBC.out _).setCell HBC.out _).setCell HBC.out _)
  ·exact((((((HB0.out.trans (HB3.out.mono HB0.out.size)).setCell HBC.out _).setCell HBC.out _).setCell HBC.out _).setCell HBC.out _).setCell HBC.out _).setCell HBC.out _
theorem aAU (x:ByteArray) (w:World):Calls Tryz.prog 221 #[.string x] w fun e w'=>e= .returned (.bool false)/\w=w':=by
 go_enter Tryz.func221,Tryz.ntmps221;go_wp2;go_ret;exact⟨by simp,rfl⟩
theorem sM (x:ByteArray) (w:World):Calls Tryz.prog 196 #[.string x] w fun e w'=>e= .returned (.bool false)/\w=w':=by
 go_enter Tryz.func196,Tryz.ntmps196;go_wp2;go_ret;exact⟨by simp,rfl⟩
theorem P7 (x y:ByteArray) (w:World):Calls Tryz.prog 195 #[.string x, .string y] w fun e w'=>e= .returned (.bool (vA x y))/\w=w':=by
 go_enter Tryz.func195,Tryz.ntmps195;go_wp2_with (go_at_call 221;refine(aAU _ _).mono ?_;rintro e w' ⟨rfl,rfl⟩);go_ret;exact⟨rfl,rfl⟩
theorem uS {N:List ByteArray} {no:Option Addr} {nn nc:Nat} (x:ByteArray) (w:World) (hN:SlS w no nn nc N) {k0:Nat} (hk:k0<=N.length) (hbig:nn<=1048576)
  (h1:∀t,t<k0->vA (tk N t) x=true) (h2:∀t,k0<=t->t<N.length->vA (tk N t) x=false) {bb:Bool} (hbb:bb=true↔(k0<N.length/\tk N k0=x)):
  Calls Tryz.prog 158 #[.slice no nn nc, .string x] w fun e w'=>e= .returned (.tuple #[.int .i64 (k0:Int), .bool bb])/\Below w.heap.size w w':=by
 have HL:=hW_ hN.count;have HN:=hW_ hN;have H1:=hW_ h1;have H2:=hW_ h2;have HK:=hW_ hk;have HBB:=hW_ hbb;clear hN h1 h2 hk hbb;go_enter Tryz.func158,Tryz.ntmps158;go_wp2_with (fail);go_loopw [7,8] (fun a b wr=>∃lo hi:Nat,a= .int .i64 lo/\b= .int .i64 hi/\Hid (lo<=k0)/\Hid (k0<=hi)/\lo<=hi/\hi<=nn/\Below w.heap.size w wr) (fun a b _=>(intOf b).toNat-(intOf a).toNat)
 case atStart=>exact⟨0,nn,rfl,rfl,hW_ (by omega),hW_ (by have:=HK.out;have:=HL.out;omega),by omega,by omega,Below.refl _ _⟩
 case round=>
  obtain⟨lo,hi,rfl,rfl,Hlo,Hhi,hlh,hhn,hb⟩:=hrel
  by_cases hlt:lo<hi
  ·obtain⟨m,hm⟩:∃m,(lo+hi) / 2=m:=⟨_,rfl⟩;have hmN:m<N.length:=by have:=HL.out;omega
   obtain⟨b,o,hao,hc⟩:=SlS.cell (Sl.below HN.out hb) (sB hmN);subst hao;have HM:Hid ((lo+hi) / 2=m):=hW_ hm;rw[<-hm]at hc;have HB:=hW_ hb;obtain⟨y,hy⟩:∃y,tk N ((lo+hi) / 2)=y:=⟨_,rfl⟩;rw[hy]at hc;have HY:=hW_ hy;have hmlt:(lo+hi) / 2<nn:=by omega
   clear hm hy hb hmN
   cases hyx:vA y x with
   | false=>
    have HMH:Hid (k0<=(lo+hi) / 2):=hW_ (by
     rcases Nat.lt_or_ge ((lo+hi) / 2) k0 with h | h
     ·have:=H1.out _ h;rw[HY.out,hyx]at this;cases this
     ·exact h)
    go_wp2_with (first
     | (go_at_call 195;refine(P7 _ _ _).mono ?_;rintro e w' ⟨rfl,rfl⟩))
    go_roundw
    case rel=>exact⟨lo,(lo+hi) / 2,rfl,by rw[show((lo:Int)+(hi:Int)) / 2=(((lo+hi) / 2:Nat):Int) by omega],Hlo,HMH,by omega,by omega,HB.out⟩
    case measure=>simp[intOf];omega
   | true=>
    have HMH:Hid ((lo+hi) / 2+1<=k0):=hW_ (by
     rcases Nat.lt_or_ge ((lo+hi) / 2) k0 with h | h
     ·exact h
     ·have:=H2.out _ h (by have:=HL.out;omega);rw[HY.out,hyx]at this;cases this)
    go_wp2_with (first
     | (go_at_call 195;refine(P7 _ _ _).mono ?_;rintro e w' ⟨rfl,rfl⟩))
    go_roundw
    case rel=>exact⟨(lo+hi) / 2+1,hi,by rw[show((lo:Int)+(hi:Int)) / 2+1=(((lo+hi) / 2+1:Nat):Int) by omega],rfl,HMH,Hhi,by omega,by omega,HB.out⟩
    case measure=>simp[intOf];omega
  ·have hE:lo=k0/\hi=k0:=by have:=Hlo.out;have:=Hhi.out;omega
   obtain⟨hlo,hhi⟩:=hE;obtain rfl:hi=lo:=by omega
   subst hlo;have HB:=hW_ hb
   by_cases hn:hi<nn
   ·have hmN:hi<N.length:=by have:=HL.out;omega
    obtain⟨b,o,hao,hc⟩:=SlS.cell (Sl.below HN.out hb) (sB hmN);subst hao;obtain⟨y,hy⟩:∃y,tk N hi=y:=⟨_,rfl⟩;rw[hy]at hc;have HY:=hW_ hy;have HMN:=hW_ hmN;clear hy hb hmN
    by_cases hyx:y=x
    ·have hb2:=gH hyx;obtain rfl:bb=true:=HBB.out.2 ⟨HMN.out,by rw[HY.out];exact hyx⟩;clear hyx;go_wp2_with (first
      | (go_at_call 196;refine(sM _ _).mono ?_;rintro e w' ⟨rfl,rfl⟩))
     refine bodyPost_ret (v:= .tuple #[.int .i64 hi, .bool true]) ?_ rfl ⟨rfl,HB.out⟩
     simp[results,Tryz.results158,go_sem]
    ·have hb2:=oJ hyx;obtain rfl:bb=false:=by
      cases bb with
      | false=>rfl
      | true=>exact absurd (HBB.out.1 rfl).2 (by rw[HY.out];exact hyx)
     clear hyx;go_wp2_with (first
      | (go_at_call 196;refine(sM _ _).mono ?_;rintro e w' ⟨rfl,rfl⟩))
     refine bodyPost_ret (v:= .tuple #[.int .i64 hi, .bool false]) ?_ rfl ⟨rfl,HB.out⟩
     simp[results,Tryz.results158,go_sem]
   ·obtain rfl:bb=false:=by
     cases bb with
     | false=>rfl
     | true=>exact absurd (HBB.out.1 rfl).1 (by have:=HL.out;omega)
    go_wp2_with (first
     | (go_at_call 196;refine(sM _ _).mono ?_;rintro e w' ⟨rfl,rfl⟩))
    refine bodyPost_ret (v:= .tuple #[.int .i64 hi, .bool false]) ?_ rfl ⟨rfl,HB.out⟩
    simp[results,Tryz.results158,go_sem]
theorem aDt {N:List ByteArray} (h:dB N) (x:ByteArray):∃k0,k0<=N.length/\(∀t,t<k0->vA (tk N t) x=true)/\(∀t,k0<=t->t<N.length->vA (tk N t) x=false)/\
  ((k0<N.length/\tk N k0=x/\vG N x=some k0)\/(¬(k0<N.length/\tk N k0=x)/\vG N x=none)):=by
 have hp:∀i j,i<j->j<N.length->vA (tk N i) (tk N j)=true:=fun i j hij hj=>by
  have h1:=List.pairwise_iff_getElem.1 h.2.2 i j (by omega) hj hij;have e1:N[i]'(by omega)=tk N i:=by simp[tk,List.getD,show i<N.length by omega]
  have e2:N[j]=tk N j:=by simp[tk,List.getD,hj]
  rwa [e1,e2]at h1
 have key:∃k0,k0<=N.length/\(∀t,t<k0->vA (tk N t) x=true)/\(∀t,k0<=t->t<N.length->vA (tk N t) x=false):=by
  have:∀d,d<=N.length->∃k0,k0<=d/\(∀t,t<k0->vA (tk N t) x=true)/\(∀t,k0<=t->t<d->vA (tk N t) x=false):=by
   intro d
   induction d with
   | zero=>intro _;exact⟨0,by omega,fun t h=>by omega,fun t h1 h2=>by omega⟩
   | succ d ih=>
    intro hd;obtain⟨k0,a,b,c⟩:=ih (by omega)
    by_cases hk:k0=d
    ·cases hs:vA (tk N d) x with
     | true=>
      refine⟨d+1,by omega,fun t ht=> ?_,fun t h1 h2=>by omega⟩
      by_cases e:t=d
      ·subst e;exact hs
      ·exact b t (by omega)
     | false=>
      refine⟨d,by omega,fun t ht=>b t (by omega),fun t h1 h2=> ?_⟩;have:t=d:=by omega
      subst this;exact hs
    ·refine⟨k0,by omega,b,fun t h1 h2=> ?_⟩
     by_cases e:t=d
     ·subst e;have h3:=c k0 (Nat.le_refl _) (by omega)
      cases hs:vA (tk N t) x with
      | false=>rfl
      | true=>
       have:=aK (hp k0 t (by omega) (by omega)) hs;rw[h3]at this;cases this
     ·exact c t h1 (by omega)
  exact this _ (Nat.le_refl _)
 obtain⟨k0,a,b,c⟩:=key;refine⟨k0,a,b,c,?_⟩
 by_cases hx:k0<N.length/\tk N k0=x
 ·exact .inl ⟨hx.1,hx.2,P6 hx.1 hx.2 fun j hj e=>by
   have:=b j hj;rw[e,gG]at this;cases this⟩
 ·refine .inr ⟨hx,tY fun j hj e=> ?_⟩;rcases Nat.lt_trichotomy j k0 with h1 | h1 | h1
  ·have:=b j h1;rw[e,gG]at this;cases this
  ·subst h1;exact hx ⟨hj,e⟩
  ·have h2:=c k0 (Nat.le_refl _) (by omega);have h3:=hp k0 j h1 hj;rw[e,h2]at h3;cases h3
theorem aCc (w:World) (x:Int):Own (w.alloc (.cells #[.int .i64 x] 3)) w.heap.size (.slice (some ⟨w.heap.size,0,none⟩) 1 1) [x]:=by
 refine⟨by simp, .inr ⟨w.heap.size,1,#[.int .i64 x],by simp,Nat.le_refl _,heap_alloc_new w _,by simp,by unfold maxLen;omega,by simp,?_⟩⟩;simp
def aCK (V:Vc) (N:List ByteArray) (t:Int) (w:World) (e:Ending) (w':World):Prop:=
 (∃v,e= .returned (.tuple #[v, .int .i64 (mB V N t).2])/\Own w' w.heap.size v (mB V N t).1)/\Below w.heap.size w w'
theorem aAv {V:Vc} {N:List ByteArray} {t:Int} (h:wD V.tokens t=true):mB V N t=(A9 (tk V.tokens t.toNat),0):=by
 unfold mB;rw[if_pos h]
theorem vX {V:Vc} {N:List ByteArray} {t:Int} (h:wD V.tokens t=false) (h2:oR V.specials t=none):mB V N t=([],3):=by
 unfold mB;rw[h,h2];simp
theorem aDa {V:Vc} {N:List ByteArray} {t:Int} (h:wD V.tokens t=false) {s:Sp} (h2:oR V.specials t=some s) {k:Nat} (h3:vG N s.name=some k):mB V N t=([256+(k:Int)],0):=by
 unfold mB;rw[h,h2];simp only[h3];simp
theorem aCZ {V:Vc} {N:List ByteArray} {t:Int} (h:wD V.tokens t=false) {s:Sp} (h2:oR V.specials t=some s) (h3:vG N s.name=none):mB V N t=([],4):=by
 unfold mB;rw[h,h2];simp only[h3];simp
theorem lT {V:Vc} {N:List ByteArray} {kind:Int} {T:List Rg} {base g cb:Nat} (t:Int) (w:World) (hC:qL w base g V N kind T cb) (hT:∀s∈V.tokens,s.size<=64) (hN:dB N):
  Calls Tryz.prog 121 #[.pointer (some ⟨g,0,none⟩), .int .i64 t] w (aCK V N t w):=by
 obtain⟨hlo,ta,tc,sa,sc,na,nc,ma,mc,oa,oc,eg,hx,hot,hos,hon,_⟩:=hC;obtain⟨i0,hi,hz0,hz1,hz2⟩:=info_parts tC;obtain⟨_,_,e1,hst⟩:=hot.sl;simp only[Value.slice.injEq]at e1;obtain⟨rfl,_,rfl⟩:=e1;obtain⟨_,_,e1,hss⟩:=hos.sl;simp only[Value.slice.injEq]at e1;obtain⟨rfl,_,rfl⟩:=e1;obtain⟨_,_,e1,hsn⟩:=hon.sl;simp only[Value.slice.injEq]at e1;obtain⟨rfl,_,rfl⟩:=e1;have hV:xE w ⟨ta,V.tokens.length,tc,none,0,0,sa,V.specials.length,sc⟩ ⟨V.tokens,[],V.specials⟩:=⟨SlF.strs hst,SlF.nothing _,hss⟩;have hvb:=rV (dd:=⟨ta,V.tokens.length,tc,none,0,0,sa,V.specials.length,sc⟩) t w hV;have HV:=hW_ hV;have HX:=hW_ hx;have HNN:=hW_ (SlF.strs hsn);have HMN:=hW_ hN;have hg:g<w.heap.size:=(Array.getElem?_eq_some_iff.1 hx).1;obtain⟨c0,c1,c2,c3,c4,c5,c6,c7,c8,cf⟩:=fO hx;have HT:=hW_ hT;clear hx hot hos hon hst hss hsn hV hT hN;go_enter Tryz.func121,Tryz.ntmps121;go_wp2_with (fail);refine hvb.mono ?_
 rintro e w1 ⟨rfl,hb1⟩;have HB1:=hW_ hb1
 cases htk:wD V.tokens t with
 | true=>
  have HSY:=hW_ (aAv (N:=N) htk);obtain⟨s,hs⟩:∃s,tk V.tokens t.toNat=s:=⟨_,rfl⟩;have hbo:kG V.tokens t=s:=by unfold kG;rw[if_pos htk,hs]
  have hsz:s.size<=64:=by
   obtain⟨a1,a2,_⟩:=vB.1 htk;rw[<-hs];exact HT.out _ (qB (by omega))
  rw[hs]at HSY;simp only[hbo];clear hb1 hvb hs hbo htk c0 c1 c2 c3 c4 c5 c6 c7 c8 cf;go_wp2_with (fail);go_loopw [8,27] (fun v i wr=>∃k:Nat,k<=s.size/\i= .int .i64 k/\Own wr w.heap.size v ((A9 s).take k)/\Below w.heap.size w wr) (fun _ i _=>s.size-(intOf i).toNat)
  case atStart=>exact⟨0,Nat.zero_le _,rfl,by simpa using Own.nil w1 w.heap.size,HB1.out⟩
  case round=>
   obtain⟨k,hk,rfl,ho,hb⟩:=hrel;have HO:=hW_ ho;have HB:=hW_ hb;clear ho hb
   by_cases hlt:k<s.size
   ·have HK:=hW_ (Z8 hlt);have HL:Hid (((A9 s).take k).length=k):=hW_ (by rw[List.length_take,dH];omega);obtain⟨x,hxx⟩:∃x:Int,(s[k].toNat:Int)=x:=⟨_,rfl⟩;have HS1:Hid (SlI (wr.alloc (.cells #[.int .i64 x] 3)) (some ⟨wr.heap.size,0,none⟩) 1 1 [x]):=hW_ (SlI.one wr x _);have HO1:Hid (Own (wr.alloc (.cells #[.int .i64 x] 3)) w.heap.size u8 ((A9 s).take k)):=hW_ (HO.out.alloc _);have HSZ:Hid (w.heap.size<=wr.heap.size):=hW_ HB.out.size;rw[hxx]at HK;have hx8:=s[k].toNat_lt;have hwx:wrap64 x=x:=by rw[<-hxx];unfold wrap64;omega
    go_wp2_with (at_builtin;go_loud (refine J7 rfl _ _ 34 rfl i0 Tryz.underlying34 hi hz0 hz1 hz2 rfl HO1.out rfl HS1.out (by have:=HL.out;omega) (by have:=HSZ.out;simp;omega) ?_));intro v1 w2 ho2 hg2 hb2;rw[<-HK.out]at ho2;have HO2:=hW_ ho2;have HB2:=hW_ ((HB.out.alloc HB.out.size _).trans hb2);clear ho2 hg2 hb2;go_wp2_with (fail);go_roundw
    case rel=>exact⟨k+1,by omega,by go_num,HO2.out,HB2.out⟩
    case measure=>simp[intOf];omega
   ·obtain rfl:k=s.size:=by omega
    have HO2:=HO.out;rw[List.take_of_length_le (by rw[dH];exact Nat.le_refl _)]at HO2;have HO3:=hW_ HO2;clear HO2;go_wp2_with (fail);refine bodyPost_ret (v:= .tuple #[u8, .int .i64 0]) ?_ rfl ⟨⟨u8,by rw[HSY.out],by rw[HSY.out];exact HO3.out⟩,HB.out⟩
    simp[results,Tryz.results121,go_sem]
 | false=>
 have hbo:kG V.tokens t=ByteArray.empty:=by unfold kG;rw[htk];rfl
 have hnm:=aAW (dd:=⟨ta,V.tokens.length,tc,none,0,0,sa,V.specials.length,sc⟩) t w1 (HV.out.below hb1);simp only[hbo];have HTK:=hW_ htk;clear hb1 hvb hbo htk c0 c1 c2 c3 c4 c5 c6 c7 c8 cf;obtain⟨c0,c1,c2,c3,c4,c5,c6,c7,c8,cf⟩:=fO ((HB1.out.block g hg).trans HX.out);go_wp2_with (fail);refine hnm.mono ?_
 rintro e w2 ⟨rfl,hb2⟩;have HB2:=hW_ (HB1.out.trans (hb2.mono HB1.out.size))
 cases hsp:oR V.specials t with
 | none=>
  have HSY:=hW_ (vX (N:=N) HTK.out hsp);simp only[nmOf,Option.isSome_none];clear hb2 hnm hsp;go_wp2_with (fail);refine bodyPost_ret (v:= .tuple #[.slice none 0 0, .int .i64 3]) ?_ rfl ⟨⟨_,by rw[HSY.out],by rw[HSY.out];exact Own.nil _ _⟩,HB2.out⟩
  simp[results,Tryz.results121,go_sem]
 | some s=>
 simp only[nmOf,Option.isSome_some];obtain⟨k0,q1,q2,q3,q4⟩:=aDt HMN.out s.name;have HSP:=hW_ hsp;clear hb2 hnm c0 c1 c2 c3 c4 c5 c6 c7 c8 cf;obtain⟨c0,c1,c2,c3,c4,c5,c6,c7,c8,cf⟩:=fO ((HB2.out.block g hg).trans HX.out);rcases q4 with⟨r1,r2,r3⟩ | ⟨r1,r3⟩
 ·have hbs:=uS s.name w2 (Sl.below HNN.out HB2.out) q1 (by have:=HMN.out.1;omega) q2 q3 (bb:=true) (by simp[r1,r2]);have HSY:=hW_ (aDa HTK.out hsp r3);have HK0:Hid ((k0:Int)<16):=hW_ (by have:=HMN.out.1;omega);clear q1 q2 q3 r1 r2 r3 hsp;go_wp2_with (fail);refine hbs.mono ?_
  rintro e w3 ⟨rfl,hb3⟩;have HB3:=hW_ (HB2.out.trans (hb3.mono HB2.out.size));have hk0:=HK0.out;have hwr:IntKind.i64.wrap (256+(k0:Int))=256+(k0:Int):=by rw[IntKind.wrap_i64];omega
  clear hb3 hbs;go_wp2_with (fail);refine bodyPost_ret (v:= .tuple #[.slice (some ⟨w3.heap.size,0,none⟩) 1 1, .int .i64 0]) ?_ rfl ⟨⟨_,by rw[HSY.out],by rw[HSY.out];exact Own.mono (aCc w3 _) HB3.out.size⟩,HB3.out.alloc HB3.out.size _⟩
  simp[results,Tryz.results121,go_sem]
 ·have hbs:=uS s.name w2 (Sl.below HNN.out HB2.out) q1 (by have:=HMN.out.1;omega) q2 q3 (bb:=false) ⟨(fun h=>by cases h),(fun h=>absurd h r1)⟩;have HSY:=hW_ (aCZ HTK.out hsp r3);clear q1 q2 q3 r1 r3 hsp;go_wp2_with (fail);refine hbs.mono ?_
  rintro e w3 ⟨rfl,hb3⟩;have HB3:=hW_ (HB2.out.trans (hb3.mono HB2.out.size));clear hb3 hbs;go_wp2_with (fail);refine bodyPost_ret (v:= .tuple #[.slice none 0 0, .int .i64 4]) ?_ rfl ⟨⟨_,by rw[HSY.out],by rw[HSY.out];exact Own.nil _ _⟩,HB3.out⟩
  simp[results,Tryz.results121,go_sem]
structure CR (w:World) (dd:Vd) (no:Option Addr) (nn nc:Nat) (V:Vc) (N:List ByteArray):Prop where
 voc:xE w dd V
 names:SlS w no nn nc N
 t64:∀s∈V.tokens,s.size<=64
 n16:nn<=16
 sp:V.specials.length<=1048576
 tk:V.tokens.length<=1048576
theorem CR.below {w w':World} {dd:Vd} {no:Option Addr} {nn nc:Nat} {V:Vc} {N:List ByteArray} (h:CR w dd no nn nc V N) (hb:Below w.heap.size w w'):CR w' dd no nn nc V N:=
 ⟨h.voc.below hb,Sl.below h.names hb,h.t64,h.n16,h.sp,h.tk⟩
def cVal (dd:Vd) (no:Option Addr) (nn nc:Nat) (kind:Int) (to_:Option Addr) (tn tc:Nat):Value:=
 .agg #[.slice dd.ta dd.tn dd.tc, .slice dd.ma dd.mn dd.mc, .slice dd.sa dd.sn dd.sc, .slice no nn nc, .int .i64 kind, .slice to_ tn tc]
theorem box7 {w:World} {g:Nat} {a b c d e f x:Value} {t:TypeId} (h:w.heap[g]?=some (.cells #[a,b,c,d,e,f,x] t)):
  w.cell? ⟨g,0,none⟩=some a/\w.cell? ⟨g,1,none⟩=some b/\w.cell? ⟨g,2,none⟩=some c/\w.cell? ⟨g,3,none⟩=some d/\w.cell? ⟨g,4,none⟩=some e/\w.cell? ⟨g,5,none⟩=some f/\w.cell? ⟨g,6,none⟩=some x:=by
 simp[World.cell?,h]
theorem wS {w w4:World} {n k:Nat} (h:Below n w w4) (hn:n<=k) (a b c d e f:Value):
  Below n w ((((((w4.setCell ⟨k,0,none⟩ a).setCell ⟨k,1,none⟩ b).setCell ⟨k,2,none⟩ c).setCell ⟨k,3,none⟩ d).setCell ⟨k,4,none⟩ e).setCell ⟨k,5,none⟩ f).drew:=
 have h1:=h.setCell (p:=⟨k,0,none⟩) hn a;have h2:=h1.setCell (p:=⟨k,1,none⟩) hn b;have h3:=h2.setCell (p:=⟨k,2,none⟩) hn c;have h4:=h3.setCell (p:=⟨k,3,none⟩) hn d;have h5:=h4.setCell (p:=⟨k,4,none⟩) hn e;have h6:=h5.setCell (p:=⟨k,5,none⟩) hn f
 h6.drew
theorem O8 {w4:World} {k q:Nat} (hn:q≠k) (a b c d e f:Value):
  ((((((w4.setCell ⟨k,0,none⟩ a).setCell ⟨k,1,none⟩ b).setCell ⟨k,2,none⟩ c).setCell ⟨k,3,none⟩ d).setCell ⟨k,4,none⟩ e).setCell ⟨k,5,none⟩ f).drew.heap[q]?=w4.heap[q]? :=by
 have e0:∀X:World,X.drew.heap=X.heap:=fun _=>rfl
 rw[e0];exact(Below.heap_setCell _ _ _ _ hn).trans ((Below.heap_setCell _ _ _ _ hn).trans ((Below.heap_setCell _ _ _ _ hn).trans ((Below.heap_setCell _ _ _ _ hn).trans ((Below.heap_setCell _ _ _ _ hn).trans (Below.heap_setCell _ _ _ _ hn)))))
theorem qL.mono {w:World} {base base' g:Nat} {V:Vc} {N:List ByteArray} {kind:Int} {T:List Rg} {cb:Nat} (h:qL w base g V N kind T cb) (hb:base'<=base):qL w base' g V N kind T cb:=by
 obtain⟨h1,ta,tc,sa,sc,na,nc,ma,mc,oa,oc,eg,hx,a1,a2,a3,a4,a5,a6⟩:=h;exact⟨by omega,ta,tc,sa,sc,na,nc,ma,mc,oa,oc,eg,hx,a1.mono hb,a2.mono hb,a3.mono hb,a4.mono hb,a5.mono hb,a6.mono hb⟩
theorem qL.below {w w':World} {base g:Nat} {V:Vc} {N:List ByteArray} {kind:Int} {T:List Rg} {cb:Nat} (h:qL w base g V N kind T cb) (hb:Below w.heap.size w w'):qL w' base g V N kind T cb:=by
 obtain⟨lo,ta,tc,sa,sc,na,nc,ma,mc,oa,oc,eg,hx,a1,a2,a3,a4,a5,a6⟩:=h;exact⟨lo,ta,tc,sa,sc,na,nc,ma,mc,oa,oc,eg,(hb.block _ (Array.getElem?_eq_some_iff.1 hx).1).trans hx,a1.below hb,a2.below hb,a3.below hb,a4.below hb,a5.below hb,a6.keep (fun q _ hq=>hb.block q hq) hb.size⟩
theorem lZ {V:Vc} {N:List ByteArray} {kind:Int} {T:List Rg} {base g cb:Nat} (s:Int) (w:World) (hC:qL w base g V N kind T cb) (hN:N.length<=16):
  Calls Tryz.prog 77 #[.pointer (some ⟨g,0,none⟩), .int .i64 s] w fun e w'=>e= .returned (.int .i64 (nB V N s))/\w=w':=by
 obtain⟨lo,ta,tc,sa,sc,na,nc,ma,mc,oa,oc,eg,hx,_,_,_,hom,_⟩:=hC;obtain⟨c0,c1,c2,c3,c4,c5,c6,c7,c8,cf⟩:=fO hx;obtain⟨mo,mcap,e0,hsm⟩:=hom.sl;have hml:=nK V.specials N;rw[hml]at e0 hsm;obtain⟨rfl,_,rfl⟩:=Value.slice.inj e0;have q1:IntKind.i64.wrap (256+(N.length:Int))=256+(N.length:Int):=by rw[IntKind.wrap_i64];omega
 clear hx hom e0
 by_cases h0:s<0
 ·have HF:Hid (nB V N s=1):=hW_ (by unfold nB;rw[if_pos (.inl h0)]);have hd:decide (s<0)=true:=by simpa using h0
  go_enter Tryz.func77,Tryz.ntmps77;go_wp2_with (fail);refine bodyPost_ret (results_tmp rfl _ _ _) rfl ⟨by rw[HF.out];rfl,rfl⟩
 ·have hd:decide (s<0)=false:=by simpa using h0
  by_cases h1:256+(N.length:Int)<=s
  ·have HF:Hid (nB V N s=1):=hW_ (by unfold nB;rw[if_pos (.inr h1)]);go_enter Tryz.func77,Tryz.ntmps77;go_wp2_with (fail);refine bodyPost_ret (results_tmp rfl _ _ _) rfl ⟨by rw[HF.out];rfl,rfl⟩
  ·have hnn:¬(s<0\/256+(N.length:Int)<=s):=by omega
   by_cases h2:256<=s
   ·have hg2:decide ((256:Int)<=s)=true:=by simpa using h2
    obtain⟨k,hk⟩:∃k:Nat,s-256=k:=⟨(s-256).toNat,by omega⟩;have q2:IntKind.i64.wrap (s-256)=(k:Int):=by rw[IntKind.wrap_i64];omega
    have gk:(k:Int)<(N.length:Int):=by omega
    have gk0:(0:Int)<=(k:Int):=by omega
    obtain⟨b,o,hao,hc⟩:=hsm.at_ (i:=k) (by omega);subst hao;obtain⟨v,hv⟩:∃v,ix (nC V.specials N) k=v:=⟨_,rfl⟩;rw[hv]at hc;have hmk:jI V N s=v:=by unfold jI;rw[hk,Int.toNat_natCast,hv]
    by_cases h3:v<0
    ·have HF:Hid (nB V N s=4):=hW_ (by unfold nB;rw[if_neg hnn,if_pos ⟨h2,by rw[hmk];exact h3⟩]);clear hsm hml hv hmk hnn;go_enter Tryz.func77,Tryz.ntmps77;go_wp2_with (fail);refine bodyPost_ret (results_tmp rfl _ _ _) rfl ⟨by rw[HF.out];rfl,rfl⟩
    ·have HF:Hid (nB V N s=0):=hW_ (by unfold nB;rw[if_neg hnn,if_neg (fun h=>h3 (by rw[<-hmk];exact h.2))]);clear hsm hml hv hmk hnn;go_enter Tryz.func77,Tryz.ntmps77;go_wp2_with (fail);refine bodyPost_ret (results_tmp rfl _ _ _) rfl ⟨by rw[HF.out];rfl,rfl⟩
   ·have hg2:decide ((256:Int)<=s)=false:=by simpa using h2
    have HF:Hid (nB V N s=0):=hW_ (by unfold nB;rw[if_neg hnn,if_neg (fun h=>h2 h.1)]);clear hsm hml hnn;go_enter Tryz.func77,Tryz.ntmps77;go_wp2_with (fail);refine bodyPost_ret (results_tmp rfl _ _ _) rfl ⟨by rw[HF.out];rfl,rfl⟩
theorem xH {V:Vc} {N:List ByteArray} {kind:Int} {T:List Rg} {base g cb:Nat} {A:List Int} {ao:Option Addr} {n c:Nat} (w:World) (hC:qL w base g V N kind T cb) (hN:N.length<=16) (hA:SlI w ao n c A) (hn:n<=1048576):
  Calls Tryz.prog 39 #[.pointer (some ⟨g,0,none⟩), .slice ao n c] w fun e w'=>e= .returned (.int .i64 (mA V N A))/\w=w':=by
 have HC:=hW_ hC;have HA:=hW_ hA;have HN:=hW_ hN;have HAL:=hW_ hA.len;clear hC hA hN;go_enter Tryz.func39,Tryz.ntmps39;go_wp2_with (fail);go_loopw [12] (fun i wr=>∃k:Nat,k<=n/\i= .int .i64 k/\Hid (mA V N A=mA V N (A.drop k))/\wr=w) (fun i _=>n-(intOf i).toNat)
 case atStart=>exact⟨0,Nat.zero_le _,rfl,hW_ rfl,rfl⟩
 case round=>
  obtain⟨k,hk,rfl,HK,hw⟩:=hrel;subst hw
  by_cases hlt:k<n
  ·obtain⟨b,o,hao,hc⟩:=HA.out.at_ hlt;subst hao;have hkA:k<A.length:=by have:=HAL.out;omega
   have hdr:=Z4 (V:=V) (N:=N) hkA;obtain⟨s,hs⟩:∃s,ix A k=s:=⟨_,rfl⟩;rw[hs]at hc hdr;have HF:=hW_ (lZ s wr HC.out HN.out)
   by_cases hf:nB V N s=0
   ·rw[if_pos hf]at hdr;have HK2:Hid (mA V N A=mA V N (A.drop (k+1))):=hW_ (HK.out.trans hdr);rw[hf]at HF;clear hdr hs hf;go_wp2_with (go_at_call 77;refine HF.out.mono ?_;rintro e w1 ⟨rfl,rfl⟩);go_roundw
    case rel=>exact⟨k+1,by omega,by go_num,HK2,by first | rfl | trivial⟩
    case measure=>simp[intOf];omega
   ·rw[if_neg hf]at hdr;have HK2:Hid (mA V N A=nB V N s):=hW_ (HK.out.trans hdr);obtain⟨f,hff⟩:∃f,nB V N s=f:=⟨_,rfl⟩;rw[hff]at hf HF HK2;have hb:(f==0)=false:=by simpa using hf
    clear hdr hs hff;go_wp2_with (go_at_call 77;refine HF.out.mono ?_;rintro e w1 ⟨rfl,rfl⟩);refine bodyPost_ret (results_tmp rfl _ _ _) rfl ⟨by rw[HK2.out];rfl,rfl⟩
  ·obtain rfl:k=n:=by omega
   have HK2:Hid (mA V N A=0):=hW_ (by rw[HK.out,List.drop_eq_nil_of_le (by have:=HAL.out;omega)];rfl);go_wp2_with (fail);go_ret;exact⟨by rw[HK2.out];rfl,rfl⟩
theorem M9 {V:Vc} {N:List ByteArray} {kind:Int} {T:List Rg} {base g cb:Nat} {A:List Int} {ao:Option Addr} {n c:Nat} (final:Bool) (w:World) (hC:qL w base g V N kind T cb) (hA:SlI w ao n c A) (hn:n<=1048570) (hT:oA T) (hk0:0<=kind) (hk3:kind<=3):
  Calls Tryz.prog 103 #[.pointer (some ⟨g,0,none⟩), .slice ao n c, .bool final] w fun e w'=>(∃v,e= .returned v/\iA tG 2 92 w' w.heap.size v (zA kind T A final))/\Below w.heap.size w w':=by
 obtain⟨lo,ta,tc,sa,sc,na,nc,ma,mc,oa,oc,eg,hx,_,_,_,_,hot,_⟩:=hC;obtain⟨c0,c1,c2,c3,c4,c5,c6,c7,c8,cf⟩:=fO hx;obtain⟨to_,tcap,e0,hst⟩:=hot.sl;obtain⟨rfl,_,rfl⟩:=Value.slice.inj e0;have HS:Hid (∀W,Ge w W->Calls Tryz.prog 142 #[.int .i64 kind, .slice oa T.length oc, .slice ao n c, .bool final] W fun e w'=>(∃v,e= .returned v/\iA tG 2 92 w' w.heap.size v (zA kind T A final))/\Below w.heap.size w w'):=hW_ (fun W hW=>(X1 kind final W (hA.below hW) hn (hst.below hW) hT hk0 hk3).mono (by
  rintro e w' ⟨⟨v,rfl,h1⟩,h2⟩;exact⟨⟨v,rfl,iA.mono h1 hW.size⟩,hW.below h2⟩))
 clear hx hot e0 hst hA;go_enter Tryz.func103,Tryz.ntmps103;go_wp2_with (fail)
 go_region_with (go_at_call 142;refine(HS.out _ (by exact bA (Below.refl _ _) _)).mono ?_;rintro e w2 ⟨⟨v,rfl,ho⟩,hb2⟩;have HO:=hW_ ho;have HB2:=hW_ hb2;clear ho hb2)
 all_goals(
  go_wp2_with (fail);go_ret;exact⟨⟨v,rfl,HO.out⟩,HB2.out⟩)
def Y8 (A:List Int):ByteArray:=A.foldl (fun r n=>r.push (UInt8.ofNat n.toNat)) ByteArray.empty
theorem aCs:∀(A:List Int) (r:ByteArray),(∀y∈A,0<=y/\y<256)->A9 (A.foldl (fun r n=>r.push (UInt8.ofNat n.toNat)) r)=A9 r++A
 | [],r,_=>by simp
 | a::A,r,h=>by
  obtain⟨h0,h1⟩:=h a (by simp);rw[List.foldl_cons,aCs A _ (fun y hy=>h y (by simp[hy]))];have:A9 (r.push (UInt8.ofNat a.toNat))=A9 r++ [a]:=by
   unfold A9;have:(r.push (UInt8.ofNat a.toNat)).data=r.data.push (UInt8.ofNat a.toNat):=rfl;rw[this];simp;omega
  rw[this];simp
theorem uM {A:List Int} (h:∀y∈A,0<=y/\y<256):A9 (Y8 A)=A:=by
 have:=aCs A ByteArray.empty h;rw[show A9 ByteArray.empty= [] from rfl,List.nil_append]at this;exact this
theorem aDK {A:List Int} (h:∀y∈A,0<=y/\y<256):(Y8 A).size=A.length:=by
 rw[<-dH,uM h]
theorem aBu {w:World} {ao:Option Addr} {n c:Nat} {A:List Int} (h:SlB w ao n c A) (hn:0<n):(convert 113 9 (.slice ao n c)).run Tryz.prog w= .ok (.string (Y8 A)) w:=by
 have hl:=h.len;obtain⟨b,o,hao,_⟩:=Sl.at_ h 0 (.int .u8 (ix A 0)) (by rw[List.getElem?_map,gF (by omega)];rfl);subst hao;rw[run_convert_bytes_string (P:=Tryz.prog) _ 113 9 5 _ _ _ Tryz.underlying113 Tryz.underlying5 Tryz.underlying9];rw[run_bytesToString _ _ _ _ A (by
  have:=run_loadCells_list (w:=w) (P:=Tryz.prog) ⟨b,o,none⟩ (A.map (.int .u8)) (fun j v hj=>by
   obtain⟨b',o',e,hc⟩:=Sl.at_ h j v hj;simp only[Option.some.injEq,Addr.mk.injEq,and_true]at e;obtain⟨rfl,rfl⟩:=e;rw[Addr.add_lit];exact hc)
  rw[List.length_map,hl]at this;exact this)]
 rfl
theorem aBT {M:List Mg}:∀(k:Nat) (r:List Int),(J3 M k r).length<=r.length
 | 0,r=>Nat.le_refl _
 | k+1,r=>by
  cases hs:rE M r with
  | none=>rw[gN hs];exact Nat.le_refl _
  | some r'=>
   have h1:=uO hs;have h2:=aBT k r' (M:=M);simp only[J3,hs];omega
theorem aCz (V:Vc) (A:List Int):(jG V A).length<=A.length:=by
 have:=aBT (M:=V.merges) A.length (yB V A);rw[lG]at this;exact this
structure lE (V:Vc) (l:List Row) (room hits misses:Int):Prop where
 rows:∀p∈l,p.2=jG V (A9 p.1)
 rm:(l.length:Int)<=room
 ms:(l.length:Int)<=misses
 hz:0<=hits
 mz:0<=misses
 zr:room=0->hits=0/\l= []
theorem aCO (l:List Row) (k:ByteArray) (A:List Int):(E0 l k A).length<=l.length+1:=by
 unfold E0;rw[List.length_append];have:=List.length_filter_le (fun p:Row=>decide (p.1≠k)) l;simp only[List.length_singleton];omega
theorem kU {l:List Row} {k:ByteArray} {A:List Int} {p:Row} (h:p∈E0 l k A):p∈l\/p=(k,A):=by
 unfold E0 at h;rcases List.mem_append.1 h with h1 | h1
 ·exact .inl (List.mem_filter.1 h1).1
 ·exact .inr (List.mem_singleton.1 h1)
theorem aCP {l:List Row} {k:ByteArray} {A:List Int} (h:(k,A)∈l):(E0 l k A).length<=l.length:=by
 unfold E0;rw[List.length_append];have:(l.filter (fun p:Row=>decide (p.1≠k))).length<l.length:=by
  rw[List.length_filter_lt_length_iff_exists];exact⟨(k,A),h,by simp⟩
 simp only[List.length_singleton];omega
theorem lE.hit {V:Vc} {l:List Row} {room hits misses:Int} {k:ByteArray} {A:List Int} (h:lE V l room hits misses) (hm:(k,A)∈l):lE V (E0 l k A) room (hits+1) misses:=by
 have hl:=aCP hm;refine⟨fun p hp=> ?_,by have:=h.rm;omega,by have:=h.ms;omega,by have:=h.hz;omega,h.mz,fun e=> ?_⟩
 ·rcases kU hp with h1 | h1
  ·exact h.rows p h1
  ·subst h1;exact h.rows _ hm
 ·obtain⟨_,e2⟩:=h.zr e;rw[e2]at hm;cases hm
theorem lE.put {V:Vc} {l:List Row} {room hits misses:Int} {k:ByteArray} (h:lE V l room hits misses) (h0:0<room):lE V (fW l room k (jG V (A9 k))) room hits (misses+1):=by
 have hl:=aCO l k (jG V (A9 k));have hr:=h.rm;have hm:=h.ms;have key:∀p∈fW l room k (jG V (A9 k)),p∈E0 l k (jG V (A9 k)):=fun p hp=>by
  unfold fW at hp;split at hp
  ·exact List.mem_of_mem_drop hp
  ·exact hp
 refine⟨fun p hp=> ?_,?_,?_,h.hz,by have:=h.mz;omega,fun e=>by omega⟩
 ·rcases kU (key p hp)with h1 | h1
  ·exact h.rows p h1
  ·subst h1;rfl
 ·unfold fW;split
  ·rw[List.length_drop];omega
  ·omega
 ·unfold fW;split
  ·rw[List.length_drop];omega
  ·omega
theorem lE.missed {V:Vc} {l:List Row} {room hits misses:Int} (h:lE V l room hits misses):lE V l room hits (misses+1):=
 ⟨h.rows,h.rm,by have:=h.ms;omega,h.hz,by have:=h.mz;omega,h.zr⟩
structure Cch (cb mb:Nat) (no no':Option Addr) (w w':World):Prop where
 os:w'.os=w.os
 tape:w'.tape=w.tape
 output:w'.output=w.output
 size:w.heap.size<=w'.heap.size
 block:∀q,q<w.heap.size->¬Ft cb mb no q->w'.heap[q]?=w.heap[q]?
 new:∀q,q<w.heap.size->¬Ft cb mb no q->¬Ft cb mb no' q
theorem Cch.keeps {cb mb:Nat} {no:Option Addr} {w w':World} (h:dA (Ft cb mb no) w w'):Cch cb mb no no w w':=⟨h.os,h.tape,h.output,h.size,h.block,fun _ _ h=>h⟩
theorem Cch.below {cb mb:Nat} {no:Option Addr} {w w':World} (h:Below w.heap.size w w'):Cch cb mb no no w w':=Cch.keeps (dA.of_below h)
theorem Cch.trans {cb mb:Nat} {no n1 n2:Option Addr} {w w1 w2:World} (h:Cch cb mb no n1 w w1) (k:Cch cb mb n1 n2 w1 w2):Cch cb mb no n2 w w2:=
 ⟨k.os.trans h.os,k.tape.trans h.tape,k.output.trans h.output,Nat.le_trans h.size k.size,fun q hq hn=>(k.block q (Nat.lt_of_lt_of_le hq h.size) (h.new q hq hn)).trans (h.block q hq hn),fun q hq hn=>k.new q (Nat.lt_of_lt_of_le hq h.size) (h.new q hq hn)⟩
theorem Cch.put {cb mb g:Nat} {no:Option Addr} {w w':World} (h:dA (Ft cb mb no) w w') (ha:Go.Proofs.YtahiballegpbgaaGreatDoor.At no g w.heap.size):Cch cb mb no (some ⟨g,0,none⟩) w w':=
 ⟨h.os,h.tape,h.output,h.size,h.block,fun q hq hn hf=>by
  rcases hf with h1 | h1 | h1
  ·exact hn (.inl h1)
  ·exact hn (.inr (.inl h1))
  ·obtain rfl:g=q:=by simpa using h1
   rcases ha with h2 | h2
   ·exact hn (.inr (.inr h2))
   ·omega⟩
theorem K8.cod {w:World} {base g:Nat} {V:Vc} {N:List ByteArray} {kind:Int} {T:List Rg} {room:Int} {cb mb:Nat} {no:Option Addr} {l:List Row} {hits misses:Int} (h:K8 w base g V N kind T room cb mb no l hits misses):qL w base g V N kind T cb:=by
 obtain⟨⟨S,h1,_⟩,_⟩:=h;exact h1.self
theorem jW {V:Vc} {N:List ByteArray} {kind:Int} {T:List Rg} {base g cb b2 b5:Nat} {A:List Int} {bo:Option Addr} {n c:Nat} (w:World) (hC:qL w base g V N kind T cb) (hM:May V) (hS:SlB w bo n c A) (hby:∀y∈A,0<=y/\y<256) (hn0:0<n) (hn:n<=100000)
  (h2:w.cell? ⟨b2,0,none⟩=some (.pointer (some ⟨g,0,none⟩))) (h5:w.cell? ⟨b5,0,none⟩=some (.slice bo n c)):
  Calls Tryz.prog 150 #[.pointer (some ⟨b2,0,none⟩), .pointer (some ⟨b5,0,none⟩)] w fun e w'=>∃v,e= .returned v/\Own w' w.heap.size v (jG V A)/\Below w.heap.size w w':=by
 obtain⟨lo,ta,tc,sa,sc,na,nc,ma,mc,oa,oc,eg,hx,_,_,_,_,_,hec⟩:=hC;obtain⟨c0,c1,c2,c3,c4,c5,c6,c7,c8,cf⟩:=fO hx;have HE:Hid (∀W,Ge w W->Calls Tryz.prog 151 #[.pointer (some ⟨eg,0,none⟩), .slice bo n c] W fun e w'=>∃v,e= .returned v/\Own w' w.heap.size v (jG V A)/\Below w.heap.size w w'):=hW_ (fun W hW=>(pZ W (hec.keep (fun q _ hq=>hW.block q hq) hW.size) hM (Sl.below hS hW) hby hn0 hn).mono (by
  rintro e w' ⟨v,rfl,h1,h2⟩;exact⟨v,rfl,h1.mono hW.size,hW.below h2⟩))
 clear hx hec hS hby hM;go_enter Tryz.func150,Tryz.ntmps150;go_wp2_with (fail)
 go_region_with (go_at_call 151;refine(HE.out _ (by exact bA (Below.refl _ _) _)).mono ?_;rintro e w2 ⟨v,rfl,ho,hb2⟩;have HO:=hW_ ho;have HB2:=hW_ hb2;clear ho hb2)
 all_goals(
  go_wp2_with (fail);go_ret;exact⟨v,rfl,HO.out,HB2.out⟩)
def aCM (A:List Int):Prop:=(∃x,A= [x]/\256<=x)\/(A≠[]/\∀y∈A,0<=y/\y<256)
theorem P0 {V:Vc} {N:List ByteArray} {x:Int} (hc:mA V N [x]=0) (hx:256<=x):eC V N [x]= [jI V N x]:=by
 unfold eC;rw[if_neg (by simp[hc]),if_pos ⟨rfl,hx⟩];rfl
theorem C4 {V:Vc} {N:List ByteArray} {A:List Int} (hc:mA V N A=0) (hA:A≠[]) (hb:∀y∈A,0<=y/\y<256):eC V N A=jG V A:=by
 unfold eC;rw[if_neg (by simp[hc,hA]),if_neg,if_pos]
 ·rw[List.all_eq_true];intro y hy;exact C6.2 (hb y hy)
 ·rintro⟨h1,h2⟩;have h3:ix A 0∈A:=List.mem_of_getElem? (gF (by omega));have:=hb _ h3;omega
def N5 (A:List Int):Int:=if A.all isB=true then 1 else 0
theorem aBm {A:List Int} (hb:∀y∈A,0<=y/\y<256):N5 A=1:=by
 unfold N5;rw[if_pos];rw[List.all_eq_true];intro y hy;exact C6.2 (hb y hy)
theorem aDL {x:Int} (hx:256<=x):N5 [x]=0:=by
 unfold N5;rw[if_neg];simp[isB];omega
theorem ownB_at0 {w:World} {base:Nat} {v:Value} {A:List Int} (h:w.ownsRow base 5 1 v A.length (A.map (.int .u8))) (hn:0<A.length):∃gb cap,v= .slice (some ⟨gb,0,none⟩) A.length cap/\base<=gb/\gb<w.heap.size/\SlB w (some ⟨gb,0,none⟩) A.length cap A:=by
 have hlt:=World.ownsRow.lt h;obtain⟨ao,c,e,hs⟩:=Sl.of_own h;obtain⟨h1,h2⟩:=h;rcases h2 with⟨_,h3⟩ | ⟨gb,cap,cur,hv,_⟩
 ·omega
 ·subst hv;obtain⟨rfl,_,rfl⟩:=Value.slice.inj e;obtain⟨k1,k2⟩:=hlt gb rfl;exact⟨gb,cap,rfl,k1,k2,hs⟩
theorem K8.codK {w w':World} {base g:Nat} {V:Vc} {N:List ByteArray} {kind:Int} {T:List Rg} {room:Int} {cb mb:Nat} {no:Option Addr} {l:List Row} {hits misses:Int} (h:K8 w base g V N kind T room cb mb no l hits misses) (hk:dA (Ft cb mb no) w w'):qL w' base g V N kind T cb:=by
 obtain⟨⟨S,h1,h2⟩,_⟩:=h;exact h1 w' (fun q hq=>hk.block q (h2 q hq).1.2 (h2 q hq).2) hk.size
theorem dA.cell {S:Nat->Prop} {w w':World} (h:dA S w w') {p:Addr} {u:Value} (hc:w.cell? p=some u) (hn:¬S p.block):w'.cell? p=some u:=by
 rw[World.cell?_of_block (w:=w) (h.block _ (World.block_lt_of_cell? w p hc) hn)];exact hc
end Go.Proofs.YtahiballegpbgaaGreatDoor
