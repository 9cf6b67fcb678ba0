/- Walks: what is more than is gone through; the document's coder. (Printed by gKit16.py.) -/
import Derived.Test.YtimkkkdabmhedaaGreatDoorF32
import Derived.Test.YtimkkkdabmhedaaGreatDoorF10
import Derived.Test.YtimkkkdabmhedaaGreatDoorF22
import Derived.Test.YtimkkkdabmhedaaGreatDoorF7
import Derived.Deep.LoopGhost
import Derived.Test.YtimkkkdabmhedaaGreatDoorF24
import Derived.Test.YtimkkkdabmhedaaGreatDoorF25
import Derived.Test.YtimkkkdabmhedaaGreatDoorF1
import Derived.Test.YtimkkkdabmhedaaGreatDoorF20
import Derived.Test.YtimkkkdabmhedaaGreatDoorF31
set_option linter.unusedVariables false
set_option maxHeartbeats 2000000
set_option maxRecDepth 100000
namespace Go.Proofs.YtimkkkdabmhedaaGreatDoor
open Go.RowKit
def dJ (V:Vc) (N:List ByteArray) (T:List Rg):Prop:=tK V\/20<N.length\/80<T.length\/∃s∈N,40<s.size
def kZ (V:Vc) (N:List ByteArray) (T:List Rg) (w:World) (e:Ending) (w':World):Prop:=(∃b,e= .returned (.bool b)/\(b=true↔dJ V N T))/\Below w.heap.size w w'
theorem S5 {V:Vc} {dd:Vd} {N:List ByteArray} {T:List Rg} {no to_:Option Addr} {nn nc tn tc:Nat} (w:World) (hV:jF w dd V) (hok:(∀s∈V.tokens,s.size<=maxLen)/\jO V.specials) (hN:SlS w no nn nc N) (hNs:∀s∈N,s.size<=maxLen)
  (hT:SlF 3 w to_ tn tc (flat Rg.enc T)):Calls Tryz.prog 12 #[dd.val, .slice no nn nc, .slice to_ tn tc] w (kZ V N T w):=by
 obtain⟨ta,tn',tc',ma,mn,mc,sa,sn,sc⟩:=dd;obtain⟨w0,hw0⟩:∃w0,w.alloc (.cells #[.slice ta tn' tc', .slice ma mn mc, .slice sa sn sc] 26)=w0:=⟨_,rfl⟩;have hb0:Below w.heap.size w w0:=hw0▸aA w _;have hx0:w0.heap[w.heap.size]?=some (.cells #[.slice ta tn' tc', .slice ma mn mc, .slice sa sn sc] 26):=by rw[<-hw0];exact heap_alloc_new w _
 obtain⟨c0,c1,c2⟩:=qA hx0;have hgr:=zV (dd:=⟨ta,tn',tc',ma,mn,mc,sa,sn,sc⟩) w0 (hV.below hb0) hok;have HN:=hW_ (hN.below hb0);have HB0:=hW_ hb0;have HNS:=hW_ hNs;have HNL:=hW_ hN.count;have HTL:=hW_ (hT.count Rg.enc_len (by omega));have hm1:=Nat.le_trans (Sl.le hN) (Sl.max hN);have hm2:=Nat.le_trans hT.le hT.max;unfold maxLen at hm1 hm2;have HW0:=hW_ hw0;clear hV hN hT hNs hb0 hx0 hw0 hok;go_enter Tryz.func12,Tryz.ntmps12;go_wp2_with (fail);rw[HW0.out];refine hgr.mono ?_
 rintro e w1 ⟨⟨b,rfl,hb⟩,hb1⟩;have HB1:=hW_ (HB0.out.trans (hb1.mono HB0.out.size));have HG:=hW_ hb;have HN1:=hW_ (Sl.below HN.out hb1);clear hb hb1 hgr c0 c1 c2 HN
 cases b with
 | true=>
  have HF:Hid (dJ V N T):=hW_ (.inl (HG.out.1 rfl));go_wp2_with (fail);go_ret;exact⟨⟨_,rfl,(fun _=>HF.out),(fun _=>rfl)⟩,HB1.out⟩
 | false=>
 by_cases h20:(20:Int)<nn
 ·have HF:Hid (dJ V N T):=hW_ (.inr (.inl (by rw[HNL.out];omega)));go_wp2_with (fail);go_ret;exact⟨⟨_,rfl,(fun _=>HF.out),(fun _=>rfl)⟩,HB1.out⟩
 by_cases h80:(80:Int)<tn
 ·have HF:Hid (dJ V N T):=hW_ (.inr (.inr (.inl (by rw[HTL.out];omega))));go_wp2_with (fail);go_ret;exact⟨⟨_,rfl,(fun _=>HF.out),(fun _=>rfl)⟩,HB1.out⟩
 go_wp2_with (fail);go_loop [7,22] (fun _ i=>∃k:Nat,k<=nn/\i= .int .i64 k/\Hid (∀j,j<k->¬40<(tk N j).size)) (fun _ i=>nn-(intOf i).toNat)
 case atStart=>exact⟨0,Nat.zero_le _,rfl,hW_ (fun j h=>by omega)⟩
 case round=>
  obtain⟨k,hk,rfl,HK⟩:=hrel
  by_cases hlt:k<nn
  ·have hkT:k<N.length:=by have:=HNL.out;omega
   obtain⟨b,o,hao,hc⟩:=SlS.cell HN1.out (nB hkT);subst hao;have hks:=HNS.out _ (mB hkT);unfold maxLen at hks
   by_cases h40:(40:Int)<(tk N k).size
   ·have HF:Hid (dJ V N T):=hW_ (.inr (.inr (.inr ⟨_,mB hkT,by omega⟩)));go_wp2_with (fail);go_ret;exact⟨⟨_,rfl,(fun _=>HF.out),(fun _=>rfl)⟩,HB1.out⟩
   ·have HK2:Hid (∀j,j<k+1->¬40<(tk N j).size):=hW_ (fun j hj=>by
     by_cases e:j=k
     ·subst e;omega
     ·exact HK.out j (by omega))
    go_wp2_with (fail);go_round
    case rel=>exact⟨k+1,by omega,by go_num,HK2⟩
    case measure=>simp[intOf];omega
  ·have HF:Hid (¬dJ V N T):=hW_ (by
    rintro(h | h | h | ⟨s,hs,h⟩)
    ·have:=HG.out.2 h;cases this
    ·have:=HNL.out;omega
    ·have:=HTL.out;omega
    ·obtain⟨j,hj,rfl⟩:=gI hs;exact HK.out j (by have:=HNL.out;omega) h)
   go_wp2_with (fail);go_ret;exact⟨⟨_,rfl,(fun h=>by cases h),(fun h=>absurd h HF.out)⟩,HB1.out⟩
def noC:Value:= .agg #[.slice none 0 0, .slice none 0 0, .slice none 0 0, .slice none 0 0, .int .i64 0, .slice none 0 0]
def aDd (dd:Vd) (no:Option Addr) (nn nc:Nat) (V:Vc) (N:List ByteArray) (kind:Int) (T:List Rg) (room:Int) (w:World) (e:Ending) (w':World):Prop:=
 ((¬May V/\e= .returned (.tuple #[noC, .int .i64 2]))\/(May V/\¬E3 N kind T room/\e= .returned (.tuple #[noC, .int .i64 1]))\/
  (May V/\E3 N kind T room/\∃to_ tn tc,e= .returned (.tuple #[.agg #[.slice dd.ta dd.tn dd.tc, .slice dd.ma dd.mn dd.mc, .slice dd.sa dd.sn dd.sc, .slice no nn nc, .int .i64 kind, .slice to_ tn tc], .int .i64 0])/\SlF 3 w' to_ tn tc (flat Rg.enc (C6 T))))/\Below w.heap.size w w'
theorem lK {w:World} {g:Nat} {a b c d e f:Value} {t:TypeId} (h:w.heap[g]?=some (.cells #[a,b,c,d,e,f] t)):
  w.cell? ⟨g,0,none⟩=some a/\w.cell? ⟨g,1,none⟩=some b/\w.cell? ⟨g,2,none⟩=some c/\w.cell? ⟨g,3,none⟩=some d/\w.cell? ⟨g,4,none⟩=some e/\w.cell? ⟨g,5,none⟩=some f/\∀o,w.frozen? ⟨g,o,none⟩=false:=by
 simp[World.cell?,World.frozen?,h]
theorem dV {V:Vc} {dd:Vd} {N:List ByteArray} {kind:Int} {T:List Rg} {room:Int} {no to_:Option Addr} {nn nc tn tc:Nat} (w:World) (hV:jF w dd V) (hok:VOk V) (hN:SlS w no nn nc N) (hNs:∀s∈N,s.size<=maxLen)
  (hT:SlF 3 w to_ tn tc (flat Rg.enc T)):Calls Tryz.prog 15 #[dd.val, .slice no nn nc, .int .i64 kind, .slice to_ tn tc, .int .i64 room] w (aDd dd no nn nc V N kind T room w):=by
 obtain⟨ta,tn',tc',ma,mn,mc,sa,sn,sc⟩:=dd;obtain⟨w0,hw0⟩:∃w0,(w.alloc (.cells #[.slice ta tn' tc', .slice ma mn mc, .slice sa sn sc] 26)).alloc (.cells #[.slice none 0 0, .slice none 0 0, .slice none 0 0, .slice none 0 0, .int .i64 0, .slice none 0 0] 37)=w0:=⟨_,rfl⟩;have hb0:Below w.heap.size w w0:=hw0▸(aA w _).alloc (by simp) _;have hx0:w0.heap[w.heap.size]?=some (.cells #[.slice ta tn' tc', .slice ma mn mc, .slice sa sn sc] 26):=by rw[<-hw0];exact(Below.heap_alloc _ _ _ (by simp)).trans (heap_alloc_new w _)
 have hx1:w0.heap[w.heap.size+1]?=some (.cells #[.slice none 0 0, .slice none 0 0, .slice none 0 0, .slice none 0 0, .int .i64 0, .slice none 0 0] 37):=by
  rw[<-hw0];have:=heap_alloc_new (w.alloc (.cells #[.slice ta tn' tc', .slice ma mn mc, .slice sa sn sc] 26)) (.cells #[.slice none 0 0, .slice none 0 0, .slice none 0 0, .slice none 0 0, .int .i64 0, .slice none 0 0] 37);simpa using this
 have hsz1:w.heap.size<w0.heap.size:=by rw[<-hw0];simp;omega
 have hsz2:w.heap.size+1<w0.heap.size:=by rw[<-hw0];simp
 have HSZ1:=hW_ hsz1;have HSZ2:=hW_ hsz2;obtain⟨c0,c1,c2⟩:=qA hx0;have hma:=Q9 (dd:=⟨ta,tn',tc',ma,mn,mc,sa,sn,sc⟩) w0 (hV.below hb0) hok;have HBC:Hid (w.heap.size<=w.heap.size+1):=hW_ (by omega);have HN:=hW_ (Sl.below hN hb0);have HT:=hW_ (hT.below hb0);have HTW:=hW_ hT;have HB0:=hW_ hb0;have HX0:=hW_ hx0;have HX1:=hW_ hx1;have HNS:=hW_ hNs;have HTL:=hW_ (hT.count Rg.enc_len (by omega));have HW0:=hW_ hw0;clear hV hN hT hNs hb0 hx0 hx1 hw0 hok hsz1 hsz2;go_enter Tryz.func15,Tryz.ntmps15;go_wp2_with (fail);rw[HW0.out];refine hma.mono ?_
 rintro e w1 ⟨⟨b,rfl,hb⟩,hb1⟩;have HB1:=hW_ hb1;have HM:=hW_ hb;clear hb hb1 hma c0 c1 c2
 cases b with
 | false=>
  have HF:Hid (¬May V):=hW_ (fun h=>jJ HM.out rfl h);obtain⟨c0,c1,c2⟩:=qA ((HB1.out.block w.heap.size HSZ1.out).trans HX0.out);obtain⟨b0,b1,b2,b3,b4,b5,bf⟩:=lK ((HB1.out.block (w.heap.size+1) HSZ2.out).trans HX1.out);go_wp2_with (fail);refine bodyPost_ret (v:= .tuple #[noC, .int .i64 2]) ?_ rfl ⟨.inl ⟨HF.out,rfl⟩,?_⟩
  ·simp[results,Tryz.results15,go_sem,b0,b1,b2,b3,b4,b5,noC]
  ·exact((((((HB0.out.trans ((HB1.out).mono HB0.out.size)).setCell HBC.out _).setCell HBC.out _).setCell HBC.out _).setCell HBC.out _).setCell HBC.out _).setCell HBC.out _
 | true=>
 have HM1:=hW_ (HM.out.1 rfl);have hmn:=aQ w1 (Sl.below HN.out HB1.out) HNS.out;clear HM;go_wp2_with (fail);refine hmn.mono ?_
 rintro e w2 ⟨⟨b,rfl,hb⟩,hb2⟩;have HB2:=hW_ (HB1.out.trans (hb2.mono HB1.out.size));have HI1:=hW_ hb;clear hb hb2 hmn
 cases b with
 | false=>
  have HF:Hid (¬E3 N kind T room):=hW_ (fun h=>jJ HI1.out rfl h.1);obtain⟨c0,c1,c2⟩:=qA ((HB2.out.block w.heap.size HSZ1.out).trans HX0.out);obtain⟨b0,b1,b2,b3,b4,b5,bf⟩:=lK ((HB2.out.block (w.heap.size+1) HSZ2.out).trans HX1.out);go_wp2_with (fail);refine bodyPost_ret (v:= .tuple #[noC, .int .i64 1]) ?_ rfl ⟨.inr (.inl ⟨HM1.out,HF.out,rfl⟩),?_⟩
  ·simp[results,Tryz.results15,go_sem,b0,b1,b2,b3,b4,b5,noC]
  ·exact((((((HB0.out.trans ((HB2.out).mono HB0.out.size)).setCell HBC.out _).setCell HBC.out _).setCell HBC.out _).setCell HBC.out _).setCell HBC.out _).setCell HBC.out _
 | true=>
 have HN1:=hW_ (HI1.out.1 rfl)
 by_cases hk0:kind<0
 ·have HF:Hid (¬E3 N kind T room):=hW_ (fun h=>by have:=h.2.1;omega);obtain⟨c0,c1,c2⟩:=qA ((HB2.out.block w.heap.size HSZ1.out).trans HX0.out);obtain⟨b0,b1,b2,b3,b4,b5,bf⟩:=lK ((HB2.out.block (w.heap.size+1) HSZ2.out).trans HX1.out);go_wp2_with (fail);refine bodyPost_ret (v:= .tuple #[noC, .int .i64 1]) ?_ rfl ⟨.inr (.inl ⟨HM1.out,HF.out,rfl⟩),?_⟩
  ·simp[results,Tryz.results15,go_sem,b0,b1,b2,b3,b4,b5,noC]
  ·exact((((((HB0.out.trans ((HB2.out).mono HB0.out.size)).setCell HBC.out _).setCell HBC.out _).setCell HBC.out _).setCell HBC.out _).setCell HBC.out _).setCell HBC.out _
 by_cases hk3:(3:Int)<kind
 ·have HF:Hid (¬E3 N kind T room):=hW_ (fun h=>by have:=h.2.2.1;omega);obtain⟨c0,c1,c2⟩:=qA ((HB2.out.block w.heap.size HSZ1.out).trans HX0.out);obtain⟨b0,b1,b2,b3,b4,b5,bf⟩:=lK ((HB2.out.block (w.heap.size+1) HSZ2.out).trans HX1.out);go_wp2_with (fail);refine bodyPost_ret (v:= .tuple #[noC, .int .i64 1]) ?_ rfl ⟨.inr (.inl ⟨HM1.out,HF.out,rfl⟩),?_⟩
  ·simp[results,Tryz.results15,go_sem,b0,b1,b2,b3,b4,b5,noC]
  ·exact((((((HB0.out.trans ((HB2.out).mono HB0.out.size)).setCell HBC.out _).setCell HBC.out _).setCell HBC.out _).setCell HBC.out _).setCell HBC.out _).setCell HBC.out _
 have hcm:=nE w2 (HT.out.below HB2.out);go_wp2_with (fail);refine hcm.mono ?_
 rintro e w3 ⟨⟨b,rfl,hb⟩,hb3⟩;have HB3:=hW_ (HB2.out.trans (hb3.mono HB2.out.size));have HI2:=hW_ hb;clear hb hb3 hcm;obtain⟨c0,c1,c2⟩:=qA ((HB3.out.block w.heap.size HSZ1.out).trans HX0.out);obtain⟨b0,b1,b2,b3,b4,b5,bf⟩:=lK ((HB3.out.block (w.heap.size+1) HSZ2.out).trans HX1.out)
 cases b with
 | false=>
  have HF:Hid (¬E3 N kind T room):=hW_ (fun h=>jJ HI2.out rfl h.2.2.2.1);go_wp2_with (fail);refine bodyPost_ret (v:= .tuple #[noC, .int .i64 1]) ?_ rfl ⟨.inr (.inl ⟨HM1.out,HF.out,rfl⟩),?_⟩
  ·simp[results,Tryz.results15,go_sem,b0,b1,b2,b3,b4,b5,noC]
  ·exact((((((HB0.out.trans ((HB3.out).mono HB0.out.size)).setCell HBC.out _).setCell HBC.out _).setCell HBC.out _).setCell HBC.out _).setCell HBC.out _).setCell HBC.out _
 | true=>
 have HT1:=hW_ (HI2.out.1 rfl)
 by_cases hr0:room<0
 ·have HF:Hid (¬E3 N kind T room):=hW_ (fun h=>by have:=h.2.2.2.2.1;omega);go_wp2_with (fail);refine bodyPost_ret (v:= .tuple #[noC, .int .i64 1]) ?_ rfl ⟨.inr (.inl ⟨HM1.out,HF.out,rfl⟩),?_⟩
  ·simp[results,Tryz.results15,go_sem,b0,b1,b2,b3,b4,b5,noC]
  ·exact((((((HB0.out.trans ((HB3.out).mono HB0.out.size)).setCell HBC.out _).setCell HBC.out _).setCell HBC.out _).setCell HBC.out _).setCell HBC.out _).setCell HBC.out _
 by_cases hr1:(1048576:Int)<room
 ·have HF:Hid (¬E3 N kind T room):=hW_ (fun h=>by have:=h.2.2.2.2.2;omega);go_wp2_with (fail);refine bodyPost_ret (v:= .tuple #[noC, .int .i64 1]) ?_ rfl ⟨.inr (.inl ⟨HM1.out,HF.out,rfl⟩),?_⟩
  ·simp[results,Tryz.results15,go_sem,b0,b1,b2,b3,b4,b5,noC]
  ·exact((((((HB0.out.trans ((HB3.out).mono HB0.out.size)).setCell HBC.out _).setCell HBC.out _).setCell HBC.out _).setCell HBC.out _).setCell HBC.out _).setCell HBC.out _
 have HOKK:Hid (E3 N kind T room):=hW_ ⟨HN1.out,by omega,by omega,HT1.out,by omega,by omega⟩
 by_cases ht0:tn=0
 ·have hT0:T= []:=List.eq_nil_of_length_eq_zero (by have:=HTL.out;omega);have HTU:Hid (C6 T=usR):=hW_ (by unfold C6;rw[if_pos hT0]);have htc:=tW w3;subst ht0;clear hT0;go_wp2_with (fail);refine htc.mono ?_
  rintro e w4 ⟨v,rfl,ho,hb4⟩;obtain⟨ua,uc,rfl,hs⟩:=ho.sl;have HB4:=hW_ (HB3.out.trans (hb4.mono HB3.out.size));have HS:=hW_ ho;clear ho hb4 hs htc;obtain⟨c0,c1,c2⟩:=qA ((HB4.out.block w.heap.size HSZ1.out).trans HX0.out);obtain⟨b0,b1,b2,b3,b4,b5,bf⟩:=lK ((HB4.out.block (w.heap.size+1) HSZ2.out).trans HX1.out);go_wp2_with (fail);refine bodyPost_ret (v:= .tuple #[.agg #[.slice ta tn' tc', .slice ma mn mc, .slice sa sn sc, .slice no nn nc, .int .i64 kind, .slice ua usR.length uc], .int .i64 0]) ?_ rfl ⟨.inr (.inr ⟨HM1.out,HOKK.out,ua,_,uc,rfl,?_⟩),?_⟩
  ·simp[results,Tryz.results15,go_sem,b0,b1,b2,b3,b4,b5]
  ·rw[HTU.out];obtain⟨ao',cap',e',hs'⟩:=eA.sl (eA.keepG HS.out ((((((dB.refl (w.heap.size+1) w4).set 0 _).set 1 _).set 2 _).set 3 _).set 4 _ |>.set 5 _) (fun q hq=>by have:=(World.ownsRow.lt HS.out q hq).1;have:=HSZ2.out;have:=HB3.out.size;omega));simp only[Value.slice.injEq]at e';obtain⟨rfl,_,rfl⟩:=e';exact hs'
  ·exact((((((HB0.out.trans (HB4.out.mono HB0.out.size)).setCell HBC.out _).setCell HBC.out _).setCell HBC.out _).setCell HBC.out _).setCell HBC.out _).setCell HBC.out _
 ·have HTU:Hid (C6 T=T):=hW_ (by unfold C6;rw[if_neg (fun e=>ht0 (by have:=HTL.out;rw[e]at this;simpa using this.symm))]);have HS:=hW_ (HT.out.below HB3.out);go_wp2_with (fail);refine bodyPost_ret (v:= .tuple #[.agg #[.slice ta tn' tc', .slice ma mn mc, .slice sa sn sc, .slice no nn nc, .int .i64 kind, .slice to_ tn tc], .int .i64 0]) ?_ rfl ⟨.inr (.inr ⟨HM1.out,HOKK.out,to_,tn,tc,rfl,?_⟩),?_⟩
  ·simp[results,Tryz.results15,go_sem,b0,b1,b2,b3,b4,b5]
  ·rw[HTU.out];exact HTW.out.below (((((((HB0.out.trans (HB3.out.mono HB0.out.size)).setCell HBC.out _).setCell HBC.out _).setCell HBC.out _).setCell HBC.out _).setCell HBC.out _).setCell HBC.out _)
  ·exact((((((HB0.out.trans (HB3.out.mono HB0.out.size)).setCell HBC.out _).setCell HBC.out _).setCell HBC.out _).setCell HBC.out _).setCell HBC.out _).setCell HBC.out _
theorem aAg (x:ByteArray) (w:World):Calls Tryz.prog 131 #[.string x] w fun e w'=>e= .returned (.bool false)/\w=w':=by
 go_enter Tryz.func131,Tryz.ntmps131;go_wp2;go_ret;exact⟨by simp,rfl⟩
theorem sM (x:ByteArray) (w:World):Calls Tryz.prog 97 #[.string x] w fun e w'=>e= .returned (.bool false)/\w=w':=by
 go_enter Tryz.func97,Tryz.ntmps97;go_wp2;go_ret;exact⟨by simp,rfl⟩
theorem tP (x y:ByteArray) (w:World):Calls Tryz.prog 96 #[.string x, .string y] w fun e w'=>e= .returned (.bool (uA x y))/\w=w':=by
 go_enter Tryz.func96,Tryz.ntmps96;go_wp2_with (go_at_call 131;refine(aAg _ _).mono ?_;rintro e w' ⟨rfl,rfl⟩);go_ret;exact⟨rfl,rfl⟩
theorem R5 {N:List ByteArray} {no:Option Addr} {nn nc:Nat} (x:ByteArray) (w:World) (hN:SlS w no nn nc N) {k0:Nat} (hk:k0<=N.length) (hbig:nn<=1048576)
  (h1:∀t,t<k0->uA (tk N t) x=true) (h2:∀t,k0<=t->t<N.length->uA (tk N t) x=false) {bb:Bool} (hbb:bb=true↔(k0<N.length/\tk N k0=x)):
  Calls Tryz.prog 65 #[.slice no nn nc, .string x] w fun e w'=>e= .returned (.tuple #[.int .i64 (k0:Int), .bool bb])/\Below w.heap.size w w':=by
 have HL:=hW_ hN.count;have HN:=hW_ hN;have H1:=hW_ h1;have H2:=hW_ h2;have HK:=hW_ hk;have HBB:=hW_ hbb;clear hN h1 h2 hk hbb;go_enter Tryz.func65,Tryz.ntmps65;go_wp2_with (fail);go_loopw [7,8] (fun a b wr=>∃lo hi:Nat,a= .int .i64 lo/\b= .int .i64 hi/\Hid (lo<=k0)/\Hid (k0<=hi)/\lo<=hi/\hi<=nn/\Below w.heap.size w wr) (fun a b _=>(intOf b).toNat-(intOf a).toNat)
 case atStart=>exact⟨0,nn,rfl,rfl,hW_ (by omega),hW_ (by have:=HK.out;have:=HL.out;omega),by omega,by omega,Below.refl _ _⟩
 case round=>
  obtain⟨lo,hi,rfl,rfl,Hlo,Hhi,hlh,hhn,hb⟩:=hrel
  by_cases hlt:lo<hi
  ·obtain⟨m,hm⟩:∃m,(lo+hi) / 2=m:=⟨_,rfl⟩;have hmN:m<N.length:=by have:=HL.out;omega
   obtain⟨b,o,hao,hc⟩:=SlS.cell (Sl.below HN.out hb) (nB hmN);subst hao;have HM:Hid ((lo+hi) / 2=m):=hW_ hm;rw[<-hm]at hc;have HB:=hW_ hb;obtain⟨y,hy⟩:∃y,tk N ((lo+hi) / 2)=y:=⟨_,rfl⟩;rw[hy]at hc;have HY:=hW_ hy;have hmlt:(lo+hi) / 2<nn:=by omega
   clear hm hy hb hmN
   cases hyx:uA y x with
   | false=>
    have HMH:Hid (k0<=(lo+hi) / 2):=hW_ (by
     rcases Nat.lt_or_ge ((lo+hi) / 2) k0 with h | h
     ·have:=H1.out _ h;rw[HY.out,hyx]at this;cases this
     ·exact h)
    go_wp2_with (first
     | (go_at_call 96;refine(tP _ _ _).mono ?_;rintro e w' ⟨rfl,rfl⟩))
    go_roundw
    case rel=>exact⟨lo,(lo+hi) / 2,rfl,by rw[show((lo:Int)+(hi:Int)) / 2=(((lo+hi) / 2:Nat):Int) by omega],Hlo,HMH,by omega,by omega,HB.out⟩
    case measure=>simp[intOf];omega
   | true=>
    have HMH:Hid ((lo+hi) / 2+1<=k0):=hW_ (by
     rcases Nat.lt_or_ge ((lo+hi) / 2) k0 with h | h
     ·exact h
     ·have:=H2.out _ h (by have:=HL.out;omega);rw[HY.out,hyx]at this;cases this)
    go_wp2_with (first
     | (go_at_call 96;refine(tP _ _ _).mono ?_;rintro e w' ⟨rfl,rfl⟩))
    go_roundw
    case rel=>exact⟨(lo+hi) / 2+1,hi,by rw[show((lo:Int)+(hi:Int)) / 2+1=(((lo+hi) / 2+1:Nat):Int) by omega],rfl,HMH,Hhi,by omega,by omega,HB.out⟩
    case measure=>simp[intOf];omega
  ·have hE:lo=k0/\hi=k0:=by have:=Hlo.out;have:=Hhi.out;omega
   obtain⟨hlo,hhi⟩:=hE;obtain rfl:hi=lo:=by omega
   subst hlo;have HB:=hW_ hb
   by_cases hn:hi<nn
   ·have hmN:hi<N.length:=by have:=HL.out;omega
    obtain⟨b,o,hao,hc⟩:=SlS.cell (Sl.below HN.out hb) (nB hmN);subst hao;obtain⟨y,hy⟩:∃y,tk N hi=y:=⟨_,rfl⟩;rw[hy]at hc;have HY:=hW_ hy;have HMN:=hW_ hmN;clear hy hb hmN
    by_cases hyx:y=x
    ·have hb2:=iF hyx;obtain rfl:bb=true:=HBB.out.2 ⟨HMN.out,by rw[HY.out];exact hyx⟩;clear hyx;go_wp2_with (first
      | (go_at_call 97;refine(sM _ _).mono ?_;rintro e w' ⟨rfl,rfl⟩))
     refine bodyPost_ret (v:= .tuple #[.int .i64 hi, .bool true]) ?_ rfl ⟨rfl,HB.out⟩
     simp[results,Tryz.results65,go_sem]
    ·have hb2:=uG hyx;obtain rfl:bb=false:=by
      cases bb with
      | false=>rfl
      | true=>exact absurd (HBB.out.1 rfl).2 (by rw[HY.out];exact hyx)
     clear hyx;go_wp2_with (first
      | (go_at_call 97;refine(sM _ _).mono ?_;rintro e w' ⟨rfl,rfl⟩))
     refine bodyPost_ret (v:= .tuple #[.int .i64 hi, .bool false]) ?_ rfl ⟨rfl,HB.out⟩
     simp[results,Tryz.results65,go_sem]
   ·obtain rfl:bb=false:=by
     cases bb with
     | false=>rfl
     | true=>exact absurd (HBB.out.1 rfl).1 (by have:=HL.out;omega)
    go_wp2_with (first
     | (go_at_call 97;refine(sM _ _).mono ?_;rintro e w' ⟨rfl,rfl⟩))
    refine bodyPost_ret (v:= .tuple #[.int .i64 hi, .bool false]) ?_ rfl ⟨rfl,HB.out⟩
    simp[results,Tryz.results65,go_sem]
theorem aCo {N:List ByteArray} (h:rB N) (x:ByteArray):∃k0,k0<=N.length/\(∀t,t<k0->uA (tk N t) x=true)/\(∀t,k0<=t->t<N.length->uA (tk N t) x=false)/\
  ((k0<N.length/\tk N k0=x/\fI N x=some k0)\/(¬(k0<N.length/\tk N k0=x)/\fI N x=none)):=by
 have hp:∀i j,i<j->j<N.length->uA (tk N i) (tk N j)=true:=fun i j hij hj=>by
  have h1:=List.pairwise_iff_getElem.1 h.2.2 i j (by omega) hj hij;have e1:N[i]'(by omega)=tk N i:=by simp[tk,List.getD,show i<N.length by omega]
  have e2:N[j]=tk N j:=by simp[tk,List.getD,hj]
  rwa [e1,e2]at h1
 have key:∃k0,k0<=N.length/\(∀t,t<k0->uA (tk N t) x=true)/\(∀t,k0<=t->t<N.length->uA (tk N t) x=false):=by
  have:∀d,d<=N.length->∃k0,k0<=d/\(∀t,t<k0->uA (tk N t) x=true)/\(∀t,k0<=t->t<d->uA (tk N t) x=false):=by
   intro d
   induction d with
   | zero=>intro _;exact⟨0,by omega,fun t h=>by omega,fun t h1 h2=>by omega⟩
   | succ d ih=>
    intro hd;obtain⟨k0,a,b,c⟩:=ih (by omega)
    by_cases hk:k0=d
    ·cases hs:uA (tk N d) x with
     | true=>
      refine⟨d+1,by omega,fun t ht=> ?_,fun t h1 h2=>by omega⟩
      by_cases e:t=d
      ·subst e;exact hs
      ·exact b t (by omega)
     | false=>
      refine⟨d,by omega,fun t ht=>b t (by omega),fun t h1 h2=> ?_⟩;have:t=d:=by omega
      subst this;exact hs
    ·refine⟨k0,by omega,b,fun t h1 h2=> ?_⟩
     by_cases e:t=d
     ·subst e;have h3:=c k0 (Nat.le_refl _) (by omega)
      cases hs:uA (tk N t) x with
      | false=>rfl
      | true=>
       have:=tJ (hp k0 t (by omega) (by omega)) hs;rw[h3]at this;cases this
     ·exact c t h1 (by omega)
  exact this _ (Nat.le_refl _)
 obtain⟨k0,a,b,c⟩:=key;refine⟨k0,a,b,c,?_⟩
 by_cases hx:k0<N.length/\tk N k0=x
 ·exact .inl ⟨hx.1,hx.2,rP hx.1 hx.2 fun j hj e=>by
   have:=b j hj;rw[e,qG]at this;cases this⟩
 ·refine .inr ⟨hx,zX fun j hj e=> ?_⟩;rcases Nat.lt_trichotomy j k0 with h1 | h1 | h1
  ·have:=b j h1;rw[e,qG]at this;cases this
  ·subst h1;exact hx ⟨hj,e⟩
  ·have h2:=c k0 (Nat.le_refl _) (by omega);have h3:=hp k0 j h1 hj;rw[e,h2]at h3;cases h3
theorem oV (w:World) (x:Int):Own (w.alloc (.cells #[.int .i64 x] 3)) w.heap.size (.slice (some ⟨w.heap.size,0,none⟩) 1 1) [x]:=by
 refine⟨by simp, .inr ⟨w.heap.size,1,#[.int .i64 x],by simp,Nat.le_refl _,heap_alloc_new w _,by simp,by unfold maxLen;omega,by simp,?_⟩⟩;simp
def lW (V:Vc) (N:List ByteArray) (t:Int) (w:World) (e:Ending) (w':World):Prop:=
 (∃v,e= .returned (.tuple #[v, .int .i64 (A7 V N t).2])/\Own w' w.heap.size v (A7 V N t).1)/\Below w.heap.size w w'
theorem qZ {V:Vc} {N:List ByteArray} {t:Int} (h:aE V.tokens t=true):A7 V N t=(cA (tk V.tokens t.toNat),0):=by
 unfold A7;rw[if_pos h]
theorem uW {V:Vc} {N:List ByteArray} {t:Int} (h:aE V.tokens t=false) (h2:tS V.specials t=none):A7 V N t=([],3):=by
 unfold A7;rw[h,h2];simp
theorem aBZ {V:Vc} {N:List ByteArray} {t:Int} (h:aE V.tokens t=false) {s:Sp} (h2:tS V.specials t=some s) {k:Nat} (h3:fI N s.name=some k):A7 V N t=([256+(k:Int)],0):=by
 unfold A7;rw[h,h2];simp only[h3];simp
theorem aBY {V:Vc} {N:List ByteArray} {t:Int} (h:aE V.tokens t=false) {s:Sp} (h2:tS V.specials t=some s) (h3:fI N s.name=none):A7 V N t=([],4):=by
 unfold A7;rw[h,h2];simp only[h3];simp
theorem sS {V:Vc} {N:List ByteArray} {kind:Int} {T:List Rg} {base g cb:Nat} (t:Int) (w:World) (hC:qJ w base g V N kind T cb) (hT:∀s∈V.tokens,s.size<=64) (hN:rB N):
  Calls Tryz.prog 23 #[.pointer (some ⟨g,0,none⟩), .int .i64 t] w (lW V N t w):=by
 obtain⟨hlo,ta,tc,sa,sc,na,nc,ma,mc,oa,oc,eg,hx,hot,hos,hon,_⟩:=hC;obtain⟨i0,hi,hz0,hz1,hz2⟩:=info_parts cF;obtain⟨_,_,e1,hst⟩:=hot.sl;simp only[Value.slice.injEq]at e1;obtain⟨rfl,_,rfl⟩:=e1;obtain⟨_,_,e1,hss⟩:=hos.sl;simp only[Value.slice.injEq]at e1;obtain⟨rfl,_,rfl⟩:=e1;obtain⟨_,_,e1,hsn⟩:=hon.sl;simp only[Value.slice.injEq]at e1;obtain⟨rfl,_,rfl⟩:=e1;have hV:jF w ⟨ta,V.tokens.length,tc,none,0,0,sa,V.specials.length,sc⟩ ⟨V.tokens,[],V.specials⟩:=⟨SlF.strs hst,SlF.nothing _,hss⟩;have hvb:=yU (dd:=⟨ta,V.tokens.length,tc,none,0,0,sa,V.specials.length,sc⟩) t w hV;have HV:=hW_ hV;have HX:=hW_ hx;have HNN:=hW_ (SlF.strs hsn);have HMN:=hW_ hN;have hg:g<w.heap.size:=(Array.getElem?_eq_some_iff.1 hx).1;obtain⟨c0,c1,c2,c3,c4,c5,c6,c7,c8,cf⟩:=dO hx;have HT:=hW_ hT;clear hx hot hos hon hst hss hsn hV hT hN;go_enter Tryz.func23,Tryz.ntmps23;go_wp2_with (fail);refine hvb.mono ?_
 rintro e w1 ⟨rfl,hb1⟩;have HB1:=hW_ hb1
 cases htk:aE V.tokens t with
 | true=>
  have HSY:=hW_ (qZ (N:=N) htk);obtain⟨s,hs⟩:∃s,tk V.tokens t.toNat=s:=⟨_,rfl⟩;have hbo:tG V.tokens t=s:=by unfold tG;rw[if_pos htk,hs]
  have hsz:s.size<=64:=by
   obtain⟨a1,a2,_⟩:=dC.1 htk;rw[<-hs];exact HT.out _ (mB (by omega))
  rw[hs]at HSY;simp only[hbo];clear hb1 hvb hs hbo htk c0 c1 c2 c3 c4 c5 c6 c7 c8 cf;go_wp2_with (fail);go_loopw [8,27] (fun v i wr=>∃k:Nat,k<=s.size/\i= .int .i64 k/\Own wr w.heap.size v ((cA s).take k)/\Below w.heap.size w wr) (fun _ i _=>s.size-(intOf i).toNat)
  case atStart=>exact⟨0,Nat.zero_le _,rfl,by simpa using Own.nil w1 w.heap.size,HB1.out⟩
  case round=>
   obtain⟨k,hk,rfl,ho,hb⟩:=hrel;have HO:=hW_ ho;have HB:=hW_ hb;clear ho hb
   by_cases hlt:k<s.size
   ·have HK:=hW_ (Y7 hlt);have HL:Hid (((cA s).take k).length=k):=hW_ (by rw[List.length_take,nA];omega);obtain⟨x,hxx⟩:∃x:Int,(s[k].toNat:Int)=x:=⟨_,rfl⟩;have HS1:Hid (SlI (wr.alloc (.cells #[.int .i64 x] 3)) (some ⟨wr.heap.size,0,none⟩) 1 1 [x]):=hW_ (SlI.one wr x _);have HO1:Hid (Own (wr.alloc (.cells #[.int .i64 x] 3)) w.heap.size u8 ((cA s).take k)):=hW_ (HO.out.alloc _);have HSZ:Hid (w.heap.size<=wr.heap.size):=hW_ HB.out.size;rw[hxx]at HK;have hx8:=s[k].toNat_lt;have hwx:wrap64 x=x:=by rw[<-hxx];unfold wrap64;omega
    go_wp2_with (at_builtin;go_loud (refine pD rfl _ _ 43 rfl i0 Tryz.underlying43 hi hz0 hz1 hz2 rfl HO1.out rfl HS1.out (by have:=HL.out;omega) (by have:=HSZ.out;simp;omega) ?_));intro v1 w2 ho2 hg2 hb2;rw[<-HK.out]at ho2;have HO2:=hW_ ho2;have HB2:=hW_ ((HB.out.alloc HB.out.size _).trans hb2);clear ho2 hg2 hb2;go_wp2_with (fail);go_roundw
    case rel=>exact⟨k+1,by omega,by go_num,HO2.out,HB2.out⟩
    case measure=>simp[intOf];omega
   ·obtain rfl:k=s.size:=by omega
    have HO2:=HO.out;rw[List.take_of_length_le (by rw[nA];exact Nat.le_refl _)]at HO2;have HO3:=hW_ HO2;clear HO2;go_wp2_with (fail);refine bodyPost_ret (v:= .tuple #[u8, .int .i64 0]) ?_ rfl ⟨⟨u8,by rw[HSY.out],by rw[HSY.out];exact HO3.out⟩,HB.out⟩
    simp[results,Tryz.results23,go_sem]
 | false=>
 have hbo:tG V.tokens t=ByteArray.empty:=by unfold tG;rw[htk];rfl
 have hnm:=aAi (dd:=⟨ta,V.tokens.length,tc,none,0,0,sa,V.specials.length,sc⟩) t w1 (HV.out.below hb1);simp only[hbo];have HTK:=hW_ htk;clear hb1 hvb hbo htk c0 c1 c2 c3 c4 c5 c6 c7 c8 cf;obtain⟨c0,c1,c2,c3,c4,c5,c6,c7,c8,cf⟩:=dO ((HB1.out.block g hg).trans HX.out);go_wp2_with (fail);refine hnm.mono ?_
 rintro e w2 ⟨rfl,hb2⟩;have HB2:=hW_ (HB1.out.trans (hb2.mono HB1.out.size))
 cases hsp:tS V.specials t with
 | none=>
  have HSY:=hW_ (uW (N:=N) HTK.out hsp);simp only[nmOf,Option.isSome_none];clear hb2 hnm hsp;go_wp2_with (fail);refine bodyPost_ret (v:= .tuple #[.slice none 0 0, .int .i64 3]) ?_ rfl ⟨⟨_,by rw[HSY.out],by rw[HSY.out];exact Own.nil _ _⟩,HB2.out⟩
  simp[results,Tryz.results23,go_sem]
 | some s=>
 simp only[nmOf,Option.isSome_some];obtain⟨k0,q1,q2,q3,q4⟩:=aCo HMN.out s.name;have HSP:=hW_ hsp;clear hb2 hnm c0 c1 c2 c3 c4 c5 c6 c7 c8 cf;obtain⟨c0,c1,c2,c3,c4,c5,c6,c7,c8,cf⟩:=dO ((HB2.out.block g hg).trans HX.out);rcases q4 with⟨r1,r2,r3⟩ | ⟨r1,r3⟩
 ·have hbs:=R5 s.name w2 (Sl.below HNN.out HB2.out) q1 (by have:=HMN.out.1;omega) q2 q3 (bb:=true) (by simp[r1,r2]);have HSY:=hW_ (aBZ HTK.out hsp r3);have HK0:Hid ((k0:Int)<16):=hW_ (by have:=HMN.out.1;omega);clear q1 q2 q3 r1 r2 r3 hsp;go_wp2_with (fail);refine hbs.mono ?_
  rintro e w3 ⟨rfl,hb3⟩;have HB3:=hW_ (HB2.out.trans (hb3.mono HB2.out.size));have hk0:=HK0.out;have hwr:IntKind.i64.wrap (256+(k0:Int))=256+(k0:Int):=by rw[IntKind.wrap_i64];omega
  clear hb3 hbs;go_wp2_with (fail);refine bodyPost_ret (v:= .tuple #[.slice (some ⟨w3.heap.size,0,none⟩) 1 1, .int .i64 0]) ?_ rfl ⟨⟨_,by rw[HSY.out],by rw[HSY.out];exact Own.mono (oV w3 _) HB3.out.size⟩,HB3.out.alloc HB3.out.size _⟩
  simp[results,Tryz.results23,go_sem]
 ·have hbs:=R5 s.name w2 (Sl.below HNN.out HB2.out) q1 (by have:=HMN.out.1;omega) q2 q3 (bb:=false) ⟨(fun h=>by cases h),(fun h=>absurd h r1)⟩;have HSY:=hW_ (aBY HTK.out hsp r3);clear q1 q2 q3 r1 r3 hsp;go_wp2_with (fail);refine hbs.mono ?_
  rintro e w3 ⟨rfl,hb3⟩;have HB3:=hW_ (HB2.out.trans (hb3.mono HB2.out.size));clear hb3 hbs;go_wp2_with (fail);refine bodyPost_ret (v:= .tuple #[.slice none 0 0, .int .i64 4]) ?_ rfl ⟨⟨_,by rw[HSY.out],by rw[HSY.out];exact Own.nil _ _⟩,HB3.out⟩
  simp[results,Tryz.results23,go_sem]
structure CR (w:World) (dd:Vd) (no:Option Addr) (nn nc:Nat) (V:Vc) (N:List ByteArray):Prop where
 voc:jF w dd V
 names:SlS w no nn nc N
 t64:∀s∈V.tokens,s.size<=64
 n16:nn<=16
 sp:V.specials.length<=1048576
 tk:V.tokens.length<=1048576
theorem CR.below {w w':World} {dd:Vd} {no:Option Addr} {nn nc:Nat} {V:Vc} {N:List ByteArray} (h:CR w dd no nn nc V N) (hb:Below w.heap.size w w'):CR w' dd no nn nc V N:=
 ⟨h.voc.below hb,Sl.below h.names hb,h.t64,h.n16,h.sp,h.tk⟩
def lL (dd:Vd) (no:Option Addr) (nn nc:Nat) (kind:Int) (to_:Option Addr) (tn tc:Nat):Value:=
 .agg #[.slice dd.ta dd.tn dd.tc, .slice dd.ma dd.mn dd.mc, .slice dd.sa dd.sn dd.sc, .slice no nn nc, .int .i64 kind, .slice to_ tn tc]
theorem box7 {w:World} {g:Nat} {a b c d e f x:Value} {t:TypeId} (h:w.heap[g]?=some (.cells #[a,b,c,d,e,f,x] t)):
  w.cell? ⟨g,0,none⟩=some a/\w.cell? ⟨g,1,none⟩=some b/\w.cell? ⟨g,2,none⟩=some c/\w.cell? ⟨g,3,none⟩=some d/\w.cell? ⟨g,4,none⟩=some e/\w.cell? ⟨g,5,none⟩=some f/\w.cell? ⟨g,6,none⟩=some x:=by
 simp[World.cell?,h]
theorem R7 {w w4:World} {n k:Nat} (h:Below n w w4) (hn:n<=k) (a b c d e f:Value):
  Below n w ((((((w4.setCell ⟨k,0,none⟩ a).setCell ⟨k,1,none⟩ b).setCell ⟨k,2,none⟩ c).setCell ⟨k,3,none⟩ d).setCell ⟨k,4,none⟩ e).setCell ⟨k,5,none⟩ f).drew:=
 have h1:=h.setCell (p:=⟨k,0,none⟩) hn a;have h2:=h1.setCell (p:=⟨k,1,none⟩) hn b;have h3:=h2.setCell (p:=⟨k,2,none⟩) hn c;have h4:=h3.setCell (p:=⟨k,3,none⟩) hn d;have h5:=h4.setCell (p:=⟨k,4,none⟩) hn e;have h6:=h5.setCell (p:=⟨k,5,none⟩) hn f
 h6.drew
theorem O2 {w4:World} {k q:Nat} (hn:q≠k) (a b c d e f:Value):
  ((((((w4.setCell ⟨k,0,none⟩ a).setCell ⟨k,1,none⟩ b).setCell ⟨k,2,none⟩ c).setCell ⟨k,3,none⟩ d).setCell ⟨k,4,none⟩ e).setCell ⟨k,5,none⟩ f).drew.heap[q]?=w4.heap[q]? :=by
 have e0:∀X:World,X.drew.heap=X.heap:=fun _=>rfl
 rw[e0];exact(Below.heap_setCell _ _ _ _ hn).trans ((Below.heap_setCell _ _ _ _ hn).trans ((Below.heap_setCell _ _ _ _ hn).trans ((Below.heap_setCell _ _ _ _ hn).trans ((Below.heap_setCell _ _ _ _ hn).trans (Below.heap_setCell _ _ _ _ hn)))))
theorem qJ.mono {w:World} {base base' g:Nat} {V:Vc} {N:List ByteArray} {kind:Int} {T:List Rg} {cb:Nat} (h:qJ w base g V N kind T cb) (hb:base'<=base):qJ w base' g V N kind T cb:=by
 obtain⟨h1,ta,tc,sa,sc,na,nc,ma,mc,oa,oc,eg,hx,a1,a2,a3,a4,a5,a6⟩:=h;exact⟨by omega,ta,tc,sa,sc,na,nc,ma,mc,oa,oc,eg,hx,a1.mono hb,a2.mono hb,a3.mono hb,a4.mono hb,a5.mono hb,a6.mono hb⟩
theorem qJ.below {w w':World} {base g:Nat} {V:Vc} {N:List ByteArray} {kind:Int} {T:List Rg} {cb:Nat} (h:qJ w base g V N kind T cb) (hb:Below w.heap.size w w'):qJ w' base g V N kind T cb:=by
 obtain⟨lo,ta,tc,sa,sc,na,nc,ma,mc,oa,oc,eg,hx,a1,a2,a3,a4,a5,a6⟩:=h;exact⟨lo,ta,tc,sa,sc,na,nc,ma,mc,oa,oc,eg,(hb.block _ (Array.getElem?_eq_some_iff.1 hx).1).trans hx,a1.below hb,a2.below hb,a3.below hb,a4.below hb,a5.below hb,a6.keep (fun q _ hq=>hb.block q hq) hb.size⟩
theorem qY {V:Vc} {N:List ByteArray} {kind:Int} {T:List Rg} {base g cb:Nat} (s:Int) (w:World) (hC:qJ w base g V N kind T cb) (hN:N.length<=16):
  Calls Tryz.prog 71 #[.pointer (some ⟨g,0,none⟩), .int .i64 s] w fun e w'=>e= .returned (.int .i64 (A4 V N s))/\w=w':=by
 obtain⟨lo,ta,tc,sa,sc,na,nc,ma,mc,oa,oc,eg,hx,_,_,_,hom,_⟩:=hC;obtain⟨c0,c1,c2,c3,c4,c5,c6,c7,c8,cf⟩:=dO hx;obtain⟨mo,mcap,e0,hsm⟩:=hom.sl;have hml:=J7 V.specials N;rw[hml]at e0 hsm;obtain⟨rfl,_,rfl⟩:=Value.slice.inj e0;have q1:IntKind.i64.wrap (256+(N.length:Int))=256+(N.length:Int):=by rw[IntKind.wrap_i64];omega
 clear hx hom e0
 by_cases h0:s<0
 ·have HF:Hid (A4 V N s=1):=hW_ (by unfold A4;rw[if_pos (.inl h0)]);have hd:decide (s<0)=true:=by simpa using h0
  go_enter Tryz.func71,Tryz.ntmps71;go_wp2_with (fail);refine bodyPost_ret (results_tmp rfl _ _ _) rfl ⟨by rw[HF.out];rfl,rfl⟩
 ·have hd:decide (s<0)=false:=by simpa using h0
  by_cases h1:256+(N.length:Int)<=s
  ·have HF:Hid (A4 V N s=1):=hW_ (by unfold A4;rw[if_pos (.inr h1)]);go_enter Tryz.func71,Tryz.ntmps71;go_wp2_with (fail);refine bodyPost_ret (results_tmp rfl _ _ _) rfl ⟨by rw[HF.out];rfl,rfl⟩
  ·have hnn:¬(s<0\/256+(N.length:Int)<=s):=by omega
   by_cases h2:256<=s
   ·have hg2:decide ((256:Int)<=s)=true:=by simpa using h2
    obtain⟨k,hk⟩:∃k:Nat,s-256=k:=⟨(s-256).toNat,by omega⟩;have q2:IntKind.i64.wrap (s-256)=(k:Int):=by rw[IntKind.wrap_i64];omega
    have gk:(k:Int)<(N.length:Int):=by omega
    have gk0:(0:Int)<=(k:Int):=by omega
    obtain⟨b,o,hao,hc⟩:=hsm.at_ (i:=k) (by omega);subst hao;obtain⟨v,hv⟩:∃v,ix (iC V.specials N) k=v:=⟨_,rfl⟩;rw[hv]at hc;have hmk:C9 V N s=v:=by unfold C9;rw[hk,Int.toNat_natCast,hv]
    by_cases h3:v<0
    ·have HF:Hid (A4 V N s=4):=hW_ (by unfold A4;rw[if_neg hnn,if_pos ⟨h2,by rw[hmk];exact h3⟩]);clear hsm hml hv hmk hnn;go_enter Tryz.func71,Tryz.ntmps71;go_wp2_with (fail);refine bodyPost_ret (results_tmp rfl _ _ _) rfl ⟨by rw[HF.out];rfl,rfl⟩
    ·have HF:Hid (A4 V N s=0):=hW_ (by unfold A4;rw[if_neg hnn,if_neg (fun h=>h3 (by rw[<-hmk];exact h.2))]);clear hsm hml hv hmk hnn;go_enter Tryz.func71,Tryz.ntmps71;go_wp2_with (fail);refine bodyPost_ret (results_tmp rfl _ _ _) rfl ⟨by rw[HF.out];rfl,rfl⟩
   ·have hg2:decide ((256:Int)<=s)=false:=by simpa using h2
    have HF:Hid (A4 V N s=0):=hW_ (by unfold A4;rw[if_neg hnn,if_neg (fun h=>h2 h.1)]);clear hsm hml hnn;go_enter Tryz.func71,Tryz.ntmps71;go_wp2_with (fail);refine bodyPost_ret (results_tmp rfl _ _ _) rfl ⟨by rw[HF.out];rfl,rfl⟩
theorem zE {V:Vc} {N:List ByteArray} {kind:Int} {T:List Rg} {base g cb:Nat} {A:List Int} {ao:Option Addr} {n c:Nat} (w:World) (hC:qJ w base g V N kind T cb) (hN:N.length<=16) (hA:SlI w ao n c A) (hn:n<=1048576):
  Calls Tryz.prog 33 #[.pointer (some ⟨g,0,none⟩), .slice ao n c] w fun e w'=>e= .returned (.int .i64 (lA V N A))/\w=w':=by
 have HC:=hW_ hC;have HA:=hW_ hA;have HN:=hW_ hN;have HAL:=hW_ hA.len;clear hC hA hN;go_enter Tryz.func33,Tryz.ntmps33;go_wp2_with (fail);go_loopw [12] (fun i wr=>∃k:Nat,k<=n/\i= .int .i64 k/\Hid (lA V N A=lA V N (A.drop k))/\wr=w) (fun i _=>n-(intOf i).toNat)
 case atStart=>exact⟨0,Nat.zero_le _,rfl,hW_ rfl,rfl⟩
 case round=>
  obtain⟨k,hk,rfl,HK,hw⟩:=hrel;subst hw
  by_cases hlt:k<n
  ·obtain⟨b,o,hao,hc⟩:=HA.out.at_ hlt;subst hao;have hkA:k<A.length:=by have:=HAL.out;omega
   have hdr:=wP (V:=V) (N:=N) hkA;obtain⟨s,hs⟩:∃s,ix A k=s:=⟨_,rfl⟩;rw[hs]at hc hdr;have HF:=hW_ (qY s wr HC.out HN.out)
   by_cases hf:A4 V N s=0
   ·rw[if_pos hf]at hdr;have HK2:Hid (lA V N A=lA V N (A.drop (k+1))):=hW_ (HK.out.trans hdr);rw[hf]at HF;clear hdr hs hf;go_wp2_with (go_at_call 71;refine HF.out.mono ?_;rintro e w1 ⟨rfl,rfl⟩);go_roundw
    case rel=>exact⟨k+1,by omega,by go_num,HK2,by first | rfl | trivial⟩
    case measure=>simp[intOf];omega
   ·rw[if_neg hf]at hdr;have HK2:Hid (lA V N A=A4 V N s):=hW_ (HK.out.trans hdr);obtain⟨f,hff⟩:∃f,A4 V N s=f:=⟨_,rfl⟩;rw[hff]at hf HF HK2;have hb:(f==0)=false:=by simpa using hf
    clear hdr hs hff;go_wp2_with (go_at_call 71;refine HF.out.mono ?_;rintro e w1 ⟨rfl,rfl⟩);refine bodyPost_ret (results_tmp rfl _ _ _) rfl ⟨by rw[HK2.out];rfl,rfl⟩
  ·obtain rfl:k=n:=by omega
   have HK2:Hid (lA V N A=0):=hW_ (by rw[HK.out,List.drop_eq_nil_of_le (by have:=HAL.out;omega)];rfl);go_wp2_with (fail);go_ret;exact⟨by rw[HK2.out];rfl,rfl⟩
theorem M9 {V:Vc} {N:List ByteArray} {kind:Int} {T:List Rg} {base g cb:Nat} {A:List Int} {ao:Option Addr} {n c:Nat} (final:Bool) (w:World) (hC:qJ w base g V N kind T cb) (hA:SlI w ao n c A) (hn:n<=1048570) (hT:kA T) (hk0:0<=kind) (hk3:kind<=3):
  Calls Tryz.prog 18 #[.pointer (some ⟨g,0,none⟩), .slice ao n c, .bool final] w fun e w'=>(∃v,e= .returned v/\eA dD 2 51 w' w.heap.size v (B6 kind T A final))/\Below w.heap.size w w':=by
 obtain⟨lo,ta,tc,sa,sc,na,nc,ma,mc,oa,oc,eg,hx,_,_,_,_,hot,_⟩:=hC;obtain⟨c0,c1,c2,c3,c4,c5,c6,c7,c8,cf⟩:=dO hx;obtain⟨to_,tcap,e0,hst⟩:=hot.sl;obtain⟨rfl,_,rfl⟩:=Value.slice.inj e0;have HS:Hid (∀W,Ge w W->Calls Tryz.prog 60 #[.int .i64 kind, .slice oa T.length oc, .slice ao n c, .bool final] W fun e w'=>(∃v,e= .returned v/\eA dD 2 51 w' w.heap.size v (B6 kind T A final))/\Below w.heap.size w w'):=hW_ (fun W hW=>(W7 kind final W (hA.below hW) hn (hst.below hW) hT hk0 hk3).mono (by
  rintro e w' ⟨⟨v,rfl,h1⟩,h2⟩;exact⟨⟨v,rfl,eA.mono h1 hW.size⟩,hW.below h2⟩))
 clear hx hot e0 hst hA;go_enter Tryz.func18,Tryz.ntmps18;go_wp2_with (fail)
 go_region_with (go_at_call 60;refine(HS.out _ (by exact bA (Below.refl _ _) _)).mono ?_;rintro e w2 ⟨⟨v,rfl,ho⟩,hb2⟩;have HO:=hW_ ho;have HB2:=hW_ hb2;clear ho hb2)
 all_goals(
  go_wp2_with (fail);go_ret;exact⟨⟨v,rfl,HO.out⟩,HB2.out⟩)
end Go.Proofs.YtimkkkdabmhedaaGreatDoor
