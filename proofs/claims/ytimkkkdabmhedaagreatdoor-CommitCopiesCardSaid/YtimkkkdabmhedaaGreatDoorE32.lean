/- Walks: what is more than is gone through; the document's coder. (Printed by gKit16.py.) -/
import Derived.Test.YtimkkkdabmhedaaGreatDoorE31
import Derived.Test.YtimkkkdabmhedaaGreatDoorE9
import Derived.Test.YtimkkkdabmhedaaGreatDoorE23
import Derived.Test.YtimkkkdabmhedaaGreatDoorE21
import Derived.Test.YtimkkkdabmhedaaGreatDoorE7
import Derived.Deep.LoopGhost
import Derived.Test.YtimkkkdabmhedaaGreatDoorE24
import Derived.Test.YtimkkkdabmhedaaGreatDoorE1
import Derived.Test.YtimkkkdabmhedaaGreatDoorE19
import Derived.Test.YtimkkkdabmhedaaGreatDoorE30
set_option linter.unusedVariables false
set_option maxHeartbeats 2000000
set_option maxRecDepth 100000
namespace Go.Proofs.YtimkkkdabmhedaaGreatDoor
open Go.RowKit
def nJ (V:Vc) (N:List ByteArray) (T:List Rg):Prop:=K8 V\/20<N.length\/80<T.length\/∃s∈N,40<s.size
def dZ (V:Vc) (N:List ByteArray) (T:List Rg) (w:World) (e:Ending) (w':World):Prop:=(∃b,e= .returned (.bool b)/\(b=true↔nJ V N T))/\Below w.heap.size w w'
theorem S6 {V:Vc} {dd:Vd} {N:List ByteArray} {T:List Rg} {no to_:Option Addr} {nn nc tn tc:Nat} (w:World) (hV:eG w dd V) (hok:(∀s∈V.tokens,s.size<=maxLen)/\iO V.specials) (hN:SlS w no nn nc N) (hNs:∀s∈N,s.size<=maxLen)
  (hT:SlF 3 w to_ tn tc (flat Rg.enc T)):Calls Tryz.prog 12 #[dd.val, .slice no nn nc, .slice to_ tn tc] w (dZ V N T w):=by
 obtain⟨ta,tn',tc',ma,mn,mc,sa,sn,sc⟩:=dd;obtain⟨w0,hw0⟩:∃w0,w.alloc (.cells #[.slice ta tn' tc', .slice ma mn mc, .slice sa sn sc] 26)=w0:=⟨_,rfl⟩;have hb0:Below w.heap.size w w0:=hw0▸aA w _;have hx0:w0.heap[w.heap.size]?=some (.cells #[.slice ta tn' tc', .slice ma mn mc, .slice sa sn sc] 26):=by rw[<-hw0];exact heap_alloc_new w _
 obtain⟨c0,c1,c2⟩:=A9 hx0;have hgr:=wV (dd:=⟨ta,tn',tc',ma,mn,mc,sa,sn,sc⟩) w0 (hV.below hb0) hok;have HN:=hW_ (hN.below hb0);have HB0:=hW_ hb0;have HNS:=hW_ hNs;have HNL:=hW_ hN.count;have HTL:=hW_ (hT.count Rg.enc_len (by omega));have hm1:=Nat.le_trans (Sl.le hN) (Sl.max hN);have hm2:=Nat.le_trans hT.le hT.max;unfold maxLen at hm1 hm2;have HW0:=hW_ hw0;clear hV hN hT hNs hb0 hx0 hw0 hok;go_enter Tryz.func12,Tryz.ntmps12;go_wp2_with (fail);rw[HW0.out];refine hgr.mono ?_
 rintro e w1 ⟨⟨b,rfl,hb⟩,hb1⟩;have HB1:=hW_ (HB0.out.trans (hb1.mono HB0.out.size));have HG:=hW_ hb;have HN1:=hW_ (Sl.below HN.out hb1);clear hb hb1 hgr c0 c1 c2 HN
 cases b with
 | true=>
  have HF:Hid (nJ V N T):=hW_ (.inl (HG.out.1 rfl));go_wp2_with (fail);go_ret;exact⟨⟨_,rfl,(fun _=>HF.out),(fun _=>rfl)⟩,HB1.out⟩
 | false=>
 by_cases h20:(20:Int)<nn
 ·have HF:Hid (nJ V N T):=hW_ (.inr (.inl (by rw[HNL.out];omega)));go_wp2_with (fail);go_ret;exact⟨⟨_,rfl,(fun _=>HF.out),(fun _=>rfl)⟩,HB1.out⟩
 by_cases h80:(80:Int)<tn
 ·have HF:Hid (nJ V N T):=hW_ (.inr (.inr (.inl (by rw[HTL.out];omega))));go_wp2_with (fail);go_ret;exact⟨⟨_,rfl,(fun _=>HF.out),(fun _=>rfl)⟩,HB1.out⟩
 go_wp2_with (fail);go_loop [7,22] (fun _ i=>∃k:Nat,k<=nn/\i= .int .i64 k/\Hid (∀j,j<k->¬40<(tk N j).size)) (fun _ i=>nn-(intOf i).toNat)
 case atStart=>exact⟨0,Nat.zero_le _,rfl,hW_ (fun j h=>by omega)⟩
 case round=>
  obtain⟨k,hk,rfl,HK⟩:=hrel
  by_cases hlt:k<nn
  ·have hkT:k<N.length:=by have:=HNL.out;omega
   obtain⟨b,o,hao,hc⟩:=SlS.cell HN1.out (uB hkT);subst hao;have hks:=HNS.out _ (sB hkT);unfold maxLen at hks
   by_cases h40:(40:Int)<(tk N k).size
   ·have HF:Hid (nJ V N T):=hW_ (.inr (.inr (.inr ⟨_,sB hkT,by omega⟩)));go_wp2_with (fail);go_ret;exact⟨⟨_,rfl,(fun _=>HF.out),(fun _=>rfl)⟩,HB1.out⟩
   ·have HK2:Hid (∀j,j<k+1->¬40<(tk N j).size):=hW_ (fun j hj=>by
     by_cases e:j=k
     ·subst e;omega
     ·exact HK.out j (by omega))
    go_wp2_with (fail);go_round
    case rel=>exact⟨k+1,by omega,by go_num,HK2⟩
    case measure=>simp[intOf];omega
  ·have HF:Hid (¬nJ V N T):=hW_ (by
    rintro(h | h | h | ⟨s,hs,h⟩)
    ·have:=HG.out.2 h;cases this
    ·have:=HNL.out;omega
    ·have:=HTL.out;omega
    ·obtain⟨j,hj,rfl⟩:=fK hs;exact HK.out j (by have:=HNL.out;omega) h)
   go_wp2_with (fail);go_ret;exact⟨⟨_,rfl,(fun h=>by cases h),(fun h=>absurd h HF.out)⟩,HB1.out⟩
def noC:Value:= .agg #[.slice none 0 0, .slice none 0 0, .slice none 0 0, .slice none 0 0, .int .i64 0, .slice none 0 0]
def aCS (dd:Vd) (no:Option Addr) (nn nc:Nat) (V:Vc) (N:List ByteArray) (kind:Int) (T:List Rg) (room:Int) (w:World) (e:Ending) (w':World):Prop:=
 ((¬May V/\e= .returned (.tuple #[noC, .int .i64 2]))\/(May V/\¬E4 N kind T room/\e= .returned (.tuple #[noC, .int .i64 1]))\/
  (May V/\E4 N kind T room/\∃to_ tn tc,e= .returned (.tuple #[.agg #[.slice dd.ta dd.tn dd.tc, .slice dd.ma dd.mn dd.mc, .slice dd.sa dd.sn dd.sc, .slice no nn nc, .int .i64 kind, .slice to_ tn tc], .int .i64 0])/\SlF 3 w' to_ tn tc (flat Rg.enc (iB T))))/\Below w.heap.size w w'
theorem xK {w:World} {g:Nat} {a b c d e f:Value} {t:TypeId} (h:w.heap[g]?=some (.cells #[a,b,c,d,e,f] t)):
  w.cell? ⟨g,0,none⟩=some a/\w.cell? ⟨g,1,none⟩=some b/\w.cell? ⟨g,2,none⟩=some c/\w.cell? ⟨g,3,none⟩=some d/\w.cell? ⟨g,4,none⟩=some e/\w.cell? ⟨g,5,none⟩=some f/\∀o,w.frozen? ⟨g,o,none⟩=false:=by
 simp[World.cell?,World.frozen?,h]
theorem dV {V:Vc} {dd:Vd} {N:List ByteArray} {kind:Int} {T:List Rg} {room:Int} {no to_:Option Addr} {nn nc tn tc:Nat} (w:World) (hV:eG w dd V) (hok:VOk V) (hN:SlS w no nn nc N) (hNs:∀s∈N,s.size<=maxLen)
  (hT:SlF 3 w to_ tn tc (flat Rg.enc T)):Calls Tryz.prog 15 #[dd.val, .slice no nn nc, .int .i64 kind, .slice to_ tn tc, .int .i64 room] w (aCS dd no nn nc V N kind T room w):=by
 obtain⟨ta,tn',tc',ma,mn,mc,sa,sn,sc⟩:=dd;obtain⟨w0,hw0⟩:∃w0,(w.alloc (.cells #[.slice ta tn' tc', .slice ma mn mc, .slice sa sn sc] 26)).alloc (.cells #[.slice none 0 0, .slice none 0 0, .slice none 0 0, .slice none 0 0, .int .i64 0, .slice none 0 0] 37)=w0:=⟨_,rfl⟩;have hb0:Below w.heap.size w w0:=hw0▸(aA w _).alloc (by simp) _;have hx0:w0.heap[w.heap.size]?=some (.cells #[.slice ta tn' tc', .slice ma mn mc, .slice sa sn sc] 26):=by rw[<-hw0];exact(Below.heap_alloc _ _ _ (by simp)).trans (heap_alloc_new w _)
 have hx1:w0.heap[w.heap.size+1]?=some (.cells #[.slice none 0 0, .slice none 0 0, .slice none 0 0, .slice none 0 0, .int .i64 0, .slice none 0 0] 37):=by
  rw[<-hw0];have:=heap_alloc_new (w.alloc (.cells #[.slice ta tn' tc', .slice ma mn mc, .slice sa sn sc] 26)) (.cells #[.slice none 0 0, .slice none 0 0, .slice none 0 0, .slice none 0 0, .int .i64 0, .slice none 0 0] 37);simpa using this
 have hsz1:w.heap.size<w0.heap.size:=by rw[<-hw0];simp;omega
 have hsz2:w.heap.size+1<w0.heap.size:=by rw[<-hw0];simp
 have HSZ1:=hW_ hsz1;have HSZ2:=hW_ hsz2;obtain⟨c0,c1,c2⟩:=A9 hx0;have hma:=Q8 (dd:=⟨ta,tn',tc',ma,mn,mc,sa,sn,sc⟩) w0 (hV.below hb0) hok;have HBC:Hid (w.heap.size<=w.heap.size+1):=hW_ (by omega);have HN:=hW_ (Sl.below hN hb0);have HT:=hW_ (hT.below hb0);have HTW:=hW_ hT;have HB0:=hW_ hb0;have HX0:=hW_ hx0;have HX1:=hW_ hx1;have HNS:=hW_ hNs;have HTL:=hW_ (hT.count Rg.enc_len (by omega));have HW0:=hW_ hw0;clear hV hN hT hNs hb0 hx0 hx1 hw0 hok hsz1 hsz2;go_enter Tryz.func15,Tryz.ntmps15;go_wp2_with (fail);rw[HW0.out];refine hma.mono ?_
 rintro e w1 ⟨⟨b,rfl,hb⟩,hb1⟩;have HB1:=hW_ hb1;have HM:=hW_ hb;clear hb hb1 hma c0 c1 c2
 cases b with
 | false=>
  have HF:Hid (¬May V):=hW_ (fun h=>rJ HM.out rfl h);obtain⟨c0,c1,c2⟩:=A9 ((HB1.out.block w.heap.size HSZ1.out).trans HX0.out);obtain⟨b0,b1,b2,b3,b4,b5,bf⟩:=xK ((HB1.out.block (w.heap.size+1) HSZ2.out).trans HX1.out);go_wp2_with (fail);refine bodyPost_ret (v:= .tuple #[noC, .int .i64 2]) ?_ rfl ⟨.inl ⟨HF.out,rfl⟩,?_⟩
  ·simp[results,Tryz.results15,go_sem,b0,b1,b2,b3,b4,b5,noC]
  ·exact((((((HB0.out.trans ((HB1.out).mono HB0.out.size)).setCell HBC.out _).setCell HBC.out _).setCell HBC.out _).setCell HBC.out _).setCell HBC.out _).setCell HBC.out _
 | true=>
 have HM1:=hW_ (HM.out.1 rfl);have hmn:=P6 w1 (Sl.below HN.out HB1.out) HNS.out;clear HM;go_wp2_with (fail);refine hmn.mono ?_
 rintro e w2 ⟨⟨b,rfl,hb⟩,hb2⟩;have HB2:=hW_ (HB1.out.trans (hb2.mono HB1.out.size));have HI1:=hW_ hb;clear hb hb2 hmn
 cases b with
 | false=>
  have HF:Hid (¬E4 N kind T room):=hW_ (fun h=>rJ HI1.out rfl h.1);obtain⟨c0,c1,c2⟩:=A9 ((HB2.out.block w.heap.size HSZ1.out).trans HX0.out);obtain⟨b0,b1,b2,b3,b4,b5,bf⟩:=xK ((HB2.out.block (w.heap.size+1) HSZ2.out).trans HX1.out);go_wp2_with (fail);refine bodyPost_ret (v:= .tuple #[noC, .int .i64 1]) ?_ rfl ⟨.inr (.inl ⟨HM1.out,HF.out,rfl⟩),?_⟩
  ·simp[results,Tryz.results15,go_sem,b0,b1,b2,b3,b4,b5,noC]
  ·exact((((((HB0.out.trans ((HB2.out).mono HB0.out.size)).setCell HBC.out _).setCell HBC.out _).setCell HBC.out _).setCell HBC.out _).setCell HBC.out _).setCell HBC.out _
 | true=>
 have HN1:=hW_ (HI1.out.1 rfl)
 by_cases hk0:kind<0
 ·have HF:Hid (¬E4 N kind T room):=hW_ (fun h=>by have:=h.2.1;omega);obtain⟨c0,c1,c2⟩:=A9 ((HB2.out.block w.heap.size HSZ1.out).trans HX0.out);obtain⟨b0,b1,b2,b3,b4,b5,bf⟩:=xK ((HB2.out.block (w.heap.size+1) HSZ2.out).trans HX1.out);go_wp2_with (fail);refine bodyPost_ret (v:= .tuple #[noC, .int .i64 1]) ?_ rfl ⟨.inr (.inl ⟨HM1.out,HF.out,rfl⟩),?_⟩
  ·simp[results,Tryz.results15,go_sem,b0,b1,b2,b3,b4,b5,noC]
  ·exact((((((HB0.out.trans ((HB2.out).mono HB0.out.size)).setCell HBC.out _).setCell HBC.out _).setCell HBC.out _).setCell HBC.out _).setCell HBC.out _).setCell HBC.out _
 by_cases hk3:(3:Int)<kind
 ·have HF:Hid (¬E4 N kind T room):=hW_ (fun h=>by have:=h.2.2.1;omega);obtain⟨c0,c1,c2⟩:=A9 ((HB2.out.block w.heap.size HSZ1.out).trans HX0.out);obtain⟨b0,b1,b2,b3,b4,b5,bf⟩:=xK ((HB2.out.block (w.heap.size+1) HSZ2.out).trans HX1.out);go_wp2_with (fail);refine bodyPost_ret (v:= .tuple #[noC, .int .i64 1]) ?_ rfl ⟨.inr (.inl ⟨HM1.out,HF.out,rfl⟩),?_⟩
  ·simp[results,Tryz.results15,go_sem,b0,b1,b2,b3,b4,b5,noC]
  ·exact((((((HB0.out.trans ((HB2.out).mono HB0.out.size)).setCell HBC.out _).setCell HBC.out _).setCell HBC.out _).setCell HBC.out _).setCell HBC.out _).setCell HBC.out _
 have hcm:=sE w2 (HT.out.below HB2.out);go_wp2_with (fail);refine hcm.mono ?_
 rintro e w3 ⟨⟨b,rfl,hb⟩,hb3⟩;have HB3:=hW_ (HB2.out.trans (hb3.mono HB2.out.size));have HI2:=hW_ hb;clear hb hb3 hcm;obtain⟨c0,c1,c2⟩:=A9 ((HB3.out.block w.heap.size HSZ1.out).trans HX0.out);obtain⟨b0,b1,b2,b3,b4,b5,bf⟩:=xK ((HB3.out.block (w.heap.size+1) HSZ2.out).trans HX1.out)
 cases b with
 | false=>
  have HF:Hid (¬E4 N kind T room):=hW_ (fun h=>rJ HI2.out rfl h.2.2.2.1);go_wp2_with (fail);refine bodyPost_ret (v:= .tuple #[noC, .int .i64 1]) ?_ rfl ⟨.inr (.inl ⟨HM1.out,HF.out,rfl⟩),?_⟩
  ·simp[results,Tryz.results15,go_sem,b0,b1,b2,b3,b4,b5,noC]
  ·exact((((((HB0.out.trans ((HB3.out).mono HB0.out.size)).setCell HBC.out _).setCell HBC.out _).setCell HBC.out _).setCell HBC.out _).setCell HBC.out _).setCell HBC.out _
 | true=>
 have HT1:=hW_ (HI2.out.1 rfl)
 by_cases hr0:room<0
 ·have HF:Hid (¬E4 N kind T room):=hW_ (fun h=>by have:=h.2.2.2.2.1;omega);go_wp2_with (fail);refine bodyPost_ret (v:= .tuple #[noC, .int .i64 1]) ?_ rfl ⟨.inr (.inl ⟨HM1.out,HF.out,rfl⟩),?_⟩
  ·simp[results,Tryz.results15,go_sem,b0,b1,b2,b3,b4,b5,noC]
  ·exact((((((HB0.out.trans ((HB3.out).mono HB0.out.size)).setCell HBC.out _).setCell HBC.out _).setCell HBC.out _).setCell HBC.out _).setCell HBC.out _).setCell HBC.out _
 by_cases hr1:(1048576:Int)<room
 ·have HF:Hid (¬E4 N kind T room):=hW_ (fun h=>by have:=h.2.2.2.2.2;omega);go_wp2_with (fail);refine bodyPost_ret (v:= .tuple #[noC, .int .i64 1]) ?_ rfl ⟨.inr (.inl ⟨HM1.out,HF.out,rfl⟩),?_⟩
  ·simp[results,Tryz.results15,go_sem,b0,b1,b2,b3,b4,b5,noC]
  ·exact((((((HB0.out.trans ((HB3.out).mono HB0.out.size)).setCell HBC.out _).setCell HBC.out _).setCell HBC.out _).setCell HBC.out _).setCell HBC.out _).setCell HBC.out _
 have HOKK:Hid (E4 N kind T room):=hW_ ⟨HN1.out,by omega,by omega,HT1.out,by omega,by omega⟩
 by_cases ht0:tn=0
 ·have hT0:T= []:=List.eq_nil_of_length_eq_zero (by have:=HTL.out;omega);have HTU:Hid (iB T=usR):=hW_ (by unfold iB;rw[if_pos hT0]);have htc:=qW w3;subst ht0;clear hT0;go_wp2_with (fail);refine htc.mono ?_
  rintro e w4 ⟨v,rfl,ho,hb4⟩;obtain⟨ua,uc,rfl,hs⟩:=ho.sl;have HB4:=hW_ (HB3.out.trans (hb4.mono HB3.out.size));have HS:=hW_ ho;clear ho hb4 hs htc;obtain⟨c0,c1,c2⟩:=A9 ((HB4.out.block w.heap.size HSZ1.out).trans HX0.out);obtain⟨b0,b1,b2,b3,b4,b5,bf⟩:=xK ((HB4.out.block (w.heap.size+1) HSZ2.out).trans HX1.out);go_wp2_with (fail);refine bodyPost_ret (v:= .tuple #[.agg #[.slice ta tn' tc', .slice ma mn mc, .slice sa sn sc, .slice no nn nc, .int .i64 kind, .slice ua usR.length uc], .int .i64 0]) ?_ rfl ⟨.inr (.inr ⟨HM1.out,HOKK.out,ua,_,uc,rfl,?_⟩),?_⟩
  ·simp[results,Tryz.results15,go_sem,b0,b1,b2,b3,b4,b5]
  ·rw[HTU.out];obtain⟨ao',cap',e',hs'⟩:=eA.sl (eA.keepG HS.out ((((((kB.refl (w.heap.size+1) w4).set 0 _).set 1 _).set 2 _).set 3 _).set 4 _ |>.set 5 _) (fun q hq=>by have:=(World.ownsRow.lt HS.out q hq).1;have:=HSZ2.out;have:=HB3.out.size;omega));simp only[Value.slice.injEq]at e';obtain⟨rfl,_,rfl⟩:=e';exact hs'
  ·exact((((((HB0.out.trans (HB4.out.mono HB0.out.size)).setCell HBC.out _).setCell HBC.out _).setCell HBC.out _).setCell HBC.out _).setCell HBC.out _).setCell HBC.out _
 ·have HTU:Hid (iB T=T):=hW_ (by unfold iB;rw[if_neg (fun e=>ht0 (by have:=HTL.out;rw[e]at this;simpa using this.symm))]);have HS:=hW_ (HT.out.below HB3.out);go_wp2_with (fail);refine bodyPost_ret (v:= .tuple #[.agg #[.slice ta tn' tc', .slice ma mn mc, .slice sa sn sc, .slice no nn nc, .int .i64 kind, .slice to_ tn tc], .int .i64 0]) ?_ rfl ⟨.inr (.inr ⟨HM1.out,HOKK.out,to_,tn,tc,rfl,?_⟩),?_⟩
  ·simp[results,Tryz.results15,go_sem,b0,b1,b2,b3,b4,b5]
  ·rw[HTU.out];exact HTW.out.below (((((((HB0.out.trans (HB3.out.mono HB0.out.size)).setCell HBC.out _).setCell HBC.out _).setCell HBC.out _).setCell HBC.out _).setCell HBC.out _).setCell HBC.out _)
  ·exact((((((HB0.out.trans (HB3.out.mono HB0.out.size)).setCell HBC.out _).setCell HBC.out _).setCell HBC.out _).setCell HBC.out _).setCell HBC.out _).setCell HBC.out _
theorem own_one (w:World) (x:Int):Own (w.alloc (.cells #[.int .i64 x] 3)) w.heap.size (.slice (some ⟨w.heap.size,0,none⟩) 1 1) [x]:=by
 refine⟨by simp, .inr ⟨w.heap.size,1,#[.int .i64 x],by simp,Nat.le_refl _,heap_alloc_new w _,by simp,by unfold maxLen;omega,by simp,?_⟩⟩;simp
structure CR (w:World) (dd:Vd) (no:Option Addr) (nn nc:Nat) (V:Vc) (N:List ByteArray):Prop where
 voc:eG w dd V
 names:SlS w no nn nc N
 t64:∀s∈V.tokens,s.size<=64
 n16:nn<=16
 sp:V.specials.length<=1048576
 tk:V.tokens.length<=1048576
theorem CR.below {w w':World} {dd:Vd} {no:Option Addr} {nn nc:Nat} {V:Vc} {N:List ByteArray} (h:CR w dd no nn nc V N) (hb:Below w.heap.size w w'):CR w' dd no nn nc V N:=
 ⟨h.voc.below hb,Sl.below h.names hb,h.t64,h.n16,h.sp,h.tk⟩
def M0 (dd:Vd) (no:Option Addr) (nn nc:Nat) (kind:Int) (to_:Option Addr) (tn tc:Nat):Value:=
 .agg #[.slice dd.ta dd.tn dd.tc, .slice dd.ma dd.mn dd.mc, .slice dd.sa dd.sn dd.sc, .slice no nn nc, .int .i64 kind, .slice to_ tn tc]
theorem box7 {w:World} {g:Nat} {a b c d e f x:Value} {t:TypeId} (h:w.heap[g]?=some (.cells #[a,b,c,d,e,f,x] t)):
  w.cell? ⟨g,0,none⟩=some a/\w.cell? ⟨g,1,none⟩=some b/\w.cell? ⟨g,2,none⟩=some c/\w.cell? ⟨g,3,none⟩=some d/\w.cell? ⟨g,4,none⟩=some e/\w.cell? ⟨g,5,none⟩=some f/\w.cell? ⟨g,6,none⟩=some x:=by
 simp[World.cell?,h]
theorem dS {w w4:World} {n k:Nat} (h:Below n w w4) (hn:n<=k) (a b c d e f:Value):
  Below n w ((((((w4.setCell ⟨k,0,none⟩ a).setCell ⟨k,1,none⟩ b).setCell ⟨k,2,none⟩ c).setCell ⟨k,3,none⟩ d).setCell ⟨k,4,none⟩ e).setCell ⟨k,5,none⟩ f).drew:=
 have h1:=h.setCell (p:=⟨k,0,none⟩) hn a;have h2:=h1.setCell (p:=⟨k,1,none⟩) hn b;have h3:=h2.setCell (p:=⟨k,2,none⟩) hn c;have h4:=h3.setCell (p:=⟨k,3,none⟩) hn d;have h5:=h4.setCell (p:=⟨k,4,none⟩) hn e;have h6:=h5.setCell (p:=⟨k,5,none⟩) hn f
 h6.drew
theorem O1 {w4:World} {k q:Nat} (hn:q≠k) (a b c d e f:Value):
  ((((((w4.setCell ⟨k,0,none⟩ a).setCell ⟨k,1,none⟩ b).setCell ⟨k,2,none⟩ c).setCell ⟨k,3,none⟩ d).setCell ⟨k,4,none⟩ e).setCell ⟨k,5,none⟩ f).drew.heap[q]?=w4.heap[q]? :=by
 have e0:∀X:World,X.drew.heap=X.heap:=fun _=>rfl
 rw[e0];exact(Below.heap_setCell _ _ _ _ hn).trans ((Below.heap_setCell _ _ _ _ hn).trans ((Below.heap_setCell _ _ _ _ hn).trans ((Below.heap_setCell _ _ _ _ hn).trans ((Below.heap_setCell _ _ _ _ hn).trans (Below.heap_setCell _ _ _ _ hn)))))
theorem yJ.mono {w:World} {base base' g:Nat} {V:Vc} {N:List ByteArray} {kind:Int} {T:List Rg} {cb:Nat} (h:yJ w base g V N kind T cb) (hb:base'<=base):yJ w base' g V N kind T cb:=by
 obtain⟨h1,ta,tc,sa,sc,na,nc,ma,mc,oa,oc,eg,hx,a1,a2,a3,a4,a5,a6⟩:=h;exact⟨by omega,ta,tc,sa,sc,na,nc,ma,mc,oa,oc,eg,hx,a1.mono hb,a2.mono hb,a3.mono hb,a4.mono hb,a5.mono hb,a6.mono hb⟩
theorem yJ.below {w w':World} {base g:Nat} {V:Vc} {N:List ByteArray} {kind:Int} {T:List Rg} {cb:Nat} (h:yJ w base g V N kind T cb) (hb:Below w.heap.size w w'):yJ w' base g V N kind T cb:=by
 obtain⟨lo,ta,tc,sa,sc,na,nc,ma,mc,oa,oc,eg,hx,a1,a2,a3,a4,a5,a6⟩:=h;exact⟨lo,ta,tc,sa,sc,na,nc,ma,mc,oa,oc,eg,(hb.block _ (Array.getElem?_eq_some_iff.1 hx).1).trans hx,a1.below hb,a2.below hb,a3.below hb,a4.below hb,a5.below hb,a6.keep (fun q _ hq=>hb.block q hq) hb.size⟩
theorem eY {V:Vc} {N:List ByteArray} {kind:Int} {T:List Rg} {base g cb:Nat} (s:Int) (w:World) (hC:yJ w base g V N kind T cb) (hN:N.length<=16):
  Calls Tryz.prog 71 #[.pointer (some ⟨g,0,none⟩), .int .i64 s] w fun e w'=>e= .returned (.int .i64 (bB V N s))/\w=w':=by
 obtain⟨lo,ta,tc,sa,sc,na,nc,ma,mc,oa,oc,eg,hx,_,_,_,hom,_⟩:=hC;obtain⟨c0,c1,c2,c3,c4,c5,c6,c7,c8,cf⟩:=bS hx;obtain⟨mo,mcap,e0,hsm⟩:=hom.sl;have hml:=gK V.specials N;rw[hml]at e0 hsm;obtain⟨rfl,_,rfl⟩:=Value.slice.inj e0;have q1:IntKind.i64.wrap (256+(N.length:Int))=256+(N.length:Int):=by rw[IntKind.wrap_i64];omega
 clear hx hom e0
 by_cases h0:s<0
 ·have HF:Hid (bB V N s=1):=hW_ (by unfold bB;rw[if_pos (.inl h0)]);have hd:decide (s<0)=true:=by simpa using h0
  go_enter Tryz.func71,Tryz.ntmps71;go_wp2_with (fail);refine bodyPost_ret (results_tmp rfl _ _ _) rfl ⟨by rw[HF.out];rfl,rfl⟩
 ·have hd:decide (s<0)=false:=by simpa using h0
  by_cases h1:256+(N.length:Int)<=s
  ·have HF:Hid (bB V N s=1):=hW_ (by unfold bB;rw[if_pos (.inr h1)]);go_enter Tryz.func71,Tryz.ntmps71;go_wp2_with (fail);refine bodyPost_ret (results_tmp rfl _ _ _) rfl ⟨by rw[HF.out];rfl,rfl⟩
  ·have hnn:¬(s<0\/256+(N.length:Int)<=s):=by omega
   by_cases h2:256<=s
   ·have hg2:decide ((256:Int)<=s)=true:=by simpa using h2
    obtain⟨k,hk⟩:∃k:Nat,s-256=k:=⟨(s-256).toNat,by omega⟩;have q2:IntKind.i64.wrap (s-256)=(k:Int):=by rw[IntKind.wrap_i64];omega
    have gk:(k:Int)<(N.length:Int):=by omega
    have gk0:(0:Int)<=(k:Int):=by omega
    obtain⟨b,o,hao,hc⟩:=hsm.at_ (i:=k) (by omega);subst hao;obtain⟨v,hv⟩:∃v,ix (xC V.specials N) k=v:=⟨_,rfl⟩;rw[hv]at hc;have hmk:xF V N s=v:=by unfold xF;rw[hk,Int.toNat_natCast,hv]
    by_cases h3:v<0
    ·have HF:Hid (bB V N s=4):=hW_ (by unfold bB;rw[if_neg hnn,if_pos ⟨h2,by rw[hmk];exact h3⟩]);clear hsm hml hv hmk hnn;go_enter Tryz.func71,Tryz.ntmps71;go_wp2_with (fail);refine bodyPost_ret (results_tmp rfl _ _ _) rfl ⟨by rw[HF.out];rfl,rfl⟩
    ·have HF:Hid (bB V N s=0):=hW_ (by unfold bB;rw[if_neg hnn,if_neg (fun h=>h3 (by rw[<-hmk];exact h.2))]);clear hsm hml hv hmk hnn;go_enter Tryz.func71,Tryz.ntmps71;go_wp2_with (fail);refine bodyPost_ret (results_tmp rfl _ _ _) rfl ⟨by rw[HF.out];rfl,rfl⟩
   ·have hg2:decide ((256:Int)<=s)=false:=by simpa using h2
    have HF:Hid (bB V N s=0):=hW_ (by unfold bB;rw[if_neg hnn,if_neg (fun h=>h2 h.1)]);clear hsm hml hnn;go_enter Tryz.func71,Tryz.ntmps71;go_wp2_with (fail);refine bodyPost_ret (results_tmp rfl _ _ _) rfl ⟨by rw[HF.out];rfl,rfl⟩
theorem vK {V:Vc} {N:List ByteArray} {kind:Int} {T:List Rg} {base g cb:Nat} {A:List Int} {ao:Option Addr} {n c:Nat} (w:World) (hC:yJ w base g V N kind T cb) (hN:N.length<=16) (hA:SlI w ao n c A) (hn:n<=1048576):
  Calls Tryz.prog 33 #[.pointer (some ⟨g,0,none⟩), .slice ao n c] w fun e w'=>e= .returned (.int .i64 (qA V N A))/\w=w':=by
 have HC:=hW_ hC;have HA:=hW_ hA;have HN:=hW_ hN;have HAL:=hW_ hA.len;clear hC hA hN;go_enter Tryz.func33,Tryz.ntmps33;go_wp2_with (fail);go_loopw [12] (fun i wr=>∃k:Nat,k<=n/\i= .int .i64 k/\Hid (qA V N A=qA V N (A.drop k))/\wr=w) (fun i _=>n-(intOf i).toNat)
 case atStart=>exact⟨0,Nat.zero_le _,rfl,hW_ rfl,rfl⟩
 case round=>
  obtain⟨k,hk,rfl,HK,hw⟩:=hrel;subst hw
  by_cases hlt:k<n
  ·obtain⟨b,o,hao,hc⟩:=HA.out.at_ hlt;subst hao;have hkA:k<A.length:=by have:=HAL.out;omega
   have hdr:=tP (V:=V) (N:=N) hkA;obtain⟨s,hs⟩:∃s,ix A k=s:=⟨_,rfl⟩;rw[hs]at hc hdr;have HF:=hW_ (eY s wr HC.out HN.out)
   by_cases hf:bB V N s=0
   ·rw[if_pos hf]at hdr;have HK2:Hid (qA V N A=qA V N (A.drop (k+1))):=hW_ (HK.out.trans hdr);rw[hf]at HF;clear hdr hs hf;go_wp2_with (go_at_call 71;refine HF.out.mono ?_;rintro e w1 ⟨rfl,rfl⟩);go_roundw
    case rel=>exact⟨k+1,by omega,by go_num,HK2,by first | rfl | trivial⟩
    case measure=>simp[intOf];omega
   ·rw[if_neg hf]at hdr;have HK2:Hid (qA V N A=bB V N s):=hW_ (HK.out.trans hdr);obtain⟨f,hff⟩:∃f,bB V N s=f:=⟨_,rfl⟩;rw[hff]at hf HF HK2;have hb:(f==0)=false:=by simpa using hf
    clear hdr hs hff;go_wp2_with (go_at_call 71;refine HF.out.mono ?_;rintro e w1 ⟨rfl,rfl⟩);refine bodyPost_ret (results_tmp rfl _ _ _) rfl ⟨by rw[HK2.out];rfl,rfl⟩
  ·obtain rfl:k=n:=by omega
   have HK2:Hid (qA V N A=0):=hW_ (by rw[HK.out,List.drop_eq_nil_of_le (by have:=HAL.out;omega)];rfl);go_wp2_with (fail);go_ret;exact⟨by rw[HK2.out];rfl,rfl⟩
theorem M7 {V:Vc} {N:List ByteArray} {kind:Int} {T:List Rg} {base g cb:Nat} {A:List Int} {ao:Option Addr} {n c:Nat} (final:Bool) (w:World) (hC:yJ w base g V N kind T cb) (hA:SlI w ao n c A) (hn:n<=1048570) (hT:kA T) (hk0:0<=kind) (hk3:kind<=3):
  Calls Tryz.prog 18 #[.pointer (some ⟨g,0,none⟩), .slice ao n c, .bool final] w fun e w'=>(∃v,e= .returned v/\eA eF 2 51 w' w.heap.size v (dB kind T A final))/\Below w.heap.size w w':=by
 obtain⟨lo,ta,tc,sa,sc,na,nc,ma,mc,oa,oc,eg,hx,_,_,_,_,hot,_⟩:=hC;obtain⟨c0,c1,c2,c3,c4,c5,c6,c7,c8,cf⟩:=bS hx;obtain⟨to_,tcap,e0,hst⟩:=hot.sl;obtain⟨rfl,_,rfl⟩:=Value.slice.inj e0;have HS:Hid (∀W,Ge w W->Calls Tryz.prog 60 #[.int .i64 kind, .slice oa T.length oc, .slice ao n c, .bool final] W fun e w'=>(∃v,e= .returned v/\eA eF 2 51 w' w.heap.size v (dB kind T A final))/\Below w.heap.size w w'):=hW_ (fun W hW=>(vW kind final W (hA.below hW) hn (hst.below hW) hT hk0 hk3).mono (by
  rintro e w' ⟨⟨v,rfl,h1⟩,h2⟩;exact⟨⟨v,rfl,eA.mono h1 hW.size⟩,hW.below h2⟩))
 clear hx hot e0 hst hA;go_enter Tryz.func18,Tryz.ntmps18;go_wp2_with (fail)
 go_region_with (go_at_call 60;refine(HS.out _ (by exact bA (Below.refl _ _) _)).mono ?_;rintro e w2 ⟨⟨v,rfl,ho⟩,hb2⟩;have HO:=hW_ ho;have HB2:=hW_ hb2;clear ho hb2)
 all_goals(
  go_wp2_with (fail);go_ret;exact⟨⟨v,rfl,HO.out⟩,HB2.out⟩)
def mK (A:List Int):ByteArray:=A.foldl (fun r n=>r.push (UInt8.ofNat n.toNat)) ByteArray.empty
theorem aBk:∀(A:List Int) (r:ByteArray),(∀y∈A,0<=y/\y<256)->cA (A.foldl (fun r n=>r.push (UInt8.ofNat n.toNat)) r)=cA r++A
 | [],r,_=>by simp
 | a::A,r,h=>by
  obtain⟨h0,h1⟩:=h a (by simp);rw[List.foldl_cons,aBk A _ (fun y hy=>h y (by simp[hy]))];have:cA (r.push (UInt8.ofNat a.toNat))=cA r++ [a]:=by
   unfold cA;have:(r.push (UInt8.ofNat a.toNat)).data=r.data.push (UInt8.ofNat a.toNat):=rfl;rw[this];simp;omega
  rw[this];simp
theorem zF {A:List Int} (h:∀y∈A,0<=y/\y<256):cA (mK A)=A:=by
 have:=aBk A ByteArray.empty h;rw[show cA ByteArray.empty= [] from rfl,List.nil_append]at this;exact this
theorem T7 {A:List Int} (h:∀y∈A,0<=y/\y<256):(mK A).size=A.length:=by
 rw[<-A8,zF h]
theorem F2 {w:World} {ao:Option Addr} {n c:Nat} {A:List Int} (h:SlB w ao n c A) (hn:0<n):(convert 121 9 (.slice ao n c)).run Tryz.prog w= .ok (.string (mK A)) w:=by
 have hl:=h.len;obtain⟨b,o,hao,_⟩:=Sl.at_ h 0 (.int .u8 (ix A 0)) (by rw[List.getElem?_map,qF (by omega)];rfl);subst hao;rw[run_convert_bytes_string (P:=Tryz.prog) _ 121 9 5 _ _ _ Tryz.underlying121 Tryz.underlying5 Tryz.underlying9];rw[run_bytesToString _ _ _ _ A (by
  have:=run_loadCells_list (w:=w) (P:=Tryz.prog) ⟨b,o,none⟩ (A.map (.int .u8)) (fun j v hj=>by
   obtain⟨b',o',e,hc⟩:=Sl.at_ h j v hj;simp only[Option.some.injEq,Addr.mk.injEq,and_true]at e;obtain⟨rfl,rfl⟩:=e;rw[Addr.add_lit];exact hc)
  rw[List.length_map,hl]at this;exact this)]
 rfl
theorem aAR {M:List Mg}:∀(k:Nat) (r:List Int),(eN M k r).length<=r.length
 | 0,r=>Nat.le_refl _
 | k+1,r=>by
  cases hs:G9 M r with
  | none=>rw[dN hs];exact Nat.le_refl _
  | some r'=>
   have h1:=oO hs;have h2:=aAR k r' (M:=M);simp only[eN,hs];omega
theorem aBq (V:Vc) (A:List Int):(tH V A).length<=A.length:=by
 have:=aAR (M:=V.merges) A.length (dC V A);rw[xG]at this;exact this
structure tE (V:Vc) (l:List Row) (room hits misses:Int):Prop where
 rows:∀p∈l,p.2=tH V (cA p.1)
 rm:(l.length:Int)<=room
 ms:(l.length:Int)<=misses
 hz:0<=hits
 mz:0<=misses
 zr:room=0->hits=0/\l= []
theorem aBE (l:List Row) (k:ByteArray) (A:List Int):(E8 l k A).length<=l.length+1:=by
 unfold E8;rw[List.length_append];have:=List.length_filter_le (fun p:Row=>decide (p.1≠k)) l;simp only[List.length_singleton];omega
theorem kT {l:List Row} {k:ByteArray} {A:List Int} {p:Row} (h:p∈E8 l k A):p∈l\/p=(k,A):=by
 unfold E8 at h;rcases List.mem_append.1 h with h1 | h1
 ·exact .inl (List.mem_filter.1 h1).1
 ·exact .inr (List.mem_singleton.1 h1)
theorem aBF {l:List Row} {k:ByteArray} {A:List Int} (h:(k,A)∈l):(E8 l k A).length<=l.length:=by
 unfold E8;rw[List.length_append];have:(l.filter (fun p:Row=>decide (p.1≠k))).length<l.length:=by
  rw[List.length_filter_lt_length_iff_exists];exact⟨(k,A),h,by simp⟩
 simp only[List.length_singleton];omega
theorem tE.hit {V:Vc} {l:List Row} {room hits misses:Int} {k:ByteArray} {A:List Int} (h:tE V l room hits misses) (hm:(k,A)∈l):tE V (E8 l k A) room (hits+1) misses:=by
 have hl:=aBF hm;refine⟨fun p hp=> ?_,by have:=h.rm;omega,by have:=h.ms;omega,by have:=h.hz;omega,h.mz,fun e=> ?_⟩
 ·rcases kT hp with h1 | h1
  ·exact h.rows p h1
  ·subst h1;exact h.rows _ hm
 ·obtain⟨_,e2⟩:=h.zr e;rw[e2]at hm;cases hm
theorem tE.put {V:Vc} {l:List Row} {room hits misses:Int} {k:ByteArray} (h:tE V l room hits misses) (h0:0<room):tE V (gV l room k (tH V (cA k))) room hits (misses+1):=by
 have hl:=aBE l k (tH V (cA k));have hr:=h.rm;have hm:=h.ms;have key:∀p∈gV l room k (tH V (cA k)),p∈E8 l k (tH V (cA k)):=fun p hp=>by
  unfold gV at hp;split at hp
  ·exact List.mem_of_mem_drop hp
  ·exact hp
 refine⟨fun p hp=> ?_,?_,?_,h.hz,by have:=h.mz;omega,fun e=>by omega⟩
 ·rcases kT (key p hp)with h1 | h1
  ·exact h.rows p h1
  ·subst h1;rfl
 ·unfold gV;split
  ·rw[List.length_drop];omega
  ·omega
 ·unfold gV;split
  ·rw[List.length_drop];omega
  ·omega
theorem tE.missed {V:Vc} {l:List Row} {room hits misses:Int} (h:tE V l room hits misses):tE V l room hits (misses+1):=
 ⟨h.rows,h.rm,by have:=h.ms;omega,h.hz,by have:=h.mz;omega,h.zr⟩
structure Cch (cb mb:Nat) (no no':Option Addr) (w w':World):Prop where
 os:w'.os=w.os
 tape:w'.tape=w.tape
 output:w'.output=w.output
 size:w.heap.size<=w'.heap.size
 block:∀q,q<w.heap.size->¬Ft cb mb no q->w'.heap[q]?=w.heap[q]?
 new:∀q,q<w.heap.size->¬Ft cb mb no q->¬Ft cb mb no' q
theorem Cch.keeps {cb mb:Nat} {no:Option Addr} {w w':World} (h:iA (Ft cb mb no) w w'):Cch cb mb no no w w':=⟨h.os,h.tape,h.output,h.size,h.block,fun _ _ h=>h⟩
theorem Cch.below {cb mb:Nat} {no:Option Addr} {w w':World} (h:Below w.heap.size w w'):Cch cb mb no no w w':=Cch.keeps (iA.of_below h)
theorem Cch.trans {cb mb:Nat} {no n1 n2:Option Addr} {w w1 w2:World} (h:Cch cb mb no n1 w w1) (k:Cch cb mb n1 n2 w1 w2):Cch cb mb no n2 w w2:=
 ⟨k.os.trans h.os,k.tape.trans h.tape,k.output.trans h.output,Nat.le_trans h.size k.size,fun q hq hn=>(k.block q (Nat.lt_of_lt_of_le hq h.size) (h.new q hq hn)).trans (h.block q hq hn),fun q hq hn=>k.new q (Nat.lt_of_lt_of_le hq h.size) (h.new q hq hn)⟩
theorem Cch.put {cb mb g:Nat} {no:Option Addr} {w w':World} (h:iA (Ft cb mb no) w w') (ha:Go.Proofs.YtimkkkdabmhedaaGreatDoor.At no g w.heap.size):Cch cb mb no (some ⟨g,0,none⟩) w w':=
 ⟨h.os,h.tape,h.output,h.size,h.block,fun q hq hn hf=>by
  rcases hf with h1 | h1 | h1
  ·exact hn (.inl h1)
  ·exact hn (.inr (.inl h1))
  ·obtain rfl:g=q:=by simpa using h1
   rcases ha with h2 | h2
   ·exact hn (.inr (.inr h2))
   ·omega⟩
theorem pG.cod {w:World} {base g:Nat} {V:Vc} {N:List ByteArray} {kind:Int} {T:List Rg} {room:Int} {cb mb:Nat} {no:Option Addr} {l:List Row} {hits misses:Int} (h:pG w base g V N kind T room cb mb no l hits misses):yJ w base g V N kind T cb:=by
 obtain⟨⟨S,h1,_⟩,_⟩:=h;exact h1.self
theorem mV {V:Vc} {N:List ByteArray} {kind:Int} {T:List Rg} {base g cb b2 b5:Nat} {A:List Int} {bo:Option Addr} {n c:Nat} (w:World) (hC:yJ w base g V N kind T cb) (hM:May V) (hS:SlB w bo n c A) (hby:∀y∈A,0<=y/\y<256) (hn0:0<n) (hn:n<=100000)
  (h2:w.cell? ⟨b2,0,none⟩=some (.pointer (some ⟨g,0,none⟩))) (h5:w.cell? ⟨b5,0,none⟩=some (.slice bo n c)):
  Calls Tryz.prog 90 #[.pointer (some ⟨b2,0,none⟩), .pointer (some ⟨b5,0,none⟩)] w fun e w'=>∃v,e= .returned v/\Own w' w.heap.size v (tH V A)/\Below w.heap.size w w':=by
 obtain⟨lo,ta,tc,sa,sc,na,nc,ma,mc,oa,oc,eg,hx,_,_,_,_,_,hec⟩:=hC;obtain⟨c0,c1,c2,c3,c4,c5,c6,c7,c8,cf⟩:=bS hx;have HE:Hid (∀W,Ge w W->Calls Tryz.prog 91 #[.pointer (some ⟨eg,0,none⟩), .slice bo n c] W fun e w'=>∃v,e= .returned v/\Own w' w.heap.size v (tH V A)/\Below w.heap.size w w'):=hW_ (fun W hW=>(gY W (hec.keep (fun q _ hq=>hW.block q hq) hW.size) hM (Sl.below hS hW) hby hn0 hn).mono (by
  rintro e w' ⟨v,rfl,h1,h2⟩;exact⟨v,rfl,h1.mono hW.size,hW.below h2⟩))
 clear hx hec hS hby hM;go_enter Tryz.func90,Tryz.ntmps90;go_wp2_with (fail)
 go_region_with (go_at_call 91;refine(HE.out _ (by exact bA (Below.refl _ _) _)).mono ?_;rintro e w2 ⟨v,rfl,ho,hb2⟩;have HO:=hW_ ho;have HB2:=hW_ hb2;clear ho hb2)
 all_goals(
  go_wp2_with (fail);go_ret;exact⟨v,rfl,HO.out,HB2.out⟩)
def MayPc (A:List Int):Prop:=(∃x,A= [x]/\256<=x)\/(A≠[]/\∀y∈A,0<=y/\y<256)
theorem oP {V:Vc} {N:List ByteArray} {x:Int} (hc:qA V N [x]=0) (hx:256<=x):dF V N [x]= [xF V N x]:=by
 unfold dF;rw[if_neg (by simp[hc]),if_pos ⟨rfl,hx⟩];rfl
theorem I9 {V:Vc} {N:List ByteArray} {A:List Int} (hc:qA V N A=0) (hA:A≠[]) (hb:∀y∈A,0<=y/\y<256):dF V N A=tH V A:=by
 unfold dF;rw[if_neg (by simp[hc,hA]),if_neg,if_pos]
 ·rw[List.all_eq_true];intro y hy;exact yC.2 (hb y hy)
 ·rintro⟨h1,h2⟩;have h3:ix A 0∈A:=List.mem_of_getElem? (qF (by omega));have:=hb _ h3;omega
def O0 (A:List Int):Int:=if A.all isB=true then 1 else 0
theorem aAi {A:List Int} (hb:∀y∈A,0<=y/\y<256):O0 A=1:=by
 unfold O0;rw[if_pos];rw[List.all_eq_true];intro y hy;exact yC.2 (hb y hy)
theorem aCw {x:Int} (hx:256<=x):O0 [x]=0:=by
 unfold O0;rw[if_neg];simp[isB];omega
theorem lR {w:World} {base:Nat} {v:Value} {A:List Int} (h:w.ownsRow base 5 1 v A.length (A.map (.int .u8))) (hn:0<A.length):∃gb cap,v= .slice (some ⟨gb,0,none⟩) A.length cap/\base<=gb/\gb<w.heap.size/\SlB w (some ⟨gb,0,none⟩) A.length cap A:=by
 have hlt:=World.ownsRow.lt h;obtain⟨ao,c,e,hs⟩:=Sl.of_own h;obtain⟨h1,h2⟩:=h;rcases h2 with⟨_,h3⟩ | ⟨gb,cap,cur,hv,_⟩
 ·omega
 ·subst hv;obtain⟨rfl,_,rfl⟩:=Value.slice.inj e;obtain⟨k1,k2⟩:=hlt gb rfl;exact⟨gb,cap,rfl,k1,k2,hs⟩
theorem pG.codK {w w':World} {base g:Nat} {V:Vc} {N:List ByteArray} {kind:Int} {T:List Rg} {room:Int} {cb mb:Nat} {no:Option Addr} {l:List Row} {hits misses:Int} (h:pG w base g V N kind T room cb mb no l hits misses) (hk:iA (Ft cb mb no) w w'):yJ w' base g V N kind T cb:=by
 obtain⟨⟨S,h1,h2⟩,_⟩:=h;exact h1 w' (fun q hq=>hk.block q (h2 q hq).1.2 (h2 q hq).2) hk.size
theorem iA.cell {S:Nat->Prop} {w w':World} (h:iA S w w') {p:Addr} {u:Value} (hc:w.cell? p=some u) (hn:¬S p.block):w'.cell? p=some u:=by
 rw[World.cell?_of_block (w:=w) (h.block _ (World.block_lt_of_cell? w p hc) hn)];exact hc
open Go
def rF:List (Int×Bool)->List Int->Prop
 | [],A=>A= []
 | p::ps,A=>1<=p.1/\p.1<=A.length/\MayPc (A.take p.1.toNat)/\rF ps (A.drop p.1.toNat)
theorem run_take {text:List Int} {n:Int} (h1:1<=n) (h2:n<=(lA text).length):text.take n.toNat=(lA text).take n.toNat:=by
 obtain⟨r,hr⟩:lA text <+:text:=List.takeWhile_prefix isB;rw[<-hr,List.take_append_of_le_length (by omega)];have:lA (lA text++r)=lA text:=by rw[hr]
 rw[this]
theorem jM {kind:Int} {t:List Rg} {final:Bool} (ht:kA t):∀{k:Nat} {text:List Int} {op:Bool},text.length<=k->(∀y∈text,0<=y)->rF (uA kind t final k text op) text
 | 0,text,op,h,_=>by
  have:text= []:=List.eq_nil_of_length_eq_zero (by omega);subst this;rfl
 | k+1,text,op,h,hp=>by
  by_cases h0:text= []
  ·subst h0;rw[cC];rfl
  ·have hl:=List.length_pos_iff.2 h0
   by_cases hr:lA text= []
   ·cases text with
    | nil=>exact absurd rfl h0
    | cons m l=>
     have hm:isB m=false:=by
      cases hb:isB m with
      | false=>rfl
      | true=>simp[lA,hb]at hr
     rw[tC hm];have hm2:256<=m:=by
      have h1:=hp m (by simp);rcases Int.lt_or_le m 256 with h2 | h2
      ·rw[yC.2 ⟨h1,h2⟩]at hm;cases hm
      ·exact h2
     refine⟨by simp,by simp;omega, .inl ⟨m,by simp,hm2⟩,?_⟩;exact jM ht (by simp only[List.length_cons]at h;show l.length<=k;omega) (fun y hy=>hp y (List.mem_of_mem_drop (i:=(1:Int).toNat) hy))
   ·obtain⟨⟨n,d⟩,hn⟩:∃x,zA kind t (lA text) (final || decide ((lA text).length<text.length))=x:=⟨_,rfl⟩;have hle:=gF (kind:=kind) ht uG hr (final || decide ((lA text).length<text.length));rw[hn]at hle;simp only at hle;have hrl:=cH text;rw[sC hr hn];refine⟨hle.1,by simp only;omega, .inr ⟨?_,?_⟩,?_⟩
    ·simp only;intro e;have h9:=congrArg List.length e;rw[List.length_take,List.length_nil]at h9;omega
    ·simp only;rw[run_take hle.1 hle.2];intro y hy;exact uG y (List.mem_of_mem_take hy)
    ·exact jM ht (by simp only[List.length_drop];omega) (fun y hy=>hp y (List.mem_of_mem_drop hy))
theorem aAq {V:Vc} {N:List ByteArray} {s:Int} (h:bB V N s=0):0<=s/\s<256+(N.length:Int):=by
 unfold bB at h
 by_cases h1:s<0\/256+(N.length:Int)<=s
 ·rw[if_pos h1]at h;cases h
 ·omega
theorem aH {V:Vc} {N:List ByteArray} {kind:Int} {t:List Rg} {final:Bool} (ht:kA t) {A:List Int} (hc:qA V N A=0):rF (dB kind t A final) A:=
 jM ht (Nat.le_refl _) (fun y hy=>(aAq (D1.1 hc y hy)).1)
theorem D0 {V:Vc} {N:List ByteArray} {A:List Int} (hc:qA V N A=0) (k:Nat):qA V N (A.take k)=0/\qA V N (A.drop k)=0:=
 ⟨D1.2 (fun s hs=>D1.1 hc s (List.mem_of_mem_take hs)),D1.2 (fun s hs=>D1.1 hc s (List.mem_of_mem_drop hs))⟩
end Go.Proofs.YtimkkkdabmhedaaGreatDoor
