/- Walks: what is more than is gone through; the document's coder. (Printed by gKit16.py.) -/
import Derived.Test.YtjlokfejnijokaaGreatDoorH32
import Derived.Test.YtjlokfejnijokaaGreatDoorH10
import Derived.Test.YtjlokfejnijokaaGreatDoorH25
import Derived.Test.YtjlokfejnijokaaGreatDoorH1
import Derived.Test.YtjlokfejnijokaaGreatDoorH8
import Derived.Test.YtjlokfejnijokaaGreatDoorH22
import Derived.Test.YtjlokfejnijokaaGreatDoorH7
import Derived.Deep.LoopGhost
import Derived.Test.YtjlokfejnijokaaGreatDoorH24
set_option linter.unusedVariables false
set_option maxHeartbeats 2000000
set_option maxRecDepth 100000
namespace Go.Proofs.YtjlokfejnijokaaGreatDoor
open Go.RowKit
def nI (V:Vc) (N:List ByteArray) (T:List Rg):Prop:=J3 V\/20<N.length\/80<T.length\/∃s∈N,40<s.size
def jY (V:Vc) (N:List ByteArray) (T:List Rg) (w:World) (e:Ending) (w':World):Prop:=(∃b,e= .returned (.bool b)/\(b=true↔nI V N T))/\Below w.heap.size w w'
theorem zR {V:Vc} {dd:Vd} {N:List ByteArray} {T:List Rg} {no to_:Option Addr} {nn nc tn tc:Nat} (w:World) (hV:eE w dd V) (hok:(∀s∈V.tokens,s.size<=maxLen)/\M3 V.specials) (hN:SlS w no nn nc N) (hNs:∀s∈N,s.size<=maxLen)
  (hT:SlF 3 w to_ tn tc (flat Rg.enc T)):Calls Tryz.prog 30 #[dd.val, .slice no nn nc, .slice to_ tn tc] w (jY V N T w):=by
 obtain⟨ta,tn',tc',ma,mn,mc,sa,sn,sc⟩:=dd;obtain⟨w0,hw0⟩:∃w0,w.alloc (.cells #[.slice ta tn' tc', .slice ma mn mc, .slice sa sn sc] 26)=w0:=⟨_,rfl⟩;have hb0:Below w.heap.size w w0:=hw0▸aA w _;have hx0:w0.heap[w.heap.size]?=some (.cells #[.slice ta tn' tc', .slice ma mn mc, .slice sa sn sc] 26):=by rw[<-hw0];exact heap_alloc_new w _
 obtain⟨c0,c1,c2⟩:=uA hx0;have hgr:=oU (dd:=⟨ta,tn',tc',ma,mn,mc,sa,sn,sc⟩) w0 (hV.below hb0) hok;have HN:=hW_ (hN.below hb0);have HB0:=hW_ hb0;have HNS:=hW_ hNs;have HNL:=hW_ hN.count;have HTL:=hW_ (hT.count Rg.enc_len (by omega));have hm1:=Nat.le_trans (Sl.le hN) (Sl.max hN);have hm2:=Nat.le_trans hT.le hT.max;unfold maxLen at hm1 hm2;have HW0:=hW_ hw0;clear hV hN hT hNs hb0 hx0 hw0 hok;go_enter Tryz.func30,Tryz.ntmps30;go_wp2_with (fail);rw[HW0.out];refine hgr.mono ?_
 rintro e w1 ⟨⟨b,rfl,hb⟩,hb1⟩;have HB1:=hW_ (HB0.out.trans (hb1.mono HB0.out.size));have HG:=hW_ hb;have HN1:=hW_ (Sl.below HN.out hb1);clear hb hb1 hgr c0 c1 c2 HN
 cases b with
 | true=>
  have HF:Hid (nI V N T):=hW_ (.inl (HG.out.1 rfl));go_wp2_with (fail);go_ret;exact⟨⟨_,rfl,(fun _=>HF.out),(fun _=>rfl)⟩,HB1.out⟩
 | false=>
 by_cases h20:(20:Int)<nn
 ·have HF:Hid (nI V N T):=hW_ (.inr (.inl (by rw[HNL.out];omega)));go_wp2_with (fail);go_ret;exact⟨⟨_,rfl,(fun _=>HF.out),(fun _=>rfl)⟩,HB1.out⟩
 by_cases h80:(80:Int)<tn
 ·have HF:Hid (nI V N T):=hW_ (.inr (.inr (.inl (by rw[HTL.out];omega))));go_wp2_with (fail);go_ret;exact⟨⟨_,rfl,(fun _=>HF.out),(fun _=>rfl)⟩,HB1.out⟩
 go_wp2_with (fail);go_loop [7,22] (fun _ i=>∃k:Nat,k<=nn/\i= .int .i64 k/\Hid (∀j,j<k->¬40<(tk N j).size)) (fun _ i=>nn-(intOf i).toNat)
 case atStart=>exact⟨0,Nat.zero_le _,rfl,hW_ (fun j h=>by omega)⟩
 case round=>
  obtain⟨k,hk,rfl,HK⟩:=hrel
  by_cases hlt:k<nn
  ·have hkT:k<N.length:=by have:=HNL.out;omega
   obtain⟨b,o,hao,hc⟩:=SlS.cell HN1.out (zA hkT);subst hao;have hks:=HNS.out _ (A4 hkT);unfold maxLen at hks
   by_cases h40:(40:Int)<(tk N k).size
   ·have HF:Hid (nI V N T):=hW_ (.inr (.inr (.inr ⟨_,A4 hkT,by omega⟩)));go_wp2_with (fail);go_ret;exact⟨⟨_,rfl,(fun _=>HF.out),(fun _=>rfl)⟩,HB1.out⟩
   ·have HK2:Hid (∀j,j<k+1->¬40<(tk N j).size):=hW_ (fun j hj=>by
     by_cases e:j=k
     ·subst e;omega
     ·exact HK.out j (by omega))
    go_wp2_with (fail);go_round
    case rel=>exact⟨k+1,by omega,by go_num,HK2⟩
    case measure=>simp[intOf];omega
  ·have HF:Hid (¬nI V N T):=hW_ (by
    rintro(h | h | h | ⟨s,hs,h⟩)
    ·have:=HG.out.2 h;cases this
    ·have:=HNL.out;omega
    ·have:=HTL.out;omega
    ·obtain⟨j,hj,rfl⟩:=iH hs;exact HK.out j (by have:=HNL.out;omega) h)
   go_wp2_with (fail);go_ret;exact⟨⟨_,rfl,(fun h=>by cases h),(fun h=>absurd h HF.out)⟩,HB1.out⟩
def noC:Value:= .agg #[.slice none 0 0, .slice none 0 0, .slice none 0 0, .slice none 0 0, .int .i64 0, .slice none 0 0]
def aCu (dd:Vd) (no:Option Addr) (nn nc:Nat) (V:Vc) (N:List ByteArray) (kind:Int) (T:List Rg) (room:Int) (w:World) (e:Ending) (w':World):Prop:=
 ((¬May V/\e= .returned (.tuple #[noC, .int .i64 2]))\/(May V/\¬cE N kind T room/\e= .returned (.tuple #[noC, .int .i64 1]))\/
  (May V/\cE N kind T room/\∃to_ tn tc,e= .returned (.tuple #[.agg #[.slice dd.ta dd.tn dd.tc, .slice dd.ma dd.mn dd.mc, .slice dd.sa dd.sn dd.sc, .slice no nn nc, .int .i64 kind, .slice to_ tn tc], .int .i64 0])/\SlF 3 w' to_ tn tc (flat Rg.enc (C3 T))))/\Below w.heap.size w w'
theorem nK {w:World} {g:Nat} {a b c d e f:Value} {t:TypeId} (h:w.heap[g]?=some (.cells #[a,b,c,d,e,f] t)):
  w.cell? ⟨g,0,none⟩=some a/\w.cell? ⟨g,1,none⟩=some b/\w.cell? ⟨g,2,none⟩=some c/\w.cell? ⟨g,3,none⟩=some d/\w.cell? ⟨g,4,none⟩=some e/\w.cell? ⟨g,5,none⟩=some f/\∀o,w.frozen? ⟨g,o,none⟩=false:=by
 simp[World.cell?,World.frozen?,h]
theorem T9 {V:Vc} {dd:Vd} {N:List ByteArray} {kind:Int} {T:List Rg} {room:Int} {no to_:Option Addr} {nn nc tn tc:Nat} (w:World) (hV:eE w dd V) (hok:VOk V) (hN:SlS w no nn nc N) (hNs:∀s∈N,s.size<=maxLen)
  (hT:SlF 3 w to_ tn tc (flat Rg.enc T)):Calls Tryz.prog 31 #[dd.val, .slice no nn nc, .int .i64 kind, .slice to_ tn tc, .int .i64 room] w (aCu dd no nn nc V N kind T room w):=by
 obtain⟨ta,tn',tc',ma,mn,mc,sa,sn,sc⟩:=dd;obtain⟨w0,hw0⟩:∃w0,(w.alloc (.cells #[.slice ta tn' tc', .slice ma mn mc, .slice sa sn sc] 26)).alloc (.cells #[.slice none 0 0, .slice none 0 0, .slice none 0 0, .slice none 0 0, .int .i64 0, .slice none 0 0] 32)=w0:=⟨_,rfl⟩;have hb0:Below w.heap.size w w0:=hw0▸(aA w _).alloc (by simp) _;have hx0:w0.heap[w.heap.size]?=some (.cells #[.slice ta tn' tc', .slice ma mn mc, .slice sa sn sc] 26):=by rw[<-hw0];exact(Below.heap_alloc _ _ _ (by simp)).trans (heap_alloc_new w _)
 have hx1:w0.heap[w.heap.size+1]?=some (.cells #[.slice none 0 0, .slice none 0 0, .slice none 0 0, .slice none 0 0, .int .i64 0, .slice none 0 0] 32):=by
  rw[<-hw0];have:=heap_alloc_new (w.alloc (.cells #[.slice ta tn' tc', .slice ma mn mc, .slice sa sn sc] 26)) (.cells #[.slice none 0 0, .slice none 0 0, .slice none 0 0, .slice none 0 0, .int .i64 0, .slice none 0 0] 32);simpa using this
 have hsz1:w.heap.size<w0.heap.size:=by rw[<-hw0];simp;omega
 have hsz2:w.heap.size+1<w0.heap.size:=by rw[<-hw0];simp
 have HSZ1:=hW_ hsz1;have HSZ2:=hW_ hsz2;obtain⟨c0,c1,c2⟩:=uA hx0;have hma:=P1 (dd:=⟨ta,tn',tc',ma,mn,mc,sa,sn,sc⟩) w0 (hV.below hb0) hok;have HBC:Hid (w.heap.size<=w.heap.size+1):=hW_ (by omega);have HN:=hW_ (Sl.below hN hb0);have HT:=hW_ (hT.below hb0);have HTW:=hW_ hT;have HB0:=hW_ hb0;have HX0:=hW_ hx0;have HX1:=hW_ hx1;have HNS:=hW_ hNs;have HTL:=hW_ (hT.count Rg.enc_len (by omega));have HW0:=hW_ hw0;clear hV hN hT hNs hb0 hx0 hx1 hw0 hok hsz1 hsz2;go_enter Tryz.func31,Tryz.ntmps31;go_wp2_with (fail);rw[HW0.out];refine hma.mono ?_
 rintro e w1 ⟨⟨b,rfl,hb⟩,hb1⟩;have HB1:=hW_ hb1;have HM:=hW_ hb;clear hb hb1 hma c0 c1 c2
 cases b with
 | false=>
  have HF:Hid (¬May V):=hW_ (fun h=>vI HM.out rfl h);obtain⟨c0,c1,c2⟩:=uA ((HB1.out.block w.heap.size HSZ1.out).trans HX0.out);obtain⟨b0,b1,b2,b3,b4,b5,bf⟩:=nK ((HB1.out.block (w.heap.size+1) HSZ2.out).trans HX1.out);go_wp2_with (fail);refine bodyPost_ret (v:= .tuple #[noC, .int .i64 2]) ?_ rfl ⟨.inl ⟨HF.out,rfl⟩,?_⟩
  ·simp[results,Tryz.results31,go_sem,b0,b1,b2,b3,b4,b5,noC]
  ·exact((((((HB0.out.trans ((HB1.out).mono HB0.out.size)).setCell HBC.out _).setCell HBC.out _).setCell HBC.out _).setCell HBC.out _).setCell HBC.out _).setCell HBC.out _
 | true=>
 have HM1:=hW_ (HM.out.1 rfl);have hmn:=O0 w1 (Sl.below HN.out HB1.out) HNS.out;clear HM;go_wp2_with (fail);refine hmn.mono ?_
 rintro e w2 ⟨⟨b,rfl,hb⟩,hb2⟩;have HB2:=hW_ (HB1.out.trans (hb2.mono HB1.out.size));have HI1:=hW_ hb;clear hb hb2 hmn
 cases b with
 | false=>
  have HF:Hid (¬cE N kind T room):=hW_ (fun h=>vI HI1.out rfl h.1);obtain⟨c0,c1,c2⟩:=uA ((HB2.out.block w.heap.size HSZ1.out).trans HX0.out);obtain⟨b0,b1,b2,b3,b4,b5,bf⟩:=nK ((HB2.out.block (w.heap.size+1) HSZ2.out).trans HX1.out);go_wp2_with (fail);refine bodyPost_ret (v:= .tuple #[noC, .int .i64 1]) ?_ rfl ⟨.inr (.inl ⟨HM1.out,HF.out,rfl⟩),?_⟩
  ·simp[results,Tryz.results31,go_sem,b0,b1,b2,b3,b4,b5,noC]
  ·exact((((((HB0.out.trans ((HB2.out).mono HB0.out.size)).setCell HBC.out _).setCell HBC.out _).setCell HBC.out _).setCell HBC.out _).setCell HBC.out _).setCell HBC.out _
 | true=>
 have HN1:=hW_ (HI1.out.1 rfl)
 by_cases hk0:kind<0
 ·have HF:Hid (¬cE N kind T room):=hW_ (fun h=>by have:=h.2.1;omega);obtain⟨c0,c1,c2⟩:=uA ((HB2.out.block w.heap.size HSZ1.out).trans HX0.out);obtain⟨b0,b1,b2,b3,b4,b5,bf⟩:=nK ((HB2.out.block (w.heap.size+1) HSZ2.out).trans HX1.out);go_wp2_with (fail);refine bodyPost_ret (v:= .tuple #[noC, .int .i64 1]) ?_ rfl ⟨.inr (.inl ⟨HM1.out,HF.out,rfl⟩),?_⟩
  ·simp[results,Tryz.results31,go_sem,b0,b1,b2,b3,b4,b5,noC]
  ·exact((((((HB0.out.trans ((HB2.out).mono HB0.out.size)).setCell HBC.out _).setCell HBC.out _).setCell HBC.out _).setCell HBC.out _).setCell HBC.out _).setCell HBC.out _
 by_cases hk3:(3:Int)<kind
 ·have HF:Hid (¬cE N kind T room):=hW_ (fun h=>by have:=h.2.2.1;omega);obtain⟨c0,c1,c2⟩:=uA ((HB2.out.block w.heap.size HSZ1.out).trans HX0.out);obtain⟨b0,b1,b2,b3,b4,b5,bf⟩:=nK ((HB2.out.block (w.heap.size+1) HSZ2.out).trans HX1.out);go_wp2_with (fail);refine bodyPost_ret (v:= .tuple #[noC, .int .i64 1]) ?_ rfl ⟨.inr (.inl ⟨HM1.out,HF.out,rfl⟩),?_⟩
  ·simp[results,Tryz.results31,go_sem,b0,b1,b2,b3,b4,b5,noC]
  ·exact((((((HB0.out.trans ((HB2.out).mono HB0.out.size)).setCell HBC.out _).setCell HBC.out _).setCell HBC.out _).setCell HBC.out _).setCell HBC.out _).setCell HBC.out _
 have hcm:=O2 w2 (HT.out.below HB2.out);go_wp2_with (fail);refine hcm.mono ?_
 rintro e w3 ⟨⟨b,rfl,hb⟩,hb3⟩;have HB3:=hW_ (HB2.out.trans (hb3.mono HB2.out.size));have HI2:=hW_ hb;clear hb hb3 hcm;obtain⟨c0,c1,c2⟩:=uA ((HB3.out.block w.heap.size HSZ1.out).trans HX0.out);obtain⟨b0,b1,b2,b3,b4,b5,bf⟩:=nK ((HB3.out.block (w.heap.size+1) HSZ2.out).trans HX1.out)
 cases b with
 | false=>
  have HF:Hid (¬cE N kind T room):=hW_ (fun h=>vI HI2.out rfl h.2.2.2.1);go_wp2_with (fail);refine bodyPost_ret (v:= .tuple #[noC, .int .i64 1]) ?_ rfl ⟨.inr (.inl ⟨HM1.out,HF.out,rfl⟩),?_⟩
  ·simp[results,Tryz.results31,go_sem,b0,b1,b2,b3,b4,b5,noC]
  ·exact((((((HB0.out.trans ((HB3.out).mono HB0.out.size)).setCell HBC.out _).setCell HBC.out _).setCell HBC.out _).setCell HBC.out _).setCell HBC.out _).setCell HBC.out _
 | true=>
 have HT1:=hW_ (HI2.out.1 rfl)
 by_cases hr0:room<0
 ·have HF:Hid (¬cE N kind T room):=hW_ (fun h=>by have:=h.2.2.2.2.1;omega);go_wp2_with (fail);refine bodyPost_ret (v:= .tuple #[noC, .int .i64 1]) ?_ rfl ⟨.inr (.inl ⟨HM1.out,HF.out,rfl⟩),?_⟩
  ·simp[results,Tryz.results31,go_sem,b0,b1,b2,b3,b4,b5,noC]
  ·exact((((((HB0.out.trans ((HB3.out).mono HB0.out.size)).setCell HBC.out _).setCell HBC.out _).setCell HBC.out _).setCell HBC.out _).setCell HBC.out _).setCell HBC.out _
 by_cases hr1:(1048576:Int)<room
 ·have HF:Hid (¬cE N kind T room):=hW_ (fun h=>by have:=h.2.2.2.2.2;omega);go_wp2_with (fail);refine bodyPost_ret (v:= .tuple #[noC, .int .i64 1]) ?_ rfl ⟨.inr (.inl ⟨HM1.out,HF.out,rfl⟩),?_⟩
  ·simp[results,Tryz.results31,go_sem,b0,b1,b2,b3,b4,b5,noC]
  ·exact((((((HB0.out.trans ((HB3.out).mono HB0.out.size)).setCell HBC.out _).setCell HBC.out _).setCell HBC.out _).setCell HBC.out _).setCell HBC.out _).setCell HBC.out _
 have HOKK:Hid (cE N kind T room):=hW_ ⟨HN1.out,by omega,by omega,HT1.out,by omega,by omega⟩
 by_cases ht0:tn=0
 ·have hT0:T= []:=List.eq_nil_of_length_eq_zero (by have:=HTL.out;omega);have HTU:Hid (C3 T=usR):=hW_ (by unfold C3;rw[if_pos hT0]);have htc:=lV w3;subst ht0;clear hT0;go_wp2_with (fail);refine htc.mono ?_
  rintro e w4 ⟨v,rfl,ho,hb4⟩;obtain⟨ua,uc,rfl,hs⟩:=ho.sl;have HB4:=hW_ (HB3.out.trans (hb4.mono HB3.out.size));have HS:=hW_ ho;clear ho hb4 hs htc;obtain⟨c0,c1,c2⟩:=uA ((HB4.out.block w.heap.size HSZ1.out).trans HX0.out);obtain⟨b0,b1,b2,b3,b4,b5,bf⟩:=nK ((HB4.out.block (w.heap.size+1) HSZ2.out).trans HX1.out);go_wp2_with (fail);refine bodyPost_ret (v:= .tuple #[.agg #[.slice ta tn' tc', .slice ma mn mc, .slice sa sn sc, .slice no nn nc, .int .i64 kind, .slice ua usR.length uc], .int .i64 0]) ?_ rfl ⟨.inr (.inr ⟨HM1.out,HOKK.out,ua,_,uc,rfl,?_⟩),?_⟩
  ·simp[results,Tryz.results31,go_sem,b0,b1,b2,b3,b4,b5]
  ·rw[HTU.out];obtain⟨ao',cap',e',hs'⟩:=dA.sl (dA.keepG HS.out ((((((A0.refl (w.heap.size+1) w4).set 0 _).set 1 _).set 2 _).set 3 _).set 4 _ |>.set 5 _) (fun q hq=>by have:=(World.ownsRow.lt HS.out q hq).1;have:=HSZ2.out;have:=HB3.out.size;omega));simp only[Value.slice.injEq]at e';obtain⟨rfl,_,rfl⟩:=e';exact hs'
  ·exact((((((HB0.out.trans (HB4.out.mono HB0.out.size)).setCell HBC.out _).setCell HBC.out _).setCell HBC.out _).setCell HBC.out _).setCell HBC.out _).setCell HBC.out _
 ·have HTU:Hid (C3 T=T):=hW_ (by unfold C3;rw[if_neg (fun e=>ht0 (by have:=HTL.out;rw[e]at this;simpa using this.symm))]);have HS:=hW_ (HT.out.below HB3.out);go_wp2_with (fail);refine bodyPost_ret (v:= .tuple #[.agg #[.slice ta tn' tc', .slice ma mn mc, .slice sa sn sc, .slice no nn nc, .int .i64 kind, .slice to_ tn tc], .int .i64 0]) ?_ rfl ⟨.inr (.inr ⟨HM1.out,HOKK.out,to_,tn,tc,rfl,?_⟩),?_⟩
  ·simp[results,Tryz.results31,go_sem,b0,b1,b2,b3,b4,b5]
  ·rw[HTU.out];exact HTW.out.below (((((((HB0.out.trans (HB3.out.mono HB0.out.size)).setCell HBC.out _).setCell HBC.out _).setCell HBC.out _).setCell HBC.out _).setCell HBC.out _).setCell HBC.out _)
  ·exact((((((HB0.out.trans (HB3.out.mono HB0.out.size)).setCell HBC.out _).setCell HBC.out _).setCell HBC.out _).setCell HBC.out _).setCell HBC.out _).setCell HBC.out _
theorem aCo (a:Int) (X Y:List Int):pE (a::X) (a::Y)=pE X Y:=by
 unfold pE;simp
theorem cmpL_app (P X Y:List Int):pE (P++X) (P++Y)=pE X Y:=by
 induction P with
 | nil=>rfl
 | cons a P ih=>rw[List.cons_append,List.cons_append,aCo,ih]
theorem eP {A B:List Int} {k:Nat} (h:A.take k=B.take k):pE A B=pE (A.drop k) (B.drop k):=by
 have e1:=List.take_append_drop k A;have e2:=List.take_append_drop k B
 conv=>lhs;rw[<-e1,<-e2,h]
 exact cmpL_app _ _ _
theorem aCn {a b:Int} (X Y:List Int) (h:a≠b):pE (a::X) (b::Y)=E7 a b:=by
 unfold pE E7
 by_cases h1:a<b
 ·rw[if_pos h1,if_pos (List.cons_lt_cons_iff.2 (.inl h1))]
 ·rw[if_neg h1,if_pos (show b<a by omega),if_neg (fun h2=>by rcases List.cons_lt_cons_iff.1 h2 with h3 | ⟨h3,_⟩<;>omega),if_neg (fun h2=>by simp at h2;exact h h2.1)]
theorem dP {A:List Int} {k:Nat} (h:k<A.length):A.drop k=ix A k::A.drop (k+1):=by
 rw[List.drop_eq_getElem_cons h];congr 1;have:=xE h;rw[List.getElem?_eq_getElem h]at this;exact Option.some.inj this
theorem aAu {A B:List Int} {k:Nat} (h:A.take k=B.take k) (ha:k<A.length) (hb:k<B.length) (e:ix A k=ix B k):A.take (k+1)=B.take (k+1):=by
 rw[<-D6 ha,<-D6 hb,h,e]
theorem fG {A B:List Int} {ao bo:Option Addr} {n c m d:Nat} (w:World) (hA:SlI w ao n c A) (hB:SlI w bo m d B):
  Calls Tryz.prog 57 #[.slice ao n c, .slice bo m d] w fun e w'=>e= .returned (.int .i64 (pE A B))/\w=w':=by
 have hm1:=Nat.le_trans (Sl.le hA) (Sl.max hA);have hm2:=Nat.le_trans (Sl.le hB) (Sl.max hB);unfold maxLen at hm1 hm2;have HA:=hW_ hA;have HB:=hW_ hB;have HLA:=hW_ hA.len;have HLB:=hW_ hB.len;clear hA hB;go_enter Tryz.func57,Tryz.ntmps57;go_wp2_with (fail);go_loop [11] (fun i=>∃k:Nat,k<=n/\k<=m/\i= .int .i64 k/\Hid (A.take k=B.take k)) (fun i=>n-(intOf i).toNat)
 case atStart=>exact⟨0,Nat.zero_le _,Nat.zero_le _,rfl,hW_ (by simp)⟩
 case round=>
  obtain⟨k,hk,hkm,rfl,HK⟩:=hrel
  by_cases hlt:k<n
  ·obtain⟨b1,o1,hao,hc1⟩:=HA.out.at_ hlt;subst hao
   by_cases hlm:k<m
   ·obtain⟨b2,o2,hbo,hc2⟩:=HB.out.at_ hlm;subst hbo;obtain⟨x,hx⟩:∃x,ix A k=x:=⟨_,rfl⟩;obtain⟨y,hy⟩:∃y,ix B k=y:=⟨_,rfl⟩;rw[hx]at hc1;rw[hy]at hc2;have HX:=hW_ hx;have HY:=hW_ hy;clear hx hy
    by_cases hxy:x=y
    ·have hcx:E7 x y=0:=by rw[hxy];exact xM y
     have HK2:Hid (A.take (k+1)=B.take (k+1)):=hW_ (aAu HK.out (by have:=HLA.out;omega) (by have:=HLB.out;omega) (by rw[HX.out,HY.out];exact hxy));have hcmp:=kC x y w;rw[hcx]at hcmp;clear hxy hcx;go_wp2_with (fail);refine hcmp.mono ?_
     rintro e w' ⟨rfl,rfl⟩;clear hcmp;go_wp2_with (fail);go_round
     case rel=>exact⟨k+1,by omega,by omega,by go_num,HK2⟩
     case measure=>simp[intOf];omega
    ·have HF:Hid (pE A B=E7 x y):=hW_ (by
      rw[eP HK.out,dP (A:=A) (k:=k) (by have:=HLA.out;omega),dP (A:=B) (k:=k) (by have:=HLB.out;omega),HX.out,HY.out];exact aCn _ _ hxy)
     have hcne:E7 x y≠0:=by unfold E7;split<;>(try split)<;>omega
     obtain⟨z,hz⟩:∃z,E7 x y=z:=⟨_,rfl⟩;have hcmp:=kC x y w;rw[hz]at hcmp HF hcne;have hzn:(z != 0)=true:=by simpa using hcne
     clear hxy hz hcne;go_wp2_with (fail);refine hcmp.mono ?_
     rintro e w' ⟨rfl,rfl⟩;clear hcmp;go_wp2_with (fail);go_ret;exact⟨B3 HF.out.symm,rfl⟩
   ·obtain rfl:k=m:=by omega
    have HF:Hid (pE A B=1):=hW_ (by
     rw[eP HK.out,dP (by have:=HLA.out;omega),List.drop_eq_nil_of_le (show B.length<=k by have:=HLB.out;omega)];unfold pE;simp)
    go_wp2_with (fail);go_ret;exact⟨B3 HF.out.symm,rfl⟩
  ·obtain rfl:k=n:=by omega
   by_cases hlm:k<m
   ·have HF:Hid (pE A B= -1):=hW_ (by
     rw[eP HK.out,dP (A:=B) (by have:=HLB.out;omega),List.drop_eq_nil_of_le (show A.length<=k by have:=HLA.out;omega)];unfold pE;simp)
    have hlm2:(k:Int)<(m:Int):=by omega
    go_wp2_with (fail);go_ret;exact⟨B3 HF.out.symm,rfl⟩
   ·obtain rfl:k=m:=by omega
    have HF:Hid (pE A B=0):=hW_ (by
     rw[eP HK.out,List.drop_eq_nil_of_le (show A.length<=k by have:=HLA.out;omega),List.drop_eq_nil_of_le (show B.length<=k by have:=HLB.out;omega)];unfold pE;simp)
    go_wp2_with (fail);go_ret;exact⟨B3 HF.out.symm,rfl⟩
theorem sU {A B:List Int} {ao bo:Option Addr} {n c m d:Nat} (w:World) (hA:SlI w ao n c A) (hB:SlI w bo m d B):
  Calls Tryz.prog 154 #[.slice ao n c, .slice bo m d] w fun e w'=>e= .returned (.bool (decide (A=B)))/\∃q,w'=w.drewN q:=by
 have hm1:=Nat.le_trans (Sl.le hA) (Sl.max hA);have hm2:=Nat.le_trans (Sl.le hB) (Sl.max hB);unfold maxLen at hm1 hm2;have HA:=hW_ hA;have HB:=hW_ hB;have HLA:=hW_ hA.len;have HLB:=hW_ hB.len;clear hA hB
 by_cases hnm:n=m
 ·subst hnm;go_enter Tryz.func154,Tryz.ntmps154;go_wp2_with (fail);go_loopw [13] (fun i wr=>∃k q:Nat,k<=n/\i= .int .i64 k/\Hid (A.take k=B.take k)/\wr=w.drewN q) (fun i _=>n-(intOf i).toNat)
  case atStart=>exact⟨0,0,Nat.zero_le _,rfl,hW_ (by simp),rfl⟩
  case round=>
   obtain⟨k,q,hk,rfl,HK,rfl⟩:=hrel
   by_cases hlt:k<n
   ·obtain⟨b1,o1,hao,hc1⟩:=HA.out.at_ hlt;subst hao;obtain⟨b2,o2,hbo,hc2⟩:=HB.out.at_ hlt;subst hbo;obtain⟨x,hx⟩:∃x,ix A k=x:=⟨_,rfl⟩;obtain⟨y,hy⟩:∃y,ix B k=y:=⟨_,rfl⟩;rw[hx]at hc1;rw[hy]at hc2;have HX:=hW_ hx;have HY:=hW_ hy;have gk:(k:Int)<(n:Int):=by omega
    clear hx hy
    by_cases hxy:x=y
    ·have hb:(x != y)=false:=by simpa using hxy
     have hb2:(x==y)=true:=by simpa using hxy
     have HK2:Hid (A.take (k+1)=B.take (k+1)):=hW_ (aAu HK.out (by have:=HLA.out;omega) (by have:=HLB.out;omega) (by rw[HX.out,HY.out];exact hxy));clear hxy;go_wp2_with (fail);go_quiet (fail);go_wp2_with (fail);go_roundw
     case rel=>exact⟨k+1,_,by omega,by go_num,HK2,rfl⟩
     case measure=>simp[intOf];omega
    ·have hb:(x != y)=true:=by simpa using hxy
     have hb2:(x==y)=false:=by simpa using hxy
     have HF:Hid (decide (A=B)=false):=hW_ (by
      rw[decide_eq_false_iff_not];intro e;apply hxy;rw[<-HX.out,<-HY.out,e])
     clear hxy;go_wp2_with (fail);go_quiet (fail);go_wp2_with (fail);go_ret;exact⟨lA HF.out.symm,q+nq,by simp[World.drewN,Nat.add_assoc]⟩
   ·obtain rfl:k=n:=by omega
    have HF:Hid (decide (A=B)=true):=hW_ (by
     rw[decide_eq_true_iff];have h:=HK.out;rw[List.take_of_length_le (by have:=HLA.out;omega),List.take_of_length_le (by have:=HLB.out;omega)]at h;exact h)
    go_wp2_with (fail);go_ret;exact⟨lA HF.out.symm,_,rfl⟩
 ·have HF:Hid (decide (A=B)=false):=hW_ (by
   rw[decide_eq_false_iff_not];intro e;apply hnm;rw[<-HLA.out,<-HLB.out,e])
  have hn1:((n:Int) != (m:Int))=true:=by simp;omega
  have hn2:(n != m)=true:=by simpa using hnm
  have hn3:(n==m)=false:=by simpa using hnm
  clear hnm;go_enter Tryz.func154,Tryz.ntmps154;go_wp2_with (fail);go_ret;exact⟨lA HF.out.symm,0,rfl⟩
theorem U7 {A B:List Int} {ao bo:Option Addr} {n c m d:Nat} (w:World) (hA:SlI w ao n c A) (hB:SlI w bo m d B):
  Calls Tryz.prog 106 #[.slice ao n c, .slice bo m d] w fun e w'=>e= .returned (.bool (yA A B))/\∃q,w'=w.drewN q:=by
 have hm1:=Nat.le_trans (Sl.le hA) (Sl.max hA);have hm2:=Nat.le_trans (Sl.le hB) (Sl.max hB);unfold maxLen at hm1 hm2;have hll:=hA.len;have hlb:=hB.len
 by_cases h:m<=n
 ·have HAm:SlI w ao m c (A.take m):=hA.take h;have heq:=sU w HAm hB;have HF:Hid (decide (A.take m=B)=yA A B):=hW_ (by
   cases hb:yA A B with
   | true=>
    have:=aE.1 hb;rw[hlb]at this;simpa using this.2
   | false=>
    rw[decide_eq_false_iff_not];intro e;have:yA A B=true:=aE.2 ⟨by omega,by rw[hlb];exact e⟩;rw[hb]at this;cases this)
  rw[HF.out]at heq;obtain⟨i0,hi,hz0,hz1,hz2⟩:=info_parts vC;have HAA:=hW_ hA;have hmn:(m:Int)<=(n:Int):=by omega
  have hmc:m<=c:=by have:=Sl.le hA;omega
  have hmc2:(m:Int)<=(c:Int):=by omega
  have hmn2:¬(n:Int)<(m:Int):=by omega
  clear hll hlb hA hB HAm;go_enter Tryz.func106,Tryz.ntmps106;go_wp2_with (fail);refine heq.mono ?_
  rintro e w' ⟨rfl,q,rfl⟩;clear heq;go_wp2_with (fail);go_ret;exact⟨rfl,q,rfl⟩
 ·have HF:Hid (yA A B=false):=hW_ (by
   cases hb:yA A B with
   | false=>rfl
   | true=>have:=(aE.1 hb).1;omega)
  have hmn:¬(m:Int)<=(n:Int):=by omega
  have hmn2:(n:Int)<(m:Int):=by omega
  clear hll hlb hA hB;go_enter Tryz.func106,Tryz.ntmps106;go_wp2_with (fail);go_ret;exact⟨lA HF.out.symm,0,rfl⟩
theorem gZ (x:ByteArray) (w:World):Calls Tryz.prog 188 #[.string x] w fun e w'=>e= .returned (.bool false)/\w=w':=by
 go_enter Tryz.func188,Tryz.ntmps188;go_wp2;go_ret;exact⟨by simp,rfl⟩
theorem nL (x:ByteArray) (w:World):Calls Tryz.prog 142 #[.string x] w fun e w'=>e= .returned (.bool false)/\w=w':=by
 go_enter Tryz.func142,Tryz.ntmps142;go_wp2;go_ret;exact⟨by simp,rfl⟩
theorem oO (x y:ByteArray) (w:World):Calls Tryz.prog 141 #[.string x, .string y] w fun e w'=>e= .returned (.bool (pA x y))/\w=w':=by
 go_enter Tryz.func141,Tryz.ntmps141;go_wp2_with (go_at_call 188;refine(gZ _ _).mono ?_;rintro e w' ⟨rfl,rfl⟩);go_ret;exact⟨rfl,rfl⟩
theorem wQ {N:List ByteArray} {no:Option Addr} {nn nc:Nat} (x:ByteArray) (w:World) (hN:SlS w no nn nc N) {k0:Nat} (hk:k0<=N.length) (hbig:nn<=1048576)
  (h1:∀t,t<k0->pA (tk N t) x=true) (h2:∀t,k0<=t->t<N.length->pA (tk N t) x=false) {bb:Bool} (hbb:bb=true↔(k0<N.length/\tk N k0=x)):
  Calls Tryz.prog 97 #[.slice no nn nc, .string x] w fun e w'=>e= .returned (.tuple #[.int .i64 (k0:Int), .bool bb])/\Below w.heap.size w w':=by
 have HL:=hW_ hN.count;have HN:=hW_ hN;have H1:=hW_ h1;have H2:=hW_ h2;have HK:=hW_ hk;have HBB:=hW_ hbb;clear hN h1 h2 hk hbb;go_enter Tryz.func97,Tryz.ntmps97;go_wp2_with (fail);go_loopw [7,8] (fun a b wr=>∃lo hi:Nat,a= .int .i64 lo/\b= .int .i64 hi/\Hid (lo<=k0)/\Hid (k0<=hi)/\lo<=hi/\hi<=nn/\Below w.heap.size w wr) (fun a b _=>(intOf b).toNat-(intOf a).toNat)
 case atStart=>exact⟨0,nn,rfl,rfl,hW_ (by omega),hW_ (by have:=HK.out;have:=HL.out;omega),by omega,by omega,Below.refl _ _⟩
 case round=>
  obtain⟨lo,hi,rfl,rfl,Hlo,Hhi,hlh,hhn,hb⟩:=hrel
  by_cases hlt:lo<hi
  ·obtain⟨m,hm⟩:∃m,(lo+hi) / 2=m:=⟨_,rfl⟩;have hmN:m<N.length:=by have:=HL.out;omega
   obtain⟨b,o,hao,hc⟩:=SlS.cell (Sl.below HN.out hb) (zA hmN);subst hao;have HM:Hid ((lo+hi) / 2=m):=hW_ hm;rw[<-hm]at hc;have HB:=hW_ hb;obtain⟨y,hy⟩:∃y,tk N ((lo+hi) / 2)=y:=⟨_,rfl⟩;rw[hy]at hc;have HY:=hW_ hy;have hmlt:(lo+hi) / 2<nn:=by omega
   clear hm hy hb hmN
   cases hyx:pA y x with
   | false=>
    have HMH:Hid (k0<=(lo+hi) / 2):=hW_ (by
     rcases Nat.lt_or_ge ((lo+hi) / 2) k0 with h | h
     ·have:=H1.out _ h;rw[HY.out,hyx]at this;cases this
     ·exact h)
    go_wp2_with (first
     | (go_at_call 141;refine(oO _ _ _).mono ?_;rintro e w' ⟨rfl,rfl⟩))
    go_roundw
    case rel=>exact⟨lo,(lo+hi) / 2,rfl,by rw[show((lo:Int)+(hi:Int)) / 2=(((lo+hi) / 2:Nat):Int) by omega],Hlo,HMH,by omega,by omega,HB.out⟩
    case measure=>simp[intOf];omega
   | true=>
    have HMH:Hid ((lo+hi) / 2+1<=k0):=hW_ (by
     rcases Nat.lt_or_ge ((lo+hi) / 2) k0 with h | h
     ·exact h
     ·have:=H2.out _ h (by have:=HL.out;omega);rw[HY.out,hyx]at this;cases this)
    go_wp2_with (first
     | (go_at_call 141;refine(oO _ _ _).mono ?_;rintro e w' ⟨rfl,rfl⟩))
    go_roundw
    case rel=>exact⟨(lo+hi) / 2+1,hi,by rw[show((lo:Int)+(hi:Int)) / 2+1=(((lo+hi) / 2+1:Nat):Int) by omega],rfl,HMH,Hhi,by omega,by omega,HB.out⟩
    case measure=>simp[intOf];omega
  ·have hE:lo=k0/\hi=k0:=by have:=Hlo.out;have:=Hhi.out;omega
   obtain⟨hlo,hhi⟩:=hE;obtain rfl:hi=lo:=by omega
   subst hlo;have HB:=hW_ hb
   by_cases hn:hi<nn
   ·have hmN:hi<N.length:=by have:=HL.out;omega
    obtain⟨b,o,hao,hc⟩:=SlS.cell (Sl.below HN.out hb) (zA hmN);subst hao;obtain⟨y,hy⟩:∃y,tk N hi=y:=⟨_,rfl⟩;rw[hy]at hc;have HY:=hW_ hy;have HMN:=hW_ hmN;clear hy hb hmN
    by_cases hyx:y=x
    ·have hb2:=xD hyx;obtain rfl:bb=true:=HBB.out.2 ⟨HMN.out,by rw[HY.out];exact hyx⟩;clear hyx;go_wp2_with (first
      | (go_at_call 142;refine(nL _ _).mono ?_;rintro e w' ⟨rfl,rfl⟩))
     refine bodyPost_ret (v:= .tuple #[.int .i64 hi, .bool true]) ?_ rfl ⟨rfl,HB.out⟩
     simp[results,Tryz.results97,go_sem]
    ·have hb2:=dF hyx;obtain rfl:bb=false:=by
      cases bb with
      | false=>rfl
      | true=>exact absurd (HBB.out.1 rfl).2 (by rw[HY.out];exact hyx)
     clear hyx;go_wp2_with (first
      | (go_at_call 142;refine(nL _ _).mono ?_;rintro e w' ⟨rfl,rfl⟩))
     refine bodyPost_ret (v:= .tuple #[.int .i64 hi, .bool false]) ?_ rfl ⟨rfl,HB.out⟩
     simp[results,Tryz.results97,go_sem]
   ·obtain rfl:bb=false:=by
     cases bb with
     | false=>rfl
     | true=>exact absurd (HBB.out.1 rfl).1 (by have:=HL.out;omega)
    go_wp2_with (first
     | (go_at_call 142;refine(nL _ _).mono ?_;rintro e w' ⟨rfl,rfl⟩))
    refine bodyPost_ret (v:= .tuple #[.int .i64 hi, .bool false]) ?_ rfl ⟨rfl,HB.out⟩
    simp[results,Tryz.results97,go_sem]
theorem aBC {N:List ByteArray} (h:A6 N) (x:ByteArray):∃k0,k0<=N.length/\(∀t,t<k0->pA (tk N t) x=true)/\(∀t,k0<=t->t<N.length->pA (tk N t) x=false)/\
  ((k0<N.length/\tk N k0=x/\E4 N x=some k0)\/(¬(k0<N.length/\tk N k0=x)/\E4 N x=none)):=by
 have hp:∀i j,i<j->j<N.length->pA (tk N i) (tk N j)=true:=fun i j hij hj=>by
  have h1:=List.pairwise_iff_getElem.1 h.2.2 i j (by omega) hj hij;have e1:N[i]'(by omega)=tk N i:=by simp[tk,List.getD,show i<N.length by omega]
  have e2:N[j]=tk N j:=by simp[tk,List.getD,hj]
  rwa [e1,e2]at h1
 have key:∃k0,k0<=N.length/\(∀t,t<k0->pA (tk N t) x=true)/\(∀t,k0<=t->t<N.length->pA (tk N t) x=false):=by
  have:∀d,d<=N.length->∃k0,k0<=d/\(∀t,t<k0->pA (tk N t) x=true)/\(∀t,k0<=t->t<d->pA (tk N t) x=false):=by
   intro d
   induction d with
   | zero=>intro _;exact⟨0,by omega,fun t h=>by omega,fun t h1 h2=>by omega⟩
   | succ d ih=>
    intro hd;obtain⟨k0,a,b,c⟩:=ih (by omega)
    by_cases hk:k0=d
    ·cases hs:pA (tk N d) x with
     | true=>
      refine⟨d+1,by omega,fun t ht=> ?_,fun t h1 h2=>by omega⟩
      by_cases e:t=d
      ·subst e;exact hs
      ·exact b t (by omega)
     | false=>
      refine⟨d,by omega,fun t ht=>b t (by omega),fun t h1 h2=> ?_⟩;have:t=d:=by omega
      subst this;exact hs
    ·refine⟨k0,by omega,b,fun t h1 h2=> ?_⟩
     by_cases e:t=d
     ·subst e;have h3:=c k0 (Nat.le_refl _) (by omega)
      cases hs:pA (tk N t) x with
      | false=>rfl
      | true=>
       have:=I7 (hp k0 t (by omega) (by omega)) hs;rw[h3]at this;cases this
     ·exact c t h1 (by omega)
  exact this _ (Nat.le_refl _)
 obtain⟨k0,a,b,c⟩:=key;refine⟨k0,a,b,c,?_⟩
 by_cases hx:k0<N.length/\tk N k0=x
 ·exact .inl ⟨hx.1,hx.2,fF hx.1 hx.2 fun j hj e=>by
   have:=b j hj;rw[e,cD]at this;cases this⟩
 ·refine .inr ⟨hx,vG fun j hj e=> ?_⟩;rcases Nat.lt_trichotomy j k0 with h1 | h1 | h1
  ·have:=b j h1;rw[e,cD]at this;cases this
  ·subst h1;exact hx ⟨hj,e⟩
  ·have h2:=c k0 (Nat.le_refl _) (by omega);have h3:=hp k0 j h1 hj;rw[e,h2]at h3;cases h3
theorem iM (w:World) (x:Int):Own (w.alloc (.cells #[.int .i64 x] 3)) w.heap.size (.slice (some ⟨w.heap.size,0,none⟩) 1 1) [x]:=by
 refine⟨by simp, .inr ⟨w.heap.size,1,#[.int .i64 x],by simp,Nat.le_refl _,heap_alloc_new w _,by simp,by unfold maxLen;omega,by simp,?_⟩⟩;simp
def cV (V:Vc) (N:List ByteArray) (t:Int) (w:World) (e:Ending) (w':World):Prop:=
 (∃v,e= .returned (.tuple #[v, .int .i64 (iA V N t).2])/\Own w' w.heap.size v (iA V N t).1)/\Below w.heap.size w w'
theorem rP {V:Vc} {N:List ByteArray} {t:Int} (h:bC V.tokens t=true):iA V N t=(qA (tk V.tokens t.toNat),0):=by
 unfold iA;rw[if_pos h]
theorem pG {V:Vc} {N:List ByteArray} {t:Int} (h:bC V.tokens t=false) (h2:rH V.specials t=none):iA V N t=([],3):=by
 unfold iA;rw[h,h2];simp
theorem J8 {V:Vc} {N:List ByteArray} {t:Int} (h:bC V.tokens t=false) {s:Sp} (h2:rH V.specials t=some s) {k:Nat} (h3:E4 N s.name=some k):iA V N t=([256+(k:Int)],0):=by
 unfold iA;rw[h,h2];simp only[h3];simp
theorem J6 {V:Vc} {N:List ByteArray} {t:Int} (h:bC V.tokens t=false) {s:Sp} (h2:rH V.specials t=some s) (h3:E4 N s.name=none):iA V N t=([],4):=by
 unfold iA;rw[h,h2];simp only[h3];simp
theorem lR {V:Vc} {N:List ByteArray} {kind:Int} {T:List Rg} {base g cb:Nat} (t:Int) (w:World) (hC:mG w base g V N kind T cb) (hT:∀s∈V.tokens,s.size<=64) (hN:A6 N):
  Calls Tryz.prog 54 #[.pointer (some ⟨g,0,none⟩), .int .i64 t] w (cV V N t w):=by
 obtain⟨hlo,ta,tc,sa,sc,na,nc,ma,mc,oa,oc,eg,hx,hot,hos,hon,_⟩:=hC;obtain⟨i0,hi,hz0,hz1,hz2⟩:=info_parts vC;obtain⟨_,_,e1,hst⟩:=hot.sl;simp only[Value.slice.injEq]at e1;obtain⟨rfl,_,rfl⟩:=e1;obtain⟨_,_,e1,hss⟩:=hos.sl;simp only[Value.slice.injEq]at e1;obtain⟨rfl,_,rfl⟩:=e1;obtain⟨_,_,e1,hsn⟩:=hon.sl;simp only[Value.slice.injEq]at e1;obtain⟨rfl,_,rfl⟩:=e1;have hV:eE w ⟨ta,V.tokens.length,tc,none,0,0,sa,V.specials.length,sc⟩ ⟨V.tokens,[],V.specials⟩:=⟨SlF.strs hst,SlF.nothing _,hss⟩;have hvb:=qT (dd:=⟨ta,V.tokens.length,tc,none,0,0,sa,V.specials.length,sc⟩) t w hV;have HV:=hW_ hV;have HX:=hW_ hx;have HNN:=hW_ (SlF.strs hsn);have HMN:=hW_ hN;have hg:g<w.heap.size:=(Array.getElem?_eq_some_iff.1 hx).1;obtain⟨c0,c1,c2,c3,c4,c5,c6,c7,c8,cf⟩:=zM hx;have HT:=hW_ hT;clear hx hot hos hon hst hss hsn hV hT hN;go_enter Tryz.func54,Tryz.ntmps54;go_wp2_with (fail);refine hvb.mono ?_
 rintro e w1 ⟨rfl,hb1⟩;have HB1:=hW_ hb1
 cases htk:bC V.tokens t with
 | true=>
  have HSY:=hW_ (rP (N:=N) htk);obtain⟨s,hs⟩:∃s,tk V.tokens t.toNat=s:=⟨_,rfl⟩;have hbo:wF V.tokens t=s:=by unfold wF;rw[if_pos htk,hs]
  have hsz:s.size<=64:=by
   obtain⟨a1,a2,_⟩:=A8.1 htk;rw[<-hs];exact HT.out _ (A4 (by omega))
  rw[hs]at HSY;simp only[hbo];clear hb1 hvb hs hbo htk c0 c1 c2 c3 c4 c5 c6 c7 c8 cf;go_wp2_with (fail);go_loopw [8,27] (fun v i wr=>∃k:Nat,k<=s.size/\i= .int .i64 k/\Own wr w.heap.size v ((qA s).take k)/\Below w.heap.size w wr) (fun _ i _=>s.size-(intOf i).toNat)
  case atStart=>exact⟨0,Nat.zero_le _,rfl,by simpa using Own.nil w1 w.heap.size,HB1.out⟩
  case round=>
   obtain⟨k,hk,rfl,ho,hb⟩:=hrel;have HO:=hW_ ho;have HB:=hW_ hb;clear ho hb
   by_cases hlt:k<s.size
   ·have HK:=hW_ (sO hlt);have HL:Hid (((qA s).take k).length=k):=hW_ (by rw[List.length_take,C8];omega);obtain⟨x,hxx⟩:∃x:Int,(s[k].toNat:Int)=x:=⟨_,rfl⟩;have HS1:Hid (SlI (wr.alloc (.cells #[.int .i64 x] 3)) (some ⟨wr.heap.size,0,none⟩) 1 1 [x]):=hW_ (SlI.one wr x _);have HO1:Hid (Own (wr.alloc (.cells #[.int .i64 x] 3)) w.heap.size u8 ((qA s).take k)):=hW_ (HO.out.alloc _);have HSZ:Hid (w.heap.size<=wr.heap.size):=hW_ HB.out.size;rw[hxx]at HK;have hx8:=s[k].toNat_lt;have hwx:wrap64 x=x:=by rw[<-hxx];unfold wrap64;omega
    go_wp2_with (at_builtin;go_loud (refine C2 rfl _ _ 40 rfl i0 Tryz.underlying40 hi hz0 hz1 hz2 rfl HO1.out rfl HS1.out (by have:=HL.out;omega) (by have:=HSZ.out;simp;omega) ?_));intro v1 w2 ho2 hg2 hb2;rw[<-HK.out]at ho2;have HO2:=hW_ ho2;have HB2:=hW_ ((HB.out.alloc HB.out.size _).trans hb2);clear ho2 hg2 hb2;go_wp2_with (fail);go_roundw
    case rel=>exact⟨k+1,by omega,by go_num,HO2.out,HB2.out⟩
    case measure=>simp[intOf];omega
   ·obtain rfl:k=s.size:=by omega
    have HO2:=HO.out;rw[List.take_of_length_le (by rw[C8];exact Nat.le_refl _)]at HO2;have HO3:=hW_ HO2;clear HO2;go_wp2_with (fail);refine bodyPost_ret (v:= .tuple #[u8, .int .i64 0]) ?_ rfl ⟨⟨u8,by rw[HSY.out],by rw[HSY.out];exact HO3.out⟩,HB.out⟩
    simp[results,Tryz.results54,go_sem]
 | false=>
 have hbo:wF V.tokens t=ByteArray.empty:=by unfold wF;rw[htk];rfl
 have hnm:=iZ (dd:=⟨ta,V.tokens.length,tc,none,0,0,sa,V.specials.length,sc⟩) t w1 (HV.out.below hb1);simp only[hbo];have HTK:=hW_ htk;clear hb1 hvb hbo htk c0 c1 c2 c3 c4 c5 c6 c7 c8 cf;obtain⟨c0,c1,c2,c3,c4,c5,c6,c7,c8,cf⟩:=zM ((HB1.out.block g hg).trans HX.out);go_wp2_with (fail);refine hnm.mono ?_
 rintro e w2 ⟨rfl,hb2⟩;have HB2:=hW_ (HB1.out.trans (hb2.mono HB1.out.size))
 cases hsp:rH V.specials t with
 | none=>
  have HSY:=hW_ (pG (N:=N) HTK.out hsp);simp only[nmOf,Option.isSome_none];clear hb2 hnm hsp;go_wp2_with (fail);refine bodyPost_ret (v:= .tuple #[.slice none 0 0, .int .i64 3]) ?_ rfl ⟨⟨_,by rw[HSY.out],by rw[HSY.out];exact Own.nil _ _⟩,HB2.out⟩
  simp[results,Tryz.results54,go_sem]
 | some s=>
 simp only[nmOf,Option.isSome_some];obtain⟨k0,q1,q2,q3,q4⟩:=aBC HMN.out s.name;have HSP:=hW_ hsp;clear hb2 hnm c0 c1 c2 c3 c4 c5 c6 c7 c8 cf;obtain⟨c0,c1,c2,c3,c4,c5,c6,c7,c8,cf⟩:=zM ((HB2.out.block g hg).trans HX.out);rcases q4 with⟨r1,r2,r3⟩ | ⟨r1,r3⟩
 ·have hbs:=wQ s.name w2 (Sl.below HNN.out HB2.out) q1 (by have:=HMN.out.1;omega) q2 q3 (bb:=true) (by simp[r1,r2]);have HSY:=hW_ (J8 HTK.out hsp r3);have HK0:Hid ((k0:Int)<16):=hW_ (by have:=HMN.out.1;omega);clear q1 q2 q3 r1 r2 r3 hsp;go_wp2_with (fail);refine hbs.mono ?_
  rintro e w3 ⟨rfl,hb3⟩;have HB3:=hW_ (HB2.out.trans (hb3.mono HB2.out.size));have hk0:=HK0.out;have hwr:IntKind.i64.wrap (256+(k0:Int))=256+(k0:Int):=by rw[IntKind.wrap_i64];omega
  clear hb3 hbs;go_wp2_with (fail);refine bodyPost_ret (v:= .tuple #[.slice (some ⟨w3.heap.size,0,none⟩) 1 1, .int .i64 0]) ?_ rfl ⟨⟨_,by rw[HSY.out],by rw[HSY.out];exact Own.mono (iM w3 _) HB3.out.size⟩,HB3.out.alloc HB3.out.size _⟩
  simp[results,Tryz.results54,go_sem]
 ·have hbs:=wQ s.name w2 (Sl.below HNN.out HB2.out) q1 (by have:=HMN.out.1;omega) q2 q3 (bb:=false) ⟨(fun h=>by cases h),(fun h=>absurd h r1)⟩;have HSY:=hW_ (J6 HTK.out hsp r3);clear q1 q2 q3 r1 r3 hsp;go_wp2_with (fail);refine hbs.mono ?_
  rintro e w3 ⟨rfl,hb3⟩;have HB3:=hW_ (HB2.out.trans (hb3.mono HB2.out.size));clear hb3 hbs;go_wp2_with (fail);refine bodyPost_ret (v:= .tuple #[.slice none 0 0, .int .i64 4]) ?_ rfl ⟨⟨_,by rw[HSY.out],by rw[HSY.out];exact Own.nil _ _⟩,HB3.out⟩
  simp[results,Tryz.results54,go_sem]
end Go.Proofs.YtjlokfejnijokaaGreatDoor
