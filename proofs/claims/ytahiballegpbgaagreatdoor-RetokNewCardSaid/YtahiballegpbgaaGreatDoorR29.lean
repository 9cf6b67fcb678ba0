/- Walks: the document's usual table. (Printed by gRTabs.py.) -/
import Derived.Test.YtahiballegpbgaaGreatDoorR28
import Derived.Test.YtahiballegpbgaaGreatDoorR13
import Derived.Test.YtahiballegpbgaaGreatDoorR6
import Derived.Deep.AppendLies
import Derived.Deep.RegionLaw
import Derived.Test.YtahiballegpbgaaGreatDoorR18
set_option linter.unusedVariables false
set_option maxHeartbeats 2000000
set_option maxRecDepth 100000
namespace Go.Proofs.YtahiballegpbgaaGreatDoor
open Go.RowKit
theorem cJ (c:Int) {A:List Int} {ao:Option Addr} {n cap k:Nat} (w:World) (hA:SlI w ao n cap A) (hk:n=2*k) (hn:n<=100):
  Calls Tryz.prog 177 #[.int .i64 c, .slice ao n cap] w fun e w'=>∃v,e= .returned v/\iA Rg.enc 3 125 w' w.heap.size v (rG c A k)/\Below w.heap.size w w':=by
 obtain⟨i0,z0,hi,hz0,hz1,hz2,hz3⟩:=B6 oW;have HA:=hW_ hA;have HK:=hW_ hk;obtain⟨w1,hw1⟩:∃w1,w.alloc (.cells #[] 125)=w1:=⟨_,rfl⟩;have HB1:Hid (Below w.heap.size w w1):=hW_ (by rw[<-hw1];exact aA w _);have HO1:Hid (iA Rg.enc 3 125 w1 w.heap.size (.slice (some ⟨w.heap.size,0,none⟩) 0 0) []):=hW_ (by rw[<-hw1];exact iA.made0 w);have HW1:=hW_ hw1;clear hA hk hw1;go_enter Tryz.func177,Tryz.ntmps177;go_wp2_with (fail);rw[HW1.out];go_loopw [5,6] (fun v i wr=>∃j q:Nat,q<=n/\Hid (q=2*j)/\i= .int .i64 q/\iA Rg.enc 3 125 wr w.heap.size v (rG c A j)/\Below w.heap.size w wr) (fun _ i _=>n-(intOf i).toNat)
 case atStart=>exact⟨0,0,by omega,hW_ rfl,rfl,by simpa[rG]using HO1.out,HB1.out⟩
 case round=>
  obtain⟨j,q,hq,HQ,rfl,ho,hb⟩:=hrel;have HO:=hW_ ho;have HB:=hW_ hb;clear ho hb
  by_cases hlt:q+1<n
  ·obtain⟨b,o,rfl,hc0⟩:=(HA.out.below HB.out).at_ (i:=q) (by omega);obtain⟨b',o',e',hc1⟩:=(HA.out.below HB.out).at_ (i:=q+1) (by omega);simp only[Option.some.injEq,Addr.mk.injEq,and_true]at e';obtain⟨rfl,rfl⟩:=e';obtain⟨x0,hx0⟩:∃x0,ix A q=x0:=⟨_,rfl⟩;obtain⟨x1,hx1⟩:∃x1,ix A (q+1)=x1:=⟨_,rfl⟩;rw[hx0]at hc0;rw[hx1]at hc1;have HX0:=hW_ hx0;have HX1:=hW_ hx1;clear hx0 hx1;obtain⟨q1,hq1⟩:∃q1:Nat,q+1=q1:=⟨_,rfl⟩;rw[hq1]at hc1 HX1;have hwr:IntKind.i64.wrap ((q:Int)+1)=(q1:Int):=by rw[IntKind.wrap_i64];omega
   have hlt2:(q1:Int)<(n:Int):=by omega
   have hq2:(q:Int)<(n:Int):=by omega
   have HQ1:=hW_ hq1;clear hq1;go_wp2_with (fail);have hjl:2*j+1<100:=by have:=HQ.out;omega
   have HOa:Hid ((wr.drew.alloc (.cells #[.int .i64 x0, .int .i64 x1, .int .i64 c] 125)).ownsRow w.heap.size 125 3 u5 j (flat Rg.enc (rG c A j))):=hW_ (by
    have h:=(HO.out.drewN 1).alloc (.cells #[.int .i64 x0, .int .i64 x1, .int .i64 c] 125);unfold iA at h;rw[rC]at h;exact h)
   have HBa:Hid (Below w.heap.size w (wr.drew.alloc (.cells #[.int .i64 x0, .int .i64 x1, .int .i64 c] 125))):=hW_ ((HB.out.drew).alloc HB.out.size _);have HLT:=hW_ (World.ownsRow.lt HO.out)
   go_region_law (refine step_append_lies _ (by rfl) _ _ _ (by rfl) w.heap.size 125 i0 z0 3 24 Tryz.underlying27 hi hz0 hz1 hz2 hz3 (by omega) u5 j (flat Rg.enc (rG c A j)) (by rfl) HOa.out ⟨wr.heap.size,0,none⟩ 1 1 [.int .i64 x0, .int .i64 x1, .int .i64 c] (by rfl) (by rfl) (World.news_of_block (cs:=#[.int .i64 x0, .int .i64 x1, .int .i64 c]) (heap_alloc_new wr.drew _)) (by simp[Value.oneCell']) (by omega) (by unfold maxLen;omega) (by omega) HBa.out.size wr.heap.size.succ (by simp) ?_;intro gg cap2 w2 ho2 hg2 hat hb2)
   all_goals(
    have HO2:Hid (iA Rg.enc 3 125 w2 w.heap.size (.slice (some ⟨gg,0,none⟩) (j+1) cap2) (rG c A j++ [⟨x0,x1,c⟩])):=hW_ (by
     unfold iA;rw[List.length_append,rC,cB];exact ho2)
    have HB2:Hid (Below w.heap.size w w2):=hW_ (HBa.out.grown hg2 HBa.out.size fun q hq=>(HLT.out q hq).1);clear ho2 hg2 hb2 hat;go_wp2_with (fail);go_roundw
    ·have h1:=HO2.out;have e1:x0=ix A (2*j):=by rw[<-HX0.out,HQ.out]
     have e2:x1=ix A (2*j+1):=by rw[<-HX1.out,<-HQ1.out,HQ.out]
     rw[e1,e2,aAL]at h1;exact⟨j+1,q+2,by omega,hW_ (by have:=HQ.out;omega),by simp,h1,HB2.out⟩
    ·simp[intOf];omega)
  ·have hlt2:¬((q:Int)+1<(n:Int)):=by omega
   have hlt3:(n:Int)<=(q:Int)+1:=by omega
   go_wp2_with (fail);go_ret;have e:j=k:=by have:=HQ.out;have:=HK.out;omega
   subst e;exact⟨_,rfl,HO.out,HB.out⟩
theorem SlI.lit (w:World) {cs:Array Value} {A:List Int} {n:Nat} (t:TypeId) (hcs:cs.toList=A.map (.int .i64)) (hn:A.length=n) (hm:n<=maxLen):SlI (w.alloc (.cells cs t)) (some ⟨w.heap.size,0, .none⟩) n n A:=by
 have hsz:cs.size=n:=by rw[<-Array.length_toList,hcs,List.length_map,hn]
 refine⟨by simp[hn],Nat.le_refl _,hm,by simp,fun j u hu=>⟨_,_,rfl,?_⟩⟩;have hb:(w.alloc (.cells cs t)).heap[w.heap.size]?=some (.cells cs t):=heap_alloc_new w _
 simp only[World.cell?,hb,Nat.zero_add];rw[<-Array.getElem?_toList,hcs];exact hu
theorem V7 (w:World):
  Calls Tryz.prog 141 #[] w fun e w'=>∃v,e= .returned v/\iA Rg.enc 3 125 w' w.heap.size v usU/\Below w.heap.size w w':=by
 obtain⟨i0,z0,hi,hz0,hz1,hz2,hz3⟩:=B6 oW;go_enter Tryz.func141,Tryz.ntmps141;obtain⟨wa,hwa⟩:∃wa,w.alloc (.cells (us1.map (Value.int .i64)).toArray 3)=wa:=⟨_,rfl⟩;have HA1:Hid (SlI wa (some ⟨w.heap.size,0,none⟩) 60 60 us1):=hW_ (by rw[<-hwa];exact SlI.lit w _ (by simp) rfl (by unfold maxLen;omega));have HBA:Hid (Below w.heap.size w wa):=hW_ (by rw[<-hwa];exact aA w _);have HWA:=hW_ hwa;clear hwa;go_wp2_with (fail);refine Calls.mono (R:=_) (by
  have h:=cJ 1 wa HA1.out (k:=30) rfl (by omega);rw[<-HWA.out]at h;exact h) ?_
 rintro e w1 ⟨v1,rfl,ho1,hb1⟩;rw[HWA.out]at ho1 hb1;have HO1:=hW_ (iA.mono ho1 HBA.out.size);have HB1:=hW_ (HBA.out.trans (hb1.mono HBA.out.size));clear ho1 hb1;obtain⟨wa2,hwa2⟩:∃wa2,w1.alloc (.cells (us2.map (Value.int .i64)).toArray 3)=wa2:=⟨_,rfl⟩;have HA2:Hid (SlI wa2 (some ⟨w1.heap.size,0,none⟩) 16 16 us2):=hW_ (by rw[<-hwa2];exact SlI.lit w1 _ (by simp) rfl (by unfold maxLen;omega));have HBA2:Hid (Below w1.heap.size w1 wa2):=hW_ (by rw[<-hwa2];exact aA w1 _);have HWA2:=hW_ hwa2;clear hwa2;go_wp2_with (fail);refine Calls.mono (R:=_) (by
  have h:=cJ 2 wa2 HA2.out (k:=8) rfl (by omega);rw[<-HWA2.out]at h;exact h) ?_
 rintro e wb2 ⟨vb2,rfl,hob2,hbb2⟩;rw[HWA2.out]at hob2 hbb2;obtain⟨ra2,rc2,rfl,hsr2⟩:=hob2.sl;rw[rC]at hsr2 |-;have HS2:=hW_ hsr2;have HBB2:=hW_ (HB1.out.trans ((HBA2.out.trans (hbb2.mono HBA2.out.size)).mono HB1.out.size));have HOO2:=hW_ (iA.below (iA.below HO1.out HBA2.out) hbb2);clear hob2 hbb2 hsr2;go_wp2_with (at_builtin;go_loud (refine kA rfl _ _ 27 rfl i0 z0 24 Tryz.underlying27 hi hz0 hz1 hz2 hz3 Rg.enc_len (by omega) Rg.enc_one rfl HOO2.out rfl HS2.out (by simp only[rC];unfold maxLen;omega) (by simp only[rC];omega) HBB2.out.size ?_));intro v2 w2 ho2 hg2 hb2;have HO2:=hW_ ho2;have HB2:=hW_ (HBB2.out.trans hb2);clear ho2 hg2 hb2;obtain⟨wa3,hwa3⟩:∃wa3,w2.alloc (.cells (us4.map (Value.int .i64)).toArray 3)=wa3:=⟨_,rfl⟩;have HA3:Hid (SlI wa3 (some ⟨w2.heap.size,0,none⟩) 4 4 us4):=hW_ (by rw[<-hwa3];exact SlI.lit w2 _ (by simp) rfl (by unfold maxLen;omega));have HBA3:Hid (Below w2.heap.size w2 wa3):=hW_ (by rw[<-hwa3];exact aA w2 _);have HWA3:=hW_ hwa3;clear hwa3;go_wp2_with (fail);refine Calls.mono (R:=_) (by
  have h:=cJ 4 wa3 HA3.out (k:=2) rfl (by omega);rw[<-HWA3.out]at h;exact h) ?_
 rintro e wb3 ⟨vb3,rfl,hob3,hbb3⟩;rw[HWA3.out]at hob3 hbb3;obtain⟨ra3,rc3,rfl,hsr3⟩:=hob3.sl;rw[rC]at hsr3 |-;have HS3:=hW_ hsr3;have HBB3:=hW_ (HB2.out.trans ((HBA3.out.trans (hbb3.mono HBA3.out.size)).mono HB2.out.size));have HOO3:=hW_ (iA.below (iA.below HO2.out HBA3.out) hbb3);clear hob3 hbb3 hsr3;go_wp2_with (at_builtin;go_loud (refine kA rfl _ _ 27 rfl i0 z0 24 Tryz.underlying27 hi hz0 hz1 hz2 hz3 Rg.enc_len (by omega) Rg.enc_one rfl HOO3.out rfl HS3.out (by simp only[List.length_append,rC];unfold maxLen;omega) (by simp only[List.length_append,rC];omega) HBB3.out.size ?_));intro v3 w3 ho3 hg3 hb3;have HO3:=hW_ ho3;have HB3:=hW_ (HBB3.out.trans hb3);clear ho3 hg3 hb3;obtain⟨wa4,hwa4⟩:∃wa4,w3.alloc (.cells (us3.map (Value.int .i64)).toArray 3)=wa4:=⟨_,rfl⟩;have HA4:Hid (SlI wa4 (some ⟨w3.heap.size,0,none⟩) 22 22 us3):=hW_ (by rw[<-hwa4];exact SlI.lit w3 _ (by simp) rfl (by unfold maxLen;omega));have HBA4:Hid (Below w3.heap.size w3 wa4):=hW_ (by rw[<-hwa4];exact aA w3 _);have HWA4:=hW_ hwa4;clear hwa4;go_wp2_with (fail);refine Calls.mono (R:=_) (by
  have h:=cJ 3 wa4 HA4.out (k:=11) rfl (by omega);rw[<-HWA4.out]at h;exact h) ?_
 rintro e wb4 ⟨vb4,rfl,hob4,hbb4⟩;rw[HWA4.out]at hob4 hbb4;obtain⟨ra4,rc4,rfl,hsr4⟩:=hob4.sl;rw[rC]at hsr4 |-;have HS4:=hW_ hsr4;have HBB4:=hW_ (HB3.out.trans ((HBA4.out.trans (hbb4.mono HBA4.out.size)).mono HB3.out.size));have HOO4:=hW_ (iA.below (iA.below HO3.out HBA4.out) hbb4);clear hob4 hbb4 hsr4;go_wp2_with (at_builtin;go_loud (refine kA rfl _ _ 27 rfl i0 z0 24 Tryz.underlying27 hi hz0 hz1 hz2 hz3 Rg.enc_len (by omega) Rg.enc_one rfl HOO4.out rfl HS4.out (by simp only[List.length_append,rC];unfold maxLen;omega) (by simp only[List.length_append,rC];omega) HBB4.out.size ?_));intro v4 w4 ho4 hg4 hb4;have HO4:=hW_ ho4;have HB4:=hW_ (HBB4.out.trans hb4);clear ho4 hg4 hb4;go_wp2_with (fail);go_ret;exact⟨_,rfl,HO4.out,HB4.out⟩
theorem aBW (s:ByteArray) (hs:s.size<=maxLen) (b:Bool) (hb:b=true↔aC s) {w:World} (m:Nat):
  Calls Tryz.prog 140 #[.string s] (w.drewN m) fun e w'=>e= .returned (.bool b)/\w'=w.drewN m:=
 (sG s hs (w.drewN m)).mono fun e w' ⟨⟨b',he,hb'⟩,hw⟩=>⟨by rw[he,bool_eq hb' hb],hw.symm⟩
theorem mQ {N:List ByteArray} {no:Option Addr} {nn nc:Nat} (w:World) (hN:SlS w no nn nc N) (hsz:∀s∈N,s.size<=maxLen):
  Calls Tryz.prog 100 #[.slice no nn nc] w (mV N w):=by
 have hm:=Nat.le_trans (Sl.le hN) (Sl.max hN);unfold maxLen at hm;have HL:=hW_ hN.count;have HN:=hW_ hN;have HSZ:=hW_ hsz;clear hN hsz;go_enter Tryz.func100,Tryz.ntmps100;go_wp2_with (fail);go_loopw [6] (fun i wr=>∃k:Nat,k<=nn/\i= .int .i64 k/\Hid (bF N k)/\Below w.heap.size w wr) (fun i _=>nn-(intOf i).toNat)
 case atStart=>exact⟨0,Nat.zero_le _,rfl,hW_ (bF.zero N),Below.refl _ _⟩
 case round=>
  obtain⟨k,hk,rfl,HT,hb⟩:=hrel;have HB:=hW_ hb;clear hb
  by_cases hlt:k<nn
  ·have hkN:k<N.length:=by have:=HL.out;omega
   obtain⟨b,o,rfl,hc⟩:=SlS.cell (Sl.below HN.out HB.out) (sB hkN);have HS1:=hW_ (HSZ.out _ (qB hkN));obtain⟨s,hs⟩:∃s,tk N k=s:=⟨_,rfl⟩;rw[hs]at hc HS1;have HSE:=hW_ hs;have gk:(k:Int)<(nn:Int):=by omega
   clear hs
   by_cases hnm:aC s
   ·have HM:=hW_ hnm;have HQ:=hW_ (fun(w:World) (m:Nat)=>aBW s HS1.out true ⟨fun _=>HM.out,fun _=>rfl⟩ (w:=w) m);clear hnm
    by_cases hk0:k=0
    ·have HT2:=hW_ (HT.out.next (by rw[HSE.out];exact HM.out) (fun h=>by omega));have q0:decide ((0:Int)<(k:Int))=false:=by simp;omega
     have q1:decide (0<k)=false:=by simp;omega
     clear hk0;go_wp2_with (fail);go_quiet ((go_at_call 140;exact Calls.quiet_of_same (HQ.out _ _)));go_wp2_with (fail);go_roundw
     case rel=>exact⟨k+1,by omega,by go_num,HT2,bA HB.out _⟩
     case measure=>simp[intOf];omega
    obtain⟨q,rfl⟩:∃q,k=q+1:=⟨k-1,by omega⟩;obtain⟨b',o',hao,hp⟩:=SlS.cell (Sl.below HN.out HB.out) (sB (T:=N) (i:=q) (by omega));simp only[Option.some.injEq,Addr.mk.injEq,and_true]at hao;obtain⟨rfl,rfl⟩:=hao;obtain⟨p,hpq⟩:∃p,tk N q=p:=⟨_,rfl⟩;rw[hpq]at hp;have HPE:=hW_ hpq;have q0:decide ((0:Int)<((q+1:Nat):Int))=true:=by simp
    have q1:decide (0<q+1)=true:=by simp
    have q2:IntKind.i64.wrap (((q+1:Nat):Int)-1)=(q:Int):=by rw[IntKind.wrap_i64];omega
    have q3:((q+1:Nat):Int)-1=(q:Int):=by omega
    have q4:(q:Int)<(nn:Int):=by omega
    have q5:((q:Int)+1-1).toNat=q:=by omega
    have q6:(q:Int)+1-1=(q:Int):=by omega
    clear hpq hk0
    cases hbl:Op.bytesLess p.toList s.toList with
    | false=>
     have HF:=hW_ (yL (N:=N) (k:=q+1) (by omega) hkN (by rw[HSE.out,show q+1-1=q by omega,HPE.out];exact hbl));go_wp2_with (fail);go_quiet ((go_at_call 140;exact Calls.quiet_of_same (HQ.out _ _)));go_wp2_with (fail);go_ret;exact⟨⟨_,rfl,HF.out⟩,bA HB.out _⟩
    | true=>
     have HT2:=hW_ (HT.out.next (by rw[HSE.out];exact HM.out) (fun _=>by rw[HSE.out,show q+1-1=q by omega,HPE.out];exact hbl));go_wp2_with (fail);go_quiet ((go_at_call 140;exact Calls.quiet_of_same (HQ.out _ _)));go_wp2_with (fail);go_roundw
     case rel=>exact⟨q+1+1,by omega,by go_num,HT2,bA HB.out _⟩
     case measure=>simp[intOf];omega
   ·have HF:=hW_ (zL hkN (by rw[HSE.out];exact hnm));have HQ:=hW_ (fun(w:World) (m:Nat)=>aBW s HS1.out false ⟨(fun h=>by cases h),(fun h=>absurd h hnm)⟩ (w:=w) m);clear hnm;go_wp2_with (fail);go_quiet ((go_at_call 140;exact Calls.quiet_of_same (HQ.out _ _)));go_wp2_with (fail);go_ret;exact⟨⟨_,rfl,HF.out⟩,bA HB.out _⟩
  ·by_cases h2:(nn:Int)<=16
   ·have HF:Hid (dB N):=hW_ (HT.out.all (by have:=HL.out;omega) (by have:=HL.out;omega));have h2':nn<=16:=by omega
    go_wp2_with (fail);go_ret;exact⟨⟨_,rfl,(fun _=>HF.out),(fun _=>by simp<;>omega)⟩,HB.out⟩
   ·have HF:Hid (¬dB N):=hW_ (fun h=>by have:=h.1;have:=HL.out;omega);have h2':¬nn<=16:=by omega
    go_wp2_with (fail);go_ret;exact⟨⟨false,by simp<;>omega,(fun h=>by cases h),(fun h=>absurd h HF.out)⟩,HB.out⟩
def K6 (V:Vc):Prop:=400<V.tokens.length\/300<V.merges.length\/20<V.specials.length\/(∃s∈V.tokens,80<s.size)\/∃s∈V.specials,40<s.name.size
def aEq (V:Vc) (w:World) (e:Ending) (w':World):Prop:=(∃b,e= .returned (.bool b)/\(b=true↔K6 V))/\Below w.heap.size w w'
theorem pW {V:Vc} {dd:Vd} (w:World) (hV:xE w dd V) (hok:(∀s∈V.tokens,s.size<=maxLen)/\lO V.specials):
  Calls Tryz.prog 98 #[dd.val] w (aEq V w):=by
 have hcs:=hV.spc.count Sp.enc_len (by omega);have hcm:=hV.mrg.count Mg.enc_len (by omega);have hct:=hV.tok.count;have hm1:=Nat.le_trans (Sl.le hV.tok) (Sl.max hV.tok);have hm2:=Nat.le_trans hV.mrg.le hV.mrg.max;have hm3:=Nat.le_trans hV.spc.le hV.spc.max;obtain⟨ta,tn,tc,ma,mn,mc,sa,sn,sc⟩:=dd;simp only at hcs hcm hct hm1 hm2 hm3 |-;unfold maxLen at hm1 hm2 hm3;obtain⟨w0,hw0⟩:∃w0,w.alloc (.cells #[.slice ta tn tc, .slice ma mn mc, .slice sa sn sc] 26)=w0:=⟨_,rfl⟩;have hb0:Below w.heap.size w w0:=hw0▸aA w _;have hx0:w0.heap[w.heap.size]?=some (.cells #[.slice ta tn tc, .slice ma mn mc, .slice sa sn sc] 26):=by rw[<-hw0];exact heap_alloc_new w _
 obtain⟨c0,c1,c2⟩:=A4 hx0;have HV:=hW_ (hV.below hb0);have HB0:=hW_ hb0;have HOK:=hW_ hok;have HW0:=hW_ hw0;have HCS:=hW_ hcs;have HCM:=hW_ hcm;have HCT:=hW_ hct;clear hV hok hb0 hx0 hw0 hcs hcm hct
 by_cases h1:(400:Int)<tn
 ·have HF:Hid (true=true↔K6 V):=hW_ ⟨fun _=> .inl (by rw[HCT.out];omega),fun _=>rfl⟩;go_enter Tryz.func98,Tryz.ntmps98;go_wp2_with (fail);go_ret;exact⟨⟨_,rfl,by simpa using HF.out⟩,by rw[HW0.out];exact HB0.out⟩
 by_cases h2:(300:Int)<mn
 ·have HF:Hid (true=true↔K6 V):=hW_ ⟨fun _=> .inr (.inl (by rw[HCM.out];omega)),fun _=>rfl⟩;go_enter Tryz.func98,Tryz.ntmps98;go_wp2_with (fail);go_ret;exact⟨⟨_,rfl,by simpa using HF.out⟩,by rw[HW0.out];exact HB0.out⟩
 by_cases h3:(20:Int)<sn
 ·have HF:Hid (true=true↔K6 V):=hW_ ⟨fun _=> .inr (.inr (.inl (by rw[HCS.out];omega))),fun _=>rfl⟩;go_enter Tryz.func98,Tryz.ntmps98;go_wp2_with (fail);go_ret;exact⟨⟨_,rfl,by simpa using HF.out⟩,by rw[HW0.out];exact HB0.out⟩
 go_enter Tryz.func98,Tryz.ntmps98;go_wp2_with (fail);rw[HW0.out];go_loop [3,24] (fun _ i=>∃k:Nat,k<=tn/\i= .int .i64 k/\Hid (∀j,j<k->¬80<(tk V.tokens j).size)) (fun _ i=>tn-(intOf i).toNat)
 case atStart=>exact⟨0,Nat.zero_le _,rfl,hW_ (fun j h=>by omega)⟩
 case round=>
  obtain⟨k,hk,rfl,HK⟩:=hrel
  by_cases hlt:k<tn
  ·have hkT:k<V.tokens.length:=by have:=HCT.out;omega
   obtain⟨b,o,hao,hc⟩:=SlS.cell HV.out.tok (sB hkT);simp only at hao;subst hao;have hks:=HOK.out.1 _ (qB hkT);unfold maxLen at hks
   by_cases h80:(80:Int)<(tk V.tokens k).size
   ·have HF:Hid (K6 V):=hW_ (.inr (.inr (.inr (.inl ⟨_,qB hkT,by omega⟩))));go_wp2_with (fail);go_ret;exact⟨⟨_,rfl,(fun _=>HF.out),(fun _=>rfl)⟩,HB0.out⟩
   ·have HK2:Hid (∀j,j<k+1->¬80<(tk V.tokens j).size):=hW_ (fun j hj=>by
     by_cases e:j=k
     ·subst e;omega
     ·exact HK.out j (by omega))
    go_wp2_with (fail);go_round
    case rel=>exact⟨k+1,by omega,by go_num,HK2⟩
    case measure=>simp[intOf];omega
  ·have HKA:Hid (∀s∈V.tokens,¬80<s.size):=hW_ (fun s hs=>by
    obtain⟨j,hj,rfl⟩:=iI hs;exact HK.out j (by have:=HCT.out;omega))
   go_wp2_with (fail);go_loop [4,38] (fun _ i=>∃q:Nat,q<=sn/\i= .int .i64 q/\Hid (∀j,j<q->¬40<(sp V.specials j).name.size)) (fun _ i=>sn-(intOf i).toNat)
   case atStart=>exact⟨0,Nat.zero_le _,rfl,hW_ (fun j h=>by omega)⟩
   case round=>
    obtain⟨q,hq,rfl,HQ⟩:=hrel
    by_cases hltq:q<sn
    ·have hqS:q<V.specials.length:=by have:=HCS.out;omega
     obtain⟨b,o,hao,hce⟩:=HV.out.spc.elem Sp.enc_len (by omega) (mD hqS);simp only at hao;subst hao;have d0:=hce 0 _ rfl;rw[Nat.add_zero]at d0;have hks:=HOK.out.2 _ (List.mem_of_getElem? (mD hqS));unfold maxLen at hks;clear hce
     by_cases h40:(40:Int)<(sp V.specials q).name.size
     ·have HF:Hid (K6 V):=hW_ (.inr (.inr (.inr (.inr ⟨_,List.mem_of_getElem? (mD hqS),by omega⟩))));go_wp2_with (fail);go_ret;exact⟨⟨_,rfl,(fun _=>HF.out),(fun _=>rfl)⟩,HB0.out⟩
     ·have HQ2:Hid (∀j,j<q+1->¬40<(sp V.specials j).name.size):=hW_ (fun j hj=>by
       by_cases e:j=q
       ·subst e;omega
       ·exact HQ.out j (by omega))
      go_wp2_with (fail);go_round
      case rel=>exact⟨q+1,by omega,by go_num,HQ2⟩
      case measure=>simp[intOf];omega
    ·have HF:Hid (¬K6 V):=hW_ (by
      rintro(h | h | h | ⟨s,hs,h⟩ | ⟨s,hs,h⟩)
      ·have:=HCT.out;omega
      ·have:=HCM.out;omega
      ·have:=HCS.out;omega
      ·exact HKA.out s hs h
      ·obtain⟨j,hj,rfl⟩:=List.getElem_of_mem hs;rw[D7 hj]at h;exact HQ.out j (by have:=HCS.out;omega) h)
     go_wp2_with (fail);go_ret;exact⟨⟨_,rfl,(fun h=>by cases h),(fun h=>absurd h HF.out)⟩,HB0.out⟩
theorem gZ:usU.length=51:=by decide
theorem aDM:cM usU 51=usR:=by
 have:(cM usU 51).map (fun r=>(r.lo,r.hi,r.cls))=usR.map (fun r=>(r.lo,r.hi,r.cls)):=by decide +kernel
 exact(List.map_inj_right (f:=fun r:Rg=>(r.lo,r.hi,r.cls)) (fun a b h=>by cases a;cases b;simp only[Prod.mk.injEq]at h;obtain⟨rfl,rfl,rfl⟩:=h;rfl)).1 this
theorem uX (w:World):
  Calls Tryz.prog 101 #[] w fun e w'=>∃v,e= .returned v/\iA Rg.enc 3 125 w' w.heap.size v usR/\Below w.heap.size w w':=by
 obtain⟨i0,z0,hi,hz0,hz1,hz2,hz3⟩:=B6 oW;have hus:=V7 w;go_enter Tryz.func101,Tryz.ntmps101;go_wp2_with (fail);refine hus.mono ?_
 rintro e w1 ⟨v,rfl,ho,hb⟩;obtain⟨uo,uc,rfl,hs⟩:=ho.sl;rw[gZ]at hs |-;obtain⟨w0,hw0⟩:∃w0,w1.alloc (.cells #[] 125)=w0:=⟨_,rfl⟩;have HU:Hid (SlF 3 w0 uo 51 uc (flat Rg.enc usU)):=hW_ (by rw[<-hw0];exact hs.alloc _);have HB0:Hid (Below w.heap.size w w0):=hW_ (by rw[<-hw0];exact hb.alloc hb.size _);have HOut:Hid (iA Rg.enc 3 125 w0 w.heap.size (.slice (some ⟨w1.heap.size,0,none⟩) 0 0) []):=hW_ (by rw[<-hw0];exact iA.mono (iA.made0 w1) hb.size);have HW0:=hW_ hw0;clear hus ho hb hs hw0;go_wp2_with (fail);rw[HW0.out];go_loopw [2,10] (fun v i wr=>∃(k:Nat),k<=51/\i= .int .i64 k/\iA Rg.enc 3 125 wr w.heap.size v (cM usU k)/\Below w0.heap.size w0 wr) (fun _ i _=>51-(intOf i).toNat)
 case atStart=>exact⟨0,Nat.zero_le _,rfl,HOut.out,Below.refl _ _⟩
 case round=>
  obtain⟨k5,hk5,rfl,ho5,hb5⟩:=hrel;have HB5:=hW_ hb5;obtain⟨S',hS'⟩:∃S',cM usU k5=S':=⟨_,rfl⟩;rw[hS']at ho5;have HS':=hW_ hS'.symm;have HSL':Hid (S'.length=k5):=hW_ (by rw[<-hS'];exact U8 _ (by rw[gZ];omega));obtain⟨vo,vc,rfl,hvs⟩:=ho5.sl;rw[HSL'.out]at hvs;have HVS:=hW_ hvs;have HO5:=hW_ ho5;rw[HSL'.out]at HO5 |-;clear hb5 hvs ho5 hS'
  by_cases hlt5:k5<51
  ·obtain⟨b,of,rfl,hce⟩:=(HU.out.below HB5.out).elem Rg.enc_len (by omega) (rH (t:=usU) (i:=k5) (by rw[gZ];exact hlt5));obtain⟨⟨lo,hi',cl⟩,hseq⟩:∃m,rg usU k5=m:=⟨_,rfl⟩;rw[hseq]at hce;have d0:=hce 0 _ rfl;have d1:=hce 1 _ rfl;have d2:=hce 2 _ rfl;rw[Nat.add_zero]at d0;simp only at d0 d1 d2;have HSK:=hW_ hseq;have gk:(k5:Int)<51:=by omega
   clear hce hseq;obtain⟨wi,rfl⟩:∃wi:World,wi=wr:=⟨_,rfl⟩;go_wp2_with (fail);go_loopw [4] (fun i wr=>∃q nn:Nat,q<=k5/\i= .int .i64 q/\Hid (∀j,j<q->(rg S' j).lo<lo)/\wr=wi.drewN nn) (fun i _=>k5-(intOf i).toNat)
   case atStart=>exact⟨0,0,Nat.zero_le _,rfl,hW_ (fun j h=>by omega),rfl⟩
   case round=>
    obtain⟨q,nn,hq,rfl,HQ,rfl⟩:=hrel
    by_cases hltq:q<k5
    ·obtain⟨b',of',rfl,hce⟩:=HVS.out.elem Rg.enc_len (by omega) (rH (t:=S') (i:=q) (by rw[HSL'.out];exact hltq));obtain⟨⟨plo,phi,pcl⟩,hseq⟩:∃m,rg S' q=m:=⟨_,rfl⟩;rw[hseq]at hce;have p0:=hce 0 _ rfl;rw[Nat.add_zero]at p0;simp only at p0;have HSQ:=hW_ hseq;have gq:decide ((q:Int)<(k5:Int))=true:=by simp;omega
     have gq2:decide (q<k5)=true:=by simpa using hltq
     clear hce hseq
     cases hbl:decide (plo<lo)with
     | true=>
      have HQ2:Hid (∀j,j<q+1->(rg S' j).lo<lo):=hW_ (fun j hj=>by
       by_cases e:j=q
       ·subst e;rw[HSQ.out];simpa using hbl
       ·exact HQ.out j (by omega))
      go_wp2_with (fail);go_quiet (fail);go_wp2_with (fail);go_roundw
      case rel=>exact⟨q+1,_,by omega,by go_num,HQ2,rfl⟩
      case measure=>simp[intOf];omega
     | false=>
      have HST:Hid (q=S'.length\/¬(rg S' q).lo<lo):=hW_ (.inr (by rw[HSQ.out];simpa using hbl));have hpl:¬plo<lo:=by simpa using hbl
      have hpl2:lo<=plo:=by omega
      go_wp2_with (fail);go_quiet (fail);clear hbl hpl hpl2 gq gq2 p0;obtain⟨wq,hwq⟩:∃wq,(wi.drewN nn).drewN nq=wq:=⟨_,rfl⟩;have HINS:Hid (S'.take q++⟨lo,hi',cl⟩::S'.drop q=cM usU (k5+1)):=hW_ (by
       rw[wM (by rw[gZ];omega),HSK.out,HS'.out];exact(dZ (by rw[<-HS'.out,HSL'.out];omega) (fun j hj=>by rw[<-HS'.out];exact HQ.out j hj) (by rw[<-HS'.out];exact HST.out.imp_right (fun h=>by simp only[]at h |-;omega))).symm)
      have HLTk:Hid ((S'.take q).length=q):=hW_ (by rw[List.length_take,HSL'.out];omega);have HBQ:Hid (Below w0.heap.size w0 wq):=hW_ (by rw[<-hwq];exact bA (bA HB5.out _) _);have hqi:Below wi.heap.size wi wq:=by rw[<-hwq];exact bA (bA (Below.refl _ _) _) _
      have HMa:Hid (SlF 3 (wq.alloc (.cells #[] 125)) (some ⟨b',of',none⟩) k5 vc (flat Rg.enc S')):=hW_ ((HVS.out.below hqi).alloc _);have HMq:Hid (SlF 3 wq (some ⟨b',of',none⟩) k5 vc (flat Rg.enc S')):=hW_ (HVS.out.below hqi);have HOa:Hid (iA Rg.enc 3 125 (wq.alloc (.cells #[] 125)) wq.heap.size (.slice (some ⟨wq.heap.size,0,none⟩) 0 0) []):=hW_ (iA.made0 wq);have e0:=eA hqi _ _ d0;have e1:=eA hqi _ _ d1;have e2:=eA hqi _ _ d2;rw[hwq];clear hwq hqi d0 d1 d2;go_wp2_with (first
       | (refine cC (enc:=Rg.enc) rfl _ _ _ rfl i0 Tryz.underlying27 hi Rg.enc_len rfl HMa.out rfl (k:=q) rfl (by omega) ?_;intro hs1)
       | (at_builtin;go_loud (refine kA rfl _ _ 27 rfl i0 z0 24 Tryz.underlying27 hi hz0 hz1 hz2 hz3 Rg.enc_len (by omega) Rg.enc_one rfl HOa.out rfl hs1 (by unfold maxLen;simp only[List.length_nil];omega) (by simp only[List.length_nil];omega) (by simp) ?_)))
      intro v1 wb ho1 hg1' hb1;have hb1':=(aA wq (.cells #[] 125)).trans hb1;have HB1':=hW_ hb1';have f0:=eA hb1' _ _ e0;have f1:=eA hb1' _ _ e1;have f2:=eA hb1' _ _ e2;have HOb:Hid (iA Rg.enc 3 125 (wb.alloc (.cells #[.int .i64 lo, .int .i64 hi', .int .i64 cl] 125)) wq.heap.size v1 (S'.take q)):=hW_ (ho1.alloc _);have HSb:Hid (SlF 3 (wb.alloc (.cells #[.int .i64 lo, .int .i64 hi', .int .i64 cl] 125)) (some ⟨wb.heap.size,0,none⟩) 1 1 (flat Rg.enc [⟨lo,hi',cl⟩])):=hW_ (SlF.one Rg.enc_len wb ⟨lo,hi',cl⟩ 125 (cs:=#[.int .i64 lo, .int .i64 hi', .int .i64 cl]) rfl);have HSZ':Hid (wq.heap.size<=wb.heap.size):=hW_ hb1'.size;clear ho1 hg1' hb1 hb1' e0 e1 e2;go_wp2_with (at_builtin;go_loud (refine kA rfl _ _ 27 rfl i0 z0 24 Tryz.underlying27 hi hz0 hz1 hz2 hz3 Rg.enc_len (by omega) Rg.enc_one rfl HOb.out rfl HSb.out (by have:=HLTk.out;unfold maxLen;omega) (by have:=HLTk.out;omega) (by have:=HSZ'.out;simp;omega) ?_));intro v2 wc ho2 hg2 hb2;have hb2':=(HB1'.out.alloc HB1'.out.size _).trans hb2;have HB2':=hW_ hb2';have HMc:Hid (SlF 3 wc (some ⟨b',of',none⟩) k5 vc (flat Rg.enc S')):=hW_ (HMq.out.below hb2');have HOc:=hW_ ho2;have HSZ2:Hid (wq.heap.size<=wc.heap.size):=hW_ hb2'.size;clear ho2 hg2 hb2 hb2' f0 f1 f2;go_wp2_with (first
       | (refine iC (enc:=Rg.enc) rfl _ _ _ rfl i0 Tryz.underlying27 hi hz1 Rg.enc_len rfl HMc.out rfl (k:=q) rfl (by omega) ?_;intro ao' hs3 hao3)
       | (at_builtin;go_loud (refine kA rfl _ _ 27 rfl i0 z0 24 Tryz.underlying27 hi hz0 hz1 hz2 hz3 Rg.enc_len (by omega) Rg.enc_one rfl HOc.out rfl hs3 (by have:=HLTk.out;unfold maxLen;rw[List.length_append];simp only[List.length_singleton];omega) (by have:=HLTk.out;rw[List.length_append];simp only[List.length_singleton];omega) HSZ2.out ?_)))
      intro v3 wd ho3 hg3 hb3;have HO9:=hW_ (ho3.mono (Nat.le_trans HB0.out.size HBQ.out.size));rw[HINS.out]at HO9;have HB9:=hW_ (HBQ.out.trans ((HB2'.out.trans hb3).mono HBQ.out.size));clear ho3 hg3 hb3;go_wp2_with (fail);go_roundw
      case rel=>exact⟨k5+1,by omega,by go_num,HO9.out,HB9.out⟩
      case measure=>simp[intOf];omega
    ·obtain rfl:q=k5:=by omega
     have HST:Hid (q=S'.length\/¬(rg S' q).lo<lo):=hW_ (.inl HSL'.out.symm);have gq:decide ((q:Int)<(q:Int))=false:=by simp
     have gq2:decide (q<q)=false:=by simp
     go_wp2_with (fail);go_quiet (fail);clear gq gq2;obtain⟨wq,hwq⟩:∃wq,(wi.drewN nn).drewN nq=wq:=⟨_,rfl⟩;have HINS:Hid (S'.take q++⟨lo,hi',cl⟩::S'.drop q=cM usU (q+1)):=hW_ (by
      rw[wM (by rw[gZ];omega),HSK.out,HS'.out];exact(dZ (by rw[<-HS'.out,HSL'.out];omega) (fun j hj=>by rw[<-HS'.out];exact HQ.out j hj) (by rw[<-HS'.out];exact HST.out.imp_right (fun h=>by simp only[]at h |-;omega))).symm)
     have HLTk:Hid ((S'.take q).length=q):=hW_ (by rw[List.length_take,HSL'.out];omega);have HBQ:Hid (Below w0.heap.size w0 wq):=hW_ (by rw[<-hwq];exact bA (bA HB5.out _) _);have hqi:Below wi.heap.size wi wq:=by rw[<-hwq];exact bA (bA (Below.refl _ _) _) _
     have HMa:Hid (SlF 3 (wq.alloc (.cells #[] 125)) vo q vc (flat Rg.enc S')):=hW_ ((HVS.out.below hqi).alloc _);have HMq:Hid (SlF 3 wq vo q vc (flat Rg.enc S')):=hW_ (HVS.out.below hqi);have HOa:Hid (iA Rg.enc 3 125 (wq.alloc (.cells #[] 125)) wq.heap.size (.slice (some ⟨wq.heap.size,0,none⟩) 0 0) []):=hW_ (iA.made0 wq);have e0:=eA hqi _ _ d0;have e1:=eA hqi _ _ d1;have e2:=eA hqi _ _ d2;rw[hwq];clear hwq hqi d0 d1 d2;go_wp2_with (first
      | (refine cC (enc:=Rg.enc) rfl _ _ _ rfl i0 Tryz.underlying27 hi Rg.enc_len rfl HMa.out rfl (k:=q) rfl (by omega) ?_;intro hs1)
      | (at_builtin;go_loud (refine kA rfl _ _ 27 rfl i0 z0 24 Tryz.underlying27 hi hz0 hz1 hz2 hz3 Rg.enc_len (by omega) Rg.enc_one rfl HOa.out rfl hs1 (by unfold maxLen;simp only[List.length_nil];omega) (by simp only[List.length_nil];omega) (by simp) ?_)))
     intro v1 wb ho1 hg1' hb1;have hb1':=(aA wq (.cells #[] 125)).trans hb1;have HB1':=hW_ hb1';have f0:=eA hb1' _ _ e0;have f1:=eA hb1' _ _ e1;have f2:=eA hb1' _ _ e2;have HOb:Hid (iA Rg.enc 3 125 (wb.alloc (.cells #[.int .i64 lo, .int .i64 hi', .int .i64 cl] 125)) wq.heap.size v1 (S'.take q)):=hW_ (ho1.alloc _);have HSb:Hid (SlF 3 (wb.alloc (.cells #[.int .i64 lo, .int .i64 hi', .int .i64 cl] 125)) (some ⟨wb.heap.size,0,none⟩) 1 1 (flat Rg.enc [⟨lo,hi',cl⟩])):=hW_ (SlF.one Rg.enc_len wb ⟨lo,hi',cl⟩ 125 (cs:=#[.int .i64 lo, .int .i64 hi', .int .i64 cl]) rfl);have HSZ':Hid (wq.heap.size<=wb.heap.size):=hW_ hb1'.size;clear ho1 hg1' hb1 hb1' e0 e1 e2;go_wp2_with (at_builtin;go_loud (refine kA rfl _ _ 27 rfl i0 z0 24 Tryz.underlying27 hi hz0 hz1 hz2 hz3 Rg.enc_len (by omega) Rg.enc_one rfl HOb.out rfl HSb.out (by have:=HLTk.out;unfold maxLen;omega) (by have:=HLTk.out;omega) (by have:=HSZ'.out;simp;omega) ?_));intro v2 wc ho2 hg2 hb2;have hb2':=(HB1'.out.alloc HB1'.out.size _).trans hb2;have HB2':=hW_ hb2';have HMc:Hid (SlF 3 wc vo q vc (flat Rg.enc S')):=hW_ (HMq.out.below hb2');have HOc:=hW_ ho2;have HSZ2:Hid (wq.heap.size<=wc.heap.size):=hW_ hb2'.size;clear ho2 hg2 hb2 hb2' f0 f1 f2;go_wp2_with (first
      | (refine iC (enc:=Rg.enc) rfl _ _ _ rfl i0 Tryz.underlying27 hi hz1 Rg.enc_len rfl HMc.out rfl (k:=q) rfl (by omega) ?_;intro ao' hs3 hao3)
      | (at_builtin;go_loud (refine kA rfl _ _ 27 rfl i0 z0 24 Tryz.underlying27 hi hz0 hz1 hz2 hz3 Rg.enc_len (by omega) Rg.enc_one rfl HOc.out rfl hs3 (by have:=HLTk.out;unfold maxLen;rw[List.length_append];simp only[List.length_singleton];omega) (by have:=HLTk.out;rw[List.length_append];simp only[List.length_singleton];omega) HSZ2.out ?_)))
     intro v3 wd ho3 hg3 hb3;have HO9:=hW_ (ho3.mono (Nat.le_trans HB0.out.size HBQ.out.size));rw[HINS.out]at HO9;have HB9:=hW_ (HBQ.out.trans ((HB2'.out.trans hb3).mono HBQ.out.size));clear ho3 hg3 hb3;go_wp2_with (fail);go_roundw
     case rel=>exact⟨q+1,by omega,by go_num,HO9.out,HB9.out⟩
     case measure=>simp[intOf];omega
  ·obtain rfl:k5=51:=by omega
   have HO9:Hid (iA Rg.enc 3 125 wr w.heap.size (.slice vo 51 vc) usR):=hW_ (by
    have h:=HO5.out;rw[HS'.out,aDM]at h;exact h)
   go_wp2_with (fail);go_ret;exact⟨_,rfl,HO9.out,HB0.out.trans (HB5.out.mono HB0.out.size)⟩
end Go.Proofs.YtahiballegpbgaaGreatDoor
