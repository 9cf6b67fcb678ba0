/- Walk: the document's scanner: wide. -/
import Derived.Test.YtimkkkdabmhedaaGreatDoorF38
import Derived.Test.YtimkkkdabmhedaaGreatDoorF37
import Derived.Test.YtimkkkdabmhedaaGreatDoorF31
import Derived.Test.YtimkkkdabmhedaaGreatDoorF30
import Derived.Deep.CutRange
set_option linter.unusedVariables false
set_option maxHeartbeats 1000000
set_option maxRecDepth 100000
namespace Go.Proofs.YtimkkkdabmhedaaGreatDoor
open Go.RowKit
theorem xV {L:List Pt} {i:Nat} {c:Int} (h:i<L.length):isC L i c=decide ((ptC L i).cls=c):=by
 simp[isC,ptC,h]
theorem ix_cl {L:List Pt} {i:Nat} (h:i<L.length):ix (L.map Pt.cls) i=(ptC L i).cls:=by
 simp[ix,List.getD,ptC,h]
theorem xU {L:List Pt} {po co no:Option Addr} {pc cc nc m:Nat} {sn:Int} (w:World) (hP:PsR w po co no pc cc nc m L) (h0:0<m) (hl:m<=1000000) (hcl:0<=(ptC L 0).cls/\(ptC L 0).cls<=4):
  Calls Tryz.prog 106 #[.agg #[.slice po m pc, .slice co m cc, .slice no m nc, .int .i64 sn]] w fun e w'=>e= .returned (aB (bE L))/\Below w.heap.size w w':=by
 obtain⟨bC,oC,hao,hcC⟩:=SlI.at_ hP.c h0;subst hao;have HM:=hW_ hP.len;obtain⟨w0,hw0⟩:∃w0,(w.alloc (.cells #[.slice po m pc, .slice (some ⟨bC,oC,none⟩) m cc, .slice no m nc, .int .i64 sn] 156)).alloc (.cells #[.int .i64 0, .int .i64 0] 159)=w0:=⟨_,rfl⟩;have hb0:Below w.heap.size w w0:=hw0▸(aA w _).alloc (by simp) _;have hx0:w0.heap[w.heap.size]?=some (.cells #[.slice po m pc, .slice (some ⟨bC,oC,none⟩) m cc, .slice no m nc, .int .i64 sn] 156):=by rw[<-hw0];exact(Below.heap_alloc _ _ _ (by simp)).trans (heap_alloc_new w _)
 have hx1:w0.heap[w.heap.size+1]?=some (.cells #[.int .i64 0, .int .i64 0] 159):=by
  rw[<-hw0];have:=heap_alloc_new (w.alloc (.cells #[.slice po m pc, .slice (some ⟨bC,oC,none⟩) m cc, .slice no m nc, .int .i64 sn] 156)) (.cells #[.int .i64 0, .int .i64 0] 159);simpa using this
 have HSZ0:=hW_ (show w.heap.size<w0.heap.size by rw[<-hw0];simp;omega);have HSZ1:=hW_ (show w.heap.size+1<w0.heap.size by rw[<-hw0];simp);obtain⟨b0,b1,b2,b3⟩:=vA hx0;obtain⟨a0,a1,af⟩:=tA hx1;have HP:=hW_ (hP.below hb0);have HB0:=hW_ hb0;have HX0:=hW_ hx0;have HX1:=hW_ hx1;have HW0:=hW_ hw0;have HCC:=hW_ (fun(w':World) (h:Below w0.heap.size w0 w')=>(show w'.cell? ⟨bC,oC,none⟩=some (.int .i64 (ptC L 0).cls) by
  rw[ix_cl (by rw[hP.len];exact h0),Nat.add_zero]at hcC;exact dA h _ _ (dA hb0 _ _ hcC)))
 have HE:=hW_ (fun(w':World) (h:Below w0.heap.size w0 w')=>fK (sn:=sn) true w' (HP.out.below h) hl);have HR1:=hW_ (fun(w':World) (h:Below w0.heap.size w0 w')=>xE (sn:=sn) 0 1 w' (HP.out.below h) (by omega) hl);have HRR:=hW_ (fun(w':World) (h:Below w0.heap.size w0 w')=>xE (sn:=sn) 1 1 w' (HP.out.below h) (by omega) hl);have HR2:=hW_ (fun(w':World) (h:Below w0.heap.size w0 w')=>xE (sn:=sn) 0 2 w' (HP.out.below h) (by omega) hl);have HLD:=hW_ (fun(w':World) (h:Below w0.heap.size w0 w')=>yH (sn:=sn) 0 w' (HP.out.below h) h0 hl);have kld:=zC L 0;have kr4:=B1 L (eB L 0) 4;rw[HM.out]at kld kr4;have HR4:=hW_ (fun(w':World) (h:Below w0.heap.size w0 w')=>xE (sn:=sn) (eB L 0) 4 w' (HP.out.below h) (by omega) hl);have HSP:=hW_ (fun(w':World) (h:Below w0.heap.size w0 w')=>xG (sn:=sn) 0 w' (HP.out.below h) (by omega) hl);have HBL:=hW_ (fun(w':World) (h:Below w0.heap.size w0 w')=>mK (sn:=sn) w' (HP.out.below h) hl);have HMa:=hW_ (fun(n:Nat) (w':World) (hn:n<=10000000)=>sC n w' hn);have k1:=B1 L 0 1;have k2:=B1 L 1 1;have k3:=B1 L 0 2;have k4:=bG L 0;have k5:=J9 L (spN L 0);rw[HM.out]at k1 k2 k3 k4;have hF:bE L=bE L:=rfl
 conv at hF=>rhs;unfold bE
 have y1:0<A8 L 0 1↔(ptC L 0).cls=1:=by rw[<-nQ,xV (by rw[HM.out];exact h0),decide_eq_true_eq]
 have y2:0<A8 L 0 2↔(ptC L 0).cls=2:=by rw[<-nQ,xV (by rw[HM.out];exact h0),decide_eq_true_eq]
 have y3:(jH L=true/\isC L 1 1=true)↔(((ptC L 0).cls=0\/(ptC L 0).cls=3)/\0<A8 L 1 1):=by rw[nQ];unfold jH;simp
 simp only[y3]at hF;obtain⟨y,hy⟩:∃q,(ptC L 0).cls=q:=⟨_,rfl⟩;rw[hy]at HCC;rw[hy]at hcl;rw[hy]at y1;rw[hy]at y2;rw[hy]at hF;obtain⟨e,he⟩:∃q,C5 L true=q:=⟨_,rfl⟩;rw[he]at HE;rw[he]at hF;obtain⟨r1,hr1⟩:∃q,A8 L 0 1=q:=⟨_,rfl⟩;rw[hr1]at HR1;rw[hr1]at hF;rw[hr1]at k1;rw[hr1]at y1;obtain⟨rr,hrr⟩:∃q,A8 L 1 1=q:=⟨_,rfl⟩;rw[hrr]at HRR;rw[hrr]at hF;rw[hrr]at k2;obtain⟨r2,hr2⟩:∃q,A8 L 0 2=q:=⟨_,rfl⟩;rw[hr2]at HR2;rw[hr2]at hF;rw[hr2]at k3;rw[hr2]at y2;obtain⟨r4,hr4⟩:∃q,A8 L (eB L 0) 4=q:=⟨_,rfl⟩;rw[hr4]at HR4;rw[hr4]at hF;rw[hr4]at kr4;obtain⟨ld,hld⟩:∃q,eB L 0=q:=⟨_,rfl⟩;rw[hld]at HLD;rw[hld]at HR4;rw[hld]at hF;rw[hld]at kld;rw[hld]at kr4;obtain⟨sp,hsp⟩:∃q,spN L 0=q:=⟨_,rfl⟩;rw[hsp]at HSP;rw[hsp]at hF;rw[hsp]at k4;rw[hsp]at k5;obtain⟨ln,hln⟩:∃q,tC L sp=q:=⟨_,rfl⟩;rw[hln]at hF;rw[hln]at k5;have HLN:=hW_ hln;have w1a:IntKind.i64.wrap (1+(rr:Int))=((1+rr:Nat):Int):=by rw[IntKind.wrap_i64];omega
 have w1b:IntKind.i64.wrap ((ld:Int)+(r4:Int))=((ld+r4:Nat):Int):=by rw[IntKind.wrap_i64];omega
 have w1c:IntKind.i64.wrap ((sp:Int)+1)=((sp+1:Nat):Int):=by rw[IntKind.wrap_i64];omega
 have HMX:=hW_ (show r1<=1000000/\rr<=1000000/\r2<=1000000/\ld+r4<=2000000/\sp<=m by omega);clear hP hb0 hx0 hx1 hw0 hy he hr1 hrr hr2 hr4 hld hsp hln y3 kld kr4 k1 k2 k3 k4 k5 hcC
 by_cases c0:0<e
 ·have g0:decide ((0:Int)<(e:Int))=true:=by simp;omega
  rw[if_pos c0]at hF;have HF:=hW_ hF;clear hF y1 y2 hcl;go_enter Tryz.func106,Tryz.ntmps106;go_wp2_with (fail);rw[HW0.out];go_wp2_with (fail);go_at_call 138;refine(HE.out _ (Below.refl _ _)).mono ?_
  rintro e w1 ⟨rfl,hb1⟩;have HB1:=hW_ (show Below w0.heap.size w0 w1 from hb1);clear hb1 b0 b1 b2 b3 a0 a1 af;obtain⟨b0,b1,b2,b3⟩:=vA ((HB1.out.block _ HSZ0.out).trans HX0.out);obtain⟨a0,a1,af⟩:=tA ((HB1.out.block _ HSZ1.out).trans HX1.out);go_wp2_with (fail);refine bodyPost_ret (v:=aB (e,e)) ?_ rfl ⟨by rw[HF.out],sA (HB0.out.trans (HB1.out.mono HB0.out.size)) (by omega) _ _⟩
  simp[results,Tryz.results106,go_sem,aB,a0,a1]
 have g0:decide ((0:Int)<(e:Int))=false:=by simp;omega
 rw[if_neg c0]at hF
 by_cases cy1:y=1
 ·have gy:(y==1)=true:=by simpa using cy1
  rw[if_pos (y1.2 cy1)]at hF;have HF:=hW_ hF;have hmx:=HMX.out;have hr1b:r1<=1000000:=hmx.1;clear hF y1 y2 hcl cy1 hmx;go_enter Tryz.func106,Tryz.ntmps106;go_wp2_with (fail);rw[HW0.out];go_wp2_with (fail);go_at_call 138;refine(HE.out _ (Below.refl _ _)).mono ?_
  rintro e w1 ⟨rfl,hb1⟩;have HB1:=hW_ (show Below w0.heap.size w0 w1 from hb1);clear hb1 b0 b1 b2 b3 a0 a1 af;obtain⟨b0,b1,b2,b3⟩:=vA ((HB1.out.block _ HSZ0.out).trans HX0.out);obtain⟨a0,a1,af⟩:=tA ((HB1.out.block _ HSZ1.out).trans HX1.out);have hcc:=HCC.out _ HB1.out;go_wp2_with (fail);go_at_call 141;refine(HR1.out _ (HB1.out)).mono ?_
  rintro e w2 ⟨rfl,hb2⟩;have HB2:=hW_ (show Below w0.heap.size w0 w2 from HB1.out.trans (hb2.mono HB1.out.size));clear hb2 b0 b1 b2 b3 a0 a1 af;obtain⟨b0,b1,b2,b3⟩:=vA ((HB2.out.block _ HSZ0.out).trans HX0.out);obtain⟨a0,a1,af⟩:=tA ((HB2.out.block _ HSZ1.out).trans HX1.out);clear hcc;go_wp2_with (fail);go_at_call 137;refine(HMa.out r1 _ (by omega)).mono ?_
  rintro e w3 ⟨rfl,hb3⟩;unfold aB;have HB3:=hW_ (show Below w0.heap.size w0 w3 from HB2.out.trans (hb3.mono HB2.out.size));clear hb3 b0 b1 b2 b3 a0 a1 af;obtain⟨b0,b1,b2,b3⟩:=vA ((HB3.out.block _ HSZ0.out).trans HX0.out);obtain⟨a0,a1,af⟩:=tA ((HB3.out.block _ HSZ1.out).trans HX1.out);go_wp2_with (fail);refine bodyPost_ret (v:=aB (r1,r1+1)) ?_ rfl ⟨by rw[HF.out],sA (HB0.out.trans (HB3.out.mono HB0.out.size)) (by omega) _ _⟩
  simp[results,Tryz.results106,go_sem,aB,a0,a1]
 have gy1:(y==1)=false:=by simpa using cy1
 rw[if_neg (fun h=>cy1 (y1.1 h))]at hF
 by_cases cy2:y=2
 ·have gy2:(y != 2)=false:=by simpa using cy2
  rw[if_neg (by omega),if_pos (y2.2 cy2)]at hF;have hr2:=y2.2 cy2;have hr2b:r2<=1000000:=HMX.out.2.2.1
  by_cases cr:3<=r2
  ·have gr:decide ((3:Int)<=(r2:Int))=true:=by simp;omega
   have HF:Hid (bE L=(3,3)):=hW_ (by rw[hF];simp;omega);clear hF y1 y2 hcl cy1 cy2;go_enter Tryz.func106,Tryz.ntmps106;go_wp2_with (fail);rw[HW0.out];go_wp2_with (fail);go_at_call 138;refine(HE.out _ (Below.refl _ _)).mono ?_
   rintro e w1 ⟨rfl,hb1⟩;have HB1:=hW_ (show Below w0.heap.size w0 w1 from hb1);clear hb1 b0 b1 b2 b3 a0 a1 af;obtain⟨b0,b1,b2,b3⟩:=vA ((HB1.out.block _ HSZ0.out).trans HX0.out);obtain⟨a0,a1,af⟩:=tA ((HB1.out.block _ HSZ1.out).trans HX1.out);have hcc:=HCC.out _ HB1.out;go_wp2_with (fail);go_at_call 141;refine(HR2.out _ (HB1.out)).mono ?_
   rintro e w2 ⟨rfl,hb2⟩;have HB2:=hW_ (show Below w0.heap.size w0 w2 from HB1.out.trans (hb2.mono HB1.out.size));clear hb2 b0 b1 b2 b3 a0 a1 af;obtain⟨b0,b1,b2,b3⟩:=vA ((HB2.out.block _ HSZ0.out).trans HX0.out);obtain⟨a0,a1,af⟩:=tA ((HB2.out.block _ HSZ1.out).trans HX1.out);clear hcc;go_wp2_with (fail);refine bodyPost_ret (v:=aB (3,3)) ?_ rfl ⟨by rw[HF.out],sA (HB0.out.trans (HB2.out.mono HB0.out.size)) (by omega) _ _⟩
   simp[results,Tryz.results106,go_sem,aB,a0,a1]
  ·have gr:decide ((3:Int)<=(r2:Int))=false:=by simp;omega
   have gr2:decide ((0:Int)<(r2:Int))=true:=by simp;omega
   have HF:Hid (bE L=(r2,r2+1)):=hW_ (by rw[hF];simp;omega);clear hF y1 y2 hcl cy1 cy2;go_enter Tryz.func106,Tryz.ntmps106;go_wp2_with (fail);rw[HW0.out];go_wp2_with (fail);go_at_call 138;refine(HE.out _ (Below.refl _ _)).mono ?_
   rintro e w1 ⟨rfl,hb1⟩;have HB1:=hW_ (show Below w0.heap.size w0 w1 from hb1);clear hb1 b0 b1 b2 b3 a0 a1 af;obtain⟨b0,b1,b2,b3⟩:=vA ((HB1.out.block _ HSZ0.out).trans HX0.out);obtain⟨a0,a1,af⟩:=tA ((HB1.out.block _ HSZ1.out).trans HX1.out);have hcc:=HCC.out _ HB1.out;go_wp2_with (fail);go_at_call 141;refine(HR2.out _ (HB1.out)).mono ?_
   rintro e w2 ⟨rfl,hb2⟩;have HB2:=hW_ (show Below w0.heap.size w0 w2 from HB1.out.trans (hb2.mono HB1.out.size));clear hb2 b0 b1 b2 b3 a0 a1 af;obtain⟨b0,b1,b2,b3⟩:=vA ((HB2.out.block _ HSZ0.out).trans HX0.out);obtain⟨a0,a1,af⟩:=tA ((HB2.out.block _ HSZ1.out).trans HX1.out);clear hcc;go_wp2_with (fail);go_at_call 137;refine(HMa.out r2 _ (by omega)).mono ?_
   rintro e w3 ⟨rfl,hb3⟩;unfold aB;have HB3:=hW_ (show Below w0.heap.size w0 w3 from HB2.out.trans (hb3.mono HB2.out.size));clear hb3 b0 b1 b2 b3 a0 a1 af;obtain⟨b0,b1,b2,b3⟩:=vA ((HB3.out.block _ HSZ0.out).trans HX0.out);obtain⟨a0,a1,af⟩:=tA ((HB3.out.block _ HSZ1.out).trans HX1.out);go_wp2_with (fail);refine bodyPost_ret (v:=aB (r2,r2+1)) ?_ rfl ⟨by rw[HF.out],sA (HB0.out.trans (HB3.out.mono HB0.out.size)) (by omega) _ _⟩
   simp[results,Tryz.results106,go_sem,aB,a0,a1]
 have gy2:(y != 2)=true:=by simpa using cy2
 have hr2:¬0<r2:=fun h=>cy2 (y2.1 h)
 obtain rfl:r2=0:=by omega
 rw[if_neg (show¬0<0 by omega)]at hF
 by_cases cy4:y=4
 ·have gy4:(y != 4)=false:=by simpa using cy4
  rw[if_neg (by omega)]at hF;clear y1 y2 hcl cy1 cy2 cy4 hr2
  by_cases cl:0<ld
  ·have gl:decide ((0:Int)<(ld:Int))=true:=by simp;omega
   rw[if_pos cl]at hF;have HF:=hW_ hF;have hldb:ld+r4<=2000000:=HMX.out.2.2.2.1;clear hF;go_enter Tryz.func106,Tryz.ntmps106;go_wp2_with (fail);rw[HW0.out];go_wp2_with (fail);go_at_call 138;refine(HE.out _ (Below.refl _ _)).mono ?_
   rintro e w1 ⟨rfl,hb1⟩;have HB1:=hW_ (show Below w0.heap.size w0 w1 from hb1);clear hb1 b0 b1 b2 b3 a0 a1 af;obtain⟨b0,b1,b2,b3⟩:=vA ((HB1.out.block _ HSZ0.out).trans HX0.out);obtain⟨a0,a1,af⟩:=tA ((HB1.out.block _ HSZ1.out).trans HX1.out);have hcc:=HCC.out _ HB1.out;go_wp2_with (fail);go_at_call 141;refine(HR2.out _ (HB1.out)).mono ?_
   rintro e w2 ⟨rfl,hb2⟩;have HB2:=hW_ (show Below w0.heap.size w0 w2 from HB1.out.trans (hb2.mono HB1.out.size));clear hb2 b0 b1 b2 b3 a0 a1 af;obtain⟨b0,b1,b2,b3⟩:=vA ((HB2.out.block _ HSZ0.out).trans HX0.out);obtain⟨a0,a1,af⟩:=tA ((HB2.out.block _ HSZ1.out).trans HX1.out);clear hcc;go_wp2_with (fail);go_at_call 139;refine(HLD.out _ (HB2.out)).mono ?_
   rintro e w3 ⟨rfl,hb3⟩;have HB3:=hW_ (show Below w0.heap.size w0 w3 from HB2.out.trans (hb3.mono HB2.out.size));clear hb3 b0 b1 b2 b3 a0 a1 af;obtain⟨b0,b1,b2,b3⟩:=vA ((HB3.out.block _ HSZ0.out).trans HX0.out);obtain⟨a0,a1,af⟩:=tA ((HB3.out.block _ HSZ1.out).trans HX1.out);go_wp2_with (fail);go_at_call 141;refine(HR4.out _ (HB3.out)).mono ?_
   rintro e w4 ⟨rfl,hb4⟩;have HB4:=hW_ (show Below w0.heap.size w0 w4 from HB3.out.trans (hb4.mono HB3.out.size));clear hb4 b0 b1 b2 b3 a0 a1 af;obtain⟨b0,b1,b2,b3⟩:=vA ((HB4.out.block _ HSZ0.out).trans HX0.out);obtain⟨a0,a1,af⟩:=tA ((HB4.out.block _ HSZ1.out).trans HX1.out);go_wp2_with (fail);go_at_call 137;refine(HMa.out (ld+r4) _ (by omega)).mono ?_
   rintro e w5 ⟨rfl,hb5⟩;unfold aB;have HB5:=hW_ (show Below w0.heap.size w0 w5 from HB4.out.trans (hb5.mono HB4.out.size));clear hb5 b0 b1 b2 b3 a0 a1 af;obtain⟨b0,b1,b2,b3⟩:=vA ((HB5.out.block _ HSZ0.out).trans HX0.out);obtain⟨a0,a1,af⟩:=tA ((HB5.out.block _ HSZ1.out).trans HX1.out);go_wp2_with (fail);refine bodyPost_ret (v:=aB (ld+r4,ld+r4+1)) ?_ rfl ⟨by rw[HF.out],sA (HB0.out.trans (HB5.out.mono HB0.out.size)) (by omega) _ _⟩
   simp[results,Tryz.results106,go_sem,aB,a0,a1]
  ·have gl:decide ((0:Int)<(ld:Int))=false:=by simp;omega
   rw[if_neg cl]at hF;have HFD:=hW_ hF;have hspm:sp<=m:=HMX.out.2.2.2.2;clear hF;go_enter Tryz.func106,Tryz.ntmps106;go_wp2_with (fail);rw[HW0.out];go_wp2_with (fail);go_at_call 138;refine(HE.out _ (Below.refl _ _)).mono ?_
   rintro e w1 ⟨rfl,hb1⟩;have HB1:=hW_ (show Below w0.heap.size w0 w1 from hb1);clear hb1 b0 b1 b2 b3 a0 a1 af;obtain⟨b0,b1,b2,b3⟩:=vA ((HB1.out.block _ HSZ0.out).trans HX0.out);obtain⟨a0,a1,af⟩:=tA ((HB1.out.block _ HSZ1.out).trans HX1.out);have hcc:=HCC.out _ HB1.out;go_wp2_with (fail);go_at_call 141;refine(HR2.out _ (HB1.out)).mono ?_
   rintro e w2 ⟨rfl,hb2⟩;have HB2:=hW_ (show Below w0.heap.size w0 w2 from HB1.out.trans (hb2.mono HB1.out.size));clear hb2 b0 b1 b2 b3 a0 a1 af;obtain⟨b0,b1,b2,b3⟩:=vA ((HB2.out.block _ HSZ0.out).trans HX0.out);obtain⟨a0,a1,af⟩:=tA ((HB2.out.block _ HSZ1.out).trans HX1.out);clear hcc;go_wp2_with (fail);go_at_call 139;refine(HLD.out _ (HB2.out)).mono ?_
   rintro e w3 ⟨rfl,hb3⟩;have HB3:=hW_ (show Below w0.heap.size w0 w3 from HB2.out.trans (hb3.mono HB2.out.size));clear hb3 b0 b1 b2 b3 a0 a1 af;obtain⟨b0,b1,b2,b3⟩:=vA ((HB3.out.block _ HSZ0.out).trans HX0.out);obtain⟨a0,a1,af⟩:=tA ((HB3.out.block _ HSZ1.out).trans HX1.out);go_wp2_with (fail);go_at_call 136;refine(HSP.out _ (HB3.out)).mono ?_
   rintro e w4 ⟨rfl,hb4⟩;have HB4:=hW_ (show Below w0.heap.size w0 w4 from HB3.out.trans (hb4.mono HB3.out.size));clear hb4 b0 b1 b2 b3 a0 a1 af;obtain⟨b0,b1,b2,b3⟩:=vA ((HB4.out.block _ HSZ0.out).trans HX0.out);obtain⟨a0,a1,af⟩:=tA ((HB4.out.block _ HSZ1.out).trans HX1.out);go_wp2_with (fail);go_loopw [5,6] (fun l a wr=>∃k:Nat,l= .int .i64 ((tC L k:Nat):Int)/\a= .int .i64 k/\k<=sp/\wr=w4) (fun _ a _=>sp-(intOf a).toNat)
   case atStart=>exact⟨0,rfl,rfl,by omega,rfl⟩
   case round=>
    obtain⟨k,rfl,rfl,hk,rfl⟩:=hrel;have hw2:IntKind.i64.wrap ((k:Int)+1)=((k+1:Nat):Int):=by rw[IntKind.wrap_i64];omega
    by_cases hlt:k<sp
    ·have hkm:k<m:=by omega
     obtain⟨bq,oq,hao,hc⟩:=SlI.at_ (HP.out.below HB4.out).c hkm;rw[ix_cl (by rw[HM.out];exact hkm)]at hc
     cases hao
     obtain⟨z,hz⟩:∃z,(ptC L k).cls=z:=⟨_,rfl⟩;rw[hz]at hc;have HI:Hid (isC L k 4=decide (z=4)):=hW_ (by rw[xV (by rw[HM.out];exact hkm),hz]);have gk:decide ((k:Int)<(sp:Int))=true:=by simp;omega
     clear hz
     by_cases z4:z=4
     ·have gz:(z==4)=true:=by simpa using z4
      have HLN2:Hid (tC L (k+1)=k+1):=hW_ (by rw[tC,if_pos (by rw[HI.out];simpa using z4)]);clear z4;go_wp2_with (fail);go_roundw
      case rel=>exact⟨k+1,by rw[HLN2.out]<;>go_num,by go_num,by omega,by first | rfl | trivial⟩
      case measure=>simp[intOf];omega
     ·have gz:(z==4)=false:=by simpa using z4
      have HLN2:Hid (tC L (k+1)=tC L k):=hW_ (by rw[tC,if_neg (by rw[HI.out];simpa using z4)]);clear z4;go_wp2_with (fail);go_roundw
      case rel=>exact⟨k+1,by rw[HLN2.out]<;>go_num,by go_num,by omega,by first | rfl | trivial⟩
      case measure=>simp[intOf];omega
    ·obtain rfl:k=sp:=by omega
     have gk:decide ((k:Int)<(k:Int))=false:=by simp
     have HLNK:=hW_ HLN.out;rw[HLN.out]
     by_cases c5:0<ln
     ·have q5:decide ((0:Int)<(ln:Int))=true:=by simp;omega
      have HF:Hid (bE L=(ln,k+1)):=hW_ (by rw[HFD.out,if_pos c5]);go_wp2_with (fail);refine bodyPost_ret (v:=aB (ln,k+1)) ?_ rfl ⟨by rw[HF.out],sA (HB0.out.trans (HB4.out.mono HB0.out.size)) (by omega) _ _⟩
      simp[results,Tryz.results106,go_sem,aB,a0,a1]
     ·have q5:decide ((0:Int)<(ln:Int))=false:=by simp;omega
      have HF:Hid (bE L=rA L):=hW_ (by rw[HFD.out,if_neg c5]);go_wp2_with (fail);go_at_call 140;refine(HBL.out _ (HB4.out)).mono ?_
      rintro e w5 ⟨rfl,hb5⟩;unfold aB;have HB5:=hW_ (show Below w0.heap.size w0 w5 from HB4.out.trans (hb5.mono HB4.out.size));clear hb5 b0 b1 b2 b3 a0 a1 af;obtain⟨b0,b1,b2,b3⟩:=vA ((HB5.out.block _ HSZ0.out).trans HX0.out);obtain⟨a0,a1,af⟩:=tA ((HB5.out.block _ HSZ1.out).trans HX1.out);go_wp2_with (fail);refine bodyPost_ret (v:=aB (rA L)) ?_ rfl ⟨by rw[HF.out],sA (HB0.out.trans (HB5.out.mono HB0.out.size)) (by omega) _ _⟩
      simp[results,Tryz.results106,go_sem,aB,a0,a1]
 have gy4:(y != 4)=true:=by simpa using cy4
 by_cases crr:0<rr
 ·have gr:decide ((0:Int)<(rr:Int))=true:=by simp;omega
  rw[if_pos (show(y=0\/y=3)/\0<rr from⟨by omega,crr⟩)]at hF;have HF:=hW_ hF;have hrrb:rr<=1000000:=HMX.out.2.1;clear hF y1 y2 hcl cy1 cy2 cy4 hr2;go_enter Tryz.func106,Tryz.ntmps106;go_wp2_with (fail);rw[HW0.out];go_wp2_with (fail);go_at_call 138;refine(HE.out _ (Below.refl _ _)).mono ?_
  rintro e w1 ⟨rfl,hb1⟩;have HB1:=hW_ (show Below w0.heap.size w0 w1 from hb1);clear hb1 b0 b1 b2 b3 a0 a1 af;obtain⟨b0,b1,b2,b3⟩:=vA ((HB1.out.block _ HSZ0.out).trans HX0.out);obtain⟨a0,a1,af⟩:=tA ((HB1.out.block _ HSZ1.out).trans HX1.out);have hcc:=HCC.out _ HB1.out;go_wp2_with (fail);go_at_call 141;refine(HRR.out _ (HB1.out)).mono ?_
  rintro e w2 ⟨rfl,hb2⟩;have HB2:=hW_ (show Below w0.heap.size w0 w2 from HB1.out.trans (hb2.mono HB1.out.size));clear hb2 b0 b1 b2 b3 a0 a1 af;obtain⟨b0,b1,b2,b3⟩:=vA ((HB2.out.block _ HSZ0.out).trans HX0.out);obtain⟨a0,a1,af⟩:=tA ((HB2.out.block _ HSZ1.out).trans HX1.out);clear hcc;have hcc:=HCC.out _ HB2.out;go_wp2_with (fail);go_at_call 141;refine(HRR.out _ (HB2.out)).mono ?_
  rintro e w3 ⟨rfl,hb3⟩;have HB3:=hW_ (show Below w0.heap.size w0 w3 from HB2.out.trans (hb3.mono HB2.out.size));clear hb3 b0 b1 b2 b3 a0 a1 af;obtain⟨b0,b1,b2,b3⟩:=vA ((HB3.out.block _ HSZ0.out).trans HX0.out);obtain⟨a0,a1,af⟩:=tA ((HB3.out.block _ HSZ1.out).trans HX1.out);clear hcc;go_wp2_with (fail);go_at_call 137;refine(HMa.out (1+rr) _ (by omega)).mono ?_
  rintro e w4 ⟨rfl,hb4⟩;unfold aB;have HB4:=hW_ (show Below w0.heap.size w0 w4 from HB3.out.trans (hb4.mono HB3.out.size));clear hb4 b0 b1 b2 b3 a0 a1 af;obtain⟨b0,b1,b2,b3⟩:=vA ((HB4.out.block _ HSZ0.out).trans HX0.out);obtain⟨a0,a1,af⟩:=tA ((HB4.out.block _ HSZ1.out).trans HX1.out);go_wp2_with (fail);refine bodyPost_ret (v:=aB (1+rr,1+rr+1)) ?_ rfl ⟨by rw[HF.out],sA (HB0.out.trans (HB4.out.mono HB0.out.size)) (by omega) _ _⟩
  simp[results,Tryz.results106,go_sem,aB,a0,a1]
 ·have gr:decide ((0:Int)<(rr:Int))=false:=by simp;omega
  rw[if_neg (fun h=>crr h.2)]at hF;clear y1 y2 hcl cy1 cy2 cy4 hr2
  by_cases cl:0<ld
  ·have gl:decide ((0:Int)<(ld:Int))=true:=by simp;omega
   rw[if_pos cl]at hF;have HF:=hW_ hF;have hldb:ld+r4<=2000000:=HMX.out.2.2.2.1;clear hF;go_enter Tryz.func106,Tryz.ntmps106;go_wp2_with (fail);rw[HW0.out];go_wp2_with (fail);go_at_call 138;refine(HE.out _ (Below.refl _ _)).mono ?_
   rintro e w1 ⟨rfl,hb1⟩;have HB1:=hW_ (show Below w0.heap.size w0 w1 from hb1);clear hb1 b0 b1 b2 b3 a0 a1 af;obtain⟨b0,b1,b2,b3⟩:=vA ((HB1.out.block _ HSZ0.out).trans HX0.out);obtain⟨a0,a1,af⟩:=tA ((HB1.out.block _ HSZ1.out).trans HX1.out);have hcc:=HCC.out _ HB1.out;go_wp2_with (fail);go_at_call 141;refine(HRR.out _ (HB1.out)).mono ?_
   rintro e w2 ⟨rfl,hb2⟩;have HB2:=hW_ (show Below w0.heap.size w0 w2 from HB1.out.trans (hb2.mono HB1.out.size));clear hb2 b0 b1 b2 b3 a0 a1 af;obtain⟨b0,b1,b2,b3⟩:=vA ((HB2.out.block _ HSZ0.out).trans HX0.out);obtain⟨a0,a1,af⟩:=tA ((HB2.out.block _ HSZ1.out).trans HX1.out);clear hcc;have hcc:=HCC.out _ HB2.out;go_wp2_with (fail);go_at_call 141;refine(HR2.out _ (HB2.out)).mono ?_
   rintro e w3 ⟨rfl,hb3⟩;have HB3:=hW_ (show Below w0.heap.size w0 w3 from HB2.out.trans (hb3.mono HB2.out.size));clear hb3 b0 b1 b2 b3 a0 a1 af;obtain⟨b0,b1,b2,b3⟩:=vA ((HB3.out.block _ HSZ0.out).trans HX0.out);obtain⟨a0,a1,af⟩:=tA ((HB3.out.block _ HSZ1.out).trans HX1.out);clear hcc;go_wp2_with (fail);go_at_call 139;refine(HLD.out _ (HB3.out)).mono ?_
   rintro e w4 ⟨rfl,hb4⟩;have HB4:=hW_ (show Below w0.heap.size w0 w4 from HB3.out.trans (hb4.mono HB3.out.size));clear hb4 b0 b1 b2 b3 a0 a1 af;obtain⟨b0,b1,b2,b3⟩:=vA ((HB4.out.block _ HSZ0.out).trans HX0.out);obtain⟨a0,a1,af⟩:=tA ((HB4.out.block _ HSZ1.out).trans HX1.out);go_wp2_with (fail);go_at_call 141;refine(HR4.out _ (HB4.out)).mono ?_
   rintro e w5 ⟨rfl,hb5⟩;have HB5:=hW_ (show Below w0.heap.size w0 w5 from HB4.out.trans (hb5.mono HB4.out.size));clear hb5 b0 b1 b2 b3 a0 a1 af;obtain⟨b0,b1,b2,b3⟩:=vA ((HB5.out.block _ HSZ0.out).trans HX0.out);obtain⟨a0,a1,af⟩:=tA ((HB5.out.block _ HSZ1.out).trans HX1.out);go_wp2_with (fail);go_at_call 137;refine(HMa.out (ld+r4) _ (by omega)).mono ?_
   rintro e w6 ⟨rfl,hb6⟩;unfold aB;have HB6:=hW_ (show Below w0.heap.size w0 w6 from HB5.out.trans (hb6.mono HB5.out.size));clear hb6 b0 b1 b2 b3 a0 a1 af;obtain⟨b0,b1,b2,b3⟩:=vA ((HB6.out.block _ HSZ0.out).trans HX0.out);obtain⟨a0,a1,af⟩:=tA ((HB6.out.block _ HSZ1.out).trans HX1.out);go_wp2_with (fail);refine bodyPost_ret (v:=aB (ld+r4,ld+r4+1)) ?_ rfl ⟨by rw[HF.out],sA (HB0.out.trans (HB6.out.mono HB0.out.size)) (by omega) _ _⟩
   simp[results,Tryz.results106,go_sem,aB,a0,a1]
  ·have gl:decide ((0:Int)<(ld:Int))=false:=by simp;omega
   rw[if_neg cl]at hF;have HFD:=hW_ hF;have hspm:sp<=m:=HMX.out.2.2.2.2;clear hF;go_enter Tryz.func106,Tryz.ntmps106;go_wp2_with (fail);rw[HW0.out];go_wp2_with (fail);go_at_call 138;refine(HE.out _ (Below.refl _ _)).mono ?_
   rintro e w1 ⟨rfl,hb1⟩;have HB1:=hW_ (show Below w0.heap.size w0 w1 from hb1);clear hb1 b0 b1 b2 b3 a0 a1 af;obtain⟨b0,b1,b2,b3⟩:=vA ((HB1.out.block _ HSZ0.out).trans HX0.out);obtain⟨a0,a1,af⟩:=tA ((HB1.out.block _ HSZ1.out).trans HX1.out);have hcc:=HCC.out _ HB1.out;go_wp2_with (fail);go_at_call 141;refine(HRR.out _ (HB1.out)).mono ?_
   rintro e w2 ⟨rfl,hb2⟩;have HB2:=hW_ (show Below w0.heap.size w0 w2 from HB1.out.trans (hb2.mono HB1.out.size));clear hb2 b0 b1 b2 b3 a0 a1 af;obtain⟨b0,b1,b2,b3⟩:=vA ((HB2.out.block _ HSZ0.out).trans HX0.out);obtain⟨a0,a1,af⟩:=tA ((HB2.out.block _ HSZ1.out).trans HX1.out);clear hcc;have hcc:=HCC.out _ HB2.out;go_wp2_with (fail);go_at_call 141;refine(HR2.out _ (HB2.out)).mono ?_
   rintro e w3 ⟨rfl,hb3⟩;have HB3:=hW_ (show Below w0.heap.size w0 w3 from HB2.out.trans (hb3.mono HB2.out.size));clear hb3 b0 b1 b2 b3 a0 a1 af;obtain⟨b0,b1,b2,b3⟩:=vA ((HB3.out.block _ HSZ0.out).trans HX0.out);obtain⟨a0,a1,af⟩:=tA ((HB3.out.block _ HSZ1.out).trans HX1.out);clear hcc;go_wp2_with (fail);go_at_call 139;refine(HLD.out _ (HB3.out)).mono ?_
   rintro e w4 ⟨rfl,hb4⟩;have HB4:=hW_ (show Below w0.heap.size w0 w4 from HB3.out.trans (hb4.mono HB3.out.size));clear hb4 b0 b1 b2 b3 a0 a1 af;obtain⟨b0,b1,b2,b3⟩:=vA ((HB4.out.block _ HSZ0.out).trans HX0.out);obtain⟨a0,a1,af⟩:=tA ((HB4.out.block _ HSZ1.out).trans HX1.out);go_wp2_with (fail);go_at_call 136;refine(HSP.out _ (HB4.out)).mono ?_
   rintro e w5 ⟨rfl,hb5⟩;have HB5:=hW_ (show Below w0.heap.size w0 w5 from HB4.out.trans (hb5.mono HB4.out.size));clear hb5 b0 b1 b2 b3 a0 a1 af;obtain⟨b0,b1,b2,b3⟩:=vA ((HB5.out.block _ HSZ0.out).trans HX0.out);obtain⟨a0,a1,af⟩:=tA ((HB5.out.block _ HSZ1.out).trans HX1.out);go_wp2_with (fail);go_loopw [5,6] (fun l a wr=>∃k:Nat,l= .int .i64 ((tC L k:Nat):Int)/\a= .int .i64 k/\k<=sp/\wr=w5) (fun _ a _=>sp-(intOf a).toNat)
   case atStart=>exact⟨0,rfl,rfl,by omega,rfl⟩
   case round=>
    obtain⟨k,rfl,rfl,hk,rfl⟩:=hrel;have hw2:IntKind.i64.wrap ((k:Int)+1)=((k+1:Nat):Int):=by rw[IntKind.wrap_i64];omega
    by_cases hlt:k<sp
    ·have hkm:k<m:=by omega
     obtain⟨bq,oq,hao,hc⟩:=SlI.at_ (HP.out.below HB5.out).c hkm;rw[ix_cl (by rw[HM.out];exact hkm)]at hc
     cases hao
     obtain⟨z,hz⟩:∃z,(ptC L k).cls=z:=⟨_,rfl⟩;rw[hz]at hc;have HI:Hid (isC L k 4=decide (z=4)):=hW_ (by rw[xV (by rw[HM.out];exact hkm),hz]);have gk:decide ((k:Int)<(sp:Int))=true:=by simp;omega
     clear hz
     by_cases z4:z=4
     ·have gz:(z==4)=true:=by simpa using z4
      have HLN2:Hid (tC L (k+1)=k+1):=hW_ (by rw[tC,if_pos (by rw[HI.out];simpa using z4)]);clear z4;go_wp2_with (fail);go_roundw
      case rel=>exact⟨k+1,by rw[HLN2.out]<;>go_num,by go_num,by omega,by first | rfl | trivial⟩
      case measure=>simp[intOf];omega
     ·have gz:(z==4)=false:=by simpa using z4
      have HLN2:Hid (tC L (k+1)=tC L k):=hW_ (by rw[tC,if_neg (by rw[HI.out];simpa using z4)]);clear z4;go_wp2_with (fail);go_roundw
      case rel=>exact⟨k+1,by rw[HLN2.out]<;>go_num,by go_num,by omega,by first | rfl | trivial⟩
      case measure=>simp[intOf];omega
    ·obtain rfl:k=sp:=by omega
     have gk:decide ((k:Int)<(k:Int))=false:=by simp
     have HLNK:=hW_ HLN.out;rw[HLN.out]
     by_cases c5:0<ln
     ·have q5:decide ((0:Int)<(ln:Int))=true:=by simp;omega
      have HF:Hid (bE L=(ln,k+1)):=hW_ (by rw[HFD.out,if_pos c5]);go_wp2_with (fail);refine bodyPost_ret (v:=aB (ln,k+1)) ?_ rfl ⟨by rw[HF.out],sA (HB0.out.trans (HB5.out.mono HB0.out.size)) (by omega) _ _⟩
      simp[results,Tryz.results106,go_sem,aB,a0,a1]
     ·have q5:decide ((0:Int)<(ln:Int))=false:=by simp;omega
      have HF:Hid (bE L=rA L):=hW_ (by rw[HFD.out,if_neg c5]);go_wp2_with (fail);go_at_call 140;refine(HBL.out _ (HB5.out)).mono ?_
      rintro e w6 ⟨rfl,hb6⟩;unfold aB;have HB6:=hW_ (show Below w0.heap.size w0 w6 from HB5.out.trans (hb6.mono HB5.out.size));clear hb6 b0 b1 b2 b3 a0 a1 af;obtain⟨b0,b1,b2,b3⟩:=vA ((HB6.out.block _ HSZ0.out).trans HX0.out);obtain⟨a0,a1,af⟩:=tA ((HB6.out.block _ HSZ1.out).trans HX1.out);go_wp2_with (fail);refine bodyPost_ret (v:=aB (rA L)) ?_ rfl ⟨by rw[HF.out],sA (HB0.out.trans (HB6.out.mono HB0.out.size)) (by omega) _ _⟩
      simp[results,Tryz.results106,go_sem,aB,a0,a1]
open Go.RowKit Go.ChangeMaps
def NxW (w3 wx:World) (a:Nat) (r:Nat×Nat):Prop:=wx.heap[a]?=some (.cells #[.int .i64 (r.1:Nat), .int .i64 (r.2:Nat)] 159)/\Below w3.heap.size w3 wx/\w3.heap.size<=a/\a<wx.heap.size
theorem NxW.set {w3 wx wy:World} {a:Nat} {r:Nat×Nat} (h:NxW w3 wx a r) (hb:Below wx.heap.size wx wy) (q:Nat×Nat):NxW w3 ((wy.setCell ⟨a,0,none⟩ (.int .i64 (q.1:Nat))).setCell ⟨a,1,none⟩ (.int .i64 (q.2:Nat))) a q:=by
 obtain⟨h1,h2,h3,h4⟩:=h;have h5:=(hb.block a h4).trans h1;refine⟨?_,sA (h2.trans (hb.mono h2.size)) h3 _ _,h3,by have:=hb.size;simp;omega⟩;simp[World.setCell,Array.getElem?_modify,h5]
theorem qV {T:List Rg} {to_:Option Addr} {tn tc:Nat} {kind:Int} (final:Bool) (s:ByteArray) (w:World) (hT:SlF 3 w to_ tn tc (flat Rg.enc T)) (hM:kA T) (hn:tn<=1048576) (hk0:0<=kind) (hk3:kind<=3) (hs:s.size<=1000000) (h0:s.size≠0):
  Calls Tryz.prog 74 #[.int .i64 kind, .slice to_ tn tc, .string s, .bool final] w fun e w'=>e= .returned (.tuple #[.int .i64 (A6 kind T (cA s) final).1, .bool (A6 kind T (cA s) final).2])/\Below w.heap.size w w':=by
 obtain⟨e1,e2,e3⟩:=yC h0;have g0:decide (kind<0)=false:=by simpa using hk0
 have g3:decide (kind>3)=false:=by simpa using hk3
 have HM:=hW_ hM;have HT:=hW_ (fun(W:World) (h:Below w.heap.size w W)=>SlF.below hT h);have HLB:=hW_ (nA s)
 by_cases hk:kind=0
 ·subst hk;have HF:Hid (A6 0 T (cA s) final=((s.size:Int),final)):=hW_ (by unfold A6;rw[if_pos rfl,nA]);clear hT hM h0;go_enter Tryz.func74,Tryz.ntmps74;go_wp2_with (fail);go_at_call 57;refine(nE w (HT.out w (Below.refl _ _))).mono ?_
  rintro e w1 ⟨⟨b,rfl,hb⟩,hb1⟩;obtain rfl:b=true:=hb.2 HM.out;have HB1:=hW_ hb1;clear hb hb1;go_wp2_with (fail);go_ret2;exact⟨by rw[HF.out];rfl,HB1.out⟩
 ·have gk:(kind==0)=false:=by simpa using hk
  obtain⟨L,hL⟩:∃L,pts T (cA s)=L:=⟨_,rfl⟩;have hpos:0<L.length:=hL▸aBd (fun e=>h0 (by rw[<-nA,e];rfl));have hml:L.length<=s.size:=by
   have h1:=(D0 (t:=T) (cA s) L.length).1;have h2:=(D0 (t:=T) (cA s) L.length).2;rw[hL,nA]at h2;rw[hL]at h1;omega
  have HG:=hW_ (hL▸oX hM cL:∀p∈L,bP p);have HPT:=hW_ (fun(W:World) (h:Below w.heap.size w W)=>dR s W (SlF.below hT h) hM hn hs);obtain⟨m,hm⟩:∃m,L.length=m:=⟨_,rfl⟩;have hl:m<=1000000:=by omega
  rw[hm]at hpos;have HMM:=hW_ hm;have HLL:=hW_ hL;have HCL:Hid (0<=(ptC L 0).cls/\(ptC L 0).cls<=4):=hW_ (by
   obtain⟨p,hp⟩:∃p,L[0]?=some p:=⟨_,List.getElem?_eq_getElem (by omega)⟩
   have:=HG.out p (List.mem_of_getElem? hp);unfold ptC;rw[hp];exact⟨this.2.2.1,this.2.2.2⟩)
  clear hT hM h0 hL hm hml;go_enter Tryz.func74,Tryz.ntmps74;go_wp2_with (fail);go_at_call 57;refine(nE w (HT.out w (Below.refl _ _))).mono ?_
  rintro e w1 ⟨⟨b,rfl,hb⟩,hb1⟩;obtain rfl:b=true:=hb.2 HM.out;have HB1:=hW_ hb1;clear hb hb1;go_wp2_with (fail);go_at_call 103;refine(HPT.out w1 HB1.out).mono ?_
  rintro e w2 ⟨po,co,no,pc,cc,nc,rfl,hps,hb2⟩;rw[HLL.out]at hps |-;rw[HMM.out]at hps |-;have HB2:=hW_ (HB1.out.trans (hb2.mono HB1.out.size));have HP2:=hW_ hps;clear hps hb2;obtain⟨g,hg⟩:∃g,w2.heap.size=g:=⟨_,rfl⟩;obtain⟨sn,hsn⟩:∃sn:Int,((zA L:Nat):Int)=sn:=⟨_,rfl⟩;rw[hsn];have HSN:=hW_ hsn;obtain⟨w3,hw3⟩:∃w3,w2.alloc (.cells #[.slice po m pc, .slice co m cc, .slice no m nc, .int .i64 sn] 156)=w3:=⟨_,rfl⟩;have hb3:Below w2.heap.size w2 w3:=hw3▸aA w2 _;have HX3:Hid (w3.heap[g]?=some (.cells #[.slice po m pc, .slice co m cc, .slice no m nc, .int .i64 sn] 156)):=hW_ (by rw[<-hw3,<-hg];exact heap_alloc_new w2 _);have HS3:Hid (g<w3.heap.size):=hW_ (by rw[<-hw3,<-hg];simp);have HB3:=hW_ (HB2.out.trans (hb3.mono HB2.out.size));have HP3:=hW_ (HP2.out.below hb3);have HW3:=hW_ hw3;have HG2:=hW_ hg;clear hb3 hw3 hsn hg;go_wp2_with (fail);rw[HW3.out,HG2.out];go_at_call 104;refine(wU (sn:=sn) w3 HP3.out hl).mono ?_
  rintro e w4 ⟨rfl,hb4⟩;unfold aB;have HB4:=hW_ hb4;obtain⟨b0,b1,b2,b3⟩:=vA ((HB4.out.block _ HS3.out).trans HX3.out);clear hb4;go_upto_if 40 with(fail);obtain⟨a,ha⟩:∃a,w4.heap.size=a:=⟨_,rfl⟩;obtain⟨w5,hw5⟩:∃w5,w4.alloc (.cells #[.int .i64 ((tE L).1:Nat), .int .i64 ((tE L).2:Nat)] 159)=w5:=⟨_,rfl⟩;have HN5:Hid (NxW w3 w5 a (tE L)):=hW_ (by
   rw[<-hw5,<-ha];exact⟨heap_alloc_new w4 _,HB4.out.alloc HB4.out.size _,HB4.out.size,by simp⟩)
  rw[hw5,ha];clear b0 b1 b2 b3 hw5 ha;have HBX:=hW_ (fun(W:World) (h:Below w3.heap.size w3 W)=>vA ((h.block _ HS3.out).trans HX3.out));go_cut [] from 40 (fun wx=>Hid (NxW w3 wx a (if kind=2 then pE L else tE L)))
  case first=>
   obtain⟨b0,b1,b2,b3⟩:=HBX.out _ HN5.out.2.1
   by_cases k2:kind=2
   ·have gk2:(kind==2)=true:=by simpa using k2
    obtain⟨a0,a1,af⟩:=tA HN5.out.1;have K2:=hW_ k2;clear k2;go_wp2_with (fail);go_at_call 105;refine(wS (sn:=sn) w5 (HP3.out.below HN5.out.2.1) hpos hl).mono ?_
    rintro e w6 ⟨rfl,hb6⟩;unfold aB;have HN6:=hW_ (HN5.out.set hb6 (pE L));have hx6:=(hb6.block a HN5.out.2.2.2).trans HN5.out.1;clear b0 b1 b2 b3 a0 a1 af hb6;obtain⟨a0,a1,af⟩:=tA hx6;go_wp2_with (fail);go_meet
    case rel=>rw[if_pos K2.out];exact HN6
   ·have gk2:(kind==2)=false:=by simpa using k2
    have K2:=hW_ k2;clear k2;go_wp2_with (fail);go_meet
    case rel=>rw[if_neg K2.out];exact HN5
  case rest=>
   obtain⟨r5,hr5⟩:∃r,(if kind=2 then pE L else tE L)=r:=⟨_,rfl⟩;rw[hr5]at hcut;have HR5:=hW_ hr5;have HC5:=hcut;clear hcut hr5;go_upto_if 44 with(fail);go_cut [] from 44 (fun wx=>Hid (NxW w3 wx a (if kind=3 then bE L else r5)))
   case first=>
    obtain⟨b0,b1,b2,b3⟩:=HBX.out _ HC5.out.2.1
    by_cases k3:kind=3
    ·have gk3:(kind==3)=true:=by simpa using k3
     obtain⟨a0,a1,af⟩:=tA HC5.out.1;have K3:=hW_ k3;clear k3;go_wp2_with (fail);go_at_call 106;refine(xU (sn:=sn) wc (HP3.out.below HC5.out.2.1) hpos hl HCL.out).mono ?_
     rintro e w6 ⟨rfl,hb6⟩;unfold aB;have HN6:=hW_ (HC5.out.set hb6 (bE L));have hx6:=(hb6.block a HC5.out.2.2.2).trans HC5.out.1;clear b0 b1 b2 b3 a0 a1 af hb6;obtain⟨a0,a1,af⟩:=tA hx6;go_wp2_with (fail);go_meet
     case rel=>rw[if_pos K3.out];exact HN6
    ·have gk3:(kind==3)=false:=by simpa using k3
     have K3:=hW_ k3;clear k3;go_wp2_with (fail);go_meet
     case rel=>rw[if_neg K3.out];exact HC5
   case rest=>
    obtain⟨⟨N,RR⟩,hr⟩:∃r,(if kind=3 then bE L else r5)=r:=⟨_,rfl⟩;rw[hr]at hcut;have HCUT:Hid (lH kind L=(N,RR)):=hW_ (by
     rw[<-hr,<-HR5.out];unfold lH
     by_cases e1:kind=1
     ·rw[if_pos e1,if_neg (by omega),if_neg (by omega)]
     ·rw[if_neg e1]
      by_cases e2:kind=2
      ·rw[if_pos e2,if_neg (by omega),if_pos e2]
      ·rw[if_neg e2,if_pos (by omega)])
    clear HC5 hr HR5;have HC:=hcut;have hle:=bL kind L;rw[HCUT.out]at hle;simp only[HMM.out]at hle;have hN:N<=m:=hle.1;obtain⟨bN,oN,hNo,HNC⟩:∃b o,no=some ⟨b,o,none⟩/\Hid (∀(k:Nat) (W:World),k<m->Below w3.heap.size w3 W->W.cell? ⟨b,o+k,none⟩=some (.int .i64 (ix (L.map Pt.n) k))):=by
     obtain⟨b,o,e,_⟩:=SlI.at_ HP3.out.n hpos;refine⟨b,o,e,hW_ (fun k W hk h=> ?_)⟩;obtain⟨b',o',e',hc⟩:=SlI.at_ (HP3.out.below h).n hk;obtain⟨rfl,rfl⟩:b'=b/\o'=o:=by simpa[e]using e'.symm
     exact hc
    subst hNo;have HW:=hW_ (show Below w3.heap.size w3 wc from hcut.out.2.1);obtain⟨b0,b1,b2,b3⟩:=HBX.out _ HW.out;obtain⟨a0,a1,af⟩:=tA HC.out.1;have HBW:=hW_ (HB3.out.trans (HW.out.mono HB3.out.size));have HSB:Hid (∀i,0<=bB L i/\bB L i<=1000000):=hW_ (fun i=>by rw[<-HLL.out];have:=D0 (t:=T) (cA s) i;have:=HLB.out;omega);have HV:Hid (A6 kind T (cA s) final=(bB L N,final || (decide (RR<=zA L) && (decide (kind=1) || !decide (dE L (decide (kind=3))))))):=hW_ (by
     unfold A6;rw[if_neg hk,HLL.out,HCUT.out])
    clear hcut hle;go_wp2_with (fail);go_loop [12,13] (fun n i=>∃k:Nat,i= .int .i64 k/\k<=N/\n= .int .i64 (bB L k)) (fun _ i=>N-(intOf i).toNat)
    case atStart=>exact⟨0,rfl,Nat.zero_le _,by rw[eD]⟩
    case round=>
     obtain⟨k,rfl,hk,rfl⟩:=hrel;have hwk:IntKind.i64.wrap ((k:Int)+1)=((k+1:Nat):Int):=by rw[IntKind.wrap_i64];omega
     by_cases hlt:k<N
     ·have gkk:decide ((k:Int)<(N:Int))=true:=by simp;omega
      have hc:=HNC.out k wc (by omega) HW.out;have hnx:bB L (k+1)=bB L k+ix (L.map Pt.n) k:=by
       rw[fD (by have:=HMM.out;omega)];congr 1;simp[ix,List.getD,ptC,show k<L.length by have:=HMM.out;omega]
      have hs1:=HSB.out (k+1);have gkm:(k:Int)<(m:Int):=by omega
      obtain⟨z,hz⟩:∃z,ix (L.map Pt.n) k=z:=⟨_,rfl⟩;obtain⟨y,hy⟩:∃y,bB L k=y:=⟨_,rfl⟩;rw[hz]at hc hnx;rw[hy]at hnx |-;have hwy:IntKind.i64.wrap (y+z)=y+z:=by rw[IntKind.wrap_i64];omega
      have HNX:=hW_ hnx;clear hz hy hnx hs1;go_wp2_with (fail);go_round
      case rel=>exact⟨k+1,by go_num,by omega,by rw[HNX.out]⟩
      case measure=>simp[intOf];omega
     ·obtain rfl:k=N:=by omega
      have gkk:decide ((k:Int)<(k:Int))=false:=by simp
      cases final with
      | true=>
       go_wp2_with (fail);go_ret2;exact⟨by rw[HV.out];rfl,HBW.out⟩
      | false=>
       by_cases hr:RR<=zA L
       ·have gr:decide ((RR:Int)<=sn)=true:=by have:=HSN.out;simp;omega
        have HR1:Hid (decide (RR<=zA L)=true):=hW_ (decide_eq_true hr);clear hr
        by_cases k1:kind=1
        ·have gk1:(kind==1)=true:=by simpa using k1
         have HV2:Hid (A6 kind T (cA s) false=(bB L k,true)):=hW_ (by rw[HV.out,HR1.out,decide_eq_true k1];rfl);clear k1;go_wp2_with (fail);go_ret2;exact⟨by rw[HV2.out];rfl,HBW.out⟩
        ·have gk1:(kind==1)=false:=by simpa using k1
         obtain⟨wd,hwd⟩:∃wd,(kind==3)=wd:=⟨_,rfl⟩;have HV2:Hid (A6 kind T (cA s) false=(bB L k,!decide (dE L wd))):=hW_ (by
          rw[HV.out,HR1.out,decide_eq_false k1,<-hwd];have e:decide (kind=3)=(kind==3):=by by_cases h:kind=3<;>simp[h]
          rw[e];rfl)
         have HBG:Hid (Calls Tryz.prog 107 #[.agg #[.slice po m pc, .slice co m cc, .slice (some ⟨bN,oN,none⟩) m nc, .int .i64 sn], .bool wd] wc (kS (dE L wd) wc)):=hW_ (cT wd wc (HP3.out.below HW.out) hl HSN.out.symm (fun h=>by
          obtain⟨p,hp⟩:∃p,L[0]?=some p:=⟨_,List.getElem?_eq_getElem (by have:=HMM.out;omega)⟩
          have hg:=HG.out p (List.mem_of_getElem? hp);have hsu:=nX (t:=T) (cA s) 0 p (by rw[HLL.out];exact hp);rw[HLL.out,h]at hsu;have hps:p.sure=false:=by
           cases hq:p.sure with
           | false=>rfl
           | true=>have:=hsu.1 hq;omega
          have hc:=(hg.1 hps).1;unfold cdC aAE;rw[hp];simp only;split<;>omega))
         clear k1;go_wp2_with (fail);go_at_call 107;refine HBG.out.mono ?_
         rintro e w6 ⟨⟨b,rfl,hb⟩,hb6⟩;have HB6:=hW_ (HBW.out.trans (hb6.mono HBW.out.size));have HBB:Hid ((!decide (dE L wd))= !b):=hW_ (by
          congr 1
          cases b with
          | true=>exact decide_eq_true (hb.1 rfl)
          | false=>exact decide_eq_false (fun h=>by have:=hb.2 h;cases this))
         clear hb hb6;go_wp2_with (fail);go_ret2;exact⟨by rw[HV2.out,HBB.out];rfl,HB6.out⟩
       ·have gr:decide ((RR:Int)<=sn)=false:=by have:=HSN.out;simp;omega
        have HV2:Hid (A6 kind T (cA s) false=(bB L k,false)):=hW_ (by rw[HV.out,decide_eq_false hr];rfl);clear hr;go_wp2_with (fail);go_ret2;exact⟨by rw[HV2.out];rfl,HBW.out⟩
end Go.Proofs.YtimkkkdabmhedaaGreatDoor
