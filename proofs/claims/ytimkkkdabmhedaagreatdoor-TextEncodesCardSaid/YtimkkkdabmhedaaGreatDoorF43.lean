/- Walk: TextEncodes. (Printed by gEnc16.py.) -/
import Derived.Test.YtimkkkdabmhedaaGreatDoorF41
import Derived.Test.YtimkkkdabmhedaaGreatDoorF42
import Derived.Test.YtimkkkdabmhedaaGreatDoorF22
import Derived.Test.YtimkkkdabmhedaaGreatDoorF7
import Derived.Test.YtimkkkdabmhedaaGreatDoorF21
set_option linter.unusedVariables false
set_option maxHeartbeats 4000000
set_option maxRecDepth 100000
namespace Go.Proofs.YtimkkkdabmhedaaGreatDoor
open Go.RowKit
theorem qO {V:Vc} {dd:Vd} {N:List ByteArray} {kind:Int} {T:List Rg} {room:Int} {no to_:Option Addr} {nn nc tn tc:Nat} {so:Option Addr} {sl sc:Nat} {SL:List Int} (w:World) (hV:jF w dd V) (hok:(∀s∈V.tokens,s.size<=maxLen)/\jO V.specials) (hN:SlS w no nn nc N) (hNs:∀s∈N,s.size<=maxLen)
  (hT:SlF 3 w to_ tn tc (flat Rg.enc T)) (hs:SlI w so sl sc SL) (hU:Usu w):
  Frame.Law Tryz.prog 7 #[.agg #[.slice dd.ta dd.tn dd.tc, .slice dd.ma dd.mn dd.mc, .slice dd.sa dd.sn dd.sc, .slice no nn nc, .int .i64 kind, .slice to_ tn tc, .int .i64 room], .slice so sl sc] w:=by
 unfold Frame.Law;obtain⟨ta,tn',tc',ma,mn,mc,sa,sn,sc'⟩:=dd;obtain⟨w0,hw0⟩:∃w0,w.alloc (.cells #[.slice ta tn' tc', .slice ma mn mc, .slice sa sn sc', .slice no nn nc, .int .i64 kind, .slice to_ tn tc, .int .i64 room] 29)=w0:=⟨_,rfl⟩;have hb0:Below w.heap.size w w0:=hw0▸aA w _;have hx0:w0.heap[w.heap.size]?=some (.cells #[.slice ta tn' tc', .slice ma mn mc, .slice sa sn sc', .slice no nn nc, .int .i64 kind, .slice to_ tn tc, .int .i64 room] 29):=by rw[<-hw0];exact heap_alloc_new w _
 have hmade:=X4 (dd:=⟨ta,tn',tc',ma,mn,mc,sa,sn,sc'⟩) (kind:=kind) (room:=room) w0 (hV.below hb0) hok (Sl.below hN hb0) hNs (hT.below hb0) (hU.below hb0);have Hs:=hW_ hs;have hmxs:=Nat.le_trans (Sl.le hs) (Sl.max hs);have hlns:=hs.len;unfold maxLen at hmxs;have HVO:=hW_ hV;have HNO:=hW_ hN;have HU:=hW_ hU;have HB0:=hW_ hb0;have HW0:=hW_ hw0;obtain⟨c0,c1,c2,c3,c4,c5,c6⟩:=box7 hx0;rw[<-HW0.out]at c0 c1 c2 c3 c4 c5 c6;clear hV hok hN hNs hT hU hb0 hw0 hx0 hs;go_enter Tryz.func7,Tryz.ntmps7;go_wp2_with (fail);rw[HW0.out];clear c0 c1 c2 c3 c4 c5 c6;refine hmade.mono ?_
 rintro e w1 ⟨hpost,hb1⟩;have hZ01:Hid (w0.heap.size<=w1.heap.size):=hW_ hb1.size;have HB01:=hW_ hb1;have HB1:Hid (Below w.heap.size w w1):=hW_ (HB0.out.trans (hb1.mono HB0.out.size));clear hb1 hmade;rcases hpost with⟨rfl,-⟩ | ⟨hM,hOK,hG,g,cb,mb,to2,tn2,tc2,rfl,hTC,hCR,hTB⟩
 ·unfold noC;have hb2:=HB1.out.alloc HB1.out.size (.cells #[.slice none 0 0, .slice none 0 0, .slice none 0 0, .slice none 0 0, .int .i64 0, .slice none 0 0] 37);have HB2:=hW_ hb2;clear hb2;go_wp2_with (fail);refine(F7 _ (HU.out.below HB2.out)).mono ?_
  rintro e w3 ⟨rfl,hb3⟩;have HB3:=hW_ (HB2.out.trans (hb3.mono HB2.out.size));clear hb3;go_wp2_with (fail);go_ret;exact⟨rfl,HB3.out⟩
 obtain⟨w2,hw2⟩:∃w2,w1.alloc (.cells #[.slice ta tn' tc', .slice ma mn mc, .slice sa sn sc', .slice no nn nc, .int .i64 kind, .slice to2 tn2 tc2] 37)=w2:=⟨_,rfl⟩;have hb2:Below w1.heap.size w1 w2:=hw2▸aA w1 _;have hx2:w2.heap[w1.heap.size]?=some (.cells #[.slice ta tn' tc', .slice ma mn mc, .slice sa sn sc', .slice no nn nc, .int .i64 kind, .slice to2 tn2 tc2] 37):=by rw[<-hw2];exact heap_alloc_new w1 _
 have hz2:w1.heap.size<w2.heap.size:=by rw[<-hw2];simp
 have HB2:Hid (Below w.heap.size w w2):=hW_ (HB1.out.trans (hb2.mono HB1.out.size));have HCR:=hW_ (hCR.below hb2);obtain⟨hTA,bs,hbs1,hbs2,hTD,hTE⟩:=hTB;have HTB:=hW_ (hTA.below hb2);have HTE:=hW_ hTE;have HBS:Hid (w0.heap.size<=bs/\bs<=w1.heap.size):=hW_ ⟨hbs1,hbs2⟩;have hK1:=Cdr.new hTD hOK.2.2.2.2.1;have HK1:=hW_ (hK1.below hb2);have HM:=hW_ hM;have HOK:=hW_ hOK;have HX2:=hW_ hx2;have HZ2:=hW_ hz2;have HW2:=hW_ hw2;have HN1:Hid (N.length<=16/\0<=kind/\kind<=3/\kA (C6 T)/\0<=room/\room<=1048576):=hW_ ⟨hOK.1.1,hOK.2.1,hOK.2.2.1,aCv hOK.2.2.2.1,hOK.2.2.2.2.1,hOK.2.2.2.2.2⟩;clear hb2 hx2 hz2 hw2 hTC hCR hTA hTD hTE hbs1 hbs2 hM hOK hG hK1;unfold lL
 by_cases hls:60<sl
 ·have hl1:(60:Int)<(sl:Int):=by omega
  go_wp2_with (fail);rw[HW2.out];refine(F7 _ (HU.out.below HB2.out)).mono ?_
  rintro e w3 ⟨rfl,hb3⟩;have HB3:=hW_ (HB2.out.trans (hb3.mono HB2.out.size));clear hb3;go_wp2_with (fail);go_ret;exact⟨rfl,HB3.out⟩
 have hls1:¬(60:Int)<(sl:Int):=by omega
 have hc:=gV (dd:=⟨ta,tn',tc',ma,mn,mc,sa,sn,sc'⟩) (kind:=kind) (to_:=to2) (tn':=tn2) (tc':=tc2) w2 HCR.out (SlI.below Hs.out HB2.out) (by omega);obtain⟨x,hx⟩:∃x,lA V N SL=x:=⟨_,rfl⟩;rw[hx]at hc;unfold lL at hc;have HC:=hW_ hc;have HE:=hW_ hx;clear hc hx;go_wp2_with (fail);rw[HW2.out];go_wp2_with (fail);go_at_call 21;refine HC.out.mono ?_
 rintro e w3 ⟨rfl,hb⟩;have HBK3:Hid (Below w2.heap.size w2 w3):=hW_ hb;have HB3:Hid (Below w.heap.size w w3):=hW_ (HB2.out.trans (hb.mono HB2.out.size));clear hb HC;have HK3:=hW_ (HK1.out.below HBK3.out)
 by_cases g1:x=0
 rotate_left
 ·have g2:(x != 0)=true:=by simpa using g1
  obtain⟨cb3,hcod⟩:=HK3.out.cod;have hen:=qS w3 hcod HN1.out.1 (SlI.below Hs.out HB3.out) (by omega) (by rw[HE.out];exact g1);have hck:=zE w3 hcod HN1.out.1 (SlI.below Hs.out HB3.out) (by omega);rw[HE.out]at hen hck;have HEN:=hW_ hen;have HCK:=hW_ hck;clear hen hck hcod g1;go_wp2_with (fail);go_at_call 17;refine HEN.out.mono ?_
  rintro e W4 ⟨rfl,rfl⟩;go_wp2_with (fail);go_at_call 33;refine HCK.out.mono ?_
  rintro e W5 ⟨rfl,rfl⟩;go_wp2_with (fail);refine(F7 _ (HU.out.below HB3.out)).mono ?_
  rintro e w9 ⟨rfl,hb9⟩;have HB9:=hW_ (HB3.out.trans (hb9.mono HB3.out.size));clear hb9;go_wp2_with (fail);go_ret;exact⟨rfl,HB9.out⟩
 subst g1;obtain⟨TX,hTX⟩:∃F,qL V N kind (C6 T) SL=F:=⟨_,rfl⟩;obtain⟨D2,hD2⟩:∃F,byN (B6 kind (C6 T) SL true) SL=F:=⟨_,rfl⟩;obtain⟨q1,q2,q3,q4,q5,q6⟩:=HN1.out;have hen:=rL w3 HK3.out HM.out q1 q4 q2 q3 q6 (SlI.below Hs.out HB3.out) (fun ad e h0=>⟨(SlI.below Hs.out HB3.out).blk ad e h0,fun hq=>by have:=Hs.out.blk ad e h0;have:=HBS.out;have:=HB0.out.size;omega⟩) (by omega) (by omega) HE.out;have hdx:iB V N TX=(SL,0):=by rw[<-hTX];exact dec_text HM.out HOK.out.1 q4 HE.out
 have htl:TX.length<=60:=by rw[<-hTX];have:=aBW (kind:=kind) q4 HE.out;omega
 rw[hTX,hD2]at hen;have HEN:=hW_ hen;have HDX:=hW_ hdx;have HTX:=hW_ hTX;clear hen hdx hTX hD2 q1 q2 q3 q4 q5 q6;go_wp2_with (fail);go_at_call 17;refine HEN.out.mono ?_
 rintro e w4 ⟨v4,P4,rfl,ho4,hc4,hs4,hv4,hk4⟩;have hs0:=HBS.out;have hbs:Below bs w2 w4:=(HBK3.out.mono (by have:=HZ2.out;omega)).trans (hk4.below (by have:=HBK3.out.size;have:=HZ2.out;omega) (fun q hq=>hq.1));have hx4:=(hk4.block w1.heap.size (by have:=HBK3.out.size;have:=HZ2.out;omega) (fun hq=>by omega)).trans ((HBK3.out.block _ HZ2.out).trans HX2.out);have HBS4:=hW_ hbs;have HX4:=hW_ hx4;have HB4:Hid (Below w.heap.size w w4):=hW_ (HB2.out.trans (hbs.mono (by have:=HB0.out.size;omega)));obtain⟨a4,k4,rfl,hsl4⟩:=ho4.sl;obtain⟨cb4,hcod4⟩:=hc4.cod;have hck:=zE w4 hcod4 HN1.out.1 (SlI.below Hs.out HB4.out) (by omega);rw[HE.out]at hck;have HCK:=hW_ hck;have HCOD:=hW_ hcod4;have HSL4:=hW_ hsl4;have HDC:=hW_ (rS w4 hcod4 HM.out.1.2.1 HOK.out.1 hsl4 (by omega));clear ho4 hc4 hs4 hv4 hk4 hbs hx4 hs0 hsl4 hcod4 hck;go_wp2_with (fail);go_at_call 33;refine HCK.out.mono ?_
 rintro e W5 ⟨rfl,rfl⟩;go_wp2_with (fail);go_at_call 34;refine HDC.out.mono ?_
 rintro e w5 ⟨⟨v5,rfl,ho5⟩,hb5⟩;rw[HDX.out]at ho5 |-;obtain⟨a5,k5,rfl,hsl5⟩:=Own.sl (show Own w5 w4.heap.size v5 SL from ho5);rw[hlns]at hsl5 |-;have hx5:=(hb5.block w1.heap.size (Array.getElem?_eq_some_iff.1 HX4.out).1).trans HX4.out;obtain⟨b0,b1,b2,b3,b4,b5,bf⟩:=lK hx5;have hD:Below bs w2 w5:=HBS4.out.trans (hb5.mono (by have:=HBS4.out.size;have:=HZ2.out;have:=HBS.out;omega));have hB5:Below w.heap.size w w5:=HB4.out.trans (hb5.mono HB4.out.size);have hW:∀W,Ge w5 W->Below w.heap.size w W:=fun W h=>hB5.trans (h.mono hB5.size)
 have hTC:∀W,Ge w5 W->SlF 3 W to2 tn2 tc2 (flat Rg.enc (C6 T)):=fun W h=>(HTB.out.keep0 (fun ad e h0=>hD.block _ (HTE.out ad e h0))).below h
 have hTN:tn2<=1048576:=by have:=HTB.out.count Rg.enc_len (by omega);have:=HN1.out.2.2.2.1.1;omega
 have hmn:mn<=16384:=by have h1:=HM.out.2.1.1;have h2:=HCR.out.voc.mrg.count Mg.enc_len (by omega);simp only at h2;omega
 obtain⟨q1,q2,q3,q4,q5,q6⟩:=HN1.out;have hsS:=fun W (h:Ge w5 W)=>SlI.below Hs.out (hW W h)
 have hCRW:∀W,Ge w5 W->CR W ⟨ta,tn',tc',ma,mn,mc,sa,sn,sc'⟩ no nn nc V N:=fun W h=>by
  have hh:=HCR.out;exact⟨HVO.out.below (hW W h),Sl.below HNO.out (hW W h),hh.t64,hh.n16,hh.sp,hh.tk⟩
 have HRE:Hid (∀W,Ge w5 W->Calls Tryz.prog 35 #[.agg #[.slice ta tn' tc', .slice ma mn mc, .slice sa sn sc', .slice no nn nc, .int .i64 kind, .slice to2 tn2 tc2], .slice so sl sc] W fun E w'=>∃vo vc,E= .returned (.slice vo TX.length vc)/\SlI w' vo TX.length vc TX/\Ge w5 w'):=hW_ (fun W h=>by
  have hr:=cQ (dd:=⟨ta,tn',tc',ma,mn,mc,sa,sn,sc'⟩) (kind:=kind) W (hCRW W h) hmn (hTC W h) q4 q2 q3 hTN (hsS W h) HE.out (by omega);rw[HTX.out]at hr;unfold lL at hr;refine hr.mono ?_
  rintro E w' ⟨⟨v,rfl,ho⟩,hb⟩;obtain⟨vo,vc,rfl,hs⟩:=ho.sl;exact⟨vo,vc,rfl,hs,h.below hb⟩)
 obtain⟨ps,hps⟩:∃ps,B6 kind (C6 T) SL false=ps:=⟨_,rfl⟩;have HSP:Hid (∀W,Ge w5 W->Calls Tryz.prog 18 #[.pointer (some ⟨g,0,none⟩), .slice so sl sc, .bool false] W fun E w'=>∃vo vc,E= .returned (.slice vo ps.length vc)/\SlF 2 w' vo ps.length vc (flat dD ps)/\Ge w5 w'):=hW_ (fun W h=>by
  have hr:=M9 false W ((HCOD.out.below hb5).below h) (hsS W h) (by omega) q4 q2 q3;rw[hps]at hr;refine hr.mono ?_
  rintro E w' ⟨⟨v,rfl,ho⟩,hb⟩;obtain⟨vo,vc,rfl,hs⟩:=eA.sl ho;exact⟨vo,vc,rfl,hs,h.below hb⟩)
 have HRS:Hid (∀W,Ge w5 W->Calls Tryz.prog 37 #[.int .i64 kind, .slice to2 tn2 tc2, .slice so sl sc, .bool false] W fun E w'=>(∃vo vc,E= .returned (.slice vo ps.length vc)/\SlF 2 w' vo ps.length vc (flat dD ps))/\Ge w5 w'/\Ge W w'):=hW_ (fun W h=>by
  have hr:=iN kind false W (hsS W h) (by omega) (hTC W h) q4 q2 q3 hTN;rw[hps]at hr;refine hr.mono ?_
  rintro E w' ⟨⟨v,rfl,ho⟩,hb⟩;obtain⟨vo,vc,rfl,hs⟩:=eA.sl ho;exact⟨⟨vo,vc,rfl,hs⟩,h.below hb,hb⟩)
 have HFX:=hW_ (fun W (h:Ge w5 W)=>(F7 W (HU.out.below (hW W h))).mono (R':=fun e w'=>e= .returned (.bool true)/\Ge w5 w') (fun e w' hh=>⟨hh.1,h.below hh.2⟩));have HS1:Hid (∀W vo vc,Ge w5 W->SlI W vo TX.length vc TX->Calls Tryz.prog 20 #[.slice a4 TX.length k4, .slice vo TX.length vc] W fun E w'=>E= .returned (.bool true)/\Ge w5 w'):=hW_ (fun W vo vc h hs=>(Z0 W ((HSL4.out.below hb5).below h) hs).mono (fun E w' hh=>by
  obtain⟨qq,rfl,rfl⟩:=hh;exact⟨by rw[N6 rfl],h.drewN qq⟩))
 have HS2:Hid (∀W,Ge w5 W->Calls Tryz.prog 20 #[.slice a5 sl k5, .slice so sl sc] W fun E w'=>E= .returned (.bool true)/\Ge w5 w'):=hW_ (fun W h=>(Z0 W (hsl5.below h) (hsS W h)).mono (fun E w' hh=>by
  obtain⟨qq,rfl,rfl⟩:=hh;exact⟨by rw[N6 rfl],h.drewN qq⟩))
 have HS3:Hid (∀W vo vc ro rc,Ge w5 W->SlF 2 W vo ps.length vc (flat dD ps)->SlF 2 W ro ps.length rc (flat dD ps)->Calls Tryz.prog 36 #[.slice vo ps.length vc, .slice ro ps.length rc] W fun E w'=>E= .returned (.bool true)/\Ge w5 w'):=hW_ (fun W vo vc ro rc h h1 h2=>(bV W h1 h2 rfl).mono (fun E w' hh=>⟨hh.1,h.below hh.2⟩));have HB5:=hW_ hB5;have G0:=fun w' (hg:Ge w5 w')=>hg.at w5 w' b0
 have G1:=fun w' (hg:Ge w5 w')=>hg.at w5 w' b1
 have G2:=fun w' (hg:Ge w5 w')=>hg.at w5 w' b2
 have G3:=fun w' (hg:Ge w5 w')=>hg.at w5 w' b3
 have G4:=fun w' (hg:Ge w5 w')=>hg.at w5 w' b4
 have G5:=fun w' (hg:Ge w5 w')=>hg.at w5 w' b5
 have gr:=Ge.refl w5;clear ho5 hb5 hsl5 hx5 b0 b1 b2 b3 b4 b5 bf hD hB5 hW hTC hTN hmn q1 q2 q3 q4 q5 q6 hsS hCRW hps;go_wp2_with (fail)
 go_region_held3 (Ge w5) (first | (with_reducible assumption) | (with_reducible refine Ge.drew ?_;with_reducible assumption) | (with_reducible refine Ge.drewN ?_ _;with_reducible assumption)) (first
  | (go_at_call 13;refine(HFX.out _ (by first | assumption | exact Ge.drewN gr _)).mono ?_;rintro E w10 ⟨rfl,hg10⟩)
  | (go_at_call 35;refine(HRE.out _ (by first | assumption | exact Ge.drewN gr _)).mono ?_;rintro E w11 ⟨vo11,vc11,rfl,hs11,hg11⟩;have HS11:=hW_ hs11;clear hs11)
  | (go_at_call_of 20 (Value.slice a4 TX.length k4);refine(HS1.out _ _ _ (by first | assumption | exact Ge.drewN gr _) HS11.out).mono ?_;rintro E w12 ⟨rfl,hg12⟩)
  | (go_at_call_of 20 (Value.slice a5 sl k5);refine(HS2.out _ (by first | assumption | exact Ge.drewN gr _)).mono ?_;rintro E w13 ⟨rfl,hg13⟩)
  | (go_at_call 18;refine(HSP.out _ (by first | assumption | exact Ge.drewN gr _)).mono ?_;rintro E w14 ⟨vo14,vc14,rfl,hs14,hg14⟩;have HS14:=hW_ hs14;clear hs14)
  | (go_at_call 37;refine(HRS.out _ (by first | assumption | exact Ge.drewN gr _)).mono ?_;rintro E w15 ⟨⟨vo15,vc15,rfl,hs15⟩,hg15,hh15⟩;have HS15:=hW_ hs15;have HS16:=hW_ (HS14.out.below hh15);clear hs15)
  | (go_at_call 36;refine(HS3.out _ _ _ _ _ (by first | assumption | exact Ge.drewN gr _) HS16.out HS15.out).mono ?_;rintro E w16 ⟨rfl,hg16⟩))
 go_wp2_with (fail);go_ret;exact⟨rfl,HB5.out.trans (Below.mono (by assumption) HB5.out.size)⟩
theorem own:ownKnob Tryz.prog.godebug=none:=by kernel_rfl
theorem laidOut:laidOutB Tryz.prog=true:=by kernel_rfl
end Go.Proofs.YtimkkkdabmhedaaGreatDoor
