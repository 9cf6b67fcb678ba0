/- Walk: a token's symbols, by the document. (Printed by gSyms.py.) -/
import Derived.Test.YtjlokfejnijokaaGreatDoorH33
import Derived.Test.YtjlokfejnijokaaGreatDoorH22
import Derived.Test.YtjlokfejnijokaaGreatDoorH25
import Derived.Test.YtjlokfejnijokaaGreatDoorH20
import Derived.Test.YtjlokfejnijokaaGreatDoorH24
import Derived.Test.YtjlokfejnijokaaGreatDoorH31
set_option linter.unusedVariables false
set_option maxHeartbeats 2000000
set_option maxRecDepth 100000
namespace Go.Proofs.YtjlokfejnijokaaGreatDoor
open Go.RowKit
theorem uP {S:List Sp} {t:Int} {k:Nat} (hk:k<S.length) (h:(sp S k).id=t) (hno:∀j,j<k->(sp S j).id≠t):rH S t=some (sp S k):=by
 unfold rH;rw[List.find?_eq_some_iff_getElem];exact⟨by simpa using h,k,hk,oC hk,fun j hj=>by rw[oC (by omega)];simpa using hno j hj⟩
theorem bN {S:List Sp} {t:Int} (hno:∀j,j<S.length->(sp S j).id≠t):rH S t=none:=by
 unfold rH;rw[List.find?_eq_none];intro x hx;obtain⟨j,hj,rfl⟩:=List.getElem_of_mem hx;rw[oC hj];simpa using hno j hj
theorem xP {V:Vc} {N:List ByteArray} {dd:Vd} {no to_:Option Addr} {nn nc tn' tc':Nat} {kind:Int} (t:Int) (w:World) (hV:eE w dd V) (hN:SlS w no nn nc N) (hT:∀s∈V.tokens,s.size<=64) (hnb:nn<=16) (hsb:V.specials.length<=1048576) (htb:V.tokens.length<=1048576):
  Calls Tryz.prog 58 #[.agg #[.slice dd.ta dd.tn dd.tc, .slice dd.ma dd.mn dd.mc, .slice dd.sa dd.sn dd.sc, .slice no nn nc, .int .i64 kind, .slice to_ tn' tc'], .int .i64 t] w (cV V N t w):=by
 obtain⟨ta,tn,tc,ma,mn,mc,sa,sn,sc⟩:=dd;obtain⟨i0,hi,hz0,hz1,hz2⟩:=info_parts vC;obtain⟨w0,hw0⟩:∃w0,w.alloc (.cells #[.slice ta tn tc, .slice ma mn mc, .slice sa sn sc, .slice no nn nc, .int .i64 kind, .slice to_ tn' tc'] 32)=w0:=⟨_,rfl⟩;have hb0:Below w.heap.size w w0:=hw0▸aA w _;have hx0:w0.heap[w.heap.size]?=some (.cells #[.slice ta tn tc, .slice ma mn mc, .slice sa sn sc, .slice no nn nc, .int .i64 kind, .slice to_ tn' tc'] 32):=by rw[<-hw0];exact heap_alloc_new w _
 have HSZ1:Hid (w.heap.size<w0.heap.size):=hW_ (by rw[<-hw0];simp);obtain⟨b0,b1,b2,b3,b4,b5,bf⟩:=nK hx0;have HCT:=hW_ hV.tok.count;have HCS:=hW_ (hV.spc.count Sp.enc_len (by omega));have HNL:=hW_ hN.count;have HNB:=hW_ hnb;have HV:=hW_ (hV.below hb0);have HN:=hW_ (Sl.below hN hb0);have HT:=hW_ hT;have HB0:=hW_ hb0;have HX0:=hW_ hx0;have HW0:=hW_ hw0;have hsn:sn<=1048576:=by have:=HCS.out;simp only at this;omega
 have htn:tn<=1048576:=by have:=HCT.out;simp only at this;omega
 simp only at HCT HCS |-;clear hV hN hb0 hx0 hw0 hsb htb hT
 by_cases h0:t<0
 ·have HTK:Hid (bC V.tokens t=false):=hW_ (kQ h0);go_enter Tryz.func58,Tryz.ntmps58;go_wp2_with (fail);rw[HW0.out];go_wp2_with (fail);go_loopw [55] (fun i wr=>∃k:Nat,k<=sn/\i= .int .i64 k/\Hid (∀j,j<k->(sp V.specials j).id≠t)/\Below w0.heap.size w0 wr) (fun i _=>sn-(intOf i).toNat)
  case atStart=>exact⟨0,Nat.zero_le _,rfl,hW_ (fun j h=>by omega),Below.refl _ _⟩
  case round=>
   obtain⟨k,hk,rfl,HK,hb⟩:=hrel;have HB:=hW_ hb;obtain⟨b0,b1,b2,b3,b4,b5,bf⟩:=nK ((hb.block w.heap.size HSZ1.out).trans HX0.out);clear hb
   by_cases hlt:k<sn
   ·have hkS:k<V.specials.length:=by have:=HCS.out;omega
    obtain⟨b,of,hao,hce⟩:=(HV.out.below HB.out).spc.elem Sp.enc_len (by omega) (nC hkS);simp only at hao;subst hao;obtain⟨⟨nm,id⟩,hseq⟩:∃m,sp V.specials k=m:=⟨_,rfl⟩;rw[hseq]at hce;have d0:=hce 0 _ rfl;have d1:=hce 1 _ rfl;rw[Nat.add_zero]at d0;simp only at d0 d1;have HSK:=hW_ hseq;have gk:(k:Int)<(sn:Int):=by omega
    clear hce hseq
    by_cases hid:id=t
    ·have hbid:(id != t)=false:=by simpa using hid
     have hbid2:(id==t)=true:=by simpa using hid
     have HSB:Hid (rH V.specials t=some ⟨nm,id⟩):=hW_ (by rw[<-HSK.out];exact uP hkS (by rw[HSK.out];exact hid) HK.out);clear hid;obtain⟨wi,rfl⟩:∃wi:World,wi=wr:=⟨_,rfl⟩;go_wp2_with (fail);go_loopw [70] (fun i wr=>∃q nq:Nat,q<=nn/\i= .int .i64 q/\Hid (∀j,j<q->tk N j≠nm)/\wr=wi.drewN nq) (fun i _=>nn-(intOf i).toNat)
     case atStart=>exact⟨0,0,Nat.zero_le _,rfl,hW_ (fun j h=>by omega),rfl⟩
     case round=>
      obtain⟨q,nq0,hq,rfl,HQ,rfl⟩:=hrel;have HBQ:Hid (Below w0.heap.size w0 (wi.drewN nq0)):=hW_ (bA HB.out _)
      by_cases hltq:q<nn
      ·have hqN:q<N.length:=by have:=HNL.out;omega
       obtain⟨b',of',hao,hc⟩:=SlS.cell (Sl.below HN.out HB.out) (zA hqN);subst hao;obtain⟨y,hy⟩:∃y,tk N q=y:=⟨_,rfl⟩;rw[hy]at hc;have HY:=hW_ hy;have gq:(q:Int)<(nn:Int):=by omega
       have HQN:=hW_ hqN;clear hy hqN
       by_cases hyn:y=nm
       ·have hb2:=xD hyn;have HSY:Hid (iA V N t=([256+(q:Int)],0)):=hW_ (J8 HTK.out HSB.out (fF HQN.out (by rw[HY.out];exact hyn) HQ.out));have hq16:q<1048576:=by have:=HNB.out;omega
        have hwr:IntKind.i64.wrap (256+(q:Int))=256+(q:Int):=by rw[IntKind.wrap_i64];omega
        clear hyn;go_wp2_with (fail);go_quiet (fail);obtain⟨wz,hwz⟩:∃wz,(wi.drewN nq0).drewN nq=wz:=⟨_,rfl⟩;have HBZ:Hid (Below w0.heap.size w0 wz):=hW_ (by rw[<-hwz];exact bA HBQ.out _);rw[hwz];clear hwz;go_wp2_with (fail);refine bodyPost_ret (v:= .tuple #[.slice (some ⟨wz.heap.size,0,none⟩) 1 1, .int .i64 0]) ?_ rfl ⟨⟨_,by rw[HSY.out],by rw[HSY.out];exact Own.mono (iM wz _) (Nat.le_trans HB0.out.size HBZ.out.size)⟩,(HB0.out.trans (HBZ.out.mono HB0.out.size)).alloc (Nat.le_trans HB0.out.size HBZ.out.size) _⟩
        simp[results,Tryz.results58,go_sem]
       ·have hb2:=dF hyn;have HQ2:Hid (∀j,j<q+1->tk N j≠nm):=hW_ (fun j hj=>by
         by_cases e:j=q
         ·subst e;rw[HY.out];exact hyn
         ·exact HQ.out j (by omega))
        clear hyn;go_wp2_with (fail);go_quiet (fail);go_wp2_with (fail);go_roundw
        case rel=>exact⟨q+1,_,by omega,by go_num,HQ2,rfl⟩
        case measure=>simp[intOf];omega
      ·have HSY:Hid (iA V N t=([],4)):=hW_ (J6 HTK.out HSB.out (vG (fun j hj=>HQ.out j (by have:=HNL.out;omega))));obtain⟨wz,hwz⟩:∃wz,wi.drewN nq0=wz:=⟨_,rfl⟩;rw[hwz]at HBQ |-;clear hwz;go_wp2_with (fail);refine bodyPost_ret (v:= .tuple #[.slice (some ⟨wz.heap.size,0,none⟩) 0 0, .int .i64 4]) ?_ rfl ⟨⟨_,by rw[HSY.out],by rw[HSY.out];exact Own.mono (D8 wz) (Nat.le_trans HB0.out.size HBQ.out.size)⟩,(HB0.out.trans (HBQ.out.mono HB0.out.size)).alloc (Nat.le_trans HB0.out.size HBQ.out.size) _⟩
       simp[results,Tryz.results58,go_sem]
    ·have hbid:(id != t)=true:=by simpa using hid
     have hbid2:(id==t)=false:=by simpa using hid
     have HK2:Hid (∀j,j<k+1->(sp V.specials j).id≠t):=hW_ (fun j hj=>by
      by_cases e:j=k
      ·subst e;rw[HSK.out];exact hid
      ·exact HK.out j (by omega))
     clear hid;go_wp2_with (fail);go_roundw
     case rel=>exact⟨k+1,by omega,by go_num,HK2,HB.out⟩
     case measure=>simp[intOf];omega
   ·have HSY:Hid (iA V N t=([],3)):=hW_ (pG HTK.out (bN (fun j hj=>HK.out j (by have:=HCS.out;omega))));go_wp2_with (fail);refine bodyPost_ret (v:= .tuple #[.slice (some ⟨wr.heap.size,0,none⟩) 0 0, .int .i64 3]) ?_ rfl ⟨⟨_,by rw[HSY.out],by rw[HSY.out];exact Own.mono (D8 wr) (Nat.le_trans HB0.out.size HB.out.size)⟩,(HB0.out.trans (HB.out.mono HB0.out.size)).alloc (Nat.le_trans HB0.out.size HB.out.size) _⟩
    simp[results,Tryz.results58,go_sem]
 ·obtain⟨q0,rfl⟩:=Int.eq_ofNat_of_zero_le (Int.not_lt.1 h0)
  by_cases hq0:q0<tn
  ·obtain⟨b,o,hao,hc⟩:=HV.out.tok.cell (zA (T:=V.tokens) (i:=q0) (by have:=HCT.out;omega));simp only at hao;subst hao;have HF:=hW_ (lU (T:=V.tokens) (k:=q0) (by have:=HCT.out;omega));have hq0i:(q0:Int)<(tn:Int):=by omega
   by_cases hz:(tk V.tokens q0).size=0
   ·obtain⟨e1,e2,e3⟩:=uC hz;have HTK:Hid (bC V.tokens (q0:Int)=false):=hW_ (by rw[HF.out];simp[hz]);clear hz;rw[<-HW0.out]at hc;go_enter Tryz.func58,Tryz.ntmps58;go_wp2_with (fail);rw[HW0.out];clear e1 e2 e3 hc;go_wp2_with (fail);go_loopw [55] (fun i wr=>∃k:Nat,k<=sn/\i= .int .i64 k/\Hid (∀j,j<k->(sp V.specials j).id≠(q0:Int))/\Below w0.heap.size w0 wr) (fun i _=>sn-(intOf i).toNat)
    case atStart=>exact⟨0,Nat.zero_le _,rfl,hW_ (fun j h=>by omega),Below.refl _ _⟩
    case round=>
     obtain⟨k,hk,rfl,HK,hb⟩:=hrel;have HB:=hW_ hb;obtain⟨b0,b1,b2,b3,b4,b5,bf⟩:=nK ((hb.block w.heap.size HSZ1.out).trans HX0.out);clear hb
     by_cases hlt:k<sn
     ·have hkS:k<V.specials.length:=by have:=HCS.out;omega
      obtain⟨b,of,hao,hce⟩:=(HV.out.below HB.out).spc.elem Sp.enc_len (by omega) (nC hkS);simp only at hao;subst hao;obtain⟨⟨nm,id⟩,hseq⟩:∃m,sp V.specials k=m:=⟨_,rfl⟩;rw[hseq]at hce;have d0:=hce 0 _ rfl;have d1:=hce 1 _ rfl;rw[Nat.add_zero]at d0;simp only at d0 d1;have HSK:=hW_ hseq;have gk:(k:Int)<(sn:Int):=by omega
      clear hce hseq
      by_cases hid:id=(q0:Int)
      ·have hbid:(id != (q0:Int))=false:=by simpa using hid
       have hbid2:(id==(q0:Int))=true:=by simpa using hid
       have HSB:Hid (rH V.specials (q0:Int)=some ⟨nm,id⟩):=hW_ (by rw[<-HSK.out];exact uP hkS (by rw[HSK.out];exact hid) HK.out);clear hid;obtain⟨wi,rfl⟩:∃wi:World,wi=wr:=⟨_,rfl⟩;go_wp2_with (fail);go_loopw [70] (fun i wr=>∃q nq:Nat,q<=nn/\i= .int .i64 q/\Hid (∀j,j<q->tk N j≠nm)/\wr=wi.drewN nq) (fun i _=>nn-(intOf i).toNat)
       case atStart=>exact⟨0,0,Nat.zero_le _,rfl,hW_ (fun j h=>by omega),rfl⟩
       case round=>
        obtain⟨q,nq0,hq,rfl,HQ,rfl⟩:=hrel;have HBQ:Hid (Below w0.heap.size w0 (wi.drewN nq0)):=hW_ (bA HB.out _)
        by_cases hltq:q<nn
        ·have hqN:q<N.length:=by have:=HNL.out;omega
         obtain⟨b',of',hao,hc⟩:=SlS.cell (Sl.below HN.out HB.out) (zA hqN);subst hao;obtain⟨y,hy⟩:∃y,tk N q=y:=⟨_,rfl⟩;rw[hy]at hc;have HY:=hW_ hy;have gq:(q:Int)<(nn:Int):=by omega
         have HQN:=hW_ hqN;clear hy hqN
         by_cases hyn:y=nm
         ·have hb2:=xD hyn;have HSY:Hid (iA V N (q0:Int)=([256+(q:Int)],0)):=hW_ (J8 HTK.out HSB.out (fF HQN.out (by rw[HY.out];exact hyn) HQ.out));have hq16:q<1048576:=by have:=HNB.out;omega
          have hwr:IntKind.i64.wrap (256+(q:Int))=256+(q:Int):=by rw[IntKind.wrap_i64];omega
          clear hyn;go_wp2_with (fail);go_quiet (fail);obtain⟨wz,hwz⟩:∃wz,(wi.drewN nq0).drewN nq=wz:=⟨_,rfl⟩;have HBZ:Hid (Below w0.heap.size w0 wz):=hW_ (by rw[<-hwz];exact bA HBQ.out _);rw[hwz];clear hwz;go_wp2_with (fail);refine bodyPost_ret (v:= .tuple #[.slice (some ⟨wz.heap.size,0,none⟩) 1 1, .int .i64 0]) ?_ rfl ⟨⟨_,by rw[HSY.out],by rw[HSY.out];exact Own.mono (iM wz _) (Nat.le_trans HB0.out.size HBZ.out.size)⟩,(HB0.out.trans (HBZ.out.mono HB0.out.size)).alloc (Nat.le_trans HB0.out.size HBZ.out.size) _⟩
          simp[results,Tryz.results58,go_sem]
         ·have hb2:=dF hyn;have HQ2:Hid (∀j,j<q+1->tk N j≠nm):=hW_ (fun j hj=>by
           by_cases e:j=q
           ·subst e;rw[HY.out];exact hyn
           ·exact HQ.out j (by omega))
          clear hyn;go_wp2_with (fail);go_quiet (fail);go_wp2_with (fail);go_roundw
          case rel=>exact⟨q+1,_,by omega,by go_num,HQ2,rfl⟩
          case measure=>simp[intOf];omega
        ·have HSY:Hid (iA V N (q0:Int)=([],4)):=hW_ (J6 HTK.out HSB.out (vG (fun j hj=>HQ.out j (by have:=HNL.out;omega))));obtain⟨wz,hwz⟩:∃wz,wi.drewN nq0=wz:=⟨_,rfl⟩;rw[hwz]at HBQ |-;clear hwz;go_wp2_with (fail);refine bodyPost_ret (v:= .tuple #[.slice (some ⟨wz.heap.size,0,none⟩) 0 0, .int .i64 4]) ?_ rfl ⟨⟨_,by rw[HSY.out],by rw[HSY.out];exact Own.mono (D8 wz) (Nat.le_trans HB0.out.size HBQ.out.size)⟩,(HB0.out.trans (HBQ.out.mono HB0.out.size)).alloc (Nat.le_trans HB0.out.size HBQ.out.size) _⟩
         simp[results,Tryz.results58,go_sem]
      ·have hbid:(id != (q0:Int))=true:=by simpa using hid
       have hbid2:(id==(q0:Int))=false:=by simpa using hid
       have HK2:Hid (∀j,j<k+1->(sp V.specials j).id≠(q0:Int)):=hW_ (fun j hj=>by
        by_cases e:j=k
        ·subst e;rw[HSK.out];exact hid
        ·exact HK.out j (by omega))
       clear hid;go_wp2_with (fail);go_roundw
       case rel=>exact⟨k+1,by omega,by go_num,HK2,HB.out⟩
       case measure=>simp[intOf];omega
     ·have HSY:Hid (iA V N (q0:Int)=([],3)):=hW_ (pG HTK.out (bN (fun j hj=>HK.out j (by have:=HCS.out;omega))));go_wp2_with (fail);refine bodyPost_ret (v:= .tuple #[.slice (some ⟨wr.heap.size,0,none⟩) 0 0, .int .i64 3]) ?_ rfl ⟨⟨_,by rw[HSY.out],by rw[HSY.out];exact Own.mono (D8 wr) (Nat.le_trans HB0.out.size HB.out.size)⟩,(HB0.out.trans (HB.out.mono HB0.out.size)).alloc (Nat.le_trans HB0.out.size HB.out.size) _⟩
      simp[results,Tryz.results58,go_sem]
   ·obtain⟨e1,e2,e3⟩:=yD hz;obtain⟨s,hs⟩:∃s,tk V.tokens q0=s:=⟨_,rfl⟩;have HSY:Hid (iA V N (q0:Int)=(qA s,0)):=hW_ (by rw[<-hs];exact rP (by rw[HF.out];simp[hz]));have hs64:s.size<=64:=by rw[<-hs];exact HT.out _ (A4 (by have:=HCT.out;omega))
    rw[hs]at hc e1 e2 e3;clear hz hs;go_enter Tryz.func58,Tryz.ntmps58;obtain⟨wm,hwm⟩:∃wm,w0.alloc (.cells #[] 3)=wm:=⟨_,rfl⟩;have HWM:=hW_ hwm;have HBM:Hid (Below w.heap.size w wm):=hW_ (by rw[<-hwm];exact HB0.out.alloc HB0.out.size _);have HOM:Hid (Own wm w.heap.size (.slice (some ⟨w.heap.size+1,0,none⟩) 0 0) []):=hW_ (by
     have e:w.heap.size+1=w0.heap.size:=by rw[<-HW0.out];simp
     rw[e,<-hwm];exact Own.mono (D8 w0) HB0.out.size)
    have hc':=eA (aA w0 (.cells #[] 3)) _ _ hc;have b0':=eA (aA w0 (.cells #[] 3)) _ _ b0;rw[<-HW0.out]at hc hc' b0';clear hwm;go_wp2_with (fail);rw[HW0.out,HWM.out];clear e1 e2 e3 hc hc' b0' b0 b1 b2 b3 b4 b5 bf;go_loopw [6,8] (fun v i wr=>∃k:Nat,k<=s.size/\i= .int .i64 k/\Own wr w.heap.size v ((qA s).take k)/\Below w.heap.size w wr) (fun _ i _=>s.size-(intOf i).toNat)
    case atStart=>exact⟨0,Nat.zero_le _,rfl,by simpa using HOM.out,HBM.out⟩
    case round=>
     obtain⟨k,hk,rfl,ho,hb⟩:=hrel;have HO:=hW_ ho;have HB:=hW_ hb;clear ho hb
     by_cases hlt:k<s.size
     ·have HK:=hW_ (sO hlt);have HL:Hid (((qA s).take k).length=k):=hW_ (by rw[List.length_take,C8];omega);obtain⟨x,hxx⟩:∃x:Int,(s[k].toNat:Int)=x:=⟨_,rfl⟩;have HS1:Hid (SlI (wr.alloc (.cells #[.int .i64 x] 3)) (some ⟨wr.heap.size,0,none⟩) 1 1 [x]):=hW_ (SlI.one wr x _);have HO1:Hid (Own (wr.alloc (.cells #[.int .i64 x] 3)) w.heap.size u6 ((qA s).take k)):=hW_ (HO.out.alloc _);have HSZ:Hid (w.heap.size<=wr.heap.size):=hW_ HB.out.size;rw[hxx]at HK;have hx8:=s[k].toNat_lt;have hwx:wrap64 x=x:=by rw[<-hxx];unfold wrap64;omega
      go_wp2_with (at_builtin;go_loud (refine C2 rfl _ _ 40 rfl i0 Tryz.underlying40 hi hz0 hz1 hz2 rfl HO1.out rfl HS1.out (by have:=HL.out;omega) (by have:=HSZ.out;simp;omega) ?_));intro v1 w2 ho2 hg2 hb2;rw[<-HK.out]at ho2;have HO2:=hW_ ho2;have HB2:=hW_ ((HB.out.alloc HB.out.size _).trans hb2);clear ho2 hg2 hb2;go_wp2_with (fail);go_roundw
      case rel=>exact⟨k+1,by omega,by go_num,HO2.out,HB2.out⟩
      case measure=>simp[intOf];omega
     ·obtain rfl:k=s.size:=by omega
      have HO2:=HO.out;rw[List.take_of_length_le (by rw[C8];exact Nat.le_refl _)]at HO2;have HO3:=hW_ HO2;clear HO2;go_wp2_with (fail);refine bodyPost_ret (v:= .tuple #[u6, .int .i64 0]) ?_ rfl ⟨⟨u6,by rw[HSY.out],by rw[HSY.out];exact HO3.out⟩,HB.out⟩
      simp[results,Tryz.results58,go_sem]
  ·have HTK:Hid (bC V.tokens (q0:Int)=false):=hW_ (jQ (by have:=HCT.out;omega));go_enter Tryz.func58,Tryz.ntmps58;go_wp2_with (fail);rw[HW0.out];go_wp2_with (fail);go_loopw [55] (fun i wr=>∃k:Nat,k<=sn/\i= .int .i64 k/\Hid (∀j,j<k->(sp V.specials j).id≠(q0:Int))/\Below w0.heap.size w0 wr) (fun i _=>sn-(intOf i).toNat)
   case atStart=>exact⟨0,Nat.zero_le _,rfl,hW_ (fun j h=>by omega),Below.refl _ _⟩
   case round=>
    obtain⟨k,hk,rfl,HK,hb⟩:=hrel;have HB:=hW_ hb;obtain⟨b0,b1,b2,b3,b4,b5,bf⟩:=nK ((hb.block w.heap.size HSZ1.out).trans HX0.out);clear hb
    by_cases hlt:k<sn
    ·have hkS:k<V.specials.length:=by have:=HCS.out;omega
     obtain⟨b,of,hao,hce⟩:=(HV.out.below HB.out).spc.elem Sp.enc_len (by omega) (nC hkS);simp only at hao;subst hao;obtain⟨⟨nm,id⟩,hseq⟩:∃m,sp V.specials k=m:=⟨_,rfl⟩;rw[hseq]at hce;have d0:=hce 0 _ rfl;have d1:=hce 1 _ rfl;rw[Nat.add_zero]at d0;simp only at d0 d1;have HSK:=hW_ hseq;have gk:(k:Int)<(sn:Int):=by omega
     clear hce hseq
     by_cases hid:id=(q0:Int)
     ·have hbid:(id != (q0:Int))=false:=by simpa using hid
      have hbid2:(id==(q0:Int))=true:=by simpa using hid
      have HSB:Hid (rH V.specials (q0:Int)=some ⟨nm,id⟩):=hW_ (by rw[<-HSK.out];exact uP hkS (by rw[HSK.out];exact hid) HK.out);clear hid;obtain⟨wi,rfl⟩:∃wi:World,wi=wr:=⟨_,rfl⟩;go_wp2_with (fail);go_loopw [70] (fun i wr=>∃q nq:Nat,q<=nn/\i= .int .i64 q/\Hid (∀j,j<q->tk N j≠nm)/\wr=wi.drewN nq) (fun i _=>nn-(intOf i).toNat)
      case atStart=>exact⟨0,0,Nat.zero_le _,rfl,hW_ (fun j h=>by omega),rfl⟩
      case round=>
       obtain⟨q,nq0,hq,rfl,HQ,rfl⟩:=hrel;have HBQ:Hid (Below w0.heap.size w0 (wi.drewN nq0)):=hW_ (bA HB.out _)
       by_cases hltq:q<nn
       ·have hqN:q<N.length:=by have:=HNL.out;omega
        obtain⟨b',of',hao,hc⟩:=SlS.cell (Sl.below HN.out HB.out) (zA hqN);subst hao;obtain⟨y,hy⟩:∃y,tk N q=y:=⟨_,rfl⟩;rw[hy]at hc;have HY:=hW_ hy;have gq:(q:Int)<(nn:Int):=by omega
        have HQN:=hW_ hqN;clear hy hqN
        by_cases hyn:y=nm
        ·have hb2:=xD hyn;have HSY:Hid (iA V N (q0:Int)=([256+(q:Int)],0)):=hW_ (J8 HTK.out HSB.out (fF HQN.out (by rw[HY.out];exact hyn) HQ.out));have hq16:q<1048576:=by have:=HNB.out;omega
         have hwr:IntKind.i64.wrap (256+(q:Int))=256+(q:Int):=by rw[IntKind.wrap_i64];omega
         clear hyn;go_wp2_with (fail);go_quiet (fail);obtain⟨wz,hwz⟩:∃wz,(wi.drewN nq0).drewN nq=wz:=⟨_,rfl⟩;have HBZ:Hid (Below w0.heap.size w0 wz):=hW_ (by rw[<-hwz];exact bA HBQ.out _);rw[hwz];clear hwz;go_wp2_with (fail);refine bodyPost_ret (v:= .tuple #[.slice (some ⟨wz.heap.size,0,none⟩) 1 1, .int .i64 0]) ?_ rfl ⟨⟨_,by rw[HSY.out],by rw[HSY.out];exact Own.mono (iM wz _) (Nat.le_trans HB0.out.size HBZ.out.size)⟩,(HB0.out.trans (HBZ.out.mono HB0.out.size)).alloc (Nat.le_trans HB0.out.size HBZ.out.size) _⟩
         simp[results,Tryz.results58,go_sem]
        ·have hb2:=dF hyn;have HQ2:Hid (∀j,j<q+1->tk N j≠nm):=hW_ (fun j hj=>by
          by_cases e:j=q
          ·subst e;rw[HY.out];exact hyn
          ·exact HQ.out j (by omega))
         clear hyn;go_wp2_with (fail);go_quiet (fail);go_wp2_with (fail);go_roundw
         case rel=>exact⟨q+1,_,by omega,by go_num,HQ2,rfl⟩
         case measure=>simp[intOf];omega
       ·have HSY:Hid (iA V N (q0:Int)=([],4)):=hW_ (J6 HTK.out HSB.out (vG (fun j hj=>HQ.out j (by have:=HNL.out;omega))));obtain⟨wz,hwz⟩:∃wz,wi.drewN nq0=wz:=⟨_,rfl⟩;rw[hwz]at HBQ |-;clear hwz;go_wp2_with (fail);refine bodyPost_ret (v:= .tuple #[.slice (some ⟨wz.heap.size,0,none⟩) 0 0, .int .i64 4]) ?_ rfl ⟨⟨_,by rw[HSY.out],by rw[HSY.out];exact Own.mono (D8 wz) (Nat.le_trans HB0.out.size HBQ.out.size)⟩,(HB0.out.trans (HBQ.out.mono HB0.out.size)).alloc (Nat.le_trans HB0.out.size HBQ.out.size) _⟩
        simp[results,Tryz.results58,go_sem]
     ·have hbid:(id != (q0:Int))=true:=by simpa using hid
      have hbid2:(id==(q0:Int))=false:=by simpa using hid
      have HK2:Hid (∀j,j<k+1->(sp V.specials j).id≠(q0:Int)):=hW_ (fun j hj=>by
       by_cases e:j=k
       ·subst e;rw[HSK.out];exact hid
       ·exact HK.out j (by omega))
      clear hid;go_wp2_with (fail);go_roundw
      case rel=>exact⟨k+1,by omega,by go_num,HK2,HB.out⟩
      case measure=>simp[intOf];omega
    ·have HSY:Hid (iA V N (q0:Int)=([],3)):=hW_ (pG HTK.out (bN (fun j hj=>HK.out j (by have:=HCS.out;omega))));go_wp2_with (fail);refine bodyPost_ret (v:= .tuple #[.slice (some ⟨wr.heap.size,0,none⟩) 0 0, .int .i64 3]) ?_ rfl ⟨⟨_,by rw[HSY.out],by rw[HSY.out];exact Own.mono (D8 wr) (Nat.le_trans HB0.out.size HB.out.size)⟩,(HB0.out.trans (HB.out.mono HB0.out.size)).alloc (Nat.le_trans HB0.out.size HB.out.size) _⟩
     simp[results,Tryz.results58,go_sem]
open Go
def lE (V:Vc) (N:List ByteArray) (k:Nat):List Fr:=
 (List.range k).filterMap fun(i:Nat)=>if(iA V N (i:Int)).2=0 then some ((iA V N (i:Int)).1,(i:Int))else none
theorem Y6 {V:Vc} {N:List ByteArray} {k:Nat} (h:(iA V N (k:Int)).2=0):lE V N (k+1)=lE V N k++ [((iA V N (k:Int)).1,(k:Int))]:=by
 unfold lE;rw[List.range_succ,List.filterMap_append];simp[h]
theorem xS {V:Vc} {N:List ByteArray} {k:Nat} (h:(iA V N (k:Int)).2≠0):lE V N (k+1)=lE V N k:=by
 unfold lE;rw[List.range_succ,List.filterMap_append];simp[h]
theorem gL {V:Vc} {N:List ByteArray} (hM:May V):∀d,lE V N (V.tokens.length+d)=B8 V N
 | 0=>rfl
 | d+1=>by
  rw[<-Nat.add_assoc,xS (sP hM (by omega))];exact gL hM d
theorem yS (V:Vc) (N:List ByteArray) (k:Nat):(lE V N k).length<=k:=by
 unfold lE;refine Nat.le_trans (List.length_filterMap_le _ _) ?_
 simp
structure CR (w:World) (dd:Vd) (no:Option Addr) (nn nc:Nat) (V:Vc) (N:List ByteArray):Prop where
 voc:eE w dd V
 names:SlS w no nn nc N
 t64:∀s∈V.tokens,s.size<=64
 n16:nn<=16
 sp:V.specials.length<=1048576
 tk:V.tokens.length<=1048576
theorem CR.below {w w':World} {dd:Vd} {no:Option Addr} {nn nc:Nat} {V:Vc} {N:List ByteArray} (h:CR w dd no nn nc V N) (hb:Below w.heap.size w w'):CR w' dd no nn nc V N:=
 ⟨h.voc.below hb,Sl.below h.names hb,h.t64,h.n16,h.sp,h.tk⟩
def X4 (dd:Vd) (no:Option Addr) (nn nc:Nat) (kind:Int) (to_:Option Addr) (tn tc:Nat):Value:=
 .agg #[.slice dd.ta dd.tn dd.tc, .slice dd.ma dd.mn dd.mc, .slice dd.sa dd.sn dd.sc, .slice no nn nc, .int .i64 kind, .slice to_ tn tc]
theorem rsym_c {V:Vc} {N:List ByteArray} {dd:Vd} {no to_:Option Addr} {nn nc tn' tc':Nat} {kind:Int} (t:Int) (w:World) (h:CR w dd no nn nc V N):
  Calls Tryz.prog 58 #[X4 dd no nn nc kind to_ tn' tc', .int .i64 t] w (cV V N t w):=
 xP t w h.voc h.names h.t64 h.n16 h.sp h.tk
theorem S9 {A:List Int} {ao:Option Addr} {n c:Nat} (x:Int) (w:World) (hA:SlI w ao n c A):
  Calls Tryz.prog 27 #[.slice ao n c, .int .i64 x] w fun e w'=>e= .returned (.bool (decide (x∈A)))/\w=w':=by
 have hm1:=Nat.le_trans (Sl.le hA) (Sl.max hA);unfold maxLen at hm1;have HA:=hW_ hA;have HLA:=hW_ hA.len;clear hA;go_enter Tryz.func27,Tryz.ntmps27;go_wp2_with (fail);go_loop [9] (fun i=>∃k:Nat,k<=n/\i= .int .i64 k/\Hid (∀j,j<k->ix A j≠x)) (fun i=>n-(intOf i).toNat)
 case atStart=>exact⟨0,Nat.zero_le _,rfl,hW_ (fun j h=>by omega)⟩
 case round=>
  obtain⟨k,hk,rfl,HK⟩:=hrel
  by_cases hlt:k<n
  ·obtain⟨b1,o1,hao,hc1⟩:=HA.out.at_ hlt;subst hao;have gk:(k:Int)<(n:Int):=by omega
   by_cases hx:ix A k=x
   ·rw[hx]at hc1;have HF:Hid (decide (x∈A)=true):=hW_ (by
     rw[decide_eq_true_iff,<-hx];exact List.mem_of_getElem? (xE (by have:=HLA.out;omega)))
    clear hx;go_wp2_with (fail);go_ret;exact⟨lA HF.out.symm,rfl⟩
   ·have HK2:Hid (∀j,j<k+1->ix A j≠x):=hW_ (fun j hj=>by
     rcases Nat.lt_or_ge j k with h | h
     ·exact HK.out j h
     ·rw[show j=k by omega];exact hx)
    obtain⟨y,hy⟩:∃y,ix A k=y:=⟨_,rfl⟩;rw[hy]at hc1 hx;have hb:(y==x)=false:=by simpa using hx
    clear hy hx;go_wp2_with (fail);go_round
    case rel=>exact⟨k+1,by omega,by go_num,HK2⟩
    case measure=>simp[intOf];omega
  ·obtain rfl:k=n:=by omega
   have HF:Hid (decide (x∈A)=false):=hW_ (by
    rw[decide_eq_false_iff_not];intro h;obtain⟨j,hj,e⟩:=List.getElem_of_mem h;have h2:=xE hj;rw[List.getElem?_eq_getElem hj,e]at h2;exact HK.out j (by have:=HLA.out;omega) (Option.some.inj h2).symm)
   go_wp2_with (fail);go_ret;exact⟨lA HF.out.symm,rfl⟩
theorem box7 {w:World} {g:Nat} {a b c d e f x:Value} {t:TypeId} (h:w.heap[g]?=some (.cells #[a,b,c,d,e,f,x] t)):
  w.cell? ⟨g,0,none⟩=some a/\w.cell? ⟨g,1,none⟩=some b/\w.cell? ⟨g,2,none⟩=some c/\w.cell? ⟨g,3,none⟩=some d/\w.cell? ⟨g,4,none⟩=some e/\w.cell? ⟨g,5,none⟩=some f/\w.cell? ⟨g,6,none⟩=some x:=by
 simp[World.cell?,h]
theorem qI.stay {w:World} {base g:Nat} {V:Vc} {N:List ByteArray} {kind:Int} {T:List Rg} {room:Int} {cb mb:Nat} {no:Option Addr} {l:List Row} {hits misses:Int} (h:qI w base g V N kind T room cb mb no l hits misses):
  ∀w',Below w.heap.size w w'->mG w' base g V N kind T cb:=by
 obtain⟨⟨S,h1,h2⟩,_⟩:=h;exact fun w' hb=>h1 w' (fun q hq=>hb.block q (h2 q hq).1.2) hb.size
theorem yQ {w w4:World} {n k:Nat} (h:Below n w w4) (hn:n<=k) (a b c d e f:Value):
  Below n w ((((((w4.setCell ⟨k,0,none⟩ a).setCell ⟨k,1,none⟩ b).setCell ⟨k,2,none⟩ c).setCell ⟨k,3,none⟩ d).setCell ⟨k,4,none⟩ e).setCell ⟨k,5,none⟩ f).drew:=
 have h1:=h.setCell (p:=⟨k,0,none⟩) hn a;have h2:=h1.setCell (p:=⟨k,1,none⟩) hn b;have h3:=h2.setCell (p:=⟨k,2,none⟩) hn c;have h4:=h3.setCell (p:=⟨k,3,none⟩) hn d;have h5:=h4.setCell (p:=⟨k,4,none⟩) hn e;have h6:=h5.setCell (p:=⟨k,5,none⟩) hn f
 h6.drew
theorem oN {w4:World} {k q:Nat} (hn:q≠k) (a b c d e f:Value):
  ((((((w4.setCell ⟨k,0,none⟩ a).setCell ⟨k,1,none⟩ b).setCell ⟨k,2,none⟩ c).setCell ⟨k,3,none⟩ d).setCell ⟨k,4,none⟩ e).setCell ⟨k,5,none⟩ f).drew.heap[q]?=w4.heap[q]? :=by
 have e0:∀X:World,X.drew.heap=X.heap:=fun _=>rfl
 rw[e0];exact(Below.heap_setCell _ _ _ _ hn).trans ((Below.heap_setCell _ _ _ _ hn).trans ((Below.heap_setCell _ _ _ _ hn).trans ((Below.heap_setCell _ _ _ _ hn).trans ((Below.heap_setCell _ _ _ _ hn).trans (Below.heap_setCell _ _ _ _ hn)))))
theorem mG.mono {w:World} {base base' g:Nat} {V:Vc} {N:List ByteArray} {kind:Int} {T:List Rg} {cb:Nat} (h:mG w base g V N kind T cb) (hb:base'<=base):mG w base' g V N kind T cb:=by
 obtain⟨h1,ta,tc,sa,sc,na,nc,ma,mc,oa,oc,eg,hx,a1,a2,a3,a4,a5,a6⟩:=h;exact⟨by omega,ta,tc,sa,sc,na,nc,ma,mc,oa,oc,eg,hx,a1.mono hb,a2.mono hb,a3.mono hb,a4.mono hb,a5.mono hb,a6.mono hb⟩
theorem mG.below {w w':World} {base g:Nat} {V:Vc} {N:List ByteArray} {kind:Int} {T:List Rg} {cb:Nat} (h:mG w base g V N kind T cb) (hb:Below w.heap.size w w'):mG w' base g V N kind T cb:=by
 obtain⟨lo,ta,tc,sa,sc,na,nc,ma,mc,oa,oc,eg,hx,a1,a2,a3,a4,a5,a6⟩:=h;exact⟨lo,ta,tc,sa,sc,na,nc,ma,mc,oa,oc,eg,(hb.block _ (Array.getElem?_eq_some_iff.1 hx).1).trans hx,a1.below hb,a2.below hb,a3.below hb,a4.below hb,a5.below hb,a6.keep (fun q _ hq=>hb.block q hq) hb.size⟩
theorem jX {V:Vc} {N:List ByteArray} {kind:Int} {T:List Rg} {base g cb:Nat} (s:Int) (w:World) (hC:mG w base g V N kind T cb) (hN:N.length<=16):
  Calls Tryz.prog 82 #[.pointer (some ⟨g,0,none⟩), .int .i64 s] w fun e w'=>e= .returned (.int .i64 (sB V N s))/\w=w':=by
 obtain⟨lo,ta,tc,sa,sc,na,nc,ma,mc,oa,oc,eg,hx,_,_,_,hom,_⟩:=hC;obtain⟨c0,c1,c2,c3,c4,c5,c6,c7,c8,cf⟩:=zM hx;obtain⟨mo,mcap,e0,hsm⟩:=hom.sl;have hml:=kJ V.specials N;rw[hml]at e0 hsm;obtain⟨rfl,_,rfl⟩:=Value.slice.inj e0;have q1:IntKind.i64.wrap (256+(N.length:Int))=256+(N.length:Int):=by rw[IntKind.wrap_i64];omega
 clear hx hom e0
 by_cases h0:s<0
 ·have HF:Hid (sB V N s=1):=hW_ (by unfold sB;rw[if_pos (.inl h0)]);have hd:decide (s<0)=true:=by simpa using h0
  go_enter Tryz.func82,Tryz.ntmps82;go_wp2_with (fail);refine bodyPost_ret (results_tmp rfl _ _ _) rfl ⟨by rw[HF.out];rfl,rfl⟩
 ·have hd:decide (s<0)=false:=by simpa using h0
  by_cases h1:256+(N.length:Int)<=s
  ·have HF:Hid (sB V N s=1):=hW_ (by unfold sB;rw[if_pos (.inr h1)]);go_enter Tryz.func82,Tryz.ntmps82;go_wp2_with (fail);refine bodyPost_ret (results_tmp rfl _ _ _) rfl ⟨by rw[HF.out];rfl,rfl⟩
  ·have hnn:¬(s<0\/256+(N.length:Int)<=s):=by omega
   by_cases h2:256<=s
   ·have hg2:decide ((256:Int)<=s)=true:=by simpa using h2
    obtain⟨k,hk⟩:∃k:Nat,s-256=k:=⟨(s-256).toNat,by omega⟩;have q2:IntKind.i64.wrap (s-256)=(k:Int):=by rw[IntKind.wrap_i64];omega
    have gk:(k:Int)<(N.length:Int):=by omega
    have gk0:(0:Int)<=(k:Int):=by omega
    obtain⟨b,o,hao,hc⟩:=hsm.at_ (i:=k) (by omega);subst hao;obtain⟨v,hv⟩:∃v,ix (aC V.specials N) k=v:=⟨_,rfl⟩;rw[hv]at hc;have hmk:jH V N s=v:=by unfold jH;rw[hk,Int.toNat_natCast,hv]
    by_cases h3:v<0
    ·have HF:Hid (sB V N s=4):=hW_ (by unfold sB;rw[if_neg hnn,if_pos ⟨h2,by rw[hmk];exact h3⟩]);clear hsm hml hv hmk hnn;go_enter Tryz.func82,Tryz.ntmps82;go_wp2_with (fail);refine bodyPost_ret (results_tmp rfl _ _ _) rfl ⟨by rw[HF.out];rfl,rfl⟩
    ·have HF:Hid (sB V N s=0):=hW_ (by unfold sB;rw[if_neg hnn,if_neg (fun h=>h3 (by rw[<-hmk];exact h.2))]);clear hsm hml hv hmk hnn;go_enter Tryz.func82,Tryz.ntmps82;go_wp2_with (fail);refine bodyPost_ret (results_tmp rfl _ _ _) rfl ⟨by rw[HF.out];rfl,rfl⟩
   ·have hg2:decide ((256:Int)<=s)=false:=by simpa using h2
    have HF:Hid (sB V N s=0):=hW_ (by unfold sB;rw[if_neg hnn,if_neg (fun h=>h2 h.1)]);clear hsm hml hnn;go_enter Tryz.func82,Tryz.ntmps82;go_wp2_with (fail);refine bodyPost_ret (results_tmp rfl _ _ _) rfl ⟨by rw[HF.out];rfl,rfl⟩
theorem zG {V:Vc} {N:List ByteArray} {kind:Int} {T:List Rg} {base g cb:Nat} {A:List Int} {ao:Option Addr} {n c:Nat} (w:World) (hC:mG w base g V N kind T cb) (hN:N.length<=16) (hA:SlI w ao n c A) (hn:n<=1048576):
  Calls Tryz.prog 39 #[.pointer (some ⟨g,0,none⟩), .slice ao n c] w fun e w'=>e= .returned (.int .i64 (vA V N A))/\w=w':=by
 have HC:=hW_ hC;have HA:=hW_ hA;have HN:=hW_ hN;have HAL:=hW_ hA.len;clear hC hA hN;go_enter Tryz.func39,Tryz.ntmps39;go_wp2_with (fail);go_loopw [12] (fun i wr=>∃k:Nat,k<=n/\i= .int .i64 k/\Hid (vA V N A=vA V N (A.drop k))/\wr=w) (fun i _=>n-(intOf i).toNat)
 case atStart=>exact⟨0,Nat.zero_le _,rfl,hW_ rfl,rfl⟩
 case round=>
  obtain⟨k,hk,rfl,HK,hw⟩:=hrel;subst hw
  by_cases hlt:k<n
  ·obtain⟨b,o,hao,hc⟩:=HA.out.at_ hlt;subst hao;have hkA:k<A.length:=by have:=HAL.out;omega
   have hdr:=zX (V:=V) (N:=N) hkA;obtain⟨s,hs⟩:∃s,ix A k=s:=⟨_,rfl⟩;rw[hs]at hc hdr;have HF:=hW_ (jX s wr HC.out HN.out)
   by_cases hf:sB V N s=0
   ·rw[if_pos hf]at hdr;have HK2:Hid (vA V N A=vA V N (A.drop (k+1))):=hW_ (HK.out.trans hdr);rw[hf]at HF;clear hdr hs hf;go_wp2_with (go_at_call 82;refine HF.out.mono ?_;rintro e w1 ⟨rfl,rfl⟩);go_roundw
    case rel=>exact⟨k+1,by omega,by go_num,HK2,by first | rfl | trivial⟩
    case measure=>simp[intOf];omega
   ·rw[if_neg hf]at hdr;have HK2:Hid (vA V N A=sB V N s):=hW_ (HK.out.trans hdr);obtain⟨f,hff⟩:∃f,sB V N s=f:=⟨_,rfl⟩;rw[hff]at hf HF HK2;have hb:(f==0)=false:=by simpa using hf
    clear hdr hs hff;go_wp2_with (go_at_call 82;refine HF.out.mono ?_;rintro e w1 ⟨rfl,rfl⟩);refine bodyPost_ret (results_tmp rfl _ _ _) rfl ⟨by rw[HK2.out];rfl,rfl⟩
  ·obtain rfl:k=n:=by omega
   have HK2:Hid (vA V N A=0):=hW_ (by rw[HK.out,List.drop_eq_nil_of_le (by have:=HAL.out;omega)];rfl);go_wp2_with (fail);go_ret;exact⟨by rw[HK2.out];rfl,rfl⟩
theorem wT {V:Vc} {N:List ByteArray} {kind:Int} {T:List Rg} {base g cb:Nat} {A:List Int} {ao:Option Addr} {n c:Nat} (final:Bool) (w:World) (hC:mG w base g V N kind T cb) (hA:SlI w ao n c A) (hn:n<=1048570) (hT:mA T) (hk0:0<=kind) (hk3:kind<=3):
  Calls Tryz.prog 62 #[.pointer (some ⟨g,0,none⟩), .slice ao n c, .bool final] w fun e w'=>(∃v,e= .returned v/\dA uI 2 108 w' w.heap.size v (F4 kind T A final))/\Below w.heap.size w w':=by
 obtain⟨lo,ta,tc,sa,sc,na,nc,ma,mc,oa,oc,eg,hx,_,_,_,_,hot,_⟩:=hC;obtain⟨c0,c1,c2,c3,c4,c5,c6,c7,c8,cf⟩:=zM hx;obtain⟨to_,tcap,e0,hst⟩:=hot.sl;obtain⟨rfl,_,rfl⟩:=Value.slice.inj e0;have HS:Hid (∀W,Ge w W->Calls Tryz.prog 108 #[.int .i64 kind, .slice oa T.length oc, .slice ao n c, .bool final] W fun e w'=>(∃v,e= .returned v/\dA uI 2 108 w' w.heap.size v (F4 kind T A final))/\Below w.heap.size w w'):=hW_ (fun W hW=>(sV kind final W (hA.below hW) hn (hst.below hW) hT hk0 hk3).mono (by
  rintro e w' ⟨⟨v,rfl,h1⟩,h2⟩;exact⟨⟨v,rfl,dA.mono h1 hW.size⟩,hW.below h2⟩))
 clear hx hot e0 hst hA;go_enter Tryz.func62,Tryz.ntmps62;go_wp2_with (fail)
 go_region_with (go_at_call 108;refine(HS.out _ (by exact bA (Below.refl _ _) _)).mono ?_;rintro e w2 ⟨⟨v,rfl,ho⟩,hb2⟩;have HO:=hW_ ho;have HB2:=hW_ hb2;clear ho hb2)
 all_goals(
  go_wp2_with (fail);go_ret;exact⟨⟨v,rfl,HO.out⟩,HB2.out⟩)
end Go.Proofs.YtjlokfejnijokaaGreatDoor
