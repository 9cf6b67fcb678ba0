/- Walk: may merges be, by the document? (Printed by gMrgR.py.) -/
import Derived.Test.YtahiballegpbgaaGreatDoorR1
set_option linter.unusedVariables false
set_option maxHeartbeats 4000000
set_option maxRecDepth 100000
namespace Go.Proofs.YtahiballegpbgaaGreatDoor
open Go.RowKit Go.Sort
structure oO (T:List ByteArray) (M:List Mg) (k:Nat):Prop where
 ok:∀j,j<k->gX T (mg M j)
 pair:∀i j,i<j->j<k->rL (mg M i) (mg M j)/\cG (mg M i) (mg M j)
theorem oO.zero (T:List ByteArray) (M:List Mg):oO T M 0:=⟨fun j h=>by omega,fun i j _ h=>by omega⟩
def zK (M:List Mg) (k q:Nat):Prop:=∀i,i<q->rL (mg M i) (mg M k)/\cG (mg M i) (mg M k)
theorem zK.zero (M:List Mg) (k:Nat):zK M k 0:=fun i h=>by omega
theorem zK.next {M:List Mg} {k q:Nat} (h:zK M k q) (h1:rL (mg M q) (mg M k)) (h2:cG (mg M q) (mg M k)):zK M k (q+1):=fun i hi=>by
 by_cases e:i=q
 ·subst e;exact⟨h1,h2⟩
 ·exact h i (by omega)
theorem oO.next {T:List ByteArray} {M:List Mg} {k q:Nat} (h:oO T M k) (h1:gX T (mg M k)) (h2:zK M k q) (hq:q<=k) (hq2:¬q<k):oO T M (k+1):=by
 obtain rfl:q=k:=by omega
 refine⟨fun j hj=> ?_,fun i j hi hj=> ?_⟩
 ·by_cases e:j=q
  ·subst e;exact h1
  ·exact h.ok j (by omega)
 ·by_cases e:j=q
  ·subst e;exact h2 i hi
  ·exact h.pair i j hi (by omega)
theorem oO.all {T:List ByteArray} {M:List Mg} {k n:Nat} (h:oO T M k) (hl:M.length=n) (hk:k<=n) (hk2:¬k<n) (hn:n<=16384):D6 T M:=by
 obtain rfl:k=n:=by omega
 refine⟨by omega,fun m hm=> ?_,?_⟩
 ·obtain⟨i,hi,rfl⟩:=List.getElem_of_mem hm;rw[wG hi];exact h.ok i (by omega)
 ·rw[List.pairwise_iff_getElem];intro i j hi hj hij;rw[wG hi,wG hj];exact h.pair i j hij (by omega)
theorem A4 {w:World} {g:Nat} {x y z:Value} {t:TypeId} (h:w.heap[g]?=some (.cells #[x,y,z] t)):w.cell? ⟨g,0,none⟩=some x/\w.cell? ⟨g,1,none⟩=some y/\w.cell? ⟨g,2,none⟩=some z:=by
 simp[World.cell?,h]
theorem O2 {V:Vc} {dd:Vd} (w:World) (hV:xE w dd V) (hmay:sD V.tokens):
  Calls Tryz.prog 137 #[dd.val] w (oV V.tokens V.merges w):=by
 obtain⟨T,M,S⟩:=V;obtain⟨ta,tn,tc,ma,mn,mc,sa,sn,sc⟩:=dd;obtain⟨hT,hM,_⟩:=hV;simp only at hT hM hmay |-;have hm:=Nat.le_trans (Sl.le hT) (Sl.max hT);have hmm:=Nat.le_trans hM.le hM.max;unfold maxLen at hm hmm;have hlen:=hW_ hT.count;have hlenM:=hW_ (hM.count Mg.enc_len (by omega));obtain⟨w0,hw0⟩:∃w0,w.alloc (.cells #[.slice ta tn tc, .slice ma mn mc, .slice sa sn sc] 26)=w0:=⟨_,rfl⟩;have hb0:Below w.heap.size w w0:=hw0▸aA w _;have hx0:w0.heap[w.heap.size]?=some (.cells #[.slice ta tn tc, .slice ma mn mc, .slice sa sn sc] 26):=by rw[<-hw0];exact heap_alloc_new w _
 have hs0:w.heap.size<w0.heap.size:=by rw[<-hw0];simp
 obtain⟨c0,c1,c2⟩:=A4 hx0;have HT:=hW_ (Sl.below hT hb0);have HM:=hW_ (hM.below hb0);have HX0:=hW_ hx0;have HB0:=hW_ hb0;have HMay:=hW_ hmay;have HW0:=hW_ hw0;clear hT hM hmay hb0 hx0 hw0
 by_cases hl:(16384:Int)<mn
 ·have HF:=hW_ (L6 (T:=T) (M:=M) (by have:=hlenM.out;omega));go_enter Tryz.func137,Tryz.ntmps137;go_wp2_with (fail);go_ret;exact⟨⟨_,rfl,HF.out⟩,by rw[HW0.out];exact HB0.out⟩
 ·go_enter Tryz.func137,Tryz.ntmps137;go_wp2_with (fail);rw[HW0.out];go_loopw [3,4,5,6,14] (fun _ _ _ _ i wr=>∃(k:Nat),k<=mn/\i= .int .i64 k/\Hid (oO T M k)/\Below w0.heap.size w0 wr) (fun _ _ _ _ i _=>mn-(intOf i).toNat)
  case atStart=>exact⟨0,Nat.zero_le _,rfl,hW_ (oO.zero T M),Below.refl _ _⟩
  case round=>
   obtain⟨k,hk,rfl,HG,hb⟩:=hrel;have HB:=hW_ hb;clear c0 c1 c2;obtain⟨c0,c1,c2⟩:=A4 ((hb.block w.heap.size hs0).trans HX0.out);clear hb
   by_cases hlt:k<mn
   ·have hkM:k<M.length:=by have:=hlenM.out;omega
    obtain⟨b,of,rfl,hce⟩:=(HM.out.below HB.out).elem Mg.enc_len (by omega) (F2 hkM);obtain⟨⟨l,r,o,d⟩,hmeq⟩:∃m,mg M k=m:=⟨_,rfl⟩;rw[hmeq]at hce;have d0:=hce 0 _ rfl;have d1:=hce 1 _ rfl;have d2:=hce 2 _ rfl;have d3:=hce 3 _ rfl;rw[Nat.add_zero]at d0;simp only at d0 d1 d2 d3;have HMK:=hW_ hmeq;have hwb:=aA wr (.cells #[.int .i64 l, .int .i64 r, .int .i64 o, .int .i64 d] 170);have HB1:=hW_ (HB.out.trans (hwb.mono HB.out.size));have HT1:=hW_ (Sl.below HT.out HB1.out);have hlt0:w.heap.size<wr.heap.size:=Nat.lt_of_lt_of_le hs0 HB.out.size;clear hce hmeq hwb
    cases hl1:wD T l with
    | false=>
     have HF:=hW_ (tB (T:=T) hkM (fun h=>by rw[HMK.out]at h;have:=h.1;rw[hl1]at this;cases this));go_wp2_with (fail);refine(xB l _ HT1.out).mono ?_
     rintro e w' ⟨rfl,rfl⟩;go_wp2_with (fail);go_ret;exact⟨⟨_,rfl,HF.out⟩,HB0.out.trans (HB1.out.mono HB0.out.size)⟩
    | true=>
     cases hr1:wD T r with
     | false=>
      have HF:=hW_ (tB (T:=T) hkM (fun h=>by rw[HMK.out]at h;have:=h.2.1;rw[hr1]at this;cases this));go_wp2_with (fail);refine(xB l _ HT1.out).mono ?_
      rintro e w' ⟨rfl,rfl⟩;go_wp2_with (fail);refine(xB r _ HT1.out).mono ?_
      rintro e w' ⟨rfl,rfl⟩;go_wp2_with (fail);go_ret;exact⟨⟨_,rfl,HF.out⟩,HB0.out.trans (HB1.out.mono HB0.out.size)⟩
     | true=>
      cases ho1:wD T o with
      | false=>
       have HF:=hW_ (tB (T:=T) hkM (fun h=>by rw[HMK.out]at h;have:=h.2.2.1;rw[ho1]at this;cases this));go_wp2_with (fail);refine(xB l _ HT1.out).mono ?_
       rintro e w' ⟨rfl,rfl⟩;go_wp2_with (fail);refine(xB r _ HT1.out).mono ?_
       rintro e w' ⟨rfl,rfl⟩;go_wp2_with (fail);refine(xB o _ HT1.out).mono ?_
       rintro e w' ⟨rfl,rfl⟩;go_wp2_with (fail);go_ret;exact⟨⟨_,rfl,HF.out⟩,HB0.out.trans (HB1.out.mono HB0.out.size)⟩
      | true=>
       by_cases hd0:d<0
       ·have hdd:decide (d<0)=true:=by simpa using hd0
        have HF:=hW_ (tB (T:=T) hkM (fun h=>by rw[HMK.out]at h;have:=h.2.2.2.2.1;simp only at this;omega));go_wp2_with (fail);refine(xB l _ HT1.out).mono ?_
        rintro e w' ⟨rfl,rfl⟩;go_wp2_with (fail);refine(xB r _ HT1.out).mono ?_
        rintro e w' ⟨rfl,rfl⟩;go_wp2_with (fail);refine(xB o _ HT1.out).mono ?_
        rintro e w' ⟨rfl,rfl⟩;go_wp2_with (fail);go_ret;exact⟨⟨_,rfl,HF.out⟩,HB0.out.trans (HB1.out.mono HB0.out.size)⟩
       have hdd0:decide (d<0)=false:=by simpa using hd0
       by_cases hd1:1048576<d
       ·have hdd:decide (1048576<d)=true:=by simpa using hd1
        have HF:=hW_ (tB (T:=T) hkM (fun h=>by rw[HMK.out]at h;have:=h.2.2.2.2.2;simp only at this;omega));go_wp2_with (fail);refine(xB l _ HT1.out).mono ?_
        rintro e w' ⟨rfl,rfl⟩;go_wp2_with (fail);refine(xB r _ HT1.out).mono ?_
        rintro e w' ⟨rfl,rfl⟩;go_wp2_with (fail);refine(xB o _ HT1.out).mono ?_
        rintro e w' ⟨rfl,rfl⟩;go_wp2_with (fail);go_ret;exact⟨⟨_,rfl,HF.out⟩,HB0.out.trans (HB1.out.mono HB0.out.size)⟩
       have hdd1:decide (1048576<d)=false:=by simpa using hd1
       have hbx:=heap_alloc_new wr (.cells #[.int .i64 l, .int .i64 r, .int .i64 o, .int .i64 d] 170);have hs1:wr.heap.size<(wr.alloc (.cells #[.int .i64 l, .int .i64 r, .int .i64 o, .int .i64 d] 170)).heap.size:=by simp
       go_wp2_with (fail);refine(xB l _ HT1.out).mono ?_
       rintro e w' ⟨rfl,rfl⟩;go_wp2_with (fail);refine(xB r _ HT1.out).mono ?_
       rintro e w' ⟨rfl,rfl⟩;go_wp2_with (fail);refine(xB o _ HT1.out).mono ?_
       rintro e w' ⟨rfl,rfl⟩;go_wp2_with (fail);obtain⟨w1,hw1⟩:∃w1,wr.alloc (.cells #[.int .i64 l, .int .i64 r, .int .i64 o, .int .i64 d] 170)=w1:=⟨_,rfl⟩;rw[hw1]at hbx hs1 HB1 HT1 |-;have HBX:=hW_ hbx;have c0':=eA HB1.out _ _ (A4 HX0.out).1;obtain⟨b0,b1,b2,b3⟩:=fH hbx;have hil:=vB.1 hl1;have hir:=vB.1 hr1;have hio:=vB.1 ho1;obtain⟨ln,rfl⟩:=Int.eq_ofNat_of_zero_le hil.1;obtain⟨rn,rfl⟩:=Int.eq_ofNat_of_zero_le hir.1;obtain⟨on,rfl⟩:=Int.eq_ofNat_of_zero_le hio.1;have il:ln<T.length:=by omega
       have ir:rn<T.length:=by omega
       have io:on<T.length:=by omega
       obtain⟨bt,ot,hao,cl⟩:=SlS.cell HT1.out (sB il);obtain⟨bt2,ot2,hao2,cr⟩:=SlS.cell HT1.out (sB ir);obtain⟨bt3,ot3,hao3,co⟩:=SlS.cell HT1.out (sB io);rw[hao]at hao2 hao3;simp at hao2 hao3;obtain⟨rfl,rfl⟩:=hao2;obtain⟨rfl,rfl⟩:=hao3;subst hao;have s1:=HMay.out.2.1 _ (qB il);have s2:=HMay.out.2.1 _ (qB ir);have s3:=HMay.out.2.1 _ (qB io);have gl:(ln:Int)<tn:=by have:=hlen.out;omega
       have gr:(rn:Int)<tn:=by have:=hlen.out;omega
       have go:(on:Int)<tn:=by have:=hlen.out;omega
       have HW1:=hW_ hw1;clear hil hir hio hbx hw1
       by_cases hcat:tk T on=tk T ln++tk T rn
       ·have hq1:=aAb hcat;have hq2:=gH hcat;have HOK:Hid (gX T (mg M k)):=hW_ (by rw[HMK.out];exact⟨hl1,hr1,ho1,hcat,by simp only;omega,by simp only;omega⟩);clear hcat;go_quiet (fail);go_wp2_with (fail);obtain⟨wo,rfl⟩:∃wo:World,wo=wr:=⟨_,rfl⟩;go_loopw [5,6] (fun i _ wq=>∃q:Nat,q<=k/\i= .int .i64 q/\Hid (zK M k q)/\Below w1.heap.size w1 wq) (fun i _ _=>k-(intOf i).toNat)
        case atStart=>exact⟨0,Nat.zero_le _,rfl,hW_ (zK.zero M k),bA (Below.refl _ _) _⟩
        case round=>
         obtain⟨q,hq,rfl,HP,hbq⟩:=hrel;have HBQ:=hW_ hbq;have hbq0:=HB1.out.trans (hbq.mono HB1.out.size);have HBQ0:=hW_ hbq0;clear c0 c1 c2 c0' b0 b1 b2 b3 cl cr co d0 d1 d2 d3;obtain⟨c0,c1,c2⟩:=A4 ((hbq0.block w.heap.size hs0).trans HX0.out);have hmx:=(hbq.block wo.heap.size hs1).trans HBX.out;obtain⟨b0,b1,b2,b3⟩:=fH hmx;have hlt0q:w.heap.size<wr.heap.size:=Nat.lt_of_lt_of_le hs0 hbq0.size;have hlt1q:wo.heap.size<wr.heap.size:=Nat.lt_of_lt_of_le hs1 hbq.size;clear hbq hbq0
         by_cases hlq:q<k
         ·obtain⟨⟨pl,pr,po,pd⟩,hpeq⟩:∃m,mg M q=m:=⟨_,rfl⟩;obtain⟨bp,op,hao,hcp⟩:=(HM.out.below HBQ0.out).elem Mg.enc_len (by omega) (F2 (M:=M) (i:=q) (by omega));simp at hao;obtain⟨rfl,rfl⟩:=hao;rw[hpeq]at hcp;have p0:=hcp 0 _ rfl;have p1:=hcp 1 _ rfl;have p2:=hcp 2 _ rfl;have p3:=hcp 3 _ rfl;rw[Nat.add_zero]at p0;simp only at p0 p1 p2 p3;have HPEQ:=hW_ hpeq;have gq:(q:Int)<(mn:Int):=by omega
          have hbx2:=heap_alloc_new wr (.cells #[.int .i64 pl, .int .i64 pr, .int .i64 po, .int .i64 pd] 170);have hba:=aA wr (.cells #[.int .i64 pl, .int .i64 pr, .int .i64 po, .int .i64 pd] 170);have HBX2:=hW_ hbx2;have HBA:=hW_ hba;have HMX:=hW_ hmx;clear hcp hpeq hbx2 hba hmx;go_wp2_with (fail);refine(aAg ⟨pl,pr,po,pd⟩ ⟨(ln:Int),(rn:Int),(on:Int),d⟩ _).mono ?_
          rintro e w3 ⟨rfl,hb3⟩;have hx3:=(hb3.block wr.heap.size (by simp)).trans HBX2.out;have hm3:=(hb3.block wo.heap.size (by simp;omega)).trans ((HBA.out.block wo.heap.size hlt1q).trans HMX.out);have HB3:=hW_ (HBQ.out.trans ((HBA.out.trans (hb3.mono HBA.out.size)).mono HBQ.out.size));clear b0 b1 b2 b3 p0 p1 p2 p3;obtain⟨b0,b1,b2,b3⟩:=fH hm3;obtain⟨p0,p1,p2,p3⟩:=fH hx3;clear hx3 hm3 hb3
          cases hal:iB ⟨pl,pr,po,pd⟩ ⟨(ln:Int),(rn:Int),(on:Int),d⟩with
          | false=>
           have HF:=hW_ (yF (T:=T) hlq hkM (by rw[HPEQ.out,HMK.out];exact fun h=>by rw[h.1]at hal;cases hal));go_wp2_with (fail);go_ret;exact⟨⟨_,rfl,HF.out⟩,HB0.out.trans ((HB1.out.trans (HB3.out.mono HB1.out.size)).mono HB0.out.size)⟩
          | true=>
           by_cases h1:pl=(ln:Int)
           ·have q1:(pl==(ln:Int))=true:=by simpa using h1
            by_cases h2:pr=(rn:Int)
            ·have q2:(pr==(rn:Int))=true:=by simpa using h2
             have HF:=hW_ (lK (T:=T) hlq hkM (by rw[HPEQ.out,HMK.out];exact fun h=>h ⟨h1,h2⟩));clear h1 h2;go_wp2_with (fail);go_ret;exact⟨⟨_,rfl,HF.out⟩,HB0.out.trans ((HB1.out.trans (HB3.out.mono HB1.out.size)).mono HB0.out.size)⟩
            ·have q2:(pr==(rn:Int))=false:=by simpa using h2
             have HPA:Hid (cG ⟨pl,pr,po,pd⟩ ⟨(ln:Int),(rn:Int),(on:Int),d⟩):=hW_ (fun h=>h2 h.2);clear h1 h2
             by_cases h3:pd=d
             ·have q3:(pd==d)=true:=by simpa using h3
              by_cases h4:po=(on:Int)
              ·have q4:(po != (on:Int))=false:=by simpa using h4
               have HPn:=hW_ (HP.out.next (by rw[HPEQ.out,HMK.out];exact⟨hal,fun _=>h4⟩) (by rw[HPEQ.out,HMK.out];exact HPA.out));clear h3 h4;go_wp2_with (fail);go_roundw
               case rel=>exact⟨q+1,by omega,by go_num,HPn,HB3.out⟩
               case measure=>simp[intOf];omega
              ·have q4:(po != (on:Int))=true:=by simpa using h4
               have HF:=hW_ (yF (T:=T) hlq hkM (by rw[HPEQ.out,HMK.out];exact fun h=>h4 (h.2 h3)));clear h3 h4;go_wp2_with (fail);go_ret;exact⟨⟨_,rfl,HF.out⟩,HB0.out.trans ((HB1.out.trans (HB3.out.mono HB1.out.size)).mono HB0.out.size)⟩
             ·have q3:(pd==d)=false:=by simpa using h3
              have HPn:=hW_ (HP.out.next (by rw[HPEQ.out,HMK.out];exact⟨hal,fun e=>absurd e h3⟩) (by rw[HPEQ.out,HMK.out];exact HPA.out));clear h3;go_wp2_with (fail);go_roundw
              case rel=>exact⟨q+1,by omega,by go_num,HPn,HB3.out⟩
              case measure=>simp[intOf];omega
           ·have q1:(pl==(ln:Int))=false:=by simpa using h1
            have HPA:Hid (cG ⟨pl,pr,po,pd⟩ ⟨(ln:Int),(rn:Int),(on:Int),d⟩):=hW_ (fun h=>h1 h.1);clear h1
            by_cases h3:pd=d
            ·have q3:(pd==d)=true:=by simpa using h3
             by_cases h4:po=(on:Int)
             ·have q4:(po != (on:Int))=false:=by simpa using h4
              have HPn:=hW_ (HP.out.next (by rw[HPEQ.out,HMK.out];exact⟨hal,fun _=>h4⟩) (by rw[HPEQ.out,HMK.out];exact HPA.out));clear h3 h4;go_wp2_with (fail);go_roundw
              case rel=>exact⟨q+1,by omega,by go_num,HPn,HB3.out⟩
              case measure=>simp[intOf];omega
             ·have q4:(po != (on:Int))=true:=by simpa using h4
              have HF:=hW_ (yF (T:=T) hlq hkM (by rw[HPEQ.out,HMK.out];exact fun h=>h4 (h.2 h3)));clear h3 h4;go_wp2_with (fail);go_ret;exact⟨⟨_,rfl,HF.out⟩,HB0.out.trans ((HB1.out.trans (HB3.out.mono HB1.out.size)).mono HB0.out.size)⟩
            ·have q3:(pd==d)=false:=by simpa using h3
             have HPn:=hW_ (HP.out.next (by rw[HPEQ.out,HMK.out];exact⟨hal,fun e=>absurd e h3⟩) (by rw[HPEQ.out,HMK.out];exact HPA.out));clear h3;go_wp2_with (fail);go_roundw
             case rel=>exact⟨q+1,by omega,by go_num,HPn,HB3.out⟩
             case measure=>simp[intOf];omega
         ·have HGn:=hW_ (HG.out.next HOK.out HP.out hq hlq);have HBn:=hW_ HBQ0.out;go_wp2_with (fail);go_roundw
          case rel=>exact⟨k+1,by omega,by go_num,HGn,HBn.out⟩
          case measure=>simp[intOf];omega
       ·have hq1:=aCE hcat;have hq2:=oJ hcat;have HF:=hW_ (tB (T:=T) hkM (fun h=>by rw[HMK.out]at h;exact hcat h.2.2.2.1));clear hcat;go_quiet (fail);go_wp2_with (fail);go_ret;exact⟨⟨_,rfl,HF.out⟩,HB0.out.trans (bA (HB1.out.mono HB0.out.size) _)⟩
   ·have HF:=hW_ (HG.out.all hlenM.out hk hlt (by omega));go_wp2_with (fail);go_ret;exact⟨⟨_,rfl,(fun _=>HF.out),(fun _=>rfl)⟩,HB0.out.trans (HB.out.mono HB0.out.size)⟩
end Go.Proofs.YtahiballegpbgaaGreatDoor
