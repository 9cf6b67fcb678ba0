/- Walk: may specials be, by the document? (Printed by gSpR.py.) -/
import Derived.Test.YtjlokfejnijokaaGreatDoorH6
import Derived.Test.YtjlokfejnijokaaGreatDoorH1
set_option linter.unusedVariables false
set_option maxHeartbeats 4000000
set_option maxRecDepth 100000
namespace Go.Proofs.YtjlokfejnijokaaGreatDoor
open Go.RowKit
theorem uF {s:ByteArray} (hs:s.size<=maxLen) (h:xB s) (w:World):Calls Tryz.prog 117 #[.string s] w fun e w'=>e= .returned (.bool true)/\w=w':=
 (F7 s hs w).mono fun e w' ⟨⟨b,h1,h2⟩,h3⟩=>⟨by rw[h1,h2.2 h],h3⟩
theorem V6 {s:ByteArray} (hs:s.size<=maxLen) (h:¬xB s) (w:World):Calls Tryz.prog 117 #[.string s] w fun e w'=>e= .returned (.bool false)/\w=w':=
 (F7 s hs w).mono fun e w' ⟨⟨b,h1,h2⟩,h3⟩=>⟨by cases b with | false=>exact h1 | true=>exact absurd (h2.1 rfl) h,h3⟩
structure pI (T:List ByteArray) (S:List Sp) (k:Nat):Prop where
 ok:∀j,j<k->cS T (sp S j)
 pair:∀i j,i<j->j<k->pA (sp S i).name (sp S j).name=true/\(sp S i).id≠(sp S j).id
theorem pI.zero (T:List ByteArray) (S:List Sp):pI T S 0:=⟨fun j h=>by omega,fun i j _ h=>by omega⟩
def iY (S:List Sp) (k q:Nat):Prop:=∀i,i<q->pA (sp S i).name (sp S k).name=true/\(sp S i).id≠(sp S k).id
theorem iY.zero (S:List Sp) (k:Nat):iY S k 0:=fun i h=>by omega
theorem iY.next {S:List Sp} {k q:Nat} (h:iY S k q) (h1:pA (sp S q).name (sp S k).name=true) (h2:(sp S q).id≠(sp S k).id):iY S k (q+1):=fun i hi=>by
 by_cases e:i=q
 ·subst e;exact⟨h1,h2⟩
 ·exact h i (by omega)
theorem pI.next {T:List ByteArray} {S:List Sp} {k q:Nat} (h:pI T S k) (h1:cS T (sp S k)) (h2:iY S k q) (hq:q<=k) (hq2:¬q<k):pI T S (k+1):=by
 obtain rfl:q=k:=by omega
 refine⟨fun j hj=> ?_,fun i j hi hj=> ?_⟩
 ·by_cases e:j=q
  ·subst e;exact h1
  ·exact h.ok j (by omega)
 ·by_cases e:j=q
  ·subst e;exact h2 i hi
  ·exact h.pair i j hi (by omega)
theorem pI.all {T:List ByteArray} {S:List Sp} {k n:Nat} (h:pI T S k) (hl:S.length=n) (hk:k<=n) (hk2:¬k<n) (hn:n<=16):dE T S:=by
 obtain rfl:k=n:=by omega
 refine⟨by omega,fun m hm=> ?_,?_⟩
 ·obtain⟨i,hi,rfl⟩:=List.getElem_of_mem hm;rw[oC hi];exact h.ok i (by omega)
 ·rw[List.pairwise_iff_getElem];intro i j hi hj hij;rw[oC hi,oC hj];exact h.pair i j hij (by omega)
theorem iL {V:Vc} {dd:Vd} (w:World) (hV:eE w dd V) (hsz:M3 V.specials):
  Calls Tryz.prog 116 #[dd.val] w (mT V.tokens V.specials w):=by
 obtain⟨T,M,S⟩:=V;obtain⟨ta,tn,tc,ma,mn,mc,sa,sn,sc⟩:=dd;obtain⟨hT,hM,hS⟩:=hV;simp only at hT hM hS hsz |-;have hm:=Nat.le_trans (Sl.le hT) (Sl.max hT);have hmm:=Nat.le_trans hS.le hS.max;unfold maxLen at hm hmm;have hlen:=hW_ hT.count;have hlenS:=hW_ (hS.count Sp.enc_len (by omega));obtain⟨w0,hw0⟩:∃w0,w.alloc (.cells #[.slice ta tn tc, .slice ma mn mc, .slice sa sn sc] 26)=w0:=⟨_,rfl⟩;have hb0:Below w.heap.size w w0:=hw0▸aA w _;have hx0:w0.heap[w.heap.size]?=some (.cells #[.slice ta tn tc, .slice ma mn mc, .slice sa sn sc] 26):=by rw[<-hw0];exact heap_alloc_new w _
 have hs0:w.heap.size<w0.heap.size:=by rw[<-hw0];simp
 obtain⟨c0,c1,c2⟩:=uA hx0;have HT:=hW_ (Sl.below hT hb0);have HSS:=hW_ (hS.below hb0);have HX0:=hW_ hx0;have HB0:=hW_ hb0;have HSZ:=hW_ hsz;have HW0:=hW_ hw0;clear hT hM hS hsz hb0 hx0 hw0
 by_cases hl:(16:Int)<sn
 ·have HF:=hW_ (zK (T:=T) (S:=S) (by have:=hlenS.out;omega));go_enter Tryz.func116,Tryz.ntmps116;go_wp2_with (fail);go_ret;exact⟨⟨_,rfl,HF.out⟩,by rw[HW0.out];exact HB0.out⟩
 ·go_enter Tryz.func116,Tryz.ntmps116;go_wp2_with (fail);rw[HW0.out];go_loopw [3,4,5,13] (fun _ _ _ i wr=>∃(k:Nat),k<=sn/\i= .int .i64 k/\Hid (pI T S k)/\Below w0.heap.size w0 wr) (fun _ _ _ i _=>sn-(intOf i).toNat)
  case atStart=>exact⟨0,Nat.zero_le _,rfl,hW_ (pI.zero T S),Below.refl _ _⟩
  case round=>
   obtain⟨k,hk,rfl,HG,hb⟩:=hrel;have HB:=hW_ hb;clear c0 c1 c2;obtain⟨c0,c1,c2⟩:=uA ((hb.block w.heap.size hs0).trans HX0.out);have hlt0:w.heap.size<wr.heap.size:=Nat.lt_of_lt_of_le hs0 hb.size;clear hb
   by_cases hlt:k<sn
   ·have hkS:k<S.length:=by have:=hlenS.out;omega
    obtain⟨b,of,rfl,hce⟩:=(HSS.out.below HB.out).elem Sp.enc_len (by omega) (nC hkS);have HNS0:=hW_ (HSZ.out _ (List.mem_of_getElem? (nC hkS)));obtain⟨⟨nm,id⟩,hseq⟩:∃m,sp S k=m:=⟨_,rfl⟩;have HNS:Hid (nm.size<=maxLen):=hW_ (by have:=HNS0.out;rw[hseq]at this;exact this);rw[hseq]at hce;have d0:=hce 0 _ rfl;have d1:=hce 1 _ rfl;rw[Nat.add_zero]at d0;simp only at d0 d1;have HSK:=hW_ hseq;obtain⟨w1,hw1⟩:∃w1,wr.alloc (.cells #[.string nm, .int .i64 id] 126)=w1:=⟨_,rfl⟩;have hwb:Below wr.heap.size wr w1:=hw1▸aA wr _;have hwb':=aA wr (.cells #[.string nm, .int .i64 id] 126);have HB1:=hW_ (HB.out.trans (hwb.mono HB.out.size));have HT1:=hW_ (Sl.below HT.out HB1.out);have hbx:w1.heap[wr.heap.size]?=some (.cells #[.string nm, .int .i64 id] 126):=by rw[<-hw1];exact heap_alloc_new wr _
    obtain⟨b0,b1⟩:=box2' hbx;have f0:=eA hwb _ _ c0;have f2:=eA hwb _ _ c2;have HW1:=hW_ hw1;rw[hw1]at hwb';clear hce hseq hbx hw1 hwb'
    by_cases hnm:xB nm
    ·have HNM:=hW_ hnm;clear hnm
     by_cases hi0:id<0
     ·have hg:decide (id<0)=true:=by simpa using hi0
      have HF:=hW_ (jB (T:=T) hkS (fun h=>by rw[HSK.out]at h;have:=h.2.1;simp only at this;omega));go_wp2_with (fail);refine(uF HNS.out HNM.out _).mono ?_
      rintro e w' ⟨rfl,rfl⟩;rw[HW1.out];go_wp2_with (fail);go_ret;exact⟨⟨_,rfl,HF.out⟩,HB0.out.trans (HB1.out.mono HB0.out.size)⟩
     have hg0:decide (id<0)=false:=by simpa using hi0
     by_cases hi1:(tn:Int)<=id
     ·have hg:decide ((tn:Int)<=id)=true:=by simpa using hi1
      have HF:=hW_ (jB (T:=T) hkS (fun h=>by rw[HSK.out]at h;have:=h.2.2.1;have:=hlen.out;simp only at *;omega));go_wp2_with (fail);refine(uF HNS.out HNM.out _).mono ?_
      rintro e w' ⟨rfl,rfl⟩;rw[HW1.out];go_wp2_with (fail);go_ret;exact⟨⟨_,rfl,HF.out⟩,HB0.out.trans (HB1.out.mono HB0.out.size)⟩
     have hg1:decide ((tn:Int)<=id)=false:=by simpa using hi1
     obtain⟨q,rfl⟩:=Int.eq_ofNat_of_zero_le (Int.not_lt.1 hi0);have hqT:q<T.length:=by have:=hlen.out;omega
     obtain⟨bt,ot,hao,hct⟩:=SlS.cell HT1.out (zA hqT);subst hao;have gq:(q:Int)<(tn:Int):=by omega
     have gq2:decide ((tn:Int)<=(q:Int))=false:=by simp;omega
     have gq3:decide ((q:Int)<0)=false:=by simp
     have gq4:decide (tn<=q)=false:=by simp;omega
     clear hg0 hg1
     by_cases hz:(tk T q).size=0
     ·obtain⟨e1,e2,e3⟩:=uC hz;have e4:((tk T q).toList != [])=false:=by simp[e1]
      have HZ:=hW_ hz;clear hz;have HOK:Hid (cS T (sp S k)):=hW_ (by rw[HSK.out];exact⟨HNM.out,by simp only;omega,by simp only;omega,HZ.out⟩);go_wp2_with (fail);refine(uF HNS.out HNM.out _).mono ?_
      rintro e w' ⟨rfl,rfl⟩;rw[HW1.out];go_wp2_with (fail);obtain⟨wo,rfl⟩:∃wo:World,wo=wr:=⟨_,rfl⟩;clear e1 e2 e3 e4 hct;go_loopw [5] (fun i wq=>∃(p j:Nat),p<=k/\i= .int .i64 p/\Hid (iY S k p)/\wq=w1.drewN j) (fun i _=>k-(intOf i).toNat)
      case atStart=>exact⟨0,0,Nat.zero_le _,rfl,hW_ (iY.zero S k),rfl⟩
      case round=>
       obtain⟨p,j,hp,rfl,HP,rfl⟩:=hrel
       by_cases hlp:p<k
       ·obtain⟨⟨pn,pid⟩,hpeq⟩:∃m,sp S p=m:=⟨_,rfl⟩;obtain⟨bp,op,hao,hcp⟩:=(HSS.out.below HB1.out).elem Sp.enc_len (by omega) (nC (S:=S) (i:=p) (by omega));simp at hao;obtain⟨rfl,rfl⟩:=hao;rw[hpeq]at hcp;have p0:=hcp 0 _ rfl;have p1:=hcp 1 _ rfl;rw[Nat.add_zero]at p0;simp only at p0 p1;have HPEQ:=hW_ hpeq;have gp:(p:Int)<(sn:Int):=by omega
        clear hcp hpeq
        cases hbl:Op.bytesLess pn.toList nm.toList with
        | false=>
         have HF:=hW_ (yK (T:=T) hlp hkS (by rw[HPEQ.out,HSK.out];exact hbl));go_wp2_with (fail);go_quiet (fail);go_wp2_with (fail);go_ret;exact⟨⟨_,rfl,HF.out⟩,HB0.out.trans ((bA (bA HB1.out _) _).mono HB0.out.size)⟩
        | true=>
         by_cases hid:pid=(q:Int)
         ·have q1:(pid==(q:Int))=true:=by simpa using hid
          have HF:=hW_ (gJ (T:=T) hlp hkS (by rw[HPEQ.out,HSK.out];exact hid));clear hid;go_wp2_with (fail);go_quiet (fail);go_wp2_with (fail);go_ret;exact⟨⟨_,rfl,HF.out⟩,HB0.out.trans ((bA (bA HB1.out _) _).mono HB0.out.size)⟩
         ·have q1:(pid==(q:Int))=false:=by simpa using hid
          have HPn:=hW_ (HP.out.next (by rw[HPEQ.out,HSK.out];exact hbl) (by rw[HPEQ.out,HSK.out];exact hid));clear hid;go_wp2_with (fail);go_quiet (fail);go_wp2_with (fail);go_roundw
          case rel=>exact⟨p+1,_,by omega,by go_num,HPn,rfl⟩
          case measure=>simp[intOf];omega
       ·have HGn:=hW_ (HG.out.next HOK.out HP.out hp hlp);have HBn:=hW_ (bA HB1.out j);go_wp2_with (fail);go_roundw
        case rel=>exact⟨k+1,by omega,by go_num,HGn,HBn.out⟩
        case measure=>simp[intOf];omega
     ·obtain⟨e1,e2,e3⟩:=yD hz;have e4:((tk T q).toList != [])=true:=by simp[e1]
      have HF:=hW_ (jB (T:=T) hkS (fun h=>by rw[HSK.out]at h;exact hz h.2.2.2));clear hz;go_wp2_with (fail);refine(uF HNS.out HNM.out _).mono ?_
      rintro e w' ⟨rfl,rfl⟩;rw[HW1.out];go_wp2_with (fail);go_ret;exact⟨⟨_,rfl,HF.out⟩,HB0.out.trans (HB1.out.mono HB0.out.size)⟩
    ·have HNM:=hW_ hnm;have HF:=hW_ (jB (T:=T) hkS (fun h=>by rw[HSK.out]at h;exact hnm h.1));clear hnm;go_wp2_with (fail);refine(V6 HNS.out HNM.out _).mono ?_
     rintro e w' ⟨rfl,rfl⟩;rw[HW1.out];go_wp2_with (fail);go_ret;exact⟨⟨_,rfl,HF.out⟩,HB0.out.trans (HB1.out.mono HB0.out.size)⟩
   ·have HF:=hW_ (HG.out.all hlenS.out hk hlt (by omega));go_wp2_with (fail);go_ret;exact⟨⟨_,rfl,(fun _=>HF.out),(fun _=>rfl)⟩,HB0.out.trans (HB.out.mono HB0.out.size)⟩
def VOk (V:Vc):Prop:=(∀s∈V.tokens,s.size<=maxLen)/\M3 V.specials/\V.specials.length<=1048576
def aBe (V:Vc) (w:World) (e:Ending) (w':World):Prop:=(∃b,e= .returned (.bool b)/\(b=true↔May V))/\Below w.heap.size w w'
theorem aAH {V:Vc} (h:¬C0 V.tokens):(false=true↔May V):=⟨(fun h=>by cases h),fun h2=>absurd h2.1 h⟩
theorem aAG {V:Vc} (h:¬mD V.tokens V.merges):(false=true↔May V):=⟨(fun h=>by cases h),fun h2=>absurd h2.2.1 h⟩
theorem aAF {V:Vc} (h:¬mI V.tokens V.merges):(false=true↔May V):=⟨(fun h=>by cases h),fun h2=>absurd h2.2.2.1 h⟩
theorem may4 {V:Vc} {b:Bool} (h1:C0 V.tokens) (h2:mD V.tokens V.merges) (h3:mI V.tokens V.merges) (h:b=true↔dE V.tokens V.specials):(b=true↔May V):=by
 rw[h];exact⟨fun h4=>⟨h1,h2,h3,h4⟩,fun h4=>h4.2.2.2⟩
theorem vI {b:Bool} {P:Prop} (h:b=true↔P) (hb:b=false):¬P:=fun hp=>by rw[h.2 hp]at hb;cases hb
theorem aBH {V:Vc} {dd:Vd} (w:World) (hV:eE w dd V) (hok:VOk V):
  Calls Tryz.prog 177 #[dd.val] w (aBe V w):=by
 have hspn:=hV.spc.count Sp.enc_len (by omega);obtain⟨ta,tn,tc,ma,mn,mc,sa,sn,sc⟩:=dd;simp only at hspn |-;obtain⟨w0,hw0⟩:∃w0,w.alloc (.cells #[.slice ta tn tc, .slice ma mn mc, .slice sa sn sc] 26)=w0:=⟨_,rfl⟩;have hb0:Below w.heap.size w w0:=hw0▸aA w _;have hx0:w0.heap[w.heap.size]?=some (.cells #[.slice ta tn tc, .slice ma mn mc, .slice sa sn sc] 26):=by rw[<-hw0];exact heap_alloc_new w _
 have hs0:w.heap.size<w0.heap.size:=by rw[<-hw0];simp
 obtain⟨c0,c1,c2⟩:=uA hx0;have HV:=hW_ (hV.below hb0);have HX0:=hW_ hx0;have HB0:=hW_ hb0;have HOK:=hW_ hok;have HW0:=hW_ hw0;have HSN:=hW_ hspn;clear hV hok hb0 hx0 hw0 hspn;go_enter Tryz.func177,Tryz.ntmps177;go_wp2_with (fail);rw[HW0.out];refine(O4 w0 HV.out.tok HOK.out.1).mono ?_
 rintro e w1 ⟨⟨b1,rfl,hi1⟩,hb1⟩;have HB1:=hW_ hb1;have HI1:=hW_ hi1;clear c0 c1 c2;obtain⟨c0,c1,c2⟩:=uA ((hb1.block w.heap.size hs0).trans HX0.out);clear hb1 hi1
 cases b1 with
 | false=>
  have HF:=hW_ (aAH (vI HI1.out rfl));go_wp2_with (fail);go_ret;exact⟨⟨_,rfl,HF.out⟩,HB0.out.trans (HB1.out.mono HB0.out.size)⟩
 | true=>
  have HT:=hW_ (HI1.out.1 rfl);go_wp2_with (fail);refine(O5 w1 (HV.out.below HB1.out).tok (HV.out.below HB1.out).mrg HT.out).mono ?_
  rintro e w2 ⟨⟨b2,rfl,hi2⟩,hb2⟩;have HB2:=hW_ (HB1.out.trans (hb2.mono HB1.out.size));have HI2:=hW_ hi2;clear c0 c1 c2;obtain⟨c0,c1,c2⟩:=uA ((HB2.out.block w.heap.size hs0).trans HX0.out);clear hb2 hi2
  cases b2 with
  | false=>
   have HF:=hW_ (aAG (vI HI2.out rfl));go_wp2_with (fail);go_ret;exact⟨⟨_,rfl,HF.out⟩,HB0.out.trans (HB2.out.mono HB0.out.size)⟩
  | true=>
   have HM:=hW_ (HI2.out.1 rfl);go_wp2_with (fail);refine(tR (V:=V) (dd:=⟨ta,tn,tc,ma,mn,mc,sa,sn,sc⟩) w2 (HV.out.below HB2.out) HT.out HM.out).mono ?_
   rintro e w3 ⟨⟨b3,rfl,hi3⟩,hb3⟩;have HB3:=hW_ (HB2.out.trans (hb3.mono HB2.out.size));have HI3:=hW_ hi3;clear c0 c1 c2;obtain⟨c0,c1,c2⟩:=uA ((HB3.out.block w.heap.size hs0).trans HX0.out);clear hb3 hi3
   cases b3 with
   | false=>
    have HF:=hW_ (aAF (vI HI3.out rfl));go_wp2_with (fail);go_ret;exact⟨⟨_,rfl,HF.out⟩,HB0.out.trans (HB3.out.mono HB0.out.size)⟩
   | true=>
    have HD:=hW_ (HI3.out.1 rfl);go_wp2_with (fail);refine(lM w3 (HV.out.below HB3.out).tok (HV.out.below HB3.out).spc HOK.out.2.1 (by have h1:=HOK.out.2.2;have h2:V.specials.length=sn:=HSN.out;show sn<=1048576;omega)).mono ?_
    rintro e w4 ⟨⟨b4,rfl,hi4⟩,hb4⟩;have HB4:=hW_ (HB3.out.trans (hb4.mono HB3.out.size));have HF:=hW_ (may4 HT.out HM.out HD.out hi4);clear hb4 hi4;go_wp2_with (fail);go_ret;exact⟨⟨_,rfl,HF.out⟩,HB0.out.trans (HB4.out.mono HB0.out.size)⟩
theorem P1 {V:Vc} {dd:Vd} (w:World) (hV:eE w dd V) (hok:VOk V):
  Calls Tryz.prog 65 #[dd.val] w (aBe V w):=by
 have hspn:=hV.spc.count Sp.enc_len (by omega);obtain⟨ta,tn,tc,ma,mn,mc,sa,sn,sc⟩:=dd;simp only at hspn |-;obtain⟨w0,hw0⟩:∃w0,w.alloc (.cells #[.slice ta tn tc, .slice ma mn mc, .slice sa sn sc] 26)=w0:=⟨_,rfl⟩;have hb0:Below w.heap.size w w0:=hw0▸aA w _;have hx0:w0.heap[w.heap.size]?=some (.cells #[.slice ta tn tc, .slice ma mn mc, .slice sa sn sc] 26):=by rw[<-hw0];exact heap_alloc_new w _
 have hs0:w.heap.size<w0.heap.size:=by rw[<-hw0];simp
 obtain⟨c0,c1,c2⟩:=uA hx0;have HV:=hW_ (hV.below hb0);have HX0:=hW_ hx0;have HB0:=hW_ hb0;have HOK:=hW_ hok;have HW0:=hW_ hw0;have HSN:=hW_ hspn;clear hV hok hb0 hx0 hw0 hspn;go_enter Tryz.func65,Tryz.ntmps65;go_wp2_with (fail);rw[HW0.out];refine(sH w0 HV.out.tok HOK.out.1).mono ?_
 rintro e w1 ⟨⟨b1,rfl,hi1⟩,hb1⟩;have HB1:=hW_ hb1;have HI1:=hW_ hi1;clear c0 c1 c2;obtain⟨c0,c1,c2⟩:=uA ((hb1.block w.heap.size hs0).trans HX0.out);clear hb1 hi1
 cases b1 with
 | false=>
  have HF:=hW_ (aAH (vI HI1.out rfl));go_wp2_with (fail);go_ret;exact⟨⟨_,rfl,HF.out⟩,HB0.out.trans (HB1.out.mono HB0.out.size)⟩
 | true=>
  have HT:=hW_ (HI1.out.1 rfl);go_wp2_with (fail);refine(iN (V:=V) (dd:=⟨ta,tn,tc,ma,mn,mc,sa,sn,sc⟩) w1 (HV.out.below HB1.out) HT.out).mono ?_
  rintro e w2 ⟨⟨b2,rfl,hi2⟩,hb2⟩;have HB2:=hW_ (HB1.out.trans (hb2.mono HB1.out.size));have HI2:=hW_ hi2;clear c0 c1 c2;obtain⟨c0,c1,c2⟩:=uA ((HB2.out.block w.heap.size hs0).trans HX0.out);clear hb2 hi2
  cases b2 with
  | false=>
   have HF:=hW_ (aAG (vI HI2.out rfl));go_wp2_with (fail);go_ret;exact⟨⟨_,rfl,HF.out⟩,HB0.out.trans (HB2.out.mono HB0.out.size)⟩
  | true=>
   have HM:=hW_ (HI2.out.1 rfl);go_wp2_with (fail);refine(P2 (V:=V) (dd:=⟨ta,tn,tc,ma,mn,mc,sa,sn,sc⟩) w2 (HV.out.below HB2.out) HT.out).mono ?_
   rintro e w3 ⟨⟨b3,rfl,hi3⟩,hb3⟩;have HB3:=hW_ (HB2.out.trans (hb3.mono HB2.out.size));have HI3:=hW_ hi3;clear c0 c1 c2;obtain⟨c0,c1,c2⟩:=uA ((HB3.out.block w.heap.size hs0).trans HX0.out);clear hb3 hi3
   cases b3 with
   | false=>
    have HF:=hW_ (aAF (vI HI3.out rfl));go_wp2_with (fail);go_ret;exact⟨⟨_,rfl,HF.out⟩,HB0.out.trans (HB3.out.mono HB0.out.size)⟩
   | true=>
    have HD:=hW_ (HI3.out.1 rfl);go_wp2_with (fail);refine(iL (V:=V) (dd:=⟨ta,tn,tc,ma,mn,mc,sa,sn,sc⟩) w3 (HV.out.below HB3.out) HOK.out.2.1).mono ?_
    rintro e w4 ⟨⟨b4,rfl,hi4⟩,hb4⟩;have HB4:=hW_ (HB3.out.trans (hb4.mono HB3.out.size));have HF:=hW_ (may4 HT.out HM.out HD.out hi4);clear hb4 hi4;go_wp2_with (fail);go_ret;exact⟨⟨_,rfl,HF.out⟩,HB0.out.trans (HB4.out.mono HB0.out.size)⟩
def Rw.enc (r:Rw):List Value:=[.string r.token, .int .i64 r.rank]
theorem Rw.enc_len (r:Rw):r.enc.length=2:=rfl
def rw' (R:List Rw) (i:Nat):Rw:=R.getD i ⟨ByteArray.empty,0⟩
theorem wS {R:List Rw} {i:Nat} (h:i<R.length):R[i]?=some (rw' R i):=by simp[rw',List.getD,h]
theorem eN {R:List Rw} {i:Nat} (h:i<R.length):R[i]=rw' R i:=by simp[rw',List.getD,h]
def gV (S:List Sp) (k:Nat):Int:=((S.take k).map (·.id+1)).foldl max 0
def iR (R:List Rw) (S:List Sp) (k:Nat):Int:=((R.take k).map (·.rank+1)).foldl max (gV S S.length)
theorem aBl {S:List Sp} {k:Nat} (h:k<S.length):gV S (k+1)=max (gV S k) ((sp S k).id+1):=by
 unfold gV;rw[List.take_add_one,nC h];simp[List.foldl_append]
theorem aBm (R:List Rw) (S:List Sp):iR R S 0=gV S S.length:=rfl
theorem kS {R:List Rw} {S:List Sp} {k:Nat} (h:k<R.length):iR R S (k+1)=max (iR R S k) ((rw' R k).rank+1):=by
 unfold iR;rw[List.take_add_one,wS h];simp[List.foldl_append]
theorem jV (R:List Rw) (S:List Sp):iR R S R.length=top R S:=by
 unfold iR gV top;rw[List.take_length,List.take_length]
def OkS (S:List Sp) (k:Nat):Prop:=∀j,j<k->0<=(sp S j).id/\(sp S j).id<4096
def OkR (R:List Rw) (k:Nat):Prop:=∀j,j<k->0<=(rw' R j).rank/\(rw' R j).rank<4096
def ApR (R:List Rw) (k:Nat):Prop:=∀i j,i<j->j<k->(rw' R i).rank≠(rw' R j).rank
theorem topR_lt {R:List Rw} {S:List Sp} {k j:Nat} (hk:k<=R.length) (hj:j<k):(rw' R j).rank<iR R S k:=by
 induction k with
 | zero=>omega
 | succ k ih=>
  rw[kS (by omega)]
  by_cases e:j=k
  ·subst e;omega
  ·have:=ih (by omega) (by omega);omega
theorem qF.of {R:List Rw} {S:List Sp} (h1:OkS S S.length) (h2:OkR R R.length) (h3:ApR R R.length):qF R S:=by
 refine⟨fun s hs=> ?_,fun r hr=> ?_,?_⟩
 ·obtain⟨j,hj,rfl⟩:=List.getElem_of_mem hs;rw[oC hj];exact h1 j hj
 ·obtain⟨j,hj,rfl⟩:=List.getElem_of_mem hr;rw[eN hj];exact h2 j hj
 ·rw[List.pairwise_iff_getElem];intro i j hi hj hij;rw[eN hi,eN hj];exact h3 i j hij hj
theorem aAD {R:List Rw} {S:List Sp} {k:Nat} (hk:k<S.length) (h:¬(0<=(sp S k).id/\(sp S k).id<4096)):¬qF R S:=fun ho=>h (by
 have:=ho.1 _ (List.mem_of_getElem? (nC hk));exact this)
theorem aAE {R:List Rw} {S:List Sp} {k:Nat} (hk:k<R.length) (h:¬(0<=(rw' R k).rank/\(rw' R k).rank<4096)):¬qF R S:=fun ho=>h (by
 have:=ho.2.1 _ (List.mem_of_getElem? (wS hk));exact this)
theorem notOk_a {R:List Rw} {S:List Sp} {i k:Nat} (hi:i<k) (hk:k<R.length) (h:(rw' R i).rank=(rw' R k).rank):¬qF R S:=fun ho=>by
 have:=(List.pairwise_iff_getElem.1 ho.2.2) i k (by omega) hk hi;rw[eN hk,eN (by omega)]at this;exact this h
structure yH (R:List Rw) (k n:Nat) (L:List ByteArray) (A:List Int):Prop where
 len:L.length=n
 alen:A.length=n
 tok:∀i,i<n->tk L i=sI (R.take k) i
 hit:∀i,i<n->(ix A i=0/\∀j,j<k->(rw' R j).rank≠(i:Int))\/(ix A i=1/\∃j,j<k/\(rw' R j).rank=(i:Int))
theorem mY {R:List Rw} {i:Nat} (h:∀r∈R,r.rank≠(i:Int)):sI R i=ByteArray.empty:=by
 unfold sI;have:R.find? (fun r=>decide (r.rank=(i:Int)))=none:=by
  rw[List.find?_eq_none];intro r hr;simpa using h r hr
 rw[this]
theorem H5 {R:List Rw} {i:Nat} (h:∀r∈R,r.rank≠(i:Int)) (r:Rw):sI (R++ [r]) i=if r.rank=(i:Int)then r.token else ByteArray.empty:=by
 unfold sI;have:R.find? (fun r=>decide (r.rank=(i:Int)))=none:=by
  rw[List.find?_eq_none];intro r hr;simpa using h r hr
 rw[List.find?_append,this]
 by_cases e:r.rank=(i:Int)
 ·simp[List.find?,e]
 ·simp[List.find?,e]
theorem C9 {R:List Rw} {i:Nat} {r:Rw} (h:r.rank≠(i:Int)):sI (R++ [r]) i=sI R i:=by
 unfold sI;rw[List.find?_append]
 cases R.find? (fun r=>decide (r.rank=(i:Int)))with
 | some x=>simp
 | none=>simp[List.find?,h]
theorem qW {R:List Rw} {k:Nat} {r:Rw} (h:r∈R.take k):∃j,j<k/\j<R.length/\rw' R j=r:=by
 obtain⟨j,hj,rfl⟩:=List.getElem_of_mem h;have h1:j<k:=by rw[List.length_take]at hj;omega
 have h2:j<R.length:=by rw[List.length_take]at hj;omega
 refine⟨j,h1,h2,?_⟩;rw[List.getElem_take,eN h2]
theorem yH.zero (R:List Rw) (n:Nat):yH R 0 n (List.replicate n ByteArray.empty) (List.replicate n 0):=by
 refine⟨by simp,by simp,fun i hi=> ?_,fun i hi=> .inl ⟨by simp[ix,List.getD,hi],fun j hj=>by omega⟩⟩;have:sI (R.take 0) i=ByteArray.empty:=mY (by simp);rw[this];simp[tk,List.getD,hi]
theorem yH.next {R:List Rw} {k n:Nat} {L:List ByteArray} {A:List Int} (h:yH R k n L A) (hk:k<R.length) {r:Nat} (hr:(rw' R k).rank=(r:Int)) (hrn:r<n) (h0:ix A r=0):
  yH R (k+1) n (L.set r (rw' R k).token) (A.set r 1):=by
 have hno:∀j,j<k->(rw' R j).rank≠(r:Int):=by
  rcases h.hit r hrn with⟨_,h2⟩ | ⟨h1,_⟩
  ·exact h2
  ·omega
 have htk:R.take (k+1)=R.take k++ [rw' R k]:=by rw[List.take_add_one,wS hk];rfl
 refine⟨by rw[List.length_set];exact h.len,by rw[List.length_set];exact h.alen,fun i hi=> ?_,fun i hi=> ?_⟩
 ·rw[htk]
  by_cases e:i=r
  ·subst e;rw[H5 (fun x hx=>by obtain⟨j,hj,_,rfl⟩:=qW hx;exact hno j hj),if_pos hr];simp[tk,List.getD,h.len,hi]
  ·rw[C9 (by rw[hr];omega),<-h.tok i hi];simp[tk,List.getD,Ne.symm e]
 ·by_cases e:i=r
  ·subst e;right;exact⟨by simp[ix,List.getD,h.alen,hi],k,by omega,hr⟩
  ·have e1:ix (A.set r 1) i=ix A i:=by simp[ix,List.getD,Ne.symm e]
   rw[e1];rcases h.hit i hi with⟨h1,h2⟩ | ⟨h1,j,hj,h2⟩
   ·left;refine⟨h1,fun j hj=> ?_⟩
    by_cases ej:j=k
    ·subst ej;rw[hr];omega
    ·exact h2 j (by omega)
   ·exact .inr ⟨h1,j,by omega,h2⟩
theorem yH.apart {R:List Rw} {k n:Nat} {L:List ByteArray} {A:List Int} (h:yH R k n L A) {r:Nat} (hr:(rw' R k).rank=(r:Int)) (hrn:r<n) (h0:ix A r=0) (ha:ApR R k):ApR R (k+1):=fun i j h1 h2=>by
 by_cases e:j=k
 ·subst e;rcases h.hit r hrn with⟨_,h3⟩ | ⟨h3,_⟩
  ·rw[hr];exact h3 i h1
  ·omega
 ·exact ha i j h1 (by omega)
theorem yH.all {R:List Rw} {S:List Sp} {k n rn:Nat} {L:List ByteArray} {A:List Int} (h:yH R k n L A) (hl:R.length=rn) (hk:k<=rn) (hk2:¬k<rn) (hn:(n:Int)=top R S):L=nD R S:=by
 obtain rfl:k=rn:=by omega
 have hn2:(top R S).toNat=n:=by omega
 unfold nD;rw[hn2];apply List.ext_getElem?;intro i
 by_cases hi:i<n
 ·rw[zA (by rw[h.len];exact hi),h.tok i hi,<-hl,List.take_length];simp[hi]
 ·rw[List.getElem?_eq_none (by rw[h.len];omega),List.getElem?_eq_none (by simp;omega)]
theorem oA {w w':World} {base:Nat} {e:TypeId} {s n:Nat} {v:Value} {xs:List Value} (h:w.ownsRow base e s v n xs) (hb:∀g,v.ownBlock=some g->w'.heap[g]?=w.heap[g]?):w'.ownsRow base e s v n xs:=by
 obtain⟨h1,h2⟩:=h;refine⟨h1,?_⟩;rcases h2 with h2 | ⟨g,cap,cur,hv,hg,hh,r⟩
 ·exact .inl h2
 ·exact .inr ⟨g,cap,cur,hv,hg,by rw[hb g (by rw[hv];rfl)];exact hh,r⟩
def uX (T:List ByteArray) (i k:Nat):Option Mg:=
 if 0<=ofT T ((tk T i).extract 0 (k+1))/\0<=ofT T ((tk T i).extract (k+1) (tk T i).size)then some ⟨ofT T ((tk T i).extract 0 (k+1)),ofT T ((tk T i).extract (k+1) (tk T i).size),i,i⟩else none
def oF (T:List ByteArray) (i m:Nat):List Mg:=(List.range m).filterMap (uX T i)
def C5 (T:List ByteArray) (k:Nat):List Mg:=(List.range k).flatMap (vU T)
theorem dT (T:List ByteArray) (i:Nat):vU T i=oF T i ((tk T i).size-1):=rfl
theorem qX (T:List ByteArray) (i:Nat):oF T i 0= []:=rfl
theorem rX {T:List ByteArray} {i k:Nat} {m:Mg} (h:uX T i k=some m):oF T i (k+1)=oF T i k++ [m]:=by
 unfold oF;rw[List.range_succ,List.filterMap_append];simp[h]
theorem sX {T:List ByteArray} {i k:Nat} (h:uX T i k=none):oF T i (k+1)=oF T i k:=by
 unfold oF;rw[List.range_succ,List.filterMap_append];simp[h]
theorem uQ (T:List ByteArray) (i m:Nat):(oF T i m).length<=m:=by
 unfold oF;exact Nat.le_trans (List.length_filterMap_le _ _) (by simp)
theorem K5 (T:List ByteArray):C5 T 0= []:=rfl
theorem K6 (T:List ByteArray) (k:Nat):C5 T (k+1)=C5 T k++vU T k:=by
 unfold C5;rw[List.range_succ,List.flatMap_append];simp
theorem iU (T:List ByteArray):C5 T T.length=aG T:=rfl
theorem gU {T:List ByteArray} (h:∀s∈T,s.size<=64) {k:Nat} (hk:k<=T.length):(C5 T k).length<=k*64:=by
 induction k with
 | zero=>simp[K5]
 | succ k ih=>
  rw[K6,List.length_append,dT];have h1:=uQ T k ((tk T k).size-1);have h2:=h (tk T k) (A4 (by omega));have h3:=ih (by omega);omega
theorem pP {R:List Rw} {S:List Sp} {b:Nat} (h:∀r∈R,r.token.size<=b):∀s∈nD R S,s.size<=b:=by
 intro s hs;unfold nD at hs;obtain⟨i,_,rfl⟩:=List.mem_map.1 hs;unfold sI
 cases hf:R.find? (fun r=>decide (r.rank=(i:Int)))with
 | none=>exact Nat.zero_le _
 | some r=>exact h r (List.mem_of_find?_eq_some hf)
def jS (R:List Rw) (S:List Sp):Vc:=⟨nD R S,mF (aG (nD R S)),lF S⟩
theorem uK {α:Type} {R:α->α->Prop} {l:List α} (h:l.Pairwise R) {a b:α} (ha:a∈l) (hb:b∈l) (h1:¬R a b) (h2:¬R b a):a=b:=by
 rw[List.pairwise_iff_getElem]at h;obtain⟨i,hi,rfl⟩:=List.getElem_of_mem ha;obtain⟨j,hj,rfl⟩:=List.getElem_of_mem hb;rcases Nat.lt_trichotomy i j with h3 | h3 | h3
 ·exact absurd (h i j hi hj h3) h1
 ·subst h3;rfl
 ·exact absurd (h j i hj hi h3) h2
theorem aT {α:Type} {l:List α} {p:α->Bool} {x:α} (hx:x∈l) (hp:p x=true) (hu:∀y,y∈l->p y=true->y=x):l.find? p=some x:=by
 cases h:l.find? p with
 | none=>rw[List.find?_eq_none]at h;exact absurd hp (h x hx)
 | some y=>rw[hu y (List.mem_of_find?_eq_some h) (List.find?_some h)]
def rH (S:List Sp) (id:Int):Option Sp:=S.find? (fun s=>decide (s.id=id))
def D0 (S:List Sp) (n:ByteArray):Option Sp:=S.find? (fun s=>decide (s.name=n))
def nmOf:Option Sp->ByteArray
 | some s=>s.name
 | none=>ByteArray.empty
def idOf:Option Sp->Int
 | some s=>s.id
 | none=> -1
theorem spBy_mem {T:List ByteArray} {S:List Sp} (h:dE T S) {s:Sp} (hs:s∈S):rH S s.id=some s:=
 aT hs (by simp) fun y hy e=>uK h.2.2 hy hs (fun g=>g.2 (by simpa using e)) (fun g=>g.2 (by simpa using(Eq.symm (of_decide_eq_true e))))
theorem aO {T:List ByteArray} {S:List Sp} (h:dE T S) {s:Sp} (hs:s∈S):D0 S s.name=some s:=
 aT hs (by simp) fun y hy e=>uK h.2.2 hy hs (fun g=>by
  have:=g.1;rw[of_decide_eq_true e,cD]at this
  cases this) (fun g=>by
  have:=g.1;rw[of_decide_eq_true e,cD]at this
  cases this)
theorem lQ {α:Type} {lt:α->α->Bool} (hn:∀a b c,lt a b=false->lt b c=false->lt a c=false) {l:List α} (hs:l.Pairwise (fun a b=>lt b a=false)) {s:α} {at_:Nat}
  (h1:∀j x,j<at_->l[j]?=some x->lt s x=false) (h2:∀x,l[at_]?=some x->lt x s=false):(l.take at_++s::l.drop at_).Pairwise (fun a b=>lt b a=false):=by
 have h3:∀x∈l.drop at_,lt x s=false:=by
  intro x hx;obtain⟨j,hj,rfl⟩:=List.getElem_of_mem hx;rw[List.length_drop]at hj;rw[List.getElem_drop];have hk:at_<l.length:=by omega
  have hy:=h2 _ (List.getElem?_eq_getElem hk);rcases Nat.eq_zero_or_pos j with e | e
  ·subst e;exact hy
  ·exact hn _ _ _ ((List.pairwise_iff_getElem.1 hs) at_ (at_+j) hk (by omega) (by omega)) hy
 rw[List.pairwise_append];refine⟨hs.sublist (List.take_sublist _ _),?_,?_⟩
 ·rw[List.pairwise_cons];exact⟨h3,hs.sublist (List.drop_sublist _ _)⟩
 ·intro a ha b hb;obtain⟨j,hj,rfl⟩:=List.getElem_of_mem ha;rw[List.length_take]at hj;rw[List.getElem_take];rcases List.mem_cons.1 hb with rfl | hb
  ·exact h1 j _ (by omega) (List.getElem?_eq_getElem (by omega))
  ·obtain⟨i,hi,rfl⟩:=List.getElem_of_mem hb;rw[List.length_drop]at hi;rw[List.getElem_drop];exact(List.pairwise_iff_getElem.1 hs) j (at_+i) (by omega) (by omega) (by omega)
theorem rM {α:Type} (l:List α) (s:α) (k:Nat):(l.take k++s::l.drop k).Perm (l++ [s]):=by
 have h1:(l.take k++s::l.drop k).Perm (s::(l.take k++l.drop k)):=List.perm_middle;rw[List.take_append_drop]at h1;exact h1.trans (List.perm_append_comm (l₁:=[s]) (l₂:=l))
open Go
structure Rg where
 lo:Int
 hi:Int
 cls:Int
instance :Inhabited Rg:=⟨⟨0,0,0⟩⟩
def Rg.enc (r:Rg):List Value:=[.int .i64 r.lo, .int .i64 r.hi, .int .i64 r.cls]
theorem Rg.enc_len (r:Rg):r.enc.length=3:=rfl
theorem Rg.enc_one (x:Rg):∀v∈x.enc,v.oneCell'=true:=by
 intro v hv;simp[Rg.enc]at hv;rcases hv with rfl | rfl | rfl<;>rfl
def rg (t:List Rg) (i:Nat):Rg:=t.getD i ⟨0,0,0⟩
theorem sG {t:List Rg} {i:Nat} (h:i<t.length):t[i]?=some (rg t i):=by simp[rg,List.getD,h]
theorem eH {t:List Rg} {i:Nat} (h:i<t.length):t[i]=rg t i:=by simp[rg,List.getD,h]
def A6 (N:List ByteArray):Prop:=N.length<=16/\(∀s∈N,xB s)/\N.Pairwise (fun a b=>pA a b=true)
structure sE (N:List ByteArray) (k:Nat):Prop where
 ok:∀j,j<k->xB (tk N j)
 rise:∀j,j+1<k->pA (tk N j) (tk N (j+1))=true
theorem sE.zero (N:List ByteArray):sE N 0:=⟨fun j h=>by omega,fun j h=>by omega⟩
theorem sE.next {N:List ByteArray} {k:Nat} (h:sE N k) (h1:xB (tk N k)) (h2:0<k->pA (tk N (k-1)) (tk N k)=true):sE N (k+1):=by
 refine⟨fun j hj=> ?_,fun j hj=> ?_⟩
 ·by_cases e:j=k
  ·subst e;exact h1
  ·exact h.ok j (by omega)
 ·by_cases e:j+1=k
  ·subst e;exact h2 (by omega)
  ·exact h.rise j (by omega)
theorem sE.all {N:List ByteArray} {k:Nat} (h:sE N k) (hk:N.length=k) (h16:N.length<=16):A6 N:=by
 refine⟨h16,fun s hs=> ?_,?_⟩
 ·obtain⟨j,hj,rfl⟩:=iH hs;exact h.ok j (by omega)
 ·refine E3 (R:=fun a b=>pA a b=true) (fun a b c h1 h2=>I7 h1 h2) (fun i a b ha hb=> ?_);have hi:=(List.getElem?_eq_some_iff.1 hb).1;rw[zA (by omega)]at ha;rw[zA hi]at hb;simp only[Option.some.injEq]at ha hb;subst ha hb;exact h.rise i (by omega)
theorem wK {N:List ByteArray} {k:Nat} (hk:k<N.length) (h:¬xB (tk N k)):(false=true↔A6 N):=⟨(fun h=>by cases h),fun h2=>absurd (h2.2.1 _ (A4 hk)) h⟩
theorem vK {N:List ByteArray} {k:Nat} (h0:0<k) (hk:k<N.length) (h:pA (tk N (k-1)) (tk N k)=false):(false=true↔A6 N):=⟨(fun h=>by cases h),fun h2=>by
 have h3:=(List.pairwise_iff_getElem.1 h2.2.2) (k-1) k (by omega) hk (by omega);have e1:N[k-1]'(by omega)=tk N (k-1):=by simp[tk,List.getD,show k-1<N.length by omega]
 have e2:N[k]=tk N k:=by simp[tk,List.getD,hk]
 rw[e1,e2,h]at h3
 cases h3⟩
def I5 (r:Rg):Prop:=0<=r.lo/\r.lo<=r.hi/\r.hi<=1114111/\1<=r.cls/\r.cls<=4
def mA (t:List Rg):Prop:=t.length<=200/\(∀r∈t,I5 r)/\t.Pairwise (fun a b=>a.hi<b.lo)
structure yI (t:List Rg) (k:Nat):Prop where
 ok:∀j,j<k->I5 (rg t j)
 rise:∀j,j+1<k->(rg t j).hi<(rg t (j+1)).lo
theorem yI.zero (t:List Rg):yI t 0:=⟨fun j h=>by omega,fun j h=>by omega⟩
theorem yI.next {t:List Rg} {k:Nat} (h:yI t k) (h1:I5 (rg t k)) (h2:0<k->(rg t (k-1)).hi<(rg t k).lo):yI t (k+1):=by
 refine⟨fun j hj=> ?_,fun j hj=> ?_⟩
 ·by_cases e:j=k
  ·subst e;exact h1
  ·exact h.ok j (by omega)
 ·by_cases e:j+1=k
  ·subst e;exact h2 (by omega)
  ·exact h.rise j (by omega)
theorem yI.all {t:List Rg} {k:Nat} (h:yI t k) (hk:t.length=k) (h2:t.length<=200):mA t:=by
 refine⟨h2,fun r hr=> ?_,?_⟩
 ·obtain⟨j,hj,rfl⟩:=List.getElem_of_mem hr;rw[eH hj];exact h.ok j (by omega)
 ·rw[List.pairwise_iff_getElem];intro i j hi hj hij;rw[eH hi,eH hj];have key:∀d,i+1+d<t.length->(rg t i).hi<(rg t (i+1+d)).lo:=by
   intro d
   induction d with
   | zero=>intro hd;exact h.rise i (by omega)
   | succ d ih=>
    intro hd;have h3:=ih (by omega);have h4:=h.rise (i+1+d) (by omega);have h5:=(h.ok (i+1+d) (by omega)).2.1;rw[show i+1+(d+1)=i+1+d+1 by omega];omega
  have:=key (j-i-1) (by omega)
  rwa [show i+1+(j-i-1)=j by omega]at this
theorem xC {t:List Rg} {k:Nat} (hk:k<t.length) (h:¬I5 (rg t k)):(false=true↔mA t):=⟨(fun h=>by cases h),fun h2=>absurd (h2.2.1 _ (List.mem_of_getElem? (sG hk))) h⟩
theorem mO {t:List Rg} {k:Nat} (h0:0<k) (hk:k<t.length) (h:¬(rg t (k-1)).hi<(rg t k).lo):(false=true↔mA t):=⟨(fun h=>by cases h),fun h2=>by
 have h3:=(List.pairwise_iff_getElem.1 h2.2.2) (k-1) k (by omega) hk (by omega);rw[eH (by omega),eH hk]at h3;exact absurd h3 h⟩
theorem dZ {t:List Rg} (h:¬t.length<=200):(false=true↔mA t):=⟨(fun h=>by cases h),fun h2=>absurd h2.1 h⟩
def cE (N:List ByteArray) (kind:Int) (t:List Rg) (room:Int):Prop:=A6 N/\0<=kind/\kind<=3/\mA t/\0<=room/\room<=1048576
def aC (S:List Sp) (N:List ByteArray):List Int:=N.map (fun s=>idOf (D0 S s))
def qA (s:ByteArray):List Int:=s.data.toList.map (fun b=>(b.toNat:Int))
theorem C8 (s:ByteArray):(qA s).length=s.size:=by simp[qA]
theorem aCr {s:ByteArray} {i:Nat} (h:i<s.size):(qA s)[i]?=some (s[i].toNat:Int):=by
 unfold qA;rw[List.getElem?_map,Array.getElem?_toList,Array.getElem?_eq_getElem (by simpa using h)];rfl
theorem sO {s:ByteArray} {k:Nat} (h:k<s.size):(qA s).take (k+1)=(qA s).take k++ [(s[k].toNat:Int)]:=by
 rw[List.take_add_one,aCr h];rfl
theorem aAa {s t:ByteArray} (h:qA s=qA t):s=t:=by
 unfold qA at h;apply ByteArray.ext;apply Array.toList_inj.1;have hinj:Function.Injective (fun b:UInt8=>(b.toNat:Int)):=fun a b e=>UInt8.toNat_inj.1 (by have e:(a.toNat:Int)=(b.toNat:Int):=e;omega)
 exact(List.map_inj_right (f:=fun b:UInt8=>(b.toNat:Int)) (fun a b e=>hinj e)).1 h
theorem gT {s:ByteArray}:∀x∈qA s,0<=x/\x<256:=by
 intro x hx;unfold qA at hx;obtain⟨b,_,rfl⟩:=List.mem_map.1 hx;have:=b.toNat_lt;exact⟨by omega,by omega⟩
def E4 (N:List ByteArray) (n:ByteArray):Option Nat:=N.findIdx? (fun x=>decide (x=n))
theorem fF {N:List ByteArray} {n:ByteArray} {i:Nat} (hi:i<N.length) (he:tk N i=n) (hn:∀j,j<i->tk N j≠n):E4 N n=some i:=by
 unfold E4;rw[List.findIdx?_eq_some_iff_getElem];have ht:∀j (hj:j<N.length),N[j]=tk N j:=fun j hj=>by simp[tk,List.getD,hj]
 exact⟨hi,by rw[ht i hi];simpa using he,fun j hj=>by rw[ht j (by omega)];simpa using hn j hj⟩
theorem vG {N:List ByteArray} {n:ByteArray} (hn:∀j,j<N.length->tk N j≠n):E4 N n=none:=by
 unfold E4;rw[List.findIdx?_eq_none_iff];intro x hx;obtain⟨j,hj,rfl⟩:=iH hx;simpa using hn j hj
def iA (V:Vc) (N:List ByteArray) (t:Int):List Int×Int:=
 if bC V.tokens t=true then(qA (tk V.tokens t.toNat),0)
 else match rH V.specials t with
  | none=>([],3)
  | some s=>match E4 N s.name with
   | some k=>([256+(k:Int)],0)
   | none=>([],4)
def xA (V:Vc) (N:List ByteArray):List Int->List Int×Int
 | []=>([],0)
 | t::l=>if(iA V N t).2=0 then(if(xA V N l).2=0 then((iA V N t).1++(xA V N l).1,0)else([],(xA V N l).2))else([],(iA V N t).2)
theorem sK:∀{l1 l2:List Int},l1.Pairwise (· < ·)->l2.Pairwise (· < ·)->(∀x,x∈l1↔x∈l2)->l1=l2
 | [],[],_,_,_=>rfl
 | [],y::l2,_,_,h=>absurd ((h y).2 (by simp)) (by simp)
 | x::l1,[],_,_,h=>absurd ((h x).1 (by simp)) (by simp)
 | x::l1,y::l2,h1,h2,h=>by
  rw[List.pairwise_cons]at h1 h2;have hxy:x=y:=by
   rcases List.mem_cons.1 ((h x).1 (by simp))with e | e
   ·exact e
   ·rcases List.mem_cons.1 ((h y).2 (by simp))with e2 | e2
    ·exact e2.symm
    ·have:=h2.1 x e;have:=h1.1 y e2;omega
  subst hxy;congr 1;refine sK h1.2 h2.2 fun z=> ?_
  constructor
  ·intro hz;rcases List.mem_cons.1 ((h z).1 (by simp[hz]))with e | e
   ·subst e;have:=h1.1 z hz;omega
   ·exact e
  ·intro hz;rcases List.mem_cons.1 ((h z).2 (by simp[hz]))with e | e
   ·subst e;have:=h2.1 z hz;omega
   ·exact e
abbrev Fr:=List Int×Int
def B8 (V:Vc) (N:List ByteArray):List Fr:=
 (List.range V.tokens.length).filterMap fun(i:Nat)=>if(iA V N (i:Int)).2=0 then some ((iA V N (i:Int)).1,(i:Int))else none
theorem yF {V:Vc} {N:List ByteArray} {r:Fr}:r∈B8 V N↔∃i:Nat,i<V.tokens.length/\(iA V N (i:Int)).2=0/\r=((iA V N (i:Int)).1,(i:Int)):=by
 unfold B8;rw[List.mem_filterMap];constructor
 ·rintro⟨i,hi,he⟩;split at he
  ·next h=>exact⟨i,List.mem_range.1 hi,h,by simpa using he.symm⟩
  ·cases he
 ·rintro⟨i,hi,he,rfl⟩;exact⟨i,List.mem_range.2 hi,by rw[if_pos he]⟩
theorem zP (V:Vc) (N:List ByteArray):(B8 V N).Pairwise (fun a b=>a.2<b.2):=by
 unfold B8;rw[List.pairwise_filterMap];refine List.pairwise_lt_range.imp ?_
 intro a b hab x hx y hy;split at hx
 ·split at hy
  ·simp at hx hy;rw[<-hx,<-hy];simp only;omega
  ·cases hy
 ·cases hx
theorem sP {V:Vc} {N:List ByteArray} (h:May V) {t:Int} (ht:¬(0<=t/\t<V.tokens.length)):(iA V N t).2≠0:=by
 unfold iA;have h1:bC V.tokens t=false:=by
  cases h2:bC V.tokens t with
  | false=>rfl
  | true=>have:=A8.1 h2;exact absurd ⟨this.1,this.2.1⟩ ht
 rw[h1];simp only[Bool.false_eq_true,if_false]
 cases h2:rH V.specials t with
 | none=>simp
 | some s=>
  exfalso;have h3:=List.find?_some h2;have h4:=List.mem_of_find?_eq_some h2;have h5:=h.2.2.2.2.1 s h4;have h6:s.id=t:=by simpa using h3
  exact ht ⟨by rw[<-h6];exact h5.2.1,by rw[<-h6];exact h5.2.2.1⟩
theorem F2 {V:Vc} {N:List ByteArray} {t:Int} (h:bC V.tokens t=true):iA V N t=(qA (tk V.tokens t.toNat),0):=by
 unfold iA;rw[if_pos h]
theorem J7 {V:Vc} {N:List ByteArray} {t:Int} (h:bC V.tokens t≠true) (h0:(iA V N t).2=0):∃s k,rH V.specials t=some s/\E4 N s.name=some k/\iA V N t=([256+(k:Int)],0):=by
 unfold iA at h0 |-;rw[if_neg h]at h0 |-
 cases h2:rH V.specials t with
 | none=>rw[h2]at h0;simp at h0
 | some s=>
  rw[h2]at h0
  cases h3:E4 N s.name with
  | none=>simp only[h3]at h0;simp at h0
  | some k=>exact⟨s,k,rfl,h3,by simp only[h3]⟩
theorem pY {V:Vc} {N:List ByteArray} (h:May V) {t:Int} (h0:(iA V N t).2=0):1<=(iA V N t).1.length/\(iA V N t).1.length<=64:=by
 by_cases h1:bC V.tokens t=true
 ·rw[F2 h1];obtain⟨a,b,c⟩:=A8.1 h1;have h2:=h.1.2.1 _ (A4 (T:=V.tokens) (i:=t.toNat) (by omega));simp only[C8];omega
 ·obtain⟨s,k,_,_,e⟩:=J7 h1 h0;rw[e];simp
theorem qY {V:Vc} {N:List ByteArray} (h:May V) {t u:Int} (ht:(iA V N t).2=0) (hu:(iA V N u).2=0) (he:(iA V N t).1=(iA V N u).1):t=u:=by
 by_cases h1:bC V.tokens t=true
 ·by_cases h2:bC V.tokens u=true
  ·rw[F2 h1,F2 h2]at he;have:=aAa he;obtain⟨a,b,c⟩:=A8.1 h1;obtain⟨a',b',c'⟩:=A8.1 h2;rcases Nat.lt_trichotomy t.toNat u.toNat with g | g | g
   ·exact absurd (h.1.2.2.1 _ _ g (by omega) this) c
   ·omega
   ·exact absurd (h.1.2.2.1 _ _ g (by omega) this.symm) c'
  ·obtain⟨s,k,_,_,e⟩:=J7 h2 hu;rw[F2 h1,e]at he;have:=gT (s:=tk V.tokens t.toNat) (256+(k:Int)) (by simp only at he;rw[he];simp);omega
 ·obtain⟨s,k,hs1,hs2,e⟩:=J7 h1 ht
  by_cases h2:bC V.tokens u=true
  ·rw[F2 h2,e]at he;have:=gT (s:=tk V.tokens u.toNat) (256+(k:Int)) (by simp only at he;rw[<-he];simp);omega
  ·obtain⟨s',k',hs1',hs2',e'⟩:=J7 h2 hu;rw[e,e']at he;have hk:k=k':=by simp at he;omega
   subst hk;have hn:s.name=s'.name:=by
    unfold E4 at hs2 hs2';obtain⟨g1,g2,_⟩:=List.findIdx?_eq_some_iff_getElem.1 hs2;obtain⟨g1',g2',_⟩:=List.findIdx?_eq_some_iff_getElem.1 hs2';have a:N[k]=s.name:=by simpa using g2
    have b:N[k]=s'.name:=by simpa using g2'
    rw[<-a,<-b]
   have m1:=List.mem_of_find?_eq_some hs1;have m2:=List.mem_of_find?_eq_some hs1';have f1:D0 V.specials s.name=some s:=aO h.2.2.2 m1;have f2:D0 V.specials s'.name=some s':=aO h.2.2.2 m2;rw[<-hn,f1]at f2;have hss:s=s':=by simpa using f2
   have i1:s.id=t:=by simpa using List.find?_some hs1
   have i2:s'.id=u:=by simpa using List.find?_some hs1'
   rw[<-i1,<-i2,hss]
def pE (a b:List Int):Int:=if a<b then -1 else if a=b then 0 else 1
theorem xU {a b:List Int}:pE a b<0↔a<b:=by
 unfold pE;split
 ·simp_all
 ·split<;>simp_all
theorem aCm {a b:List Int}:pE a b=0↔a=b:=by
 unfold pE;split
 ·next h=>
   constructor
   ·intro h2;omega
   ·intro h2;subst h2;exact absurd h (List.lt_irrefl a)
 ·split<;>simp_all
def yA (a b:List Int):Bool:=b.isPrefixOf a
theorem tB {a b:List Int}:yA a b=true↔b <+:a:=by unfold yA;rw[List.isPrefixOf_iff_prefix]
theorem aE {a b:List Int}:yA a b=true↔b.length<=a.length/\a.take b.length=b:=by
 rw[tB];constructor
 ·intro h;exact⟨h.length_le,(List.prefix_iff_eq_take.1 h).symm⟩
 ·rintro⟨_,h⟩;rw[<-h];exact List.take_prefix _ _
def cC (rows:List Fr) (s:List Int):List Int:=if s= []then []else(rows.filter (fun r=>yA r.1 s || yA s r.1)).map (·.2)
def oE (rows:List Fr) (s:List Int):List Int:=(rows.find? (fun r=>decide (r.1=s))).toList.map (·.2)
def rB (rows:List Fr) (s:List Int) (k:Nat):List Int:=(List.range k).flatMap (fun i=>oE rows (s.take (i+1)))
def qH (rows:List Fr) (s:List Int):List Int:=(rows.filter (fun r=>yA r.1 s)).map (·.2)
theorem tL {rows:List Fr} (hu:∀a∈rows,∀b∈rows,a.1=b.1->a=b) {s:List Int} {x:Int}:x∈oE rows s↔(s,x)∈rows:=by
 unfold oE
 cases h:rows.find? (fun r=>decide (r.1=s))with
 | none=>
  rw[List.find?_eq_none]at h;simp only[Option.toList_none,List.map_nil,List.not_mem_nil,false_iff];intro h2;exact absurd (h _ h2) (by simp)
 | some r=>
  have h1:r.1=s:=by simpa using List.find?_some h
  have h2:=List.mem_of_find?_eq_some h;simp only[Option.toList_some,List.map_cons,List.map_nil,List.mem_singleton];constructor
  ·rintro rfl;rw[<-h1];exact h2
  ·intro h3;have:=hu r h2 _ h3 (by simpa using h1);rw[this]
theorem rU (rows:List Fr) (s:List Int):(oE rows s).Nodup:=by
 unfold oE
 cases rows.find? (fun r=>decide (r.1=s))<;>simp
structure vO (rows:List Fr):Prop where
 uniq:∀a∈rows,∀b∈rows,a.1=b.1->a=b
 ids:∀a∈rows,∀b∈rows,a.2=b.2->a=b
 len:∀a∈rows,1<=a.1.length/\a.1.length<=64
theorem goodF {V:Vc} {N:List ByteArray} (h:May V):vO (B8 V N):=by
 refine⟨fun a ha b hb e=> ?_,fun a ha b hb e=> ?_,fun a ha=> ?_⟩
 ·obtain⟨i,_,hi,rfl⟩:=yF.1 ha;obtain⟨j,_,hj,rfl⟩:=yF.1 hb;have:=qY h hi hj e;rw[this]
 ·obtain⟨i,_,hi,rfl⟩:=yF.1 ha;obtain⟨j,_,hj,rfl⟩:=yF.1 hb;simp only at e;rw[e]
 ·obtain⟨i,_,hi,rfl⟩:=yF.1 ha;exact pY h hi
theorem kL {rows:List Fr} (hg:vO rows) {s:List Int} {k:Nat} {x:Int}:x∈rB rows s k↔∃i,i<k/\(s.take (i+1),x)∈rows:=by
 unfold rB;rw[List.mem_flatMap];constructor
 ·rintro⟨i,hi,hx⟩;exact⟨i,List.mem_range.1 hi,(tL hg.uniq).1 hx⟩
 ·rintro⟨i,hi,hx⟩;exact⟨i,List.mem_range.2 hi,(tL hg.uniq).2 hx⟩
theorem fM {rows:List Fr} (hg:vO rows) {s:List Int}:∀{k:Nat},k<=s.length->(rB rows s k).Nodup
 | 0,_=>by simp[rB]
 | k+1,hk=>by
  have e:rB rows s (k+1)=rB rows s k++oE rows (s.take (k+1)):=by
   unfold rB;rw[List.range_succ,List.flatMap_append];simp
  rw[e,List.nodup_append];refine⟨fM hg (by omega),rU _ _,fun a ha b hb hab=> ?_⟩;subst hab;obtain⟨i,hi,h1⟩:=(kL hg).1 ha;have h2:=(tL hg.uniq).1 hb;have h3:=hg.ids _ h1 _ h2 rfl;have h4:(s.take (i+1)).length=(s.take (k+1)).length:=by
   have:s.take (i+1)=s.take (k+1):=by simpa using h3
   rw[this]
  rw[List.length_take,List.length_take]at h4;omega
theorem qS {rows:List Fr} {s:List Int} {x:Int}:x∈qH rows s↔∃r∈rows,yA r.1 s=true/\r.2=x:=by
 unfold qH;simp only[List.mem_map,List.mem_filter];constructor
 ·rintro⟨r,⟨h1,h2⟩,h3⟩;exact⟨r,h1,h2,h3⟩
 ·rintro⟨r,h1,h2,h3⟩;exact⟨r,⟨h1,h2⟩,h3⟩
theorem Z0 {rows:List Fr} (hg:vO rows) {s:List Int} (hs:s≠[]) {x:Int}:x∈rB rows s (min (s.length-1) 64)++qH rows s↔x∈cC rows s:=by
 have hpos:0<s.length:=List.length_pos_iff.2 hs;unfold cC;rw[if_neg hs,List.mem_append,kL hg,qS];simp only[List.mem_map,List.mem_filter,Bool.or_eq_true];constructor
 ·rintro(⟨i,hi,h⟩ | ⟨r,h1,h2,h3⟩)
  ·refine⟨_,⟨h, .inr ?_⟩,rfl⟩;rw[tB];exact List.take_prefix _ _
  ·exact⟨r,⟨h1, .inl h2⟩,h3⟩
 ·rintro⟨r,⟨h1,h2 | h2⟩,h3⟩
  ·exact .inr ⟨r,h1,h2,h3⟩
  ·have h4:=aE.1 h2;have h5:=hg.len r h1;rcases Nat.lt_or_ge r.1.length s.length with h6 | h6
   ·left;refine⟨r.1.length-1,by omega,?_⟩;rw[show r.1.length-1+1=r.1.length by omega,h4.2,<-h3];exact h1
   ·right;refine⟨r,h1,?_,h3⟩;have h7:r.1.length=s.length:=by omega
    have h8:=h4.2;rw[h7,List.take_length]at h8;rw[<-h8,tB];exact List.prefix_refl _
theorem pU {rows:List Fr} (hg:vO rows) (hn:rows.Nodup) {s:List Int} (hs:s≠[]):(rB rows s (min (s.length-1) 64)++qH rows s).Nodup:=by
 have hpos:0<s.length:=List.length_pos_iff.2 hs;rw[List.nodup_append];refine⟨fM hg (by omega),?_,fun a ha b hb hab=> ?_⟩
 ·unfold qH;unfold List.Nodup;rw[List.pairwise_map];have h0:=hn.sublist (List.filter_sublist (p:=fun r:Fr=>yA r.1 s) (l:=rows));refine List.Pairwise.imp_of_mem ?_ h0
  intro a b ha hb hne e;exact hne (hg.ids a (List.mem_filter.1 ha).1 b (List.mem_filter.1 hb).1 e)
 ·subst hab;obtain⟨i,hi,h1⟩:=(kL hg).1 ha;obtain⟨r,h2,h3,h4⟩:=qS.1 hb;have h5:=hg.ids _ h1 r h2 h4.symm;have h6:=(aE.1 h3).1;rw[<-h5]at h6;simp only[List.length_take]at h6;omega
theorem R2 {V:Vc} {N:List ByteArray} (h:May V) {rows:List Fr} (hp:rows.Perm (B8 V N)) {s:List Int} (hs:s≠[]) {out:List Int}
  (ho:out.Perm (rB rows s (min (s.length-1) 64)++qH rows s)) (hso:out.Pairwise (· <=·)):out=cC (B8 V N) s:=by
 have hg0:vO (B8 V N):=goodF h;have hg:vO rows:=⟨fun a ha b hb=>hg0.uniq a (hp.mem_iff.1 ha) b (hp.mem_iff.1 hb),fun a ha b hb=>hg0.ids a (hp.mem_iff.1 ha) b (hp.mem_iff.1 hb),fun a ha=>hg0.len a (hp.mem_iff.1 ha)⟩;have hnr:(B8 V N).Nodup:=(zP V N).imp fun{a b} e h2=>by rw[h2]at e;omega
 have hn:=pU hg (hp.nodup_iff.2 hnr) hs;have hno:=ho.nodup_iff.2 hn;refine sK ?_ ?_ fun x=> ?_
 ·have h2:out.Pairwise (fun a b=>a<=b/\a≠b):=hso.and hno;exact h2.imp fun{a b} e=>by omega
 ·unfold cC;rw[if_neg hs,List.pairwise_map];exact(zP V N).sublist List.filter_sublist
 ·rw[ho.mem_iff,Z0 hg hs];unfold cC;rw[if_neg hs,if_neg hs];simp only[List.mem_map,List.mem_filter];constructor
  ·rintro⟨r,⟨h1,h2⟩,h3⟩;exact⟨r,⟨hp.mem_iff.1 h1,h2⟩,h3⟩
  ·rintro⟨r,⟨h1,h2⟩,h3⟩;exact⟨r,⟨hp.mem_iff.2 h1,h2⟩,h3⟩
theorem qC (V:Vc) (N:List ByteArray) (t:Int) (l:List Int):xA V N (t::l)=if(iA V N t).2=0 then(if(xA V N l).2=0 then((iA V N t).1++(xA V N l).1,0)else([],(xA V N l).2))else([],(iA V N t).2):=rfl
theorem fK {V:Vc} {N:List ByteArray}:∀{L R:List Int},(xA V N L).2=0->xA V N (L++R)=if(xA V N R).2=0 then((xA V N L).1++(xA V N R).1,0)else([],(xA V N R).2)
 | [],R,_=>by
  show xA V N R=_
  by_cases h:(xA V N R).2=0
  ·rw[if_pos h];simp only[xA,List.nil_append];rw[<-h]
  ·rw[if_neg h];exact decTo_bad h
 | t::L,R,h=>by
  rw[qC]at h
  by_cases h1:(iA V N t).2=0
  ·rw[if_pos h1]at h
   by_cases h2:(xA V N L).2=0
   ·rw[List.cons_append,qC,fK h2,if_pos h1,qC V N t L,if_pos h1,if_pos h2]
    by_cases h3:(xA V N R).2=0
    ·simp[h3]
    ·simp[h3]
   ·rw[if_neg h2]at h;exact absurd h h2
  ·rw[if_neg h1]at h;exact absurd h h1
where
 decTo_bad {V:Vc} {N:List ByteArray}:∀{R:List Int},(xA V N R).2≠0->xA V N R=([],(xA V N R).2)
 | [],h=>absurd rfl h
 | t::L,h=>by
  rw[qC]at h |-
  by_cases h1:(iA V N t).2=0
  ·rw[if_pos h1]at h |-
   by_cases h2:(xA V N L).2=0
   ·rw[if_pos h2]at h;exact absurd rfl h
   ·rw[if_neg h2]
  ·rw[if_neg h1]
structure cR (V:Vc) (N:List ByteArray) (A:List Int) (k:Nat) (out:List Int):Prop where
 ok:(xA V N (A.take k)).2=0
 out:(xA V N (A.take k)).1=out
theorem cR.zero (V:Vc) (N:List ByteArray) (A:List Int):cR V N A 0 []:=⟨rfl,rfl⟩
theorem aCj (V:Vc) (N:List ByteArray) (t:Int):(xA V N [t]).2=(iA V N t).2/\((iA V N t).2=0->(xA V N [t]).1=(iA V N t).1):=by
 rw[qC]
 by_cases h:(iA V N t).2=0
 ·rw[if_pos h];simp[xA,h]
 ·rw[if_neg h];exact⟨rfl,fun h2=>absurd h2 h⟩
theorem cR.next {V:Vc} {N:List ByteArray} {A:List Int} {k:Nat} {out:List Int} (h:cR V N A k out) (hk:k<A.length) (he:(iA V N (ix A k)).2=0):cR V N A (k+1) (out++(iA V N (ix A k)).1):=by
 obtain⟨h1,h2⟩:=aCj V N (ix A k);have h3:(xA V N [ix A k]).2=0:=by rw[h1];exact he
 have h4:=fK (R:=[ix A k]) h.ok;rw[if_pos h3,D6 hk]at h4;exact⟨by rw[h4],by rw[h4,h.out,h2 he]⟩
theorem cR.bad {V:Vc} {N:List ByteArray} {A:List Int} {k:Nat} {out:List Int} (h:cR V N A k out) (hk:k<A.length) (he:(iA V N (ix A k)).2≠0):xA V N A=([],(iA V N (ix A k)).2):=by
 have e1:A=A.take k++(ix A k::A.drop (k+1)):=by
  have e2:=List.take_append_drop k A;rw[List.drop_eq_getElem_cons hk]at e2;have e3:A[k]=ix A k:=by simp[ix,List.getD,hk]
  rw[e3]at e2;exact e2.symm
 have h3:xA V N (ix A k::A.drop (k+1))=([],(iA V N (ix A k)).2):=by rw[qC,if_neg he]
 have h4:=fK (R:=ix A k::A.drop (k+1)) h.ok;rw[h3]at h4;simp only at h4;rw[if_neg he,<-e1]at h4;exact h4
theorem cR.all {V:Vc} {N:List ByteArray} {A:List Int} {k:Nat} {out:List Int} (h:cR V N A k out) (hk:A.length=k):xA V N A=(out,0):=by
 obtain⟨h1,h2⟩:=h;rw[<-hk,List.take_length]at h1 h2;rw[<-h1,<-h2]
theorem first_in {V:Vc} {N:List ByteArray} (hM:May V) {t:Int} {ts all s:List Int} (hd:xA V N (t::ts)=(all,0)) (hs:s≠[]) (hp:s <+:all):t∈cC (B8 V N) s:=by
 rw[qC]at hd
 by_cases h1:(iA V N t).2=0
 ·rw[if_pos h1]at hd
  by_cases h2:(xA V N ts).2=0
  ·rw[if_pos h2]at hd;have ha:(iA V N t).1++(xA V N ts).1=all:=congrArg Prod.fst hd;have ht:0<=t/\t<V.tokens.length:=by
    rcases Classical.em (0<=t/\t<V.tokens.length)with h | h
    ·exact h
    ·exact absurd h1 (sP hM h)
   have hi:((t.toNat:Nat):Int)=t:=by omega
   have hr:((iA V N t).1,t)∈B8 V N:=yF.2 ⟨t.toNat,by omega,by rw[hi];exact h1,by rw[hi]⟩;have hp1:(iA V N t).1 <+:all:=⟨_,ha⟩;unfold cC;rw[if_neg hs,List.mem_map];refine⟨_,List.mem_filter.2 ⟨hr,?_⟩,rfl⟩;rw[Bool.or_eq_true];rcases List.prefix_or_prefix_of_prefix hp hp1 with h | h
   ·exact .inl (tB.2 h)
   ·exact .inr (tB.2 h)
  ·rw[if_neg h2]at hd;exact absurd (congrArg Prod.snd hd) h2
 ·rw[if_neg h1]at hd;exact absurd (congrArg Prod.snd hd) h1
theorem iX {V:Vc} {N:List ByteArray} (hM:May V) {A all s:List Int} (hd:xA V N A=(all,0)) (hs:s≠[]) (hp:s <+:all):0<A.length/\ix A 0∈cC (B8 V N) s:=by
 cases A with
 | nil=>
  have:all= []:=(congrArg Prod.fst hd).symm;rw[this]at hp;exact absurd (List.prefix_nil.1 hp) hs
 | cons t ts=>exact⟨by simp,first_in hM hd hs hp⟩
def lD (M:List Mg) (a b:Int):Option Mg:=M.find? (fun m=>decide (m.left=a) && decide (m.right=b))
structure pH (M:List Mg) (row:List Int) (i:Nat) (m:Mg):Prop where
 at_:∃a b,row[i]?=some a/\row[i+1]?=some b/\lD M a b=some m
 least:∀j a b m',row[j]?=some a->row[j+1]?=some b->lD M a b=some m'->m.order<m'.order\/(m.order=m'.order/\i<=j)
def Q7 (M:List Mg) (row:List Int):Prop:=∀j a b,row[j]?=some a->row[j+1]?=some b->lD M a b=none
theorem pH.uniq {M:List Mg} {row:List Int} {i j:Nat} {m n:Mg} (h:pH M row i m) (k:pH M row j n):i=j/\m=n:=by
 obtain⟨a,b,h1,h2,h3⟩:=h.at_;obtain⟨c,d,k1,k2,k3⟩:=k.at_;have e1:=h.least j c d n k1 k2 k3;have e2:=k.least i a b m h1 h2 h3;have e:i=j:=by omega
 subst e;rw[h1]at k1;rw[h2]at k2;simp only[Option.some.injEq]at k1 k2;subst k1 k2;rw[h3]at k3;exact⟨rfl,by simpa using k3⟩
theorem pH.not {M:List Mg} {row:List Int} {i:Nat} {m:Mg} (h:pH M row i m) (k:Q7 M row):False:=by
 obtain⟨a,b,h1,h2,h3⟩:=h.at_;rw[k i a b h1 h2]at h3
 cases h3
def wG (row:List Int) (i:Nat) (o:Int):List Int:=row.take i++o::row.drop (i+2)
open Classical in
noncomputable def wE (M:List Mg) (row:List Int):Option (List Int):=if h:∃p:Nat×Mg,pH M row p.1 p.2 then some (wG row h.choose.1 h.choose.2.out)else none
theorem sY {M:List Mg} {row:List Int} {i:Nat} {m:Mg} (h:pH M row i m):wE M row=some (wG row i m.out):=by
 have he:∃p:Nat×Mg,pH M row p.1 p.2:=⟨(i,m),h⟩;unfold wE;rw[dif_pos he];obtain⟨e1,e2⟩:=he.choose_spec.uniq h;rw[e1,e2]
theorem tY {M:List Mg} {row:List Int} (h:Q7 M row):wE M row=none:=by
 unfold wE;rw[dif_neg];rintro⟨p,hp⟩;exact hp.not h
theorem aN {M:List Mg} {row r:List Int} (h:wE M row=some r):r.length+1=row.length:=by
 unfold wE at h;split at h
 ·next he=>
  simp only[Option.some.injEq]at h;obtain⟨a,b,h1,h2,h3⟩:=he.choose_spec.at_;have:=(List.getElem?_eq_some_iff.1 h2).1;rw[<-h];unfold wG;simp;omega
 ·cases h
noncomputable def kK (M:List Mg):Nat->List Int->List Int
 | 0,r=>r
 | k+1,r=>match wE M r with
  | none=>r
  | some r'=>kK M k r'
theorem wP {M:List Mg} {r:List Int} (h:wE M r=none):∀k,kK M k r=r
 | 0=>rfl
 | k+1=>by simp only[kK,h]
theorem aBv {M:List Mg} {r r':List Int} (h:wE M r=some r'):kK M r.length r=kK M r'.length r':=by
 have hl:=aN h;rw[<-hl];simp only[kK,h]
def pB (V:Vc) (b:List Int):List Int:=b.map (fun x=>ofT V.tokens (one x.toNat))
theorem zF (V:Vc) (b:List Int):(pB V b).length=b.length:=by simp[pB]
noncomputable def vH (V:Vc) (b:List Int):List Int:=kK V.merges b.length (pB V b)
abbrev Ch:=List (Nat×Int)
def zH (C:Ch):Prop:=C.Pairwise (fun a b=>a.1<b.1)
def agF (M:List Mg):Ch->Nat->Option (Int×Int)
 | (p,a)::(q,b)::l,x=>if x=p then(lD M a b).map (fun m=>(m.order,m.out))else agF M ((q,b)::l) x
 | _,_=>none
theorem iD (M:List Mg) (p q:Nat) (a b:Int) (l:Ch) (x:Nat):agF M ((p,a)::(q,b)::l) x=if x=p then(lD M a b).map (fun m=>(m.order,m.out))else agF M ((q,b)::l) x:=rfl
theorem M2 {M:List Mg}:∀{C:Ch} {x:Nat} {o},agF M C x=some o->∃i a q b m,C[i]?=some (x,a)/\C[i+1]?=some (q,b)/\lD M a b=some m/\o=(m.order,m.out)
 | [],x,o,h=>by simp[agF]at h
 | [_],x,o,h=>by simp[agF]at h
 | (p,a)::(q,b)::l,x,o,h=>by
  rw[iD]at h;split at h
  ·next e=>
   subst e
   cases hf:lD M a b with
   | none=>rw[hf]at h;simp at h
   | some m=>rw[hf]at h;exact⟨0,a,q,b,m,rfl,rfl,hf,by simpa using h.symm⟩
  ·obtain⟨i,a',q',b',m,h1,h2,h3,h4⟩:=M2 h;exact⟨i+1,a',q',b',m,by simpa using h1,by simpa using h2,h3,h4⟩
theorem bV {M:List Mg}:∀{C:Ch},zH C->∀{i p q:Nat} {a b:Int},C[i]?=some (p,a)->C[i+1]?=some (q,b)->agF M C p=(lD M a b).map (fun m=>(m.order,m.out))
 | [],_,i,p,q,a,b,h,_=>by simp at h
 | [_],_,i,p,q,a,b,_,h=>by simp at h
 | (p0,a0)::(q0,b0)::l,hc,i,p,q,a,b,h1,h2=>by
  rw[iD]
  cases i with
  | zero=>
   simp at h1 h2;obtain⟨rfl,rfl⟩:=h1;obtain⟨rfl,rfl⟩:=h2;simp
  | succ i=>
   have hc':=List.pairwise_cons.1 hc;have hm:(p,a)∈(q0,b0)::l:=List.mem_of_getElem? (by simpa using h1);have:=hc'.1 _ hm;simp only at this;rw[if_neg (by omega)];exact bV hc'.2 (i:=i) (by simpa using h1) (by simpa using h2)
theorem agF_no {M:List Mg} {C:Ch} {x:Nat} (h:∀c∈C,c.1≠x):agF M C x=none:=by
 cases hf:agF M C x with
 | none=>rfl
 | some o=>
  obtain⟨i,a,q,b,m,h1,_⟩:=M2 hf;exact absurd rfl (h _ (List.mem_of_getElem? h1))
theorem agF_last {M:List Mg}:∀{C:Ch},zH C->∀{i p:Nat} {a:Int},C[i]?=some (p,a)->C[i+1]?=none->agF M C p=none:=by
 intro C hc i p a h1 h2
 cases hf:agF M C p with
 | none=>rfl
 | some o=>
  obtain⟨j,a',q,b,m,k1,k2,_⟩:=M2 hf;exfalso;have hi:=(List.getElem?_eq_some_iff.1 h1).1;have hj:=(List.getElem?_eq_some_iff.1 k1).1;have hj2:=(List.getElem?_eq_some_iff.1 k2).1;have hi2:C.length<=i+1:=by simpa using h2
  have hp:=List.pairwise_iff_getElem.1 hc j i hj hi (by omega);rw[List.getElem?_eq_getElem hi]at h1;rw[List.getElem?_eq_getElem hj]at k1;simp only[Option.some.injEq]at h1 k1;rw[h1,k1]at hp;simp at hp
theorem agF_best {M:List Mg} {C:Ch} (hc:zH C) {p:Nat} {o d:Int} (h:agF M C p=some (o,d)) (hm:∀q o' d',agF M C q=some (o',d')->o<o'\/(o=o'/\p<=q)):
  ∃i a q b m,C[i]?=some (p,a)/\C[i+1]?=some (q,b)/\lD M a b=some m/\m.order=o/\m.out=d/\pH M (C.map (·.2)) i m:=by
 obtain⟨i,a,q,b,m,h1,h2,h3,h4⟩:=M2 h;simp only[Prod.mk.injEq]at h4;refine⟨i,a,q,b,m,h1,h2,h3,h4.1.symm,h4.2.symm,⟨⟨a,b,by simp[h1],by simp[h2],h3⟩,fun j a' b' m' k1 k2 k3=> ?_⟩⟩;simp only[List.getElem?_map,Option.map_eq_some_iff]at k1 k2;obtain⟨⟨pj,a1⟩,g1,rfl⟩:=k1;obtain⟨⟨qj,b1⟩,g2,rfl⟩:=k2;have:=hm pj m'.order m'.out (by rw[bV hc g1 g2];simp only at k3;rw[k3];rfl);rw[h4.1]at this;rcases this with e | ⟨e1,e2⟩
 ·exact .inl e
 ·refine .inr ⟨e1,?_⟩;rcases Nat.lt_or_ge j i with hji | hji
  ·exfalso;have hj:=(List.getElem?_eq_some_iff.1 g1).1;have hi:=(List.getElem?_eq_some_iff.1 h1).1;have hp:=List.pairwise_iff_getElem.1 hc j i hj hi hji;rw[List.getElem?_eq_getElem hj]at g1;rw[List.getElem?_eq_getElem hi]at h1;simp only[Option.some.injEq]at g1 h1;rw[g1,h1]at hp;simp only at hp;omega
  ·exact hji
theorem aAh {M:List Mg} {C:Ch} (hc:zH C) (h:∀p,agF M C p=none):Q7 M (C.map (·.2)):=by
 intro j a b k1 k2;simp only[List.getElem?_map,Option.map_eq_some_iff]at k1 k2;obtain⟨⟨pj,a1⟩,g1,rfl⟩:=k1;obtain⟨⟨qj,b1⟩,g2,rfl⟩:=k2;have:=h pj;rw[bV hc g1 g2]at this;simpa using this
theorem S3 {pre post:Ch} {p q:Nat} {a b o:Int} (h:zH (pre++(p,a)::(q,b)::post)):zH (pre++(p,o)::post):=by
 unfold zH at *;rw[List.pairwise_append]at h |-;obtain⟨h1,h2,h3⟩:=h;rw[List.pairwise_cons,List.pairwise_cons]at h2;refine⟨h1,List.pairwise_cons.2 ⟨fun c hc=>h2.1 c (by simp[hc]),h2.2.2⟩,fun x hx y hy=> ?_⟩;rcases List.mem_cons.1 hy with rfl | hy
 ·exact h3 x hx (p,a) (by simp)
 ·exact h3 x hx y (by simp[hy])
theorem aBF {pre post:Ch} {p q:Nat} {a b o:Int}:(pre++(p,o)::post).map (·.2)=wG ((pre++(p,a)::(q,b)::post).map (·.2)) pre.length o:=by
 unfold wG;simp[List.drop_append]
theorem aBd {M:List Mg}:∀{pre l l':Ch} {x p:Nat} {a a':Int},zH (pre++(p,a)::l)->(∀c,pre.getLast?=some c->c.1≠x)->(∃c∈pre,c.1=x)->agF M (pre++(p,a)::l) x=agF M (pre++(p,a')::l') x
 | [],l,l',x,p,a,a',_,_,h=>by simp at h
 | [c],l,l',x,p,a,a',_,h1,h2=>by
  obtain⟨d,hd,e⟩:=h2;simp at hd;subst hd;exact absurd e (h1 _ rfl)
 | (r,u)::(s,v)::pre,l,l',x,p,a,a',hc,h1,h2=>by
  simp only[List.cons_append];rw[iD,iD]
  by_cases e:x=r
  ·rw[if_pos e,if_pos e]
  ·rw[if_neg e,if_neg e];have:=aBd (M:=M) (pre:=(s,v)::pre) (l:=l) (l':=l') (x:=x) (p:=p) (a:=a) (a':=a') (List.pairwise_cons.1 hc).2 (fun c h=>h1 c (by simpa using h)) (by
    obtain⟨d,hd,e2⟩:=h2;rcases List.mem_cons.1 hd with rfl | h
    ·exact absurd e2.symm e
    ·exact⟨d,h,e2⟩)
   simpa using this
theorem Q2 {M:List Mg}:∀{pre l:Ch} {x:Nat},(∀c∈pre,c.1≠x)->l≠[]->agF M (pre++l) x=agF M l x
 | [],l,x,_,_=>rfl
 | [(r,u)],(p,a)::l,x,h,_=>by
  simp only[List.cons_append,List.nil_append];rw[iD,if_neg (fun e=>h (r,u) (by simp) e.symm)]
 | (r,u)::(s,v)::pre,l,x,h,hl=>by
  simp only[List.cons_append];rw[iD,if_neg (fun e=>h (r,u) (by simp) e.symm)];have:=Q2 (M:=M) (pre:=(s,v)::pre) (l:=l) (x:=x) (fun c hc=>h c (by simp[hc])) hl;simpa using this
 | [(r,u)],[],x,_,hl=>absurd rfl hl
def iI (row:List Int):Ch:=(List.range row.length).zip row
theorem yM {row:List Int} {i:Nat} {a:Int} (h:row[i]?=some a):(iI row)[i]?=some (i,a):=by
 have hi:=(List.getElem?_eq_some_iff.1 h).1;unfold iI;rw[List.getElem?_zip_eq_some];exact⟨by simp[hi],h⟩
theorem wJ (row:List Int):(iI row).length=row.length:=by simp[iI]
theorem chOf_map (row:List Int):(iI row).map (·.2)=row:=by
 unfold iI;rw[List.map_snd_zip];simp
theorem chOf_ok (row:List Int):zH (iI row):=by
 unfold zH;rw[List.pairwise_iff_getElem];intro i j hi hj hij;simp only[iI,List.getElem_zip,List.getElem_range];exact hij
structure Ent where
 place:Int
 order:Int
 out:Int
 deriving DecidableEq
instance :Inhabited Ent:=⟨⟨0,0,0⟩⟩
def Ent.less (a b:Ent):Bool:=decide (a.order<b.order) || (decide (a.order=b.order) && decide (a.place<b.place))
theorem Ent.less_iff {a b:Ent}:a.less b=true↔a.order<b.order\/(a.order=b.order/\a.place<b.place):=by
 simp[Ent.less]
theorem Ent.ge_trans {a b c:Ent} (h1:¬a.less b=true) (h2:¬b.less c=true):¬a.less c=true:=by
 rw[Ent.less_iff]at *;omega
theorem Ent.less_asymm {a b:Ent} (h1:a.less b=true):¬b.less a=true:=by
 rw[Ent.less_iff]at *;omega
theorem Ent.not_self (a:Ent):¬a.less a=true:=by
 rw[Ent.less_iff];omega
def en (L:List Ent) (i:Nat):Ent:=L.getD i default
theorem tD {L:List Ent} {i:Nat} (h:i<L.length):L[i]?=some (en L i):=by simp[en,List.getD,h]
theorem zC {L:List Ent} {i:Nat} (h:i<L.length):L[i]=en L i:=by simp[en,List.getD,h]
def swp (L:List Ent) (i j:Nat):List Ent:=(L.set i (en L j)).set j (en L i)
theorem B7 (L:List Ent) (i j:Nat):(swp L i j).length=L.length:=by simp[swp]
theorem sN {L:List Ent} {i:Nat} {x:Ent} (k:Nat) (h:i<L.length):en (L.set i x) k=if k=i then x else en L k:=by
 unfold en;simp only[List.getD,List.getElem?_set]
 by_cases hk:i=k
 ·subst hk;simp[h]
 ·rw[if_neg hk,if_neg (fun e=>hk e.symm)]
theorem nF {L:List Ent} {i j:Nat} (k:Nat) (hi:i<L.length) (hj:j<L.length):en (swp L i j) k=if k=j then en L i else if k=i then en L j else en L k:=by
 unfold swp;rw[sN k (by simpa using hj),sN k hi]
def par (i:Nat):Nat:=(i-1) / 2
def D5 (L:List Ent) (n:Nat):Prop:=∀i,0<i->i<n->¬(en L i).less (en L (par i))=true
structure uO (L:List Ent) (n j:Nat):Prop where
 ok:∀i,0<i->i<n->i≠j->¬(en L i).less (en L (par i))=true
 kid:∀c,0<c->c<n->par c=j->0<j->¬(en L c).less (en L (par j))=true
theorem sT {L:List Ent} {n j:Nat} (h:uO L n j) (hs:j=0\/¬(en L j).less (en L (par j))=true):D5 L n:=fun i h0 hn=>by
 by_cases e:i=j
 ·subst e;rcases hs with h1 | h1
  ·omega
  ·exact h1
 ·exact h.ok i h0 hn e
theorem C4 {i:Nat} (h:0<i):par i<i:=by unfold par;omega
theorem up_step {L:List Ent} {n j:Nat} (h:uO L n j) (h0:0<j) (hj:j<n) (hl:n<=L.length) (hs:(en L j).less (en L (par j))=true):uO (swp L (par j) j) n (par j):=by
 have hp:=C4 h0;have hE:=fun k=>nF (L:=L) (i:=par j) (j:=j) k (by omega) (by omega)
 refine⟨fun i i0 hi hne=> ?_,fun c c0 hc hcp hp0=> ?_⟩
 ·rw[hE i,hE (par i)]
  by_cases e1:i=j
  ·subst e1;rw[if_pos rfl,if_neg (by omega),if_pos rfl];exact Ent.less_asymm hs
  ·rw[if_neg e1,if_neg hne]
   by_cases e2:par i=j
   ·rw[if_pos e2];exact h.kid i i0 hi e2 h0
   ·rw[if_neg e2]
    by_cases e3:par i=par j
    ·rw[if_pos e3];have h1:=h.ok i i0 hi e1;rw[e3]at h1;exact Ent.ge_trans h1 (Ent.less_asymm hs)
    ·rw[if_neg e3];exact h.ok i i0 hi e1
 ·rw[hE c,hE (par (par j))];have hpp:=C4 hp0;rw[if_neg (show par (par j)≠j by omega),if_neg (show par (par j)≠par j by omega)];have hq:¬(en L (par j)).less (en L (par (par j)))=true:=h.ok (par j) hp0 (by omega) (by omega)
  by_cases e1:c=j
  ·rw[if_pos e1];exact hq
  ·have e2:c≠par j:=fun e=>by have:=C4 c0;rw[hcp,e]at this;omega
   rw[if_neg e1,if_neg e2];have h1:=h.ok c c0 hc e1;rw[hcp]at h1;exact Ent.ge_trans h1 hq
structure M6 (L:List Ent) (n i:Nat) (g:Prop):Prop where
 ok:∀k,0<k->k<n->par k≠i->(k=i->g)->¬(en L k).less (en L (par k))=true
 kid:∀c,0<c->c<n->par c=i->0<i->¬(en L c).less (en L (par i))=true
theorem aCg {L:List Ent} {n i:Nat} {g:Prop} (h:M6 L n i g) (hs:∀c,0<c->c<n->par c=i->¬(en L c).less (en L i)=true):(g->D5 L n)/\uO L n i:=by
 have key:∀k,0<k->k<n->(k=i->g)->¬(en L k).less (en L (par k))=true:=fun k k0 hk hg=>by
  by_cases e:par k=i
  ·have:=hs k k0 hk e;rw[e];exact this
  ·exact h.ok k k0 hk e hg
 exact⟨fun hg k k0 hk=>key k k0 hk (fun _=>hg),fun k k0 hk e=>key k k0 hk (fun e2=>absurd e2 e),h.kid⟩
theorem aCh {L:List Ent} {n i j:Nat} {g:Prop} (h:M6 L n i g) (hj:j<n) (hl:n<=L.length) (hj0:0<j) (hp:par j=i) (hm:∀c,0<c->c<n->par c=i->¬(en L c).less (en L j)=true) (hs:(en L j).less (en L i)=true):M6 (swp L i j) n j True:=by
 have hij:i<j:=by have:=C4 hj0;omega
 have hE:=fun k=>nF (L:=L) (i:=i) (j:=j) k (by omega) (by omega)
 refine⟨fun k k0 hk hne _=> ?_,fun c c0 hc hcp _=> ?_⟩
 ·rw[hE k,hE (par k),if_neg hne];have hpk:=C4 k0
  by_cases e1:k=j
  ·subst e1;rw[if_pos rfl,if_pos hp];exact Ent.less_asymm hs
  ·rw[if_neg e1]
   by_cases e2:k=i
   ·subst e2;rw[if_pos rfl,if_neg (by omega)];exact h.kid j hj0 hj hp k0
   ·rw[if_neg e2]
    by_cases e3:par k=i
    ·rw[if_pos e3];exact hm k k0 hk e3
    ·rw[if_neg e3];exact h.ok k k0 hk e3 (fun e=>absurd e e2)
 ·have hcj:j<c:=by have:=C4 c0;omega
  have e1:en (swp L i j) c=en L c:=by rw[hE c,if_neg (by omega),if_neg (by omega)]
  have e2:en (swp L i j) (par j)=en L j:=by rw[hE (par j),if_neg (by omega),if_pos hp]
  rw[e1,e2];have:=h.ok c c0 hc (by rw[hcp];omega) (fun e=>by omega);rw[hcp]at this;exact this
theorem cX {L:List Ent} {n i:Nat} {x:Ent} (h:D5 L n) (hi:i<n) (hl:n<=L.length):M6 (L.set i x) n i False:=by
 have hE:=fun k=>sN (L:=L) (i:=i) (x:=x) k (by omega)
 refine⟨fun k k0 hk hne hg=> ?_,fun c c0 hc hcp hi0=> ?_⟩
 ·rw[hE k,hE (par k),if_neg hne,if_neg (fun e=>hg e)];exact h k k0 hk
 ·have hci:c≠i:=by have:=C4 c0;omega
  have hpi:par i≠i:=by have:=C4 hi0;omega
  rw[hE c,hE (par i),if_neg hci,if_neg hpi];have h1:=h c c0 hc;rw[hcp]at h1;exact Ent.ge_trans h1 (h i hi0 hi)
theorem S8 {L:List Ent} {n i:Nat} (h:D5 L (n+1)) (hi:i<n) (hl:n+1<=L.length):M6 (swp L i n) n i False:=by
 have h2:D5 L n:=fun k k0 hk=>h k k0 (by omega)
 have h3:=cX (x:=en L n) h2 hi (by omega);have hE:=fun k=>sN (L:=L) (i:=i) (x:=en L n) k (by omega)
 have hS:=fun k=>nF (L:=L) (i:=i) (j:=n) k (by omega) (by omega)
 have same:∀k,k<n->en (swp L i n) k=en (L.set i (en L n)) k:=fun k hk=>by
  rw[hS k,hE k,if_neg (by omega)]
 refine⟨fun k k0 hk hne hg=> ?_,fun c c0 hc hcp hi0=> ?_⟩
 ·rw[same k hk,same (par k) (by have:=C4 k0;omega)];exact h3.ok k k0 hk hne hg
 ·rw[same c hc,same (par i) (by have:=C4 hi0;omega)];exact h3.kid c c0 hc hcp hi0
theorem aCb {L:List Ent} {x:Ent} (h:D5 L L.length):uO (L++ [x]) (L.length+1) L.length:=by
 have hE:∀k,k<L.length->en (L++ [x]) k=en L k:=fun k hk=>by simp[en,List.getD,List.getElem?_append,hk]
 refine⟨fun i i0 hi hne=> ?_,fun c c0 hc hcp _=> ?_⟩
 ·rw[hE i (by omega),hE (par i) (by have:=C4 i0;omega)];exact h i i0 (by omega)
 ·have:=C4 c0;unfold par at *;omega
theorem D5.min {L:List Ent} {n:Nat} (h:D5 L n):∀i,i<n->¬(en L i).less (en L 0)=true:=by
 intro i
 induction i using Nat.strongRecOn with
 | _ i ih=>
  intro hi;rcases Nat.eq_zero_or_pos i with h0 | h0
  ·subst h0;exact Ent.not_self _
  ·have hp:=C4 h0;exact Ent.ge_trans (h i h0 hi) (ih (par i) hp (by omega))
theorem D5.zero (L:List Ent):D5 L 0:=fun i _ h=>by omega
theorem D5.less {L:List Ent} {n m:Nat} (h:D5 L n) (hm:m<=n):D5 L m:=fun i i0 hi=>h i i0 (by omega)
def vE (L:List Ent):Prop:=∀i j,i<L.length->j<L.length->(en L i).place=(en L j).place->i=j
def agL (L:List Ent) (p:Int):Option (Int×Int):=(L.find? (fun e=>decide (e.place=p))).map (fun e=>(e.order,e.out))
theorem Q1 {L:List Ent} (h:vE L) {p o d:Int}:agL L p=some (o,d)↔∃i,i<L.length/\en L i=⟨p,o,d⟩:=by
 unfold agL;rw[Option.map_eq_some_iff];constructor
 ·rintro⟨e,he,h1⟩;obtain⟨h2,i,hi,h3,_⟩:=List.find?_eq_some_iff_getElem.1 he;refine⟨i,hi,?_⟩;rw[<-zC hi,h3];obtain⟨a,b,c⟩:=e;simp at h2 h1;rw[h2,h1.1,h1.2]
 ·rintro⟨i,hi,h1⟩;refine⟨⟨p,o,d⟩,List.find?_eq_some_iff_getElem.2 ⟨by simp,i,hi,by rw[zC hi,h1],fun j hj=> ?_⟩,rfl⟩;rw[zC (by omega)];simp only[Bool.not_eq_true',decide_eq_false_iff_not];intro e;have:=h j i (by omega) hi (by rw[h1];exact e);omega
theorem agL_none {L:List Ent} {p:Int}:agL L p=none↔∀i,i<L.length->(en L i).place≠p:=by
 unfold agL;rw[Option.map_eq_none_iff,List.find?_eq_none];constructor
 ·intro h i hi e;have:=h (en L i) (List.mem_of_getElem? (tD hi));simp at this;exact this e
 ·intro h x hx;obtain⟨i,hi,rfl⟩:=List.getElem_of_mem hx;rw[zC hi];simpa using h i hi
def atL (L:List Ent) (p:Int):Option Int:=(L.findIdx? (fun e=>decide (e.place=p))).map (fun(i:Nat)=>(i:Int))
theorem lC {L:List Ent} (h:vE L) {p:Int} {i:Nat}:atL L p=some (i:Int)↔i<L.length/\(en L i).place=p:=by
 unfold atL;rw[Option.map_eq_some_iff];constructor
 ·rintro⟨k,hk,e⟩;obtain rfl:k=i:=by omega
  obtain⟨h1,h2,_⟩:=List.findIdx?_eq_some_iff_getElem.1 hk;rw[zC h1]at h2;exact⟨h1,by simpa using h2⟩
 ·rintro⟨h1,h2⟩;refine⟨i,List.findIdx?_eq_some_iff_getElem.2 ⟨h1,by rw[zC h1];simpa using h2,fun j hj=> ?_⟩,rfl⟩;rw[zC (by omega)];simp only[decide_eq_true_eq];intro e;have:=h j i (by omega) h1 (by rw[h2];exact e);omega
theorem jG {L:List Ent} {p:Int}:atL L p=none↔∀i,i<L.length->(en L i).place≠p:=by
 unfold atL;rw[Option.map_eq_none_iff,List.findIdx?_eq_none_iff];constructor
 ·intro h i hi e;have:=h (en L i) (List.mem_of_getElem? (tD hi));simp at this;exact this e
 ·intro h x hx;obtain⟨i,hi,rfl⟩:=List.getElem_of_mem hx;rw[zC hi];simpa using h i hi
end Go.Proofs.YtjlokfejnijokaaGreatDoor
