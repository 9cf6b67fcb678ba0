/- Walk: may specials be, by the document? (Printed by gSpR.py.) -/
import Derived.Test.YtimkkkdabmhedaaGreatDoorF6
import Derived.RegionTactic
import Derived.Deep.DeepCutAuto
import Derived.Laws.ResultCell
import Derived.Test.YtimkkkdabmhedaaGreatDoorF1
set_option linter.unusedVariables false
set_option maxHeartbeats 4000000
set_option maxRecDepth 100000
namespace Go.Proofs.YtimkkkdabmhedaaGreatDoor
open Go.RowKit
theorem rG {s:ByteArray} (hs:s.size<=maxLen) (h:wB s) (w:World):Calls Tryz.prog 86 #[.string s] w fun e w'=>e= .returned (.bool true)/\w=w':=
 (aH s hs w).mono fun e w' ⟨⟨b,h1,h2⟩,h3⟩=>⟨by rw[h1,h2.2 h],h3⟩
theorem gX {s:ByteArray} (hs:s.size<=maxLen) (h:¬wB s) (w:World):Calls Tryz.prog 86 #[.string s] w fun e w'=>e= .returned (.bool false)/\w=w':=
 (aH s hs w).mono fun e w' ⟨⟨b,h1,h2⟩,h3⟩=>⟨by cases b with | false=>exact h1 | true=>exact absurd (h2.1 rfl) h,h3⟩
structure fJ (T:List ByteArray) (S:List Sp) (k:Nat):Prop where
 ok:∀j,j<k->dT T (sp S j)
 pair:∀i j,i<j->j<k->uA (sp S i).name (sp S j).name=true/\(sp S i).id≠(sp S j).id
theorem fJ.zero (T:List ByteArray) (S:List Sp):fJ T S 0:=⟨fun j h=>by omega,fun i j _ h=>by omega⟩
def jZ (S:List Sp) (k q:Nat):Prop:=∀i,i<q->uA (sp S i).name (sp S k).name=true/\(sp S i).id≠(sp S k).id
theorem jZ.zero (S:List Sp) (k:Nat):jZ S k 0:=fun i h=>by omega
theorem jZ.next {S:List Sp} {k q:Nat} (h:jZ S k q) (h1:uA (sp S q).name (sp S k).name=true) (h2:(sp S q).id≠(sp S k).id):jZ S k (q+1):=fun i hi=>by
 by_cases e:i=q
 ·subst e;exact⟨h1,h2⟩
 ·exact h i (by omega)
theorem fJ.next {T:List ByteArray} {S:List Sp} {k q:Nat} (h:fJ T S k) (h1:dT T (sp S k)) (h2:jZ S k q) (hq:q<=k) (hq2:¬q<k):fJ T S (k+1):=by
 obtain rfl:q=k:=by omega
 refine⟨fun j hj=> ?_,fun i j hi hj=> ?_⟩
 ·by_cases e:j=q
  ·subst e;exact h1
  ·exact h.ok j (by omega)
 ·by_cases e:j=q
  ·subst e;exact h2 i hi
  ·exact h.pair i j hi (by omega)
theorem fJ.all {T:List ByteArray} {S:List Sp} {k n:Nat} (h:fJ T S k) (hl:S.length=n) (hk:k<=n) (hk2:¬k<n) (hn:n<=16):lF T S:=by
 obtain rfl:k=n:=by omega
 refine⟨by omega,fun m hm=> ?_,?_⟩
 ·obtain⟨i,hi,rfl⟩:=List.getElem_of_mem hm;rw[C8 hi];exact h.ok i (by omega)
 ·rw[List.pairwise_iff_getElem];intro i j hi hj hij;rw[C8 hi,C8 hj];exact h.pair i j hij (by omega)
theorem mM {V:Vc} {dd:Vd} (w:World) (hV:jF w dd V) (hsz:jO V.specials):
  Calls Tryz.prog 85 #[dd.val] w (rU V.tokens V.specials w):=by
 obtain⟨T,M,S⟩:=V;obtain⟨ta,tn,tc,ma,mn,mc,sa,sn,sc⟩:=dd;obtain⟨hT,hM,hS⟩:=hV;simp only at hT hM hS hsz |-;have hm:=Nat.le_trans (Sl.le hT) (Sl.max hT);have hmm:=Nat.le_trans hS.le hS.max;unfold maxLen at hm hmm;have hlen:=hW_ hT.count;have hlenS:=hW_ (hS.count Sp.enc_len (by omega));obtain⟨w0,hw0⟩:∃w0,w.alloc (.cells #[.slice ta tn tc, .slice ma mn mc, .slice sa sn sc] 26)=w0:=⟨_,rfl⟩;have hb0:Below w.heap.size w w0:=hw0▸aA w _;have hx0:w0.heap[w.heap.size]?=some (.cells #[.slice ta tn tc, .slice ma mn mc, .slice sa sn sc] 26):=by rw[<-hw0];exact heap_alloc_new w _
 have hs0:w.heap.size<w0.heap.size:=by rw[<-hw0];simp
 obtain⟨c0,c1,c2⟩:=qA hx0;have HT:=hW_ (Sl.below hT hb0);have HSS:=hW_ (hS.below hb0);have HX0:=hW_ hx0;have HB0:=hW_ hb0;have HSZ:=hW_ hsz;have HW0:=hW_ hw0;clear hT hM hS hsz hb0 hx0 hw0
 by_cases hl:(16:Int)<sn
 ·have HF:=hW_ (zL (T:=T) (S:=S) (by have:=hlenS.out;omega));go_enter Tryz.func85,Tryz.ntmps85;go_wp2_with (fail);go_ret;exact⟨⟨_,rfl,HF.out⟩,by rw[HW0.out];exact HB0.out⟩
 ·go_enter Tryz.func85,Tryz.ntmps85;go_wp2_with (fail);rw[HW0.out];go_loopw [3,4,5,13] (fun _ _ _ i wr=>∃(k:Nat),k<=sn/\i= .int .i64 k/\Hid (fJ T S k)/\Below w0.heap.size w0 wr) (fun _ _ _ i _=>sn-(intOf i).toNat)
  case atStart=>exact⟨0,Nat.zero_le _,rfl,hW_ (fJ.zero T S),Below.refl _ _⟩
  case round=>
   obtain⟨k,hk,rfl,HG,hb⟩:=hrel;have HB:=hW_ hb;clear c0 c1 c2;obtain⟨c0,c1,c2⟩:=qA ((hb.block w.heap.size hs0).trans HX0.out);have hlt0:w.heap.size<wr.heap.size:=Nat.lt_of_lt_of_le hs0 hb.size;clear hb
   by_cases hlt:k<sn
   ·have hkS:k<S.length:=by have:=hlenS.out;omega
    obtain⟨b,of,rfl,hce⟩:=(HSS.out.below HB.out).elem Sp.enc_len (by omega) (lD hkS);have HNS0:=hW_ (HSZ.out _ (List.mem_of_getElem? (lD hkS)));obtain⟨⟨nm,id⟩,hseq⟩:∃m,sp S k=m:=⟨_,rfl⟩;have HNS:Hid (nm.size<=maxLen):=hW_ (by have:=HNS0.out;rw[hseq]at this;exact this);rw[hseq]at hce;have d0:=hce 0 _ rfl;have d1:=hce 1 _ rfl;rw[Nat.add_zero]at d0;simp only at d0 d1;have HSK:=hW_ hseq;obtain⟨w1,hw1⟩:∃w1,wr.alloc (.cells #[.string nm, .int .i64 id] 58)=w1:=⟨_,rfl⟩;have hwb:Below wr.heap.size wr w1:=hw1▸aA wr _;have hwb':=aA wr (.cells #[.string nm, .int .i64 id] 58);have HB1:=hW_ (HB.out.trans (hwb.mono HB.out.size));have HT1:=hW_ (Sl.below HT.out HB1.out);have hbx:w1.heap[wr.heap.size]?=some (.cells #[.string nm, .int .i64 id] 58):=by rw[<-hw1];exact heap_alloc_new wr _
    obtain⟨b0,b1⟩:=box2' hbx;have f0:=dA hwb _ _ c0;have f2:=dA hwb _ _ c2;have HW1:=hW_ hw1;rw[hw1]at hwb';clear hce hseq hbx hw1 hwb'
    by_cases hnm:wB nm
    ·have HNM:=hW_ hnm;clear hnm
     by_cases hi0:id<0
     ·have hg:decide (id<0)=true:=by simpa using hi0
      have HF:=hW_ (xB (T:=T) hkS (fun h=>by rw[HSK.out]at h;have:=h.2.1;simp only at this;omega));go_wp2_with (fail);refine(rG HNS.out HNM.out _).mono ?_
      rintro e w' ⟨rfl,rfl⟩;rw[HW1.out];go_wp2_with (fail);go_ret;exact⟨⟨_,rfl,HF.out⟩,HB0.out.trans (HB1.out.mono HB0.out.size)⟩
     have hg0:decide (id<0)=false:=by simpa using hi0
     by_cases hi1:(tn:Int)<=id
     ·have hg:decide ((tn:Int)<=id)=true:=by simpa using hi1
      have HF:=hW_ (xB (T:=T) hkS (fun h=>by rw[HSK.out]at h;have:=h.2.2.1;have:=hlen.out;simp only at *;omega));go_wp2_with (fail);refine(rG HNS.out HNM.out _).mono ?_
      rintro e w' ⟨rfl,rfl⟩;rw[HW1.out];go_wp2_with (fail);go_ret;exact⟨⟨_,rfl,HF.out⟩,HB0.out.trans (HB1.out.mono HB0.out.size)⟩
     have hg1:decide ((tn:Int)<=id)=false:=by simpa using hi1
     obtain⟨q,rfl⟩:=Int.eq_ofNat_of_zero_le (Int.not_lt.1 hi0);have hqT:q<T.length:=by have:=hlen.out;omega
     obtain⟨bt,ot,hao,hct⟩:=SlS.cell HT1.out (nB hqT);subst hao;have gq:(q:Int)<(tn:Int):=by omega
     have gq2:decide ((tn:Int)<=(q:Int))=false:=by simp;omega
     have gq3:decide ((q:Int)<0)=false:=by simp
     have gq4:decide (tn<=q)=false:=by simp;omega
     clear hg0 hg1
     by_cases hz:(tk T q).size=0
     ·obtain⟨e1,e2,e3⟩:=qC hz;have e4:((tk T q).toList != [])=false:=by simp[e1]
      have HZ:=hW_ hz;clear hz;have HOK:Hid (dT T (sp S k)):=hW_ (by rw[HSK.out];exact⟨HNM.out,by simp only;omega,by simp only;omega,HZ.out⟩);go_wp2_with (fail);refine(rG HNS.out HNM.out _).mono ?_
      rintro e w' ⟨rfl,rfl⟩;rw[HW1.out];go_wp2_with (fail);obtain⟨wo,rfl⟩:∃wo:World,wo=wr:=⟨_,rfl⟩;clear e1 e2 e3 e4 hct;go_loopw [5] (fun i wq=>∃(p j:Nat),p<=k/\i= .int .i64 p/\Hid (jZ S k p)/\wq=w1.drewN j) (fun i _=>k-(intOf i).toNat)
      case atStart=>exact⟨0,0,Nat.zero_le _,rfl,hW_ (jZ.zero S k),rfl⟩
      case round=>
       obtain⟨p,j,hp,rfl,HP,rfl⟩:=hrel
       by_cases hlp:p<k
       ·obtain⟨⟨pn,pid⟩,hpeq⟩:∃m,sp S p=m:=⟨_,rfl⟩;obtain⟨bp,op,hao,hcp⟩:=(HSS.out.below HB1.out).elem Sp.enc_len (by omega) (lD (S:=S) (i:=p) (by omega));simp at hao;obtain⟨rfl,rfl⟩:=hao;rw[hpeq]at hcp;have p0:=hcp 0 _ rfl;have p1:=hcp 1 _ rfl;rw[Nat.add_zero]at p0;simp only at p0 p1;have HPEQ:=hW_ hpeq;have gp:(p:Int)<(sn:Int):=by omega
        clear hcp hpeq
        cases hbl:Op.bytesLess pn.toList nm.toList with
        | false=>
         have HF:=hW_ (yL (T:=T) hlp hkS (by rw[HPEQ.out,HSK.out];exact hbl));go_wp2_with (fail);go_quiet (fail);go_wp2_with (fail);go_ret;exact⟨⟨_,rfl,HF.out⟩,HB0.out.trans ((bA (bA HB1.out _) _).mono HB0.out.size)⟩
        | true=>
         by_cases hid:pid=(q:Int)
         ·have q1:(pid==(q:Int))=true:=by simpa using hid
          have HF:=hW_ (J5 (T:=T) hlp hkS (by rw[HPEQ.out,HSK.out];exact hid));clear hid;go_wp2_with (fail);go_quiet (fail);go_wp2_with (fail);go_ret;exact⟨⟨_,rfl,HF.out⟩,HB0.out.trans ((bA (bA HB1.out _) _).mono HB0.out.size)⟩
         ·have q1:(pid==(q:Int))=false:=by simpa using hid
          have HPn:=hW_ (HP.out.next (by rw[HPEQ.out,HSK.out];exact hbl) (by rw[HPEQ.out,HSK.out];exact hid));clear hid;go_wp2_with (fail);go_quiet (fail);go_wp2_with (fail);go_roundw
          case rel=>exact⟨p+1,_,by omega,by go_num,HPn,rfl⟩
          case measure=>simp[intOf];omega
       ·have HGn:=hW_ (HG.out.next HOK.out HP.out hp hlp);have HBn:=hW_ (bA HB1.out j);go_wp2_with (fail);go_roundw
        case rel=>exact⟨k+1,by omega,by go_num,HGn,HBn.out⟩
        case measure=>simp[intOf];omega
     ·obtain⟨e1,e2,e3⟩:=yC hz;have e4:((tk T q).toList != [])=true:=by simp[e1]
      have HF:=hW_ (xB (T:=T) hkS (fun h=>by rw[HSK.out]at h;exact hz h.2.2.2));clear hz;go_wp2_with (fail);refine(rG HNS.out HNM.out _).mono ?_
      rintro e w' ⟨rfl,rfl⟩;rw[HW1.out];go_wp2_with (fail);go_ret;exact⟨⟨_,rfl,HF.out⟩,HB0.out.trans (HB1.out.mono HB0.out.size)⟩
    ·have HNM:=hW_ hnm;have HF:=hW_ (xB (T:=T) hkS (fun h=>by rw[HSK.out]at h;exact hnm h.1));clear hnm;go_wp2_with (fail);refine(gX HNS.out HNM.out _).mono ?_
     rintro e w' ⟨rfl,rfl⟩;rw[HW1.out];go_wp2_with (fail);go_ret;exact⟨⟨_,rfl,HF.out⟩,HB0.out.trans (HB1.out.mono HB0.out.size)⟩
   ·have HF:=hW_ (HG.out.all hlenS.out hk hlt (by omega));go_wp2_with (fail);go_ret;exact⟨⟨_,rfl,(fun _=>HF.out),(fun _=>rfl)⟩,HB0.out.trans (HB.out.mono HB0.out.size)⟩
def VOk (V:Vc):Prop:=(∀s∈V.tokens,s.size<=maxLen)/\jO V.specials/\V.specials.length<=1048576
def aBM (V:Vc) (w:World) (e:Ending) (w':World):Prop:=(∃b,e= .returned (.bool b)/\(b=true↔May V))/\Below w.heap.size w w'
theorem aBk {V:Vc} (h:¬yD V.tokens):(false=true↔May V):=⟨(fun h=>by cases h),fun h2=>absurd h2.1 h⟩
theorem aBj {V:Vc} (h:¬D9 V.tokens V.merges):(false=true↔May V):=⟨(fun h=>by cases h),fun h2=>absurd h2.2.1 h⟩
theorem aBi {V:Vc} (h:¬cJ V.tokens V.merges):(false=true↔May V):=⟨(fun h=>by cases h),fun h2=>absurd h2.2.2.1 h⟩
theorem may4 {V:Vc} {b:Bool} (h1:yD V.tokens) (h2:D9 V.tokens V.merges) (h3:cJ V.tokens V.merges) (h:b=true↔lF V.tokens V.specials):(b=true↔May V):=by
 rw[h];exact⟨fun h4=>⟨h1,h2,h3,h4⟩,fun h4=>h4.2.2.2⟩
theorem jJ {b:Bool} {P:Prop} (h:b=true↔P) (hb:b=false):¬P:=fun hp=>by rw[h.2 hp]at hb;cases hb
theorem aCt {V:Vc} {dd:Vd} (w:World) (hV:jF w dd V) (hok:VOk V):
  Calls Tryz.prog 111 #[dd.val] w (aBM V w):=by
 have hspn:=hV.spc.count Sp.enc_len (by omega);obtain⟨ta,tn,tc,ma,mn,mc,sa,sn,sc⟩:=dd;simp only at hspn |-;obtain⟨w0,hw0⟩:∃w0,w.alloc (.cells #[.slice ta tn tc, .slice ma mn mc, .slice sa sn sc] 26)=w0:=⟨_,rfl⟩;have hb0:Below w.heap.size w w0:=hw0▸aA w _;have hx0:w0.heap[w.heap.size]?=some (.cells #[.slice ta tn tc, .slice ma mn mc, .slice sa sn sc] 26):=by rw[<-hw0];exact heap_alloc_new w _
 have hs0:w.heap.size<w0.heap.size:=by rw[<-hw0];simp
 obtain⟨c0,c1,c2⟩:=qA hx0;have HV:=hW_ (hV.below hb0);have HX0:=hW_ hx0;have HB0:=hW_ hb0;have HOK:=hW_ hok;have HW0:=hW_ hw0;have HSN:=hW_ hspn;clear hV hok hb0 hx0 hw0 hspn;go_enter Tryz.func111,Tryz.ntmps111;go_wp2_with (fail);rw[HW0.out];refine(fQ w0 HV.out.tok HOK.out.1).mono ?_
 rintro e w1 ⟨⟨b1,rfl,hi1⟩,hb1⟩;have HB1:=hW_ hb1;have HI1:=hW_ hi1;clear c0 c1 c2;obtain⟨c0,c1,c2⟩:=qA ((hb1.block w.heap.size hs0).trans HX0.out);clear hb1 hi1
 cases b1 with
 | false=>
  have HF:=hW_ (aBk (jJ HI1.out rfl));go_wp2_with (fail);go_ret;exact⟨⟨_,rfl,HF.out⟩,HB0.out.trans (HB1.out.mono HB0.out.size)⟩
 | true=>
  have HT:=hW_ (HI1.out.1 rfl);go_wp2_with (fail);refine(gQ w1 (HV.out.below HB1.out).tok (HV.out.below HB1.out).mrg HT.out).mono ?_
  rintro e w2 ⟨⟨b2,rfl,hi2⟩,hb2⟩;have HB2:=hW_ (HB1.out.trans (hb2.mono HB1.out.size));have HI2:=hW_ hi2;clear c0 c1 c2;obtain⟨c0,c1,c2⟩:=qA ((HB2.out.block w.heap.size hs0).trans HX0.out);clear hb2 hi2
  cases b2 with
  | false=>
   have HF:=hW_ (aBj (jJ HI2.out rfl));go_wp2_with (fail);go_ret;exact⟨⟨_,rfl,HF.out⟩,HB0.out.trans (HB2.out.mono HB0.out.size)⟩
  | true=>
   have HM:=hW_ (HI2.out.1 rfl);go_wp2_with (fail);refine(zS (V:=V) (dd:=⟨ta,tn,tc,ma,mn,mc,sa,sn,sc⟩) w2 (HV.out.below HB2.out) HT.out HM.out).mono ?_
   rintro e w3 ⟨⟨b3,rfl,hi3⟩,hb3⟩;have HB3:=hW_ (HB2.out.trans (hb3.mono HB2.out.size));have HI3:=hW_ hi3;clear c0 c1 c2;obtain⟨c0,c1,c2⟩:=qA ((HB3.out.block w.heap.size hs0).trans HX0.out);clear hb3 hi3
   cases b3 with
   | false=>
    have HF:=hW_ (aBi (jJ HI3.out rfl));go_wp2_with (fail);go_ret;exact⟨⟨_,rfl,HF.out⟩,HB0.out.trans (HB3.out.mono HB0.out.size)⟩
   | true=>
    have HD:=hW_ (HI3.out.1 rfl);go_wp2_with (fail);refine(uN w3 (HV.out.below HB3.out).tok (HV.out.below HB3.out).spc HOK.out.2.1 (by have h1:=HOK.out.2.2;have h2:V.specials.length=sn:=HSN.out;show sn<=1048576;omega)).mono ?_
    rintro e w4 ⟨⟨b4,rfl,hi4⟩,hb4⟩;have HB4:=hW_ (HB3.out.trans (hb4.mono HB3.out.size));have HF:=hW_ (may4 HT.out HM.out HD.out hi4);clear hb4 hi4;go_wp2_with (fail);go_ret;exact⟨⟨_,rfl,HF.out⟩,HB0.out.trans (HB4.out.mono HB0.out.size)⟩
theorem Q9 {V:Vc} {dd:Vd} (w:World) (hV:jF w dd V) (hok:VOk V):
  Calls Tryz.prog 55 #[dd.val] w (aBM V w):=by
 have hspn:=hV.spc.count Sp.enc_len (by omega);obtain⟨ta,tn,tc,ma,mn,mc,sa,sn,sc⟩:=dd;simp only at hspn |-;obtain⟨w0,hw0⟩:∃w0,w.alloc (.cells #[.slice ta tn tc, .slice ma mn mc, .slice sa sn sc] 26)=w0:=⟨_,rfl⟩;have hb0:Below w.heap.size w w0:=hw0▸aA w _;have hx0:w0.heap[w.heap.size]?=some (.cells #[.slice ta tn tc, .slice ma mn mc, .slice sa sn sc] 26):=by rw[<-hw0];exact heap_alloc_new w _
 have hs0:w.heap.size<w0.heap.size:=by rw[<-hw0];simp
 obtain⟨c0,c1,c2⟩:=qA hx0;have HV:=hW_ (hV.below hb0);have HX0:=hW_ hx0;have HB0:=hW_ hb0;have HOK:=hW_ hok;have HW0:=hW_ hw0;have HSN:=hW_ hspn;clear hV hok hb0 hx0 hw0 hspn;go_enter Tryz.func55,Tryz.ntmps55;go_wp2_with (fail);rw[HW0.out];refine(qI w0 HV.out.tok HOK.out.1).mono ?_
 rintro e w1 ⟨⟨b1,rfl,hi1⟩,hb1⟩;have HB1:=hW_ hb1;have HI1:=hW_ hi1;clear c0 c1 c2;obtain⟨c0,c1,c2⟩:=qA ((hb1.block w.heap.size hs0).trans HX0.out);clear hb1 hi1
 cases b1 with
 | false=>
  have HF:=hW_ (aBk (jJ HI1.out rfl));go_wp2_with (fail);go_ret;exact⟨⟨_,rfl,HF.out⟩,HB0.out.trans (HB1.out.mono HB0.out.size)⟩
 | true=>
  have HT:=hW_ (HI1.out.1 rfl);go_wp2_with (fail);refine(wO (V:=V) (dd:=⟨ta,tn,tc,ma,mn,mc,sa,sn,sc⟩) w1 (HV.out.below HB1.out) HT.out).mono ?_
  rintro e w2 ⟨⟨b2,rfl,hi2⟩,hb2⟩;have HB2:=hW_ (HB1.out.trans (hb2.mono HB1.out.size));have HI2:=hW_ hi2;clear c0 c1 c2;obtain⟨c0,c1,c2⟩:=qA ((HB2.out.block w.heap.size hs0).trans HX0.out);clear hb2 hi2
  cases b2 with
  | false=>
   have HF:=hW_ (aBj (jJ HI2.out rfl));go_wp2_with (fail);go_ret;exact⟨⟨_,rfl,HF.out⟩,HB0.out.trans (HB2.out.mono HB0.out.size)⟩
  | true=>
   have HM:=hW_ (HI2.out.1 rfl);go_wp2_with (fail);refine(aR (V:=V) (dd:=⟨ta,tn,tc,ma,mn,mc,sa,sn,sc⟩) w2 (HV.out.below HB2.out) HT.out).mono ?_
   rintro e w3 ⟨⟨b3,rfl,hi3⟩,hb3⟩;have HB3:=hW_ (HB2.out.trans (hb3.mono HB2.out.size));have HI3:=hW_ hi3;clear c0 c1 c2;obtain⟨c0,c1,c2⟩:=qA ((HB3.out.block w.heap.size hs0).trans HX0.out);clear hb3 hi3
   cases b3 with
   | false=>
    have HF:=hW_ (aBi (jJ HI3.out rfl));go_wp2_with (fail);go_ret;exact⟨⟨_,rfl,HF.out⟩,HB0.out.trans (HB3.out.mono HB0.out.size)⟩
   | true=>
    have HD:=hW_ (HI3.out.1 rfl);go_wp2_with (fail);refine(mM (V:=V) (dd:=⟨ta,tn,tc,ma,mn,mc,sa,sn,sc⟩) w3 (HV.out.below HB3.out) HOK.out.2.1).mono ?_
    rintro e w4 ⟨⟨b4,rfl,hi4⟩,hb4⟩;have HB4:=hW_ (HB3.out.trans (hb4.mono HB3.out.size));have HF:=hW_ (may4 HT.out HM.out HD.out hi4);clear hb4 hi4;go_wp2_with (fail);go_ret;exact⟨⟨_,rfl,HF.out⟩,HB0.out.trans (HB4.out.mono HB0.out.size)⟩
def Rw.enc (r:Rw):List Value:=[.string r.token, .int .i64 r.rank]
theorem Rw.enc_len (r:Rw):r.enc.length=2:=rfl
def rw' (R:List Rw) (i:Nat):Rw:=R.getD i ⟨ByteArray.empty,0⟩
theorem yT {R:List Rw} {i:Nat} (h:i<R.length):R[i]?=some (rw' R i):=by simp[rw',List.getD,h]
theorem uO {R:List Rw} {i:Nat} (h:i<R.length):R[i]=rw' R i:=by simp[rw',List.getD,h]
def rW (S:List Sp) (k:Nat):Int:=((S.take k).map (·.id+1)).foldl max 0
def pS (R:List Rw) (S:List Sp) (k:Nat):Int:=((R.take k).map (·.rank+1)).foldl max (rW S S.length)
theorem aBU {S:List Sp} {k:Nat} (h:k<S.length):rW S (k+1)=max (rW S k) ((sp S k).id+1):=by
 unfold rW;rw[List.take_add_one,lD h];simp[List.foldl_append]
theorem aBV (R:List Rw) (S:List Sp):pS R S 0=rW S S.length:=rfl
theorem lT {R:List Rw} {S:List Sp} {k:Nat} (h:k<R.length):pS R S (k+1)=max (pS R S k) ((rw' R k).rank+1):=by
 unfold pS;rw[List.take_add_one,yT h];simp[List.foldl_append]
theorem sW (R:List Rw) (S:List Sp):pS R S R.length=top R S:=by
 unfold pS rW top;rw[List.take_length,List.take_length]
def OkS (S:List Sp) (k:Nat):Prop:=∀j,j<k->0<=(sp S j).id/\(sp S j).id<4096
def OkR (R:List Rw) (k:Nat):Prop:=∀j,j<k->0<=(rw' R j).rank/\(rw' R j).rank<4096
def ApR (R:List Rw) (k:Nat):Prop:=∀i j,i<j->j<k->(rw' R i).rank≠(rw' R j).rank
theorem topR_lt {R:List Rw} {S:List Sp} {k j:Nat} (hk:k<=R.length) (hj:j<k):(rw' R j).rank<pS R S k:=by
 induction k with
 | zero=>omega
 | succ k ih=>
  rw[lT (by omega)]
  by_cases e:j=k
  ·subst e;omega
  ·have:=ih (by omega) (by omega);omega
theorem kG.of {R:List Rw} {S:List Sp} (h1:OkS S S.length) (h2:OkR R R.length) (h3:ApR R R.length):kG R S:=by
 refine⟨fun s hs=> ?_,fun r hr=> ?_,?_⟩
 ·obtain⟨j,hj,rfl⟩:=List.getElem_of_mem hs;rw[C8 hj];exact h1 j hj
 ·obtain⟨j,hj,rfl⟩:=List.getElem_of_mem hr;rw[uO hj];exact h2 j hj
 ·rw[List.pairwise_iff_getElem];intro i j hi hj hij;rw[uO hi,uO hj];exact h3 i j hij hj
theorem aBg {R:List Rw} {S:List Sp} {k:Nat} (hk:k<S.length) (h:¬(0<=(sp S k).id/\(sp S k).id<4096)):¬kG R S:=fun ho=>h (by
 have:=ho.1 _ (List.mem_of_getElem? (lD hk));exact this)
theorem aBh {R:List Rw} {S:List Sp} {k:Nat} (hk:k<R.length) (h:¬(0<=(rw' R k).rank/\(rw' R k).rank<4096)):¬kG R S:=fun ho=>h (by
 have:=ho.2.1 _ (List.mem_of_getElem? (yT hk));exact this)
theorem notOk_a {R:List Rw} {S:List Sp} {i k:Nat} (hi:i<k) (hk:k<R.length) (h:(rw' R i).rank=(rw' R k).rank):¬kG R S:=fun ho=>by
 have:=(List.pairwise_iff_getElem.1 ho.2.2) i k (by omega) hk hi;rw[uO hk,uO (by omega)]at this;exact this h
structure xI (R:List Rw) (k n:Nat) (L:List ByteArray) (A:List Int):Prop where
 len:L.length=n
 alen:A.length=n
 tok:∀i,i<n->tk L i=iJ (R.take k) i
 hit:∀i,i<n->(ix A i=0/\∀j,j<k->(rw' R j).rank≠(i:Int))\/(ix A i=1/\∃j,j<k/\(rw' R j).rank=(i:Int))
theorem nZ {R:List Rw} {i:Nat} (h:∀r∈R,r.rank≠(i:Int)):iJ R i=ByteArray.empty:=by
 unfold iJ;have:R.find? (fun r=>decide (r.rank=(i:Int)))=none:=by
  rw[List.find?_eq_none];intro r hr;simpa using h r hr
 rw[this]
theorem zQ {R:List Rw} {i:Nat} (h:∀r∈R,r.rank≠(i:Int)) (r:Rw):iJ (R++ [r]) i=if r.rank=(i:Int)then r.token else ByteArray.empty:=by
 unfold iJ;have:R.find? (fun r=>decide (r.rank=(i:Int)))=none:=by
  rw[List.find?_eq_none];intro r hr;simpa using h r hr
 rw[List.find?_append,this]
 by_cases e:r.rank=(i:Int)
 ·simp[List.find?,e]
 ·simp[List.find?,e]
theorem oI {R:List Rw} {i:Nat} {r:Rw} (h:r.rank≠(i:Int)):iJ (R++ [r]) i=iJ R i:=by
 unfold iJ;rw[List.find?_append]
 cases R.find? (fun r=>decide (r.rank=(i:Int)))with
 | some x=>simp
 | none=>simp[List.find?,h]
theorem X3 {R:List Rw} {k:Nat} {r:Rw} (h:r∈R.take k):∃j,j<k/\j<R.length/\rw' R j=r:=by
 obtain⟨j,hj,rfl⟩:=List.getElem_of_mem h;have h1:j<k:=by rw[List.length_take]at hj;omega
 have h2:j<R.length:=by rw[List.length_take]at hj;omega
 refine⟨j,h1,h2,?_⟩;rw[List.getElem_take,uO h2]
theorem xI.zero (R:List Rw) (n:Nat):xI R 0 n (List.replicate n ByteArray.empty) (List.replicate n 0):=by
 refine⟨by simp,by simp,fun i hi=> ?_,fun i hi=> .inl ⟨by simp[ix,List.getD,hi],fun j hj=>by omega⟩⟩;have:iJ (R.take 0) i=ByteArray.empty:=nZ (by simp);rw[this];simp[tk,List.getD,hi]
theorem xI.next {R:List Rw} {k n:Nat} {L:List ByteArray} {A:List Int} (h:xI R k n L A) (hk:k<R.length) {r:Nat} (hr:(rw' R k).rank=(r:Int)) (hrn:r<n) (h0:ix A r=0):
  xI R (k+1) n (L.set r (rw' R k).token) (A.set r 1):=by
 have hno:∀j,j<k->(rw' R j).rank≠(r:Int):=by
  rcases h.hit r hrn with⟨_,h2⟩ | ⟨h1,_⟩
  ·exact h2
  ·omega
 have htk:R.take (k+1)=R.take k++ [rw' R k]:=by rw[List.take_add_one,yT hk];rfl
 refine⟨by rw[List.length_set];exact h.len,by rw[List.length_set];exact h.alen,fun i hi=> ?_,fun i hi=> ?_⟩
 ·rw[htk]
  by_cases e:i=r
  ·subst e;rw[zQ (fun x hx=>by obtain⟨j,hj,_,rfl⟩:=X3 hx;exact hno j hj),if_pos hr];simp[tk,List.getD,h.len,hi]
  ·rw[oI (by rw[hr];omega),<-h.tok i hi];simp[tk,List.getD,Ne.symm e]
 ·by_cases e:i=r
  ·subst e;right;exact⟨by simp[ix,List.getD,h.alen,hi],k,by omega,hr⟩
  ·have e1:ix (A.set r 1) i=ix A i:=by simp[ix,List.getD,Ne.symm e]
   rw[e1];rcases h.hit i hi with⟨h1,h2⟩ | ⟨h1,j,hj,h2⟩
   ·left;refine⟨h1,fun j hj=> ?_⟩
    by_cases ej:j=k
    ·subst ej;rw[hr];omega
    ·exact h2 j (by omega)
   ·exact .inr ⟨h1,j,by omega,h2⟩
theorem xI.apart {R:List Rw} {k n:Nat} {L:List ByteArray} {A:List Int} (h:xI R k n L A) {r:Nat} (hr:(rw' R k).rank=(r:Int)) (hrn:r<n) (h0:ix A r=0) (ha:ApR R k):ApR R (k+1):=fun i j h1 h2=>by
 by_cases e:j=k
 ·subst e;rcases h.hit r hrn with⟨_,h3⟩ | ⟨h3,_⟩
  ·rw[hr];exact h3 i h1
  ·omega
 ·exact ha i j h1 (by omega)
theorem xI.all {R:List Rw} {S:List Sp} {k n rn:Nat} {L:List ByteArray} {A:List Int} (h:xI R k n L A) (hl:R.length=rn) (hk:k<=rn) (hk2:¬k<rn) (hn:(n:Int)=top R S):L=rF R S:=by
 obtain rfl:k=rn:=by omega
 have hn2:(top R S).toNat=n:=by omega
 unfold rF;rw[hn2];apply List.ext_getElem?;intro i
 by_cases hi:i<n
 ·rw[nB (by rw[h.len];exact hi),h.tok i hi,<-hl,List.take_length];simp[hi]
 ·rw[List.getElem?_eq_none (by rw[h.len];omega),List.getElem?_eq_none (by simp;omega)]
theorem mA {w w':World} {base:Nat} {e:TypeId} {s n:Nat} {v:Value} {xs:List Value} (h:w.ownsRow base e s v n xs) (hb:∀g,v.ownBlock=some g->w'.heap[g]?=w.heap[g]?):w'.ownsRow base e s v n xs:=by
 obtain⟨h1,h2⟩:=h;refine⟨h1,?_⟩;rcases h2 with h2 | ⟨g,cap,cur,hv,hg,hh,r⟩
 ·exact .inl h2
 ·exact .inr ⟨g,cap,cur,hv,hg,by rw[hb g (by rw[hv];rfl)];exact hh,r⟩
def xY (T:List ByteArray) (i k:Nat):Option Mg:=
 if 0<=ofT T ((tk T i).extract 0 (k+1))/\0<=ofT T ((tk T i).extract (k+1) (tk T i).size)then some ⟨ofT T ((tk T i).extract 0 (k+1)),ofT T ((tk T i).extract (k+1) (tk T i).size),i,i⟩else none
def iG (T:List ByteArray) (i m:Nat):List Mg:=(List.range m).filterMap (xY T i)
def tD (T:List ByteArray) (k:Nat):List Mg:=(List.range k).flatMap (V5 T)
theorem jU (T:List ByteArray) (i:Nat):V5 T i=iG T i ((tk T i).size-1):=rfl
theorem uY (T:List ByteArray) (i:Nat):iG T i 0= []:=rfl
theorem vY {T:List ByteArray} {i k:Nat} {m:Mg} (h:xY T i k=some m):iG T i (k+1)=iG T i k++ [m]:=by
 unfold iG;rw[List.range_succ,List.filterMap_append];simp[h]
theorem wY {T:List ByteArray} {i k:Nat} (h:xY T i k=none):iG T i (k+1)=iG T i k:=by
 unfold iG;rw[List.range_succ,List.filterMap_append];simp[h]
theorem zR (T:List ByteArray) (i m:Nat):(iG T i m).length<=m:=by
 unfold iG;exact Nat.le_trans (List.length_filterMap_le _ _) (by simp)
theorem L1 (T:List ByteArray):tD T 0= []:=rfl
theorem L4 (T:List ByteArray) (k:Nat):tD T (k+1)=tD T k++V5 T k:=by
 unfold tD;rw[List.range_succ,List.flatMap_append];simp
theorem sV (T:List ByteArray):tD T T.length=gH T:=rfl
theorem rV {T:List ByteArray} (h:∀s∈T,s.size<=64) {k:Nat} (hk:k<=T.length):(tD T k).length<=k*64:=by
 induction k with
 | zero=>simp[L1]
 | succ k ih=>
  rw[L4,List.length_append,jU];have h1:=zR T k ((tk T k).size-1);have h2:=h (tk T k) (mB (by omega));have h3:=ih (by omega);omega
theorem yQ {R:List Rw} {S:List Sp} {b:Nat} (h:∀r∈R,r.token.size<=b):∀s∈rF R S,s.size<=b:=by
 intro s hs;unfold rF at hs;obtain⟨i,_,rfl⟩:=List.mem_map.1 hs;unfold iJ
 cases hf:R.find? (fun r=>decide (r.rank=(i:Int)))with
 | none=>exact Nat.zero_le _
 | some r=>exact h r (List.mem_of_find?_eq_some hf)
def kT (R:List Rw) (S:List Sp):Vc:=⟨rF R S,dG (gH (rF R S)),cG S⟩
theorem infoStr9:(Tryz.prog.info? 9).map (fun i=>(i.zero,i.size,i.bytes))=some (some (.string ByteArray.empty),1,16):=by kernel_rfl
theorem cF:(Tryz.prog.info? 3).map (fun i=>(i.zero,i.size,i.bytes))=some (some (.int .i64 0),1,8):=by kernel_rfl
abbrev D6 (w:World) (base:Nat) (v:Value) (T:List ByteArray):Prop:=w.ownsRow base 9 1 v T.length (T.map .string)
theorem aCh {P:Program} (t e:TypeId) (i:TypeInfo) (z:Value) (ht:P.underlying t=some (.slice e)) (hi:P.info? e=some i) (hz:i.zero=some z) (hs:i.size=1)
  (n:Nat) (hbytes:i.bytes*n<=281474976710656) (h63:n<=9223372036854775807) (w:World):
  (Instr.makeSlice t (.int .i64 (n:Int)) (.int .i64 (n:Int))).run P w= .ok (.slice (some ⟨w.heap.size,0,none⟩) n n) (w.alloc (.cells (madeCells z.cells n) e)):=by
 have hb:(i.bytes:Int)*(n:Int)<=281474976710656:=by
  have h:((i.bytes*n:Nat):Int)<=281474976710656:=by omega
  rwa [Int.natCast_mul]at h
 have hr:=run_make (P:=P) w t e i z ht hi hz .i64 .i64 n n (by omega) (by omega) hb (by omega);simp only[Int.toNat_natCast,hs,Nat.mul_one]at hr;exact hr
theorem aCm (w:World) (n:Nat) (hm:n<=maxLen):D6 (w.alloc (.cells (madeCells (Value.string ByteArray.empty).cells n) 9)) w.heap.size (.slice (some ⟨w.heap.size,0,none⟩) n n) (List.replicate n ByteArray.empty):=by
 have e:(madeCells (Value.string ByteArray.empty).cells n)=(List.replicate n (Value.string ByteArray.empty)).toArray:=by
  apply Array.ext';exact toList_madeCells_one _ n
 rw[e];refine⟨by simp, .inr ⟨w.heap.size,n,_,by simp,Nat.le_refl _,heap_alloc_new w _,by simp,hm,by simp,?_⟩⟩;simp
theorem D6.mono {w:World} {base base':Nat} {v:Value} {L:List ByteArray} (h:D6 w base v L) (hb:base'<=base):D6 w base' v L:=by
 obtain⟨h1,h2⟩:=h;refine⟨h1,?_⟩;rcases h2 with h2 | ⟨g,cap,cur,hv,hg,r⟩
 ·exact .inl h2
 ·exact .inr ⟨g,cap,cur,hv,by omega,r⟩
theorem D6.below {w w':World} {base:Nat} {v:Value} {L:List ByteArray} (h:D6 w base v L) (hb:Below w.heap.size w w'):D6 w' base v L:=
 mA h fun g hg=>hb.block g (World.ownsRow.lt h g hg).2
theorem Mg.enc_one (x:Mg):∀v∈x.enc,v.oneCell'=true:=by
 intro v hv;simp[Mg.enc]at hv;rcases hv with rfl | rfl | rfl | rfl<;>rfl
theorem Sp.enc_one (x:Sp):∀v∈x.enc,v.oneCell'=true:=by
 intro v hv;simp[Sp.enc]at hv;rcases hv with rfl | rfl<;>rfl
theorem infoSp:(Tryz.prog.info? 58).map (fun i=>(i.zero.map (·.cells.size),i.size,i.bytes))=some (some 2,2,24):=by kernel_rfl
theorem infoMg:(Tryz.prog.info? 165).map (fun i=>(i.zero.map (·.cells.size),i.size,i.bytes))=some (some 4,4,32):=by kernel_rfl
theorem eC {t:TypeId} {k m b:Nat} (h:(Tryz.prog.info? t).map (fun i=>(i.zero.map (·.cells.size),i.size,i.bytes))=some (some k,m,b)):∃i z,Tryz.prog.info? t=some i/\i.zero=some z/\i.size=m/\i.bytes=b/\z.cells.size=k:=by
 cases hi:Tryz.prog.info? t with
 | none=>rw[hi]at h;cases h
 | some i=>
  rw[hi]at h;simp only[Option.map_some,Option.some.injEq,Prod.mk.injEq]at h;obtain⟨h1,h2,h3⟩:=h
  cases hz:i.zero with
  | none=>rw[hz]at h1;cases h1
  | some z=>rw[hz]at h1;exact⟨i,z,rfl,hz,h2,h3,by simpa using h1⟩
theorem qM {α:Type} {enc:α->List Value} {s:Nat} {t:TypeId} {w:World} {base n cap:Nat} {ao:Option Addr} {L:List α} (h:eA enc s t w base (.slice ao n cap) L):SlF s w ao n cap (flat enc L):=by
 obtain⟨a,c,e,hs⟩:=h.sl;simp only[Value.slice.injEq]at e;obtain⟨rfl,h1,rfl⟩:=e;rw[h1];exact hs
theorem mL {w:World} {g:Nat} {x y z:Value} {t:TypeId} (h:w.heap[g]?=some (.cells #[x,y,z] t)):(∀o,w.frozen? ⟨g,o,none⟩=false):=by
 intro o;simp[World.frozen?,h]
theorem K8 (w:World) (g:Nat) (x y z:Value) {q:Nat} (h:q≠g):(((w.setCell ⟨g,0,none⟩ x).setCell ⟨g,1,none⟩ y).setCell ⟨g,2,none⟩ z).heap[q]?=w.heap[q]? :=by
 simp[World.setCell,Array.getElem?_modify,Ne.symm h]
def qH:Vd:=⟨none,0,0,none,0,0,none,0,0⟩
theorem dH {w:World} {base:Nat} {v:Value} {T:List ByteArray} (h:D6 w base v T):∃ao cap,v= .slice ao T.length cap/\SlS w ao T.length cap T:=Sl.of_own h
def eJ (R:List Rw) (S:List Sp):Prop:=kG R S/\May (kT R S)
theorem xS {α:Type} {R:α->α->Prop} {l:List α} (h:l.Pairwise R) {a b:α} (ha:a∈l) (hb:b∈l) (h1:¬R a b) (h2:¬R b a):a=b:=by
 rw[List.pairwise_iff_getElem]at h;obtain⟨i,hi,rfl⟩:=List.getElem_of_mem ha;obtain⟨j,hj,rfl⟩:=List.getElem_of_mem hb;rcases Nat.lt_trichotomy i j with h3 | h3 | h3
 ·exact absurd (h i j hi hj h3) h1
 ·subst h3;rfl
 ·exact absurd (h j i hj hi h3) h2
theorem aCO {α:Type} {l:List α} {p:α->Bool} {x:α} (hx:x∈l) (hp:p x=true) (hu:∀y,y∈l->p y=true->y=x):l.find? p=some x:=by
 cases h:l.find? p with
 | none=>rw[List.find?_eq_none]at h;exact absurd hp (h x hx)
 | some y=>rw[hu y (List.mem_of_find?_eq_some h) (List.find?_some h)]
def tS (S:List Sp) (id:Int):Option Sp:=S.find? (fun s=>decide (s.id=id))
def mD (S:List Sp) (n:ByteArray):Option Sp:=S.find? (fun s=>decide (s.name=n))
def nmOf:Option Sp->ByteArray
 | some s=>s.name
 | none=>ByteArray.empty
def aCJ:Option Sp->Int
 | some s=>s.id
 | none=> -1
theorem spBy_mem {T:List ByteArray} {S:List Sp} (h:lF T S) {s:Sp} (hs:s∈S):tS S s.id=some s:=
 aCO hs (by simp) fun y hy e=>xS h.2.2 hy hs (fun g=>g.2 (by simpa using e)) (fun g=>g.2 (by simpa using(Eq.symm (of_decide_eq_true e))))
theorem qR {α:Type} {lt:α->α->Bool} (hn:∀a b c,lt a b=false->lt b c=false->lt a c=false) {l:List α} (hs:l.Pairwise (fun a b=>lt b a=false)) {s:α} {at_:Nat}
  (h1:∀j x,j<at_->l[j]?=some x->lt s x=false) (h2:∀x,l[at_]?=some x->lt x s=false):(l.take at_++s::l.drop at_).Pairwise (fun a b=>lt b a=false):=by
 have h3:∀x∈l.drop at_,lt x s=false:=by
  intro x hx;obtain⟨j,hj,rfl⟩:=List.getElem_of_mem hx;rw[List.length_drop]at hj;rw[List.getElem_drop];have hk:at_<l.length:=by omega
  have hy:=h2 _ (List.getElem?_eq_getElem hk);rcases Nat.eq_zero_or_pos j with e | e
  ·subst e;exact hy
  ·exact hn _ _ _ ((List.pairwise_iff_getElem.1 hs) at_ (at_+j) hk (by omega) (by omega)) hy
 rw[List.pairwise_append];refine⟨hs.sublist (List.take_sublist _ _),?_,?_⟩
 ·rw[List.pairwise_cons];exact⟨h3,hs.sublist (List.drop_sublist _ _)⟩
 ·intro a ha b hb;obtain⟨j,hj,rfl⟩:=List.getElem_of_mem ha;rw[List.length_take]at hj;rw[List.getElem_take];rcases List.mem_cons.1 hb with rfl | hb
  ·exact h1 j _ (by omega) (List.getElem?_eq_getElem (by omega))
  ·obtain⟨i,hi,rfl⟩:=List.getElem_of_mem hb;rw[List.length_drop]at hi;rw[List.getElem_drop];exact(List.pairwise_iff_getElem.1 hs) j (at_+i) (by omega) (by omega) (by omega)
theorem yN {α:Type} (l:List α) (s:α) (k:Nat):(l.take k++s::l.drop k).Perm (l++ [s]):=by
 have h1:(l.take k++s::l.drop k).Perm (s::(l.take k++l.drop k)):=List.perm_middle;rw[List.take_append_drop]at h1;exact h1.trans (List.perm_append_comm (l₁:=[s]) (l₂:=l))
open Go
structure Rg where
 lo:Int
 hi:Int
 cls:Int
instance :Inhabited Rg:=⟨⟨0,0,0⟩⟩
def Rg.enc (r:Rg):List Value:=[.int .i64 r.lo, .int .i64 r.hi, .int .i64 r.cls]
theorem Rg.enc_len (r:Rg):r.enc.length=3:=rfl
theorem Rg.enc_one (x:Rg):∀v∈x.enc,v.oneCell'=true:=by
 intro v hv;simp[Rg.enc]at hv;rcases hv with rfl | rfl | rfl<;>rfl
def rg (t:List Rg) (i:Nat):Rg:=t.getD i ⟨0,0,0⟩
theorem bH {t:List Rg} {i:Nat} (h:i<t.length):t[i]?=some (rg t i):=by simp[rg,List.getD,h]
theorem cI {t:List Rg} {i:Nat} (h:i<t.length):t[i]=rg t i:=by simp[rg,List.getD,h]
def rB (N:List ByteArray):Prop:=N.length<=16/\(∀s∈N,wB s)/\N.Pairwise (fun a b=>uA a b=true)
structure kF (N:List ByteArray) (k:Nat):Prop where
 ok:∀j,j<k->wB (tk N j)
 rise:∀j,j+1<k->uA (tk N j) (tk N (j+1))=true
theorem kF.zero (N:List ByteArray):kF N 0:=⟨fun j h=>by omega,fun j h=>by omega⟩
theorem kF.next {N:List ByteArray} {k:Nat} (h:kF N k) (h1:wB (tk N k)) (h2:0<k->uA (tk N (k-1)) (tk N k)=true):kF N (k+1):=by
 refine⟨fun j hj=> ?_,fun j hj=> ?_⟩
 ·by_cases e:j=k
  ·subst e;exact h1
  ·exact h.ok j (by omega)
 ·by_cases e:j+1=k
  ·subst e;exact h2 (by omega)
  ·exact h.rise j (by omega)
theorem kF.all {N:List ByteArray} {k:Nat} (h:kF N k) (hk:N.length=k) (h16:N.length<=16):rB N:=by
 refine⟨h16,fun s hs=> ?_,?_⟩
 ·obtain⟨j,hj,rfl⟩:=gI hs;exact h.ok j (by omega)
 ·refine uF (R:=fun a b=>uA a b=true) (fun a b c h1 h2=>tJ h1 h2) (fun i a b ha hb=> ?_);have hi:=(List.getElem?_eq_some_iff.1 hb).1;rw[nB (by omega)]at ha;rw[nB hi]at hb;simp only[Option.some.injEq]at ha hb;subst ha hb;exact h.rise i (by omega)
theorem wL {N:List ByteArray} {k:Nat} (hk:k<N.length) (h:¬wB (tk N k)):(false=true↔rB N):=⟨(fun h=>by cases h),fun h2=>absurd (h2.2.1 _ (mB hk)) h⟩
theorem vL {N:List ByteArray} {k:Nat} (h0:0<k) (hk:k<N.length) (h:uA (tk N (k-1)) (tk N k)=false):(false=true↔rB N):=⟨(fun h=>by cases h),fun h2=>by
 have h3:=(List.pairwise_iff_getElem.1 h2.2.2) (k-1) k (by omega) hk (by omega);have e1:N[k-1]'(by omega)=tk N (k-1):=by simp[tk,List.getD,show k-1<N.length by omega]
 have e2:N[k]=tk N k:=by simp[tk,List.getD,hk]
 rw[e1,e2,h]at h3
 cases h3⟩
def sJ (r:Rg):Prop:=0<=r.lo/\r.lo<=r.hi/\r.hi<=1114111/\1<=r.cls/\r.cls<=4
def kA (t:List Rg):Prop:=t.length<=200/\(∀r∈t,sJ r)/\t.Pairwise (fun a b=>a.hi<b.lo)
structure mJ (t:List Rg) (k:Nat):Prop where
 ok:∀j,j<k->sJ (rg t j)
 rise:∀j,j+1<k->(rg t j).hi<(rg t (j+1)).lo
theorem mJ.zero (t:List Rg):mJ t 0:=⟨fun j h=>by omega,fun j h=>by omega⟩
theorem mJ.next {t:List Rg} {k:Nat} (h:mJ t k) (h1:sJ (rg t k)) (h2:0<k->(rg t (k-1)).hi<(rg t k).lo):mJ t (k+1):=by
 refine⟨fun j hj=> ?_,fun j hj=> ?_⟩
 ·by_cases e:j=k
  ·subst e;exact h1
  ·exact h.ok j (by omega)
 ·by_cases e:j+1=k
  ·subst e;exact h2 (by omega)
  ·exact h.rise j (by omega)
theorem mJ.all {t:List Rg} {k:Nat} (h:mJ t k) (hk:t.length=k) (h2:t.length<=200):kA t:=by
 refine⟨h2,fun r hr=> ?_,?_⟩
 ·obtain⟨j,hj,rfl⟩:=List.getElem_of_mem hr;rw[cI hj];exact h.ok j (by omega)
 ·rw[List.pairwise_iff_getElem];intro i j hi hj hij;rw[cI hi,cI hj];have key:∀d,i+1+d<t.length->(rg t i).hi<(rg t (i+1+d)).lo:=by
   intro d
   induction d with
   | zero=>intro hd;exact h.rise i (by omega)
   | succ d ih=>
    intro hd;have h3:=ih (by omega);have h4:=h.rise (i+1+d) (by omega);have h5:=(h.ok (i+1+d) (by omega)).2.1;rw[show i+1+(d+1)=i+1+d+1 by omega];omega
  have:=key (j-i-1) (by omega)
  rwa [show i+1+(j-i-1)=j by omega]at this
theorem gD {t:List Rg} {k:Nat} (hk:k<t.length) (h:¬sJ (rg t k)):(false=true↔kA t):=⟨(fun h=>by cases h),fun h2=>absurd (h2.2.1 _ (List.mem_of_getElem? (bH hk))) h⟩
theorem pP {t:List Rg} {k:Nat} (h0:0<k) (hk:k<t.length) (h:¬(rg t (k-1)).hi<(rg t k).lo):(false=true↔kA t):=⟨(fun h=>by cases h),fun h2=>by
 have h3:=(List.pairwise_iff_getElem.1 h2.2.2) (k-1) k (by omega) hk (by omega);rw[cI (by omega),cI hk]at h3;exact absurd h3 h⟩
theorem aAd {t:List Rg} (h:¬t.length<=200):(false=true↔kA t):=⟨(fun h=>by cases h),fun h2=>absurd h2.1 h⟩
def E3 (N:List ByteArray) (kind:Int) (t:List Rg) (room:Int):Prop:=rB N/\0<=kind/\kind<=3/\kA t/\0<=room/\room<=1048576
def iC (S:List Sp) (N:List ByteArray):List Int:=N.map (fun s=>aCJ (mD S s))
def cA (s:ByteArray):List Int:=s.data.toList.map (fun b=>(b.toNat:Int))
theorem nA (s:ByteArray):(cA s).length=s.size:=by simp[cA]
theorem dL {s:ByteArray} {i:Nat} (h:i<s.size):(cA s)[i]?=some (s[i].toNat:Int):=by
 unfold cA;rw[List.getElem?_map,Array.getElem?_toList,Array.getElem?_eq_getElem (by simpa using h)];rfl
theorem Y7 {s:ByteArray} {k:Nat} (h:k<s.size):(cA s).take (k+1)=(cA s).take k++ [(s[k].toNat:Int)]:=by
 rw[List.take_add_one,dL h];rfl
theorem M1 {s t:ByteArray} (h:cA s=cA t):s=t:=by
 unfold cA at h;apply ByteArray.ext;apply Array.toList_inj.1;have hinj:Function.Injective (fun b:UInt8=>(b.toNat:Int)):=fun a b e=>UInt8.toNat_inj.1 (by have e:(a.toNat:Int)=(b.toNat:Int):=e;omega)
 exact(List.map_inj_right (f:=fun b:UInt8=>(b.toNat:Int)) (fun a b e=>hinj e)).1 h
theorem cL {s:ByteArray}:∀x∈cA s,0<=x/\x<256:=by
 intro x hx;unfold cA at hx;obtain⟨b,_,rfl⟩:=List.mem_map.1 hx;have:=b.toNat_lt;exact⟨by omega,by omega⟩
def fI (N:List ByteArray) (n:ByteArray):Option Nat:=N.findIdx? (fun x=>decide (x=n))
theorem rP {N:List ByteArray} {n:ByteArray} {i:Nat} (hi:i<N.length) (he:tk N i=n) (hn:∀j,j<i->tk N j≠n):fI N n=some i:=by
 unfold fI;rw[List.findIdx?_eq_some_iff_getElem];have ht:∀j (hj:j<N.length),N[j]=tk N j:=fun j hj=>by simp[tk,List.getD,hj]
 exact⟨hi,by rw[ht i hi];simpa using he,fun j hj=>by rw[ht j (by omega)];simpa using hn j hj⟩
theorem zX {N:List ByteArray} {n:ByteArray} (hn:∀j,j<N.length->tk N j≠n):fI N n=none:=by
 unfold fI;rw[List.findIdx?_eq_none_iff];intro x hx;obtain⟨j,hj,rfl⟩:=gI hx;simpa using hn j hj
def A7 (V:Vc) (N:List ByteArray) (t:Int):List Int×Int:=
 if aE V.tokens t=true then(cA (tk V.tokens t.toNat),0)
 else match tS V.specials t with
  | none=>([],3)
  | some s=>match fI N s.name with
   | some k=>([256+(k:Int)],0)
   | none=>([],4)
def iB (V:Vc) (N:List ByteArray):List Int->List Int×Int
 | []=>([],0)
 | t::l=>if(A7 V N t).2=0 then(if(iB V N l).2=0 then((A7 V N t).1++(iB V N l).1,0)else([],(iB V N l).2))else([],(A7 V N t).2)
def B5 (M:List Mg) (a b:Int):Option Mg:=M.find? (fun m=>decide (m.left=a) && decide (m.right=b))
structure F2 (M:List Mg) (row:List Int) (i:Nat) (m:Mg):Prop where
 at_:∃a b,row[i]?=some a/\row[i+1]?=some b/\B5 M a b=some m
 least:∀j a b m',row[j]?=some a->row[j+1]?=some b->B5 M a b=some m'->m.order<m'.order\/(m.order=m'.order/\i<=j)
def rK (M:List Mg) (row:List Int):Prop:=∀j a b,row[j]?=some a->row[j+1]?=some b->B5 M a b=none
theorem F2.uniq {M:List Mg} {row:List Int} {i j:Nat} {m n:Mg} (h:F2 M row i m) (k:F2 M row j n):i=j/\m=n:=by
 obtain⟨a,b,h1,h2,h3⟩:=h.at_;obtain⟨c,d,k1,k2,k3⟩:=k.at_;have e1:=h.least j c d n k1 k2 k3;have e2:=k.least i a b m h1 h2 h3;have e:i=j:=by omega
 subst e;rw[h1]at k1;rw[h2]at k2;simp only[Option.some.injEq]at k1 k2;subst k1 k2;rw[h3]at k3;exact⟨rfl,by simpa using k3⟩
theorem F2.not {M:List Mg} {row:List Int} {i:Nat} {m:Mg} (h:F2 M row i m) (k:rK M row):False:=by
 obtain⟨a,b,h1,h2,h3⟩:=h.at_;rw[k i a b h1 h2]at h3
 cases h3
def F6 (row:List Int) (i:Nat) (o:Int):List Int:=row.take i++o::row.drop (i+2)
open Classical in
noncomputable def pF (M:List Mg) (row:List Int):Option (List Int):=if h:∃p:Nat×Mg,F2 M row p.1 p.2 then some (F6 row h.choose.1 h.choose.2.out)else none
theorem Q2 {M:List Mg} {row:List Int} {i:Nat} {m:Mg} (h:F2 M row i m):pF M row=some (F6 row i m.out):=by
 have he:∃p:Nat×Mg,F2 M row p.1 p.2:=⟨(i,m),h⟩;unfold pF;rw[dif_pos he];obtain⟨e1,e2⟩:=he.choose_spec.uniq h;rw[e1,e2]
theorem gM {M:List Mg} {row:List Int} (h:rK M row):pF M row=none:=by
 unfold pF;rw[dif_neg];rintro⟨p,hp⟩;exact hp.not h
theorem xK {M:List Mg} {row r:List Int} (h:pF M row=some r):r.length+1=row.length:=by
 unfold pF at h;split at h
 ·next he=>
  simp only[Option.some.injEq]at h;obtain⟨a,b,h1,h2,h3⟩:=he.choose_spec.at_;have:=(List.getElem?_eq_some_iff.1 h2).1;rw[<-h];unfold F6;simp;omega
 ·cases h
noncomputable def yG (M:List Mg):Nat->List Int->List Int
 | 0,r=>r
 | k+1,r=>match pF M r with
  | none=>r
  | some r'=>yG M k r'
theorem uJ {M:List Mg} {r:List Int} (h:pF M r=none):∀k,yG M k r=r
 | 0=>rfl
 | k+1=>by simp only[yG,h]
theorem aCj {M:List Mg} {r r':List Int} (h:pF M r=some r'):yG M r.length r=yG M r'.length r':=by
 have hl:=xK h;rw[<-hl];simp only[yG,h]
def cB (V:Vc) (b:List Int):List Int:=b.map (fun x=>ofT V.tokens (one x.toNat))
theorem wE (V:Vc) (b:List Int):(cB V b).length=b.length:=by simp[cB]
noncomputable def fG (V:Vc) (b:List Int):List Int:=yG V.merges b.length (cB V b)
theorem encF_one (V:Vc) (x:Int):fG V [x]= [ofT V.tokens (one x.toNat)]:=by
 unfold fG;exact uJ (gM fun j a b h1 h2=>by
  have:=(List.getElem?_eq_some_iff.1 h2).1;simp[cB]at this) _
abbrev Ch:=List (Nat×Int)
def yI (C:Ch):Prop:=C.Pairwise (fun a b=>a.1<b.1)
def agF (M:List Mg):Ch->Nat->Option (Int×Int)
 | (p,a)::(q,b)::l,x=>if x=p then(B5 M a b).map (fun m=>(m.order,m.out))else agF M ((q,b)::l) x
 | _,_=>none
theorem D5 (M:List Mg) (p q:Nat) (a b:Int) (l:Ch) (x:Nat):agF M ((p,a)::(q,b)::l) x=if x=p then(B5 M a b).map (fun m=>(m.order,m.out))else agF M ((q,b)::l) x:=rfl
theorem iO {M:List Mg}:∀{C:Ch} {x:Nat} {o},agF M C x=some o->∃i a q b m,C[i]?=some (x,a)/\C[i+1]?=some (q,b)/\B5 M a b=some m/\o=(m.order,m.out)
 | [],x,o,h=>by simp[agF]at h
 | [_],x,o,h=>by simp[agF]at h
 | (p,a)::(q,b)::l,x,o,h=>by
  rw[D5]at h;split at h
  ·next e=>
   subst e
   cases hf:B5 M a b with
   | none=>rw[hf]at h;simp at h
   | some m=>rw[hf]at h;exact⟨0,a,q,b,m,rfl,rfl,hf,by simpa using h.symm⟩
  ·obtain⟨i,a',q',b',m,h1,h2,h3,h4⟩:=iO h;exact⟨i+1,a',q',b',m,by simpa using h1,by simpa using h2,h3,h4⟩
theorem jW {M:List Mg}:∀{C:Ch},yI C->∀{i p q:Nat} {a b:Int},C[i]?=some (p,a)->C[i+1]?=some (q,b)->agF M C p=(B5 M a b).map (fun m=>(m.order,m.out))
 | [],_,i,p,q,a,b,h,_=>by simp at h
 | [_],_,i,p,q,a,b,_,h=>by simp at h
 | (p0,a0)::(q0,b0)::l,hc,i,p,q,a,b,h1,h2=>by
  rw[D5]
  cases i with
  | zero=>
   simp at h1 h2;obtain⟨rfl,rfl⟩:=h1;obtain⟨rfl,rfl⟩:=h2;simp
  | succ i=>
   have hc':=List.pairwise_cons.1 hc;have hm:(p,a)∈(q0,b0)::l:=List.mem_of_getElem? (by simpa using h1);have:=hc'.1 _ hm;simp only at this;rw[if_neg (by omega)];exact jW hc'.2 (i:=i) (by simpa using h1) (by simpa using h2)
theorem agF_no {M:List Mg} {C:Ch} {x:Nat} (h:∀c∈C,c.1≠x):agF M C x=none:=by
 cases hf:agF M C x with
 | none=>rfl
 | some o=>
  obtain⟨i,a,q,b,m,h1,_⟩:=iO hf;exact absurd rfl (h _ (List.mem_of_getElem? h1))
theorem agF_last {M:List Mg}:∀{C:Ch},yI C->∀{i p:Nat} {a:Int},C[i]?=some (p,a)->C[i+1]?=none->agF M C p=none:=by
 intro C hc i p a h1 h2
 cases hf:agF M C p with
 | none=>rfl
 | some o=>
  obtain⟨j,a',q,b,m,k1,k2,_⟩:=iO hf;exfalso;have hi:=(List.getElem?_eq_some_iff.1 h1).1;have hj:=(List.getElem?_eq_some_iff.1 k1).1;have hj2:=(List.getElem?_eq_some_iff.1 k2).1;have hi2:C.length<=i+1:=by simpa using h2
  have hp:=List.pairwise_iff_getElem.1 hc j i hj hi (by omega);rw[List.getElem?_eq_getElem hi]at h1;rw[List.getElem?_eq_getElem hj]at k1;simp only[Option.some.injEq]at h1 k1;rw[h1,k1]at hp;simp at hp
theorem agF_best {M:List Mg} {C:Ch} (hc:yI C) {p:Nat} {o d:Int} (h:agF M C p=some (o,d)) (hm:∀q o' d',agF M C q=some (o',d')->o<o'\/(o=o'/\p<=q)):
  ∃i a q b m,C[i]?=some (p,a)/\C[i+1]?=some (q,b)/\B5 M a b=some m/\m.order=o/\m.out=d/\F2 M (C.map (·.2)) i m:=by
 obtain⟨i,a,q,b,m,h1,h2,h3,h4⟩:=iO h;simp only[Prod.mk.injEq]at h4;refine⟨i,a,q,b,m,h1,h2,h3,h4.1.symm,h4.2.symm,⟨⟨a,b,by simp[h1],by simp[h2],h3⟩,fun j a' b' m' k1 k2 k3=> ?_⟩⟩;simp only[List.getElem?_map,Option.map_eq_some_iff]at k1 k2;obtain⟨⟨pj,a1⟩,g1,rfl⟩:=k1;obtain⟨⟨qj,b1⟩,g2,rfl⟩:=k2;have:=hm pj m'.order m'.out (by rw[jW hc g1 g2];simp only at k3;rw[k3];rfl);rw[h4.1]at this;rcases this with e | ⟨e1,e2⟩
 ·exact .inl e
 ·refine .inr ⟨e1,?_⟩;rcases Nat.lt_or_ge j i with hji | hji
  ·exfalso;have hj:=(List.getElem?_eq_some_iff.1 g1).1;have hi:=(List.getElem?_eq_some_iff.1 h1).1;have hp:=List.pairwise_iff_getElem.1 hc j i hj hi hji;rw[List.getElem?_eq_getElem hj]at g1;rw[List.getElem?_eq_getElem hi]at h1;simp only[Option.some.injEq]at g1 h1;rw[g1,h1]at hp;simp only at hp;omega
  ·exact hji
theorem aAK {M:List Mg} {C:Ch} (hc:yI C) (h:∀p,agF M C p=none):rK M (C.map (·.2)):=by
 intro j a b k1 k2;simp only[List.getElem?_map,Option.map_eq_some_iff]at k1 k2;obtain⟨⟨pj,a1⟩,g1,rfl⟩:=k1;obtain⟨⟨qj,b1⟩,g2,rfl⟩:=k2;have:=h pj;rw[jW hc g1 g2]at this;simpa using this
theorem T7 {pre post:Ch} {p q:Nat} {a b o:Int} (h:yI (pre++(p,a)::(q,b)::post)):yI (pre++(p,o)::post):=by
 unfold yI at *;rw[List.pairwise_append]at h |-;obtain⟨h1,h2,h3⟩:=h;rw[List.pairwise_cons,List.pairwise_cons]at h2;refine⟨h1,List.pairwise_cons.2 ⟨fun c hc=>h2.1 c (by simp[hc]),h2.2.2⟩,fun x hx y hy=> ?_⟩;rcases List.mem_cons.1 hy with rfl | hy
 ·exact h3 x hx (p,a) (by simp)
 ·exact h3 x hx y (by simp[hy])
theorem aCr {pre post:Ch} {p q:Nat} {a b o:Int}:(pre++(p,o)::post).map (·.2)=F6 ((pre++(p,a)::(q,b)::post).map (·.2)) pre.length o:=by
 unfold F6;simp[List.drop_append]
theorem aBL {M:List Mg}:∀{pre l l':Ch} {x p:Nat} {a a':Int},yI (pre++(p,a)::l)->(∀c,pre.getLast?=some c->c.1≠x)->(∃c∈pre,c.1=x)->agF M (pre++(p,a)::l) x=agF M (pre++(p,a')::l') x
 | [],l,l',x,p,a,a',_,_,h=>by simp at h
 | [c],l,l',x,p,a,a',_,h1,h2=>by
  obtain⟨d,hd,e⟩:=h2;simp at hd;subst hd;exact absurd e (h1 _ rfl)
 | (r,u)::(s,v)::pre,l,l',x,p,a,a',hc,h1,h2=>by
  simp only[List.cons_append];rw[D5,D5]
  by_cases e:x=r
  ·rw[if_pos e,if_pos e]
  ·rw[if_neg e,if_neg e];have:=aBL (M:=M) (pre:=(s,v)::pre) (l:=l) (l':=l') (x:=x) (p:=p) (a:=a) (a':=a') (List.pairwise_cons.1 hc).2 (fun c h=>h1 c (by simpa using h)) (by
    obtain⟨d,hd,e2⟩:=h2;rcases List.mem_cons.1 hd with rfl | h
    ·exact absurd e2.symm e
    ·exact⟨d,h,e2⟩)
   simpa using this
theorem cS {M:List Mg}:∀{pre l:Ch} {x:Nat},(∀c∈pre,c.1≠x)->l≠[]->agF M (pre++l) x=agF M l x
 | [],l,x,_,_=>rfl
 | [(r,u)],(p,a)::l,x,h,_=>by
  simp only[List.cons_append,List.nil_append];rw[D5,if_neg (fun e=>h (r,u) (by simp) e.symm)]
 | (r,u)::(s,v)::pre,l,x,h,hl=>by
  simp only[List.cons_append];rw[D5,if_neg (fun e=>h (r,u) (by simp) e.symm)];have:=cS (M:=M) (pre:=(s,v)::pre) (l:=l) (x:=x) (fun c hc=>h c (by simp[hc])) hl;simpa using this
 | [(r,u)],[],x,_,hl=>absurd rfl hl
def I9 (row:List Int):Ch:=(List.range row.length).zip row
theorem cO {row:List Int} {i:Nat} {a:Int} (h:row[i]?=some a):(I9 row)[i]?=some (i,a):=by
 have hi:=(List.getElem?_eq_some_iff.1 h).1;unfold I9;rw[List.getElem?_zip_eq_some];exact⟨by simp[hi],h⟩
theorem kK (row:List Int):(I9 row).length=row.length:=by simp[I9]
theorem chOf_map (row:List Int):(I9 row).map (·.2)=row:=by
 unfold I9;rw[List.map_snd_zip];simp
theorem chOf_ok (row:List Int):yI (I9 row):=by
 unfold yI;rw[List.pairwise_iff_getElem];intro i j hi hj hij;simp only[I9,List.getElem_zip,List.getElem_range];exact hij
def wM (a b:Int) (m:Mg):Bool:=decide (m.left=a) && decide (m.right=b)
def ixM (M:List Mg) (a b:Int):Int:=match M.findIdx? (wM a b)with | some i=>(i:Int) | none=> -1
theorem pY {M:List Mg} {a b:Int} {k:Nat} {m:Mg} (h:M[k]?=some m) (hm:wM a b m=true) (hno:∀j x,j<k->M[j]?=some x->wM a b x=false):ixM M a b=k/\B5 M a b=some m:=by
 have hk:=(List.getElem?_eq_some_iff.1 h).1;have he:=(List.getElem?_eq_some_iff.1 h).2;have h1:M.findIdx? (wM a b)=some k:=by
  rw[List.findIdx?_eq_some_iff_getElem];exact⟨hk,by rw[he];exact hm,fun j hj=>by simpa using hno j _ hj (List.getElem?_eq_getElem (by omega))⟩
 refine⟨by unfold ixM;rw[h1],?_⟩;show M.find? (wM a b)=_;rw[List.find?_eq_some_iff_getElem];exact⟨hm,k,hk,he,fun j hj=>by simpa using hno j _ hj (List.getElem?_eq_getElem (by omega))⟩
theorem oY {M:List Mg} {a b:Int} (hno:∀(j:Nat) x,M[j]?=some x->wM a b x=false):ixM M a b= -1/\B5 M a b=none:=by
 have h1:M.findIdx? (wM a b)=none:=by
  rw[List.findIdx?_eq_none_iff];intro x hx;obtain⟨j,hj,rfl⟩:=List.getElem_of_mem hx;exact hno j _ (List.getElem?_eq_getElem hj)
 refine⟨by unfold ixM;rw[h1],?_⟩;show M.find? (wM a b)=_;rw[List.find?_eq_none];intro x hx;obtain⟨j,hj,rfl⟩:=List.getElem_of_mem hx;rw[hno j _ (List.getElem?_eq_getElem hj)];simp
theorem aCF (M:List Mg) (a b:Int):(ixM M a b= -1/\B5 M a b=none)\/∃(k:Nat) (m:Mg),ixM M a b=k/\M[k]?=some m/\B5 M a b=some m:=by
 cases h:M.findIdx? (wM a b)with
 | none=>
  rw[List.findIdx?_eq_none_iff]at h;exact .inl (oY fun j x hx=>h x (List.mem_of_getElem? hx))
 | some k=>
  obtain⟨h1,h2,h3⟩:=List.findIdx?_eq_some_iff_getElem.1 h;obtain⟨e1,e2⟩:=pY (a:=a) (b:=b) (List.getElem?_eq_getElem h1) h2 (fun j x hj hx=>by
   have h4:=h3 j hj;have h5:=(List.getElem?_eq_some_iff.1 hx).2;rw[h5]at h4;simpa using h4)
  exact .inr ⟨k,_,e1,List.getElem?_eq_getElem h1,e2⟩
def zD (M:List Mg) (row:List Int) (i:Nat) (p q:Int):Prop:=
 (p= -1/\q= -1/\∀j a b,j<i->row[j]?=some a->row[j+1]?=some b->B5 M a b=none)\/
 ∃(j k:Nat) (m:Mg) (a b:Int),p=j/\q=k/\j<i/\row[j]?=some a/\row[j+1]?=some b/\M[k]?=some m/\B5 M a b=some m/\
  ∀j' a' b' m',j'<i->row[j']?=some a'->row[j'+1]?=some b'->B5 M a' b'=some m'->m.order<m'.order\/(m.order=m'.order/\j<=j')
theorem zD.zero (M:List Mg) (row:List Int):zD M row 0 (-1) (-1):= .inl ⟨rfl,rfl,fun j a b h=>by omega⟩
theorem zD.skip {M:List Mg} {row:List Int} {i:Nat} {p q x y:Int} (h:zD M row i p q) (hx:row[i]?=some x) (hy:row[i+1]?=some y) (hn:B5 M x y=none):zD M row (i+1) p q:=by
 have key:∀j a b,j<i+1->¬j<i->row[j]?=some a->row[j+1]?=some b->B5 M a b=none:=fun j a b h1 h2 ha hb=>by
  obtain rfl:j=i:=by omega
  obtain rfl:=Option.some.inj (hx.symm.trans ha);obtain rfl:=Option.some.inj (hy.symm.trans hb);exact hn
 rcases h with⟨h1,h2,h3⟩ | ⟨j,k,m,a,b,h1,h2,h3,h4,h5,h6,h7,h8⟩
 ·exact .inl ⟨h1,h2,fun j a b hj ha hb=>if g:j<i then h3 j a b g ha hb else key j a b hj g ha hb⟩
 ·refine .inr ⟨j,k,m,a,b,h1,h2,by omega,h4,h5,h6,h7,fun j' a' b' m' hj ha hb hm=> ?_⟩
  by_cases g:j'<i
  ·exact h8 j' a' b' m' g ha hb hm
  ·rw[key j' a' b' hj g ha hb]at hm;cases hm
theorem zD.keep {M:List Mg} {row:List Int} {i j0 k0:Nat} {x y:Int} {m m0:Mg} (h:zD M row i j0 k0) (hx:row[i]?=some x) (hy:row[i+1]?=some y) (hf:B5 M x y=some m) (hk:M[k0]?=some m0) (hn:¬m.order<m0.order):zD M row (i+1) j0 k0:=by
 rcases h with⟨h1,h2,h3⟩ | ⟨j,k,m',a,b,h1,h2,h3,h4,h5,h6,h7,h8⟩
 ·omega
 ·obtain rfl:k0=k:=by omega
  obtain rfl:=Option.some.inj (hk.symm.trans h6);refine .inr ⟨j,k0,m0,a,b,h1,rfl,by omega,h4,h5,h6,h7,fun j' a' b' m'' hj ha hb hm=> ?_⟩
  by_cases g:j'<i
  ·exact h8 j' a' b' m'' g ha hb hm
  ·obtain rfl:j'=i:=by omega
   obtain rfl:=Option.some.inj (hx.symm.trans ha);obtain rfl:=Option.some.inj (hy.symm.trans hb);obtain rfl:=Option.some.inj (hf.symm.trans hm);omega
theorem zD.take {M:List Mg} {row:List Int} {i k:Nat} {p q x y:Int} {m:Mg} (h:zD M row i p q) (hx:row[i]?=some x) (hy:row[i+1]?=some y) (hf:B5 M x y=some m) (hk:M[k]?=some m) (hn:q<0\/∃(k0:Nat) (m0:Mg),q=k0/\M[k0]?=some m0/\m.order<m0.order):zD M row (i+1) i k:=by
 refine .inr ⟨i,k,m,x,y,rfl,rfl,by omega,hx,hy,hk,hf,fun j' a' b' m' hj ha hb hm=> ?_⟩
 by_cases g:j'<i
 ·rcases h with⟨h1,h2,h3⟩ | ⟨j,k',m0,a,b,h1,h2,h3,h4,h5,h6,h7,h8⟩
  ·rw[h3 j' a' b' g ha hb]at hm;cases hm
  ·have h9:=h8 j' a' b' m' g ha hb hm;rcases hn with hn | ⟨k0,m1,e1,e2,e3⟩
   ·omega
   ·obtain rfl:k0=k':=by omega
    obtain rfl:=Option.some.inj (h6.symm.trans e2);omega
 ·obtain rfl:j'=i:=by omega
  obtain rfl:=Option.some.inj (hx.symm.trans ha);obtain rfl:=Option.some.inj (hy.symm.trans hb);obtain rfl:=Option.some.inj (hf.symm.trans hm);omega
def BestIs (M:List Mg) (row:List Int) (p q:Int):Prop:=(p= -1/\q= -1/\rK M row)\/∃(j k:Nat) (m:Mg),p=j/\q=k/\j+1<row.length/\M[k]?=some m/\F2 M row j m
theorem zD.done {M:List Mg} {row:List Int} {i:Nat} {p q:Int} (h:zD M row i p q) (hi:row.length<=i+1):BestIs M row p q:=by
 have hj:∀(j:Nat) (b:Int),row[j+1]?=some b->j<i:=fun j b hb=>by have:=(List.getElem?_eq_some_iff.1 hb).1;omega
 rcases h with⟨h1,h2,h3⟩ | ⟨j,k,m,a,b,h1,h2,h3,h4,h5,h6,h7,h8⟩
 ·exact .inl ⟨h1,h2,fun j a b ha hb=>h3 j a b (hj j b hb) ha hb⟩
 ·exact .inr ⟨j,k,m,h1,h2,(List.getElem?_eq_some_iff.1 h5).1,h6,⟨⟨a,b,h4,h5,h7⟩,fun j' a' b' m' ha hb hm=>h8 j' a' b' m' (hj j' b' hb) ha hb hm⟩⟩
def pK (M:List Mg) (row:List Int) (k:Nat) (out:List Int):Prop:=yG M row.length row=yG M (row.length-k) out/\out.length<=row.length
theorem pK.zero (M:List Mg) (row:List Int):pK M row 0 row:=⟨rfl,Nat.le_refl _⟩
theorem pK.next {M:List Mg} {row out:List Int} {k i:Nat} {m:Mg} (h:pK M row k out) (hk:k<row.length) (hb:F2 M out i m):pK M row (k+1) (F6 out i m.out):=by
 have hs:=Q2 hb;have hl:=xK hs;have e:row.length-k=(row.length-(k+1))+1:=by omega
 refine⟨?_,by have:=h.2;omega⟩;rw[h.1,e];simp only[yG,hs]
theorem pK.stop {M:List Mg} {row out:List Int} {k:Nat} (h:pK M row k out) (hn:rK M out):yG M row.length row=out:=by
 rw[h.1,uJ (gM hn)]
theorem pK.done {M:List Mg} {row out:List Int} {k:Nat} (h:pK M row k out) (hk:row.length<=k):yG M row.length row=out:=by
 rw[h.1,show row.length-k=0 by omega];rfl
open Go.RowKit Go.Sort
theorem eU {α:Type} {enc:α->List Value} {s:Nat} (hs:∀x,(enc x).length=s):∀(L:List α) (k:Nat),flat enc (L.take k)=(flat enc L).take (k*s)
 | [],k=>by simp[flat]
 | y::L,0=>by simp[flat]
 | y::L,k+1=>by
  rw[wF,List.take_succ_cons,wF,eU hs L k];have e:(k+1)*s=(enc y).length+k*s:=by rw[hs,Nat.add_mul];omega
  rw[e,List.take_length_add_append]
theorem SlF.take {s:Nat} {w:World} {ao:Option Addr} {n cap:Nat} {xs:List Value} (h:SlF s w ao n cap xs) {k:Nat} (hk:k<=n):SlF s w ao k cap (xs.take (k*s)):=by
 have hl:=h.len;refine⟨by rw[List.length_take,hl];exact Nat.min_eq_left (Nat.mul_le_mul_right s hk),by have:=h.le;omega,h.max,h.nil,fun i u hu=> ?_⟩;rw[List.getElem?_take]at hu;split at hu
 ·exact h.at_ i u hu
 ·cases hu
theorem B9 {α:Type} {enc:α->List Value} {s:Nat} {e:TypeId} {P:Program} {w:World} {ops:Array Oper} {rest:List Oper} {o:Oper} {a:Act} {Q:Exit->Act->World->Prop} (hgd:o.guard= .none) (t:TypeId) (x l:Operand)
  (ho:o.op= .slice t x .none (some l) .none) (i:TypeInfo) (ht:P.underlying t=some (.slice e)) (hi:P.info? e=some i) (hs:∀x,(enc x).length=s)
  {ao:Option Addr} {n cap:Nat} {L:List α} (hx:a.eval x= .slice ao n cap) (hS:SlF s w ao n cap (flat enc L)) {kl:IntKind} {K:Int} {k:Nat} (hl:a.eval l= .int kl K) (hL:K=(k:Int)) (hk:k<=n)
  (h:SlF s w ao k cap (flat enc (L.take k))->wpList P ops Q rest (a.put o.dst (.slice ao k cap)) w):wpList P ops Q (o::rest) a w:=by
 subst hL;have hle:=hS.le;refine vG hgd (v:= .slice ao k cap) (w':=w) ?_ (h (by rw[eU hs];exact hS.take hk))
 have hr:=cC ht hi w ao n cap .none (some (.int kl k)) 0 k (fun w=>by simp[Instr.sliceBounds,run_sliceBound,Nat.le_trans hk hle]);simp only[execOp,ho,hx,hl,Option.map_some,Option.map_none,Sem.run_bind,hr,Result.andThen_ok,Sem.run_pure,Nat.zero_mul];congr 3
 cases ao<;>simp[Addr.add]
theorem aBK (a b:Mg) (w:World):
  Calls Tryz.prog 115 #[.agg #[.int .i64 a.left, .int .i64 a.right, .int .i64 a.out, .int .i64 a.order], .agg #[.int .i64 b.left, .int .i64 b.right, .int .i64 b.out, .int .i64 b.order]] w
   fun e w'=>e= .returned (.bool (fB a b))/\∃q os,w'=grow (w.drewN q) os:=by
 obtain⟨w1,hw1⟩:∃w1,w.alloc (.cells #[.int .i64 a.left, .int .i64 a.right, .int .i64 a.out, .int .i64 a.order] 165)=w1:=⟨_,rfl⟩;obtain⟨w2,hw2⟩:∃w2,w1.alloc (.cells #[.int .i64 b.left, .int .i64 b.right, .int .i64 b.out, .int .i64 b.order] 165)=w2:=⟨_,rfl⟩;have hb1:Below w.heap.size w w1:=hw1▸aA w _;have hb2:Below w1.heap.size w1 w2:=hw2▸aA w1 _;have hs1:w1.heap.size=w.heap.size+1:=by rw[<-hw1];simp
 have ha1:w1.heap[w.heap.size]?=some (.cells #[.int .i64 a.left, .int .i64 a.right, .int .i64 a.out, .int .i64 a.order] 165):=by rw[<-hw1];exact heap_alloc_new w _
 have ha2:=(hb2.block w.heap.size (by omega)).trans ha1;have hbb:w2.heap[w1.heap.size]?=some (.cells #[.int .i64 b.left, .int .i64 b.right, .int .i64 b.out, .int .i64 b.order] 165):=by rw[<-hw2];exact heap_alloc_new w1 _
 obtain⟨a0,a1,_,a3⟩:=vA ha2;obtain⟨b0,b1,_,b3⟩:=vA hbb;have HG:Hid (∃q os,w2=grow (w.drewN q) os):=hW_ ⟨0,#[.cells #[.int .i64 a.left, .int .i64 a.right, .int .i64 a.out, .int .i64 a.order] 165, .cells #[.int .i64 b.left, .int .i64 b.right, .int .i64 b.out, .int .i64 b.order] 165],by
  rw[<-hw2,<-hw1,alloc_eq_grow,alloc_eq_grow,grow_grow];rfl⟩
 have H1:=hW_ hw1;have H2:=hW_ hw2;have hq:fB a b=decide (a.order<b.order\/(a.order=b.order/\(a.left<b.left\/(a.left=b.left/\a.right<b.right)))):=rfl;have HQ:=hW_ hq;rw[hs1]at b0 b1 b3;clear hb1 hb2 hs1 ha1 ha2 hbb hw1 hw2 hq
 by_cases ho:a.order=b.order
 ·have n1:(a.order != b.order)=false:=by simpa using ho
  by_cases hl:a.left=b.left
  ·have n2:(a.left != b.left)=false:=by simpa using hl
   have HF:Hid (fB a b=decide (a.right<b.right)):=hW_ (by rw[HQ.out];simp[ho,hl]);clear ho hl;go_enter Tryz.func115,Tryz.ntmps115;go_wp2_with (fail);rw[H1.out,H2.out];go_ret;exact⟨oA HF.out.symm,HG.out⟩
  ·have n2:(a.left != b.left)=true:=by simpa using hl
   have HF:Hid (fB a b=decide (a.left<b.left)):=hW_ (by rw[HQ.out];simp[ho,hl]);clear ho hl;go_enter Tryz.func115,Tryz.ntmps115;go_wp2_with (fail);rw[H1.out,H2.out];go_ret;exact⟨oA HF.out.symm,HG.out⟩
 ·have n1:(a.order != b.order)=true:=by simpa using ho
  have HF:Hid (fB a b=decide (a.order<b.order)):=hW_ (by rw[HQ.out];simp[ho]);clear ho;go_enter Tryz.func115,Tryz.ntmps115;go_wp2_with (fail);rw[H1.out,H2.out];go_ret;exact⟨oA HF.out.symm,HG.out⟩
def fL (M:List Mg):Prop:=M.Pairwise (fun a b=>fB b a=false)
def PutPost (M:List Mg) (m:Mg) (w:World) (e:Ending) (w':World):Prop:=
 (∃v M',e= .returned v/\eA Mg.enc 4 165 w' w.heap.size v M'/\M'.Perm (M++ [m])/\(fL M->fL M'))/\Below w.heap.size w w'
theorem lP {M:List Mg} {m:Mg} {k:Nat} (h1:∀j,j<k->fB (mg M j) m=true) (hk:k<=M.length) (h2:k=M.length\/fB (mg M k) m=false) (hs:fL M):fL (M.take k++m::M.drop k):=by
 refine qR (lt:=fB) (fun a b c=>fO) hs (fun j x hj hx=> ?_) (fun x hx=> ?_)
 ·rw[F9 (by omega)]at hx;simp only[Option.some.injEq]at hx;subst hx;exact aS _ _ (h1 j hj)
 ·rcases h2 with rfl | h2
  ·rw[List.getElem?_eq_none (Nat.le_refl _)]at hx;cases hx
  ·have hlt:=(List.getElem?_eq_some_iff.1 hx).1;rw[F9 hlt]at hx;simp only[Option.some.injEq]at hx;subst hx;exact h2
theorem Z6 {M:List Mg} {mo:Option Addr} {mn mc:Nat} (l r o d:Int) (w:World) (hM:SlF 4 w mo mn mc (flat Mg.enc M)) (hn:mn<=300000):
  Calls Tryz.prog 110 #[.slice mo mn mc, .agg #[.int .i64 l, .int .i64 r, .int .i64 o, .int .i64 d]] w (PutPost M ⟨l,r,o,d⟩ w):=by
 obtain⟨i0,z0,hi,hz0,hz1,hz2,hz3⟩:=eC infoMg;obtain⟨w0,hw0⟩:∃w0,w.alloc (.cells #[.int .i64 l, .int .i64 r, .int .i64 o, .int .i64 d] 165)=w0:=⟨_,rfl⟩;have hb0:Below w.heap.size w w0:=hw0▸aA w _;have hx0:w0.heap[w.heap.size]?=some (.cells #[.int .i64 l, .int .i64 r, .int .i64 o, .int .i64 d] 165):=by rw[<-hw0];exact heap_alloc_new w _
 have hs0:w.heap.size<w0.heap.size:=by rw[<-hw0];simp
 have HM:=hW_ (hM.below hb0);have HLM:=hW_ (hM.count Mg.enc_len (by omega));have HB0:=hW_ hb0;have HX0:=hW_ hx0;have HW0:=hW_ hw0;clear hM hb0 hx0 hw0;go_enter Tryz.func110,Tryz.ntmps110;go_wp2_with (fail);rw[HW0.out];go_loopw [5] (fun i wr=>∃k:Nat,k<=mn/\i= .int .i64 k/\Hid (∀j,j<k->fB (mg M j) ⟨l,r,o,d⟩=true)/\Below w0.heap.size w0 wr) (fun i _=>mn-(intOf i).toNat)
 case atStart=>exact⟨0,Nat.zero_le _,rfl,hW_ (fun j h=>by omega),Below.refl _ _⟩
 case round=>
  obtain⟨k,hk,rfl,HK,hb⟩:=hrel;have HB:=hW_ hb;have hbx:=(hb.block w.heap.size hs0).trans HX0.out;have hlt2:w.heap.size<wr.heap.size:=(Array.getElem?_eq_some_iff.1 hbx).1;obtain⟨b0,b1,b2,b3⟩:=vA hbx;clear hb hbx;obtain⟨w1,rfl⟩:∃w1:World,w1=wr:=⟨_,rfl⟩
  by_cases hlt:k<mn
  ·have hkM:k<M.length:=by have:=HLM.out;omega
   obtain⟨⟨pl,pr,po,pd⟩,hpeq⟩:∃m,mg M k=m:=⟨_,rfl⟩;obtain⟨b,of,rfl,hcp⟩:=(HM.out.below HB.out).elem Mg.enc_len (by omega) (F9 hkM);rw[hpeq]at hcp;have p0:=hcp 0 _ rfl;have p1:=hcp 1 _ rfl;have p2:=hcp 2 _ rfl;have p3:=hcp 3 _ rfl;rw[Nat.add_zero]at p0;simp only at p0 p1 p2 p3;have hmix:=C7;have hlt1:b<w1.heap.size:=World.block_lt_of_cell? w1 _ p0;have r0:=cell_grown (w:=w1) hlt1 p0;have r1:=cell_grown (w:=w1) hlt1 p1;have r2:=cell_grown (w:=w1) hlt1 p2;have r3:=cell_grown (w:=w1) hlt1 p3;have t0:=cell_grown (w:=w1) hlt2 b0;have t1:=cell_grown (w:=w1) hlt2 b1;have t2:=cell_grown (w:=w1) hlt2 b2;have t3:=cell_grown (w:=w1) hlt2 b3;have l1:=fun n os=>ld4 (P:=Tryz.prog) (r0 n os) (r1 n os) (r2 n os) (r3 n os)
   have l2:=fun n os=>ld4 (P:=Tryz.prog) (t0 n os) (t1 n os) (t2 n os) (t3 n os)
   have hg0:decide ((k:Int)<(mn:Int))=true:=by simp;omega
   have hg2:decide (k<mn)=true:=by simpa using hlt
   have hah:=fun w=>aBK ⟨pl,pr,po,pd⟩ ⟨l,r,o,d⟩ w
   have HPE:=hW_ hpeq;clear hcp hpeq hkM
   cases hal:fB ⟨pl,pr,po,pd⟩ ⟨l,r,o,d⟩with
   | true=>
    rw[hal]at hah;have HK2:Hid (∀j,j<k+1->fB (mg M j) ⟨l,r,o,d⟩=true):=hW_ (fun j hj=>by
     by_cases e:j=k
     ·subst e;rw[HPE.out];exact hal
     ·exact HK.out j (by omega))
    clear hal;go_wp2_with (fail);refine wp_region_quiet_grown (by assumption) (by kernel_rfl) ?_
    repeat (any_goals (first | go_big_quiet_step ((go_at_call 115;exact Calls.grown_of (hah _))) | quiet_step ((go_at_call 115;exact Calls.grown_of (hah _)))))
    refine wpQuiet_nil ?_
    intro _ hw';obtain⟨⟨nq2,osq2⟩,hw''⟩:=hw';subst hw'';go_wp2_with (fail);go_roundw
    case rel=>exact⟨k+1,by omega,by go_num,HK2,HB.out.trans ((fC _ _ _).mono HB.out.size)⟩
    case measure=>simp[intOf];omega
   | false=>
    rw[hal]at hah;have HST:Hid (k=M.length\/fB (mg M k) ⟨l,r,o,d⟩=false):=hW_ (.inr (by rw[HPE.out];exact hal));clear hal;go_wp2_with (fail);refine wp_region_quiet_grown (by assumption) (by kernel_rfl) ?_
    repeat (any_goals (first | go_big_quiet_step ((go_at_call 115;exact Calls.grown_of (hah _))) | quiet_step ((go_at_call 115;exact Calls.grown_of (hah _)))))
    refine wpQuiet_nil ?_
    intro _ hw';obtain⟨⟨nq2,osq2⟩,hw''⟩:=hw';subst hw'';have HBQ:Hid (Below w0.heap.size w0 (grow (w1.drewN nq2) osq2)):=hW_ (HB.out.trans ((fC _ _ _).mono HB.out.size));have HSO:=hW_ (lP HK.out (by have:=HLM.out;omega) HST.out);have HLT:Hid ((M.take k).length=k):=hW_ (by rw[List.length_take,HLM.out];omega);have hbz:=HBQ.out.block w.heap.size hs0;obtain⟨wq,hwq⟩:∃wq,(grow (w1.drewN nq2) osq2)=wq:=⟨_,rfl⟩;rw[hwq]at HBQ hbz |-;clear hwq;have HBX:=hW_ (hbz.trans HX0.out);clear hbz;have HMa:Hid (SlF 4 (wq.alloc (.cells #[] 165)) (some ⟨b,of,none⟩) mn mc (flat Mg.enc M)):=hW_ ((HM.out.below HBQ.out).alloc _);have HOa:Hid (eA Mg.enc 4 165 (wq.alloc (.cells #[] 165)) wq.heap.size (.slice (some ⟨wq.heap.size,0,none⟩) 0 0) []):=hW_ (eA.made0 wq);go_wp2_with (first
     | (refine B9 (enc:=Mg.enc) rfl _ _ _ rfl i0 Tryz.underlying23 hi Mg.enc_len rfl HMa.out rfl (k:=k) rfl (by omega) ?_;intro hs1)
     | (at_builtin;go_loud (refine gA rfl _ _ 23 rfl i0 z0 32 Tryz.underlying23 hi hz0 hz1 hz2 hz3 Mg.enc_len (by omega) Mg.enc_one rfl HOa.out rfl hs1 (by unfold maxLen;simp only[List.length_nil];omega) (by simp only[List.length_nil];omega) (by simp) ?_)))
    intro v1 wb ho1 hg1 hb1;have hb1':=(aA wq (.cells #[] 165)).trans hb1;have HB1:=hW_ hb1';have hlq:w.heap.size<wq.heap.size:=(Array.getElem?_eq_some_iff.1 HBX.out).1;obtain⟨b0,b1,b2,b3⟩:=vA ((hb1'.block w.heap.size hlq).trans HBX.out);have HOb:Hid (eA Mg.enc 4 165 (wb.alloc (.cells #[.int .i64 l, .int .i64 r, .int .i64 o, .int .i64 d] 165)) wq.heap.size v1 (M.take k)):=hW_ (ho1.alloc _);have HSb:Hid (SlF 4 (wb.alloc (.cells #[.int .i64 l, .int .i64 r, .int .i64 o, .int .i64 d] 165)) (some ⟨wb.heap.size,0,none⟩) 1 1 (flat Mg.enc [⟨l,r,o,d⟩])):=hW_ (SlF.one Mg.enc_len wb ⟨l,r,o,d⟩ 165 (cs:=#[.int .i64 l, .int .i64 r, .int .i64 o, .int .i64 d]) rfl);have HSZ:Hid (wq.heap.size<=wb.heap.size):=hW_ hb1'.size;clear ho1 hg1 hb1 hb1' hlq;go_wp2_with (at_builtin;go_loud (refine gA rfl _ _ 23 rfl i0 z0 32 Tryz.underlying23 hi hz0 hz1 hz2 hz3 Mg.enc_len (by omega) Mg.enc_one rfl HOb.out rfl HSb.out (by have:=HLT.out;unfold maxLen;omega) (by have:=HLT.out;omega) (by have:=HSZ.out;simp;omega) ?_));intro v2 wc ho2 hg2 hb2;have hb2':=(HB1.out.alloc HB1.out.size _).trans hb2;have HB2:=hW_ hb2';have HMc:Hid (SlF 4 wc (some ⟨b,of,none⟩) mn mc (flat Mg.enc M)):=hW_ ((HM.out.below HBQ.out).below hb2');have HOc:=hW_ ho2;have HSZ2:Hid (wq.heap.size<=wc.heap.size):=hW_ hb2'.size;clear ho2 hg2 hb2 hb2' b0 b1 b2 b3;go_wp2_with (first
     | (refine mC (enc:=Mg.enc) rfl _ _ _ rfl i0 Tryz.underlying23 hi hz1 Mg.enc_len rfl HMc.out rfl (k:=k) rfl (by omega) ?_;intro ao' hs3 hao3)
     | (at_builtin;go_loud (refine gA rfl _ _ 23 rfl i0 z0 32 Tryz.underlying23 hi hz0 hz1 hz2 hz3 Mg.enc_len (by omega) Mg.enc_one rfl HOc.out rfl hs3 (by have:=HLT.out;unfold maxLen;rw[List.length_append];simp only[List.length_singleton];omega) (by have:=HLT.out;rw[List.length_append];simp only[List.length_singleton];omega) HSZ2.out ?_)))
    intro v3 wd ho3 hg3 hb3;have HO3:=hW_ (ho3.mono (Nat.le_trans HB0.out.size HBQ.out.size));have HB3:=hW_ (HB0.out.trans ((HBQ.out.trans ((HB2.out.trans hb3).mono HBQ.out.size)).mono HB0.out.size));clear ho3 hg3 hb3;go_wp2_with (fail);go_ret;exact⟨⟨v3,_,rfl,HO3.out,yN M _ k,HSO.out⟩,HB3.out⟩
  ·obtain rfl:k=mn:=by omega
   have HST:Hid (k=M.length\/fB (mg M k) ⟨l,r,o,d⟩=false):=hW_ (.inl HLM.out.symm);have hmix:=C7;have hg0:decide ((k:Int)<(k:Int))=false:=by simp
   have hg2:decide (k<k)=false:=by simp
   have hah:=fun w=>aBK ⟨0,0,0,0⟩ ⟨l,r,o,d⟩ w
   go_wp2_with (fail);refine wp_region_quiet_grown (by assumption) (by kernel_rfl) ?_
   repeat (any_goals (first | go_big_quiet_step ((go_at_call 115;exact Calls.grown_of (hah _))) | quiet_step ((go_at_call 115;exact Calls.grown_of (hah _)))))
   refine wpQuiet_nil ?_
   intro _ hw';obtain⟨⟨nq2,osq2⟩,hw''⟩:=hw';subst hw'';have HBQ:Hid (Below w0.heap.size w0 (grow (w1.drewN nq2) osq2)):=hW_ (HB.out.trans ((fC _ _ _).mono HB.out.size));have HSO:=hW_ (lP HK.out (by have:=HLM.out;omega) HST.out);have HLT:Hid ((M.take k).length=k):=hW_ (by rw[List.length_take,HLM.out];omega);have hbz:=HBQ.out.block w.heap.size hs0;obtain⟨wq,hwq⟩:∃wq,(grow (w1.drewN nq2) osq2)=wq:=⟨_,rfl⟩;rw[hwq]at HBQ hbz |-;clear hwq;have HBX:=hW_ (hbz.trans HX0.out);clear hbz;have HMa:Hid (SlF 4 (wq.alloc (.cells #[] 165)) mo k mc (flat Mg.enc M)):=hW_ ((HM.out.below HBQ.out).alloc _);have HOa:Hid (eA Mg.enc 4 165 (wq.alloc (.cells #[] 165)) wq.heap.size (.slice (some ⟨wq.heap.size,0,none⟩) 0 0) []):=hW_ (eA.made0 wq);go_wp2_with (first
    | (refine B9 (enc:=Mg.enc) rfl _ _ _ rfl i0 Tryz.underlying23 hi Mg.enc_len rfl HMa.out rfl (k:=k) rfl (by omega) ?_;intro hs1)
    | (at_builtin;go_loud (refine gA rfl _ _ 23 rfl i0 z0 32 Tryz.underlying23 hi hz0 hz1 hz2 hz3 Mg.enc_len (by omega) Mg.enc_one rfl HOa.out rfl hs1 (by unfold maxLen;simp only[List.length_nil];omega) (by simp only[List.length_nil];omega) (by simp) ?_)))
   intro v1 wb ho1 hg1 hb1;have hb1':=(aA wq (.cells #[] 165)).trans hb1;have HB1:=hW_ hb1';have hlq:w.heap.size<wq.heap.size:=(Array.getElem?_eq_some_iff.1 HBX.out).1;obtain⟨b0,b1,b2,b3⟩:=vA ((hb1'.block w.heap.size hlq).trans HBX.out);have HOb:Hid (eA Mg.enc 4 165 (wb.alloc (.cells #[.int .i64 l, .int .i64 r, .int .i64 o, .int .i64 d] 165)) wq.heap.size v1 (M.take k)):=hW_ (ho1.alloc _);have HSb:Hid (SlF 4 (wb.alloc (.cells #[.int .i64 l, .int .i64 r, .int .i64 o, .int .i64 d] 165)) (some ⟨wb.heap.size,0,none⟩) 1 1 (flat Mg.enc [⟨l,r,o,d⟩])):=hW_ (SlF.one Mg.enc_len wb ⟨l,r,o,d⟩ 165 (cs:=#[.int .i64 l, .int .i64 r, .int .i64 o, .int .i64 d]) rfl);have HSZ:Hid (wq.heap.size<=wb.heap.size):=hW_ hb1'.size;clear ho1 hg1 hb1 hb1' hlq;go_wp2_with (at_builtin;go_loud (refine gA rfl _ _ 23 rfl i0 z0 32 Tryz.underlying23 hi hz0 hz1 hz2 hz3 Mg.enc_len (by omega) Mg.enc_one rfl HOb.out rfl HSb.out (by have:=HLT.out;unfold maxLen;omega) (by have:=HLT.out;omega) (by have:=HSZ.out;simp;omega) ?_));intro v2 wc ho2 hg2 hb2;have hb2':=(HB1.out.alloc HB1.out.size _).trans hb2;have HB2:=hW_ hb2';have HMc:Hid (SlF 4 wc mo k mc (flat Mg.enc M)):=hW_ ((HM.out.below HBQ.out).below hb2');have HOc:=hW_ ho2;have HSZ2:Hid (wq.heap.size<=wc.heap.size):=hW_ hb2'.size;clear ho2 hg2 hb2 hb2' b0 b1 b2 b3;go_wp2_with (first
    | (refine mC (enc:=Mg.enc) rfl _ _ _ rfl i0 Tryz.underlying23 hi hz1 Mg.enc_len rfl HMc.out rfl (k:=k) rfl (by omega) ?_;intro ao' hs3 hao3)
    | (at_builtin;go_loud (refine gA rfl _ _ 23 rfl i0 z0 32 Tryz.underlying23 hi hz0 hz1 hz2 hz3 Mg.enc_len (by omega) Mg.enc_one rfl HOc.out rfl hs3 (by have:=HLT.out;unfold maxLen;rw[List.length_append];simp only[List.length_singleton];omega) (by have:=HLT.out;rw[List.length_append];simp only[List.length_singleton];omega) HSZ2.out ?_)))
   intro v3 wd ho3 hg3 hb3;have HO3:=hW_ (ho3.mono (Nat.le_trans HB0.out.size HBQ.out.size));have HB3:=hW_ (HB0.out.trans ((HBQ.out.trans ((HB2.out.trans hb3).mono HBQ.out.size)).mono HB0.out.size));clear ho3 hg3 hb3;go_wp2_with (fail);go_ret;exact⟨⟨v3,_,rfl,HO3.out,yN M _ k,HSO.out⟩,HB3.out⟩
theorem aBw:(Tryz.prog.info? 3).map (fun i=>(i.zero,i.size,i.bytes))=some (some (.int .i64 0),1,8):=by kernel_rfl
theorem K5 (w:World):Own (w.alloc (.cells #[] 3)) w.heap.size (.slice (some ⟨w.heap.size,0,none⟩) 0 0) []:=
 World.ownsRow_made w #[] 0 (Nat.le_refl _) (by unfold maxLen;omega) rfl
theorem aDb (c:Nat) (w:World):
  Calls Tryz.prog 70 #[.slice none 0 c] w fun e w'=>∃v,e= .returned v/\Own w' w.heap.size v []/\Below w.heap.size w w':=by
 have hsn:=fun w=>Lib.run_eql_slice_nil (P:=Tryz.prog) w 43 3 none 0 c 0 0 Tryz.underlying43
 go_enter Tryz.func70,Tryz.ntmps70;go_wp2;go_ret;exact⟨_,rfl,Own.nil _ _,Below.refl _ _⟩
theorem aAD {A:List Int} {ad:Addr} {n c:Nat} (w:World) (hA:SlI w (some ad) n c A) (hreach:n*8<=140737488355328):
  Calls Tryz.prog 70 #[.slice (some ad) n c] w fun e w'=>∃v,e= .returned v/\Own w' w.heap.size v A/\Below w.heap.size w w':=by
 have hmA:=Nat.le_trans hA.le hA.max;have hlA:=hW_ hA.len;unfold maxLen at hmA;obtain⟨i0,hi,hz0,hz1,hz2⟩:=info_parts aBw;have hsn:=fun w=>Lib.run_eql_slice_nil (P:=Tryz.prog) w 43 3 (some ad) n c 0 0 Tryz.underlying43
 have hown:=K5 w;have hA2:=hA.alloc (.cells #[] 3);go_enter Tryz.func70,Tryz.ntmps70;go_wp2_with (at_builtin;refine vQ rfl _ _ 43 rfl w.heap.size 3 i0 (.int .i64 0) 8 Tryz.underlying43 hi hz0 hz1 hz2 rfl _ 0 [] rfl hown (some ad) n c _ rfl hA2 (oQ A) (by unfold maxLen;omega) (by omega) (by simp) ?_);intro v' w' ho hg _;go_wp2;go_ret;refine⟨_,rfl,?_,(aA w _).grown hg (by simp) (by simp[Value.ownBlock])⟩;unfold Own;rw[hlA.out];simpa using ho
theorem V7 {A:List Int} {ao:Option Addr} {n c:Nat} (w:World) (hA:SlI w ao n c A) (hreach:n*8<=140737488355328):
  Calls Tryz.prog 70 #[.slice ao n c] w fun e w'=>∃v,e= .returned v/\Own w' w.heap.size v A/\Below w.heap.size w w':=by
 cases ao with
 | some ad=>exact aAD w hA hreach
 | none=>
  have hc:=Sl.nil hA rfl;have hn:n=0:=by have:=Sl.le hA;omega
  subst hn;have:A= []:=List.eq_nil_of_length_eq_zero hA.len;subst this;exact aDb c w
theorem H4 {A:List Int} {ao:Option Addr} {n c:Nat} (w:World) (hA:SlI w ao n c A) (hreach:n*8<=140737488355328):
  Calls Tryz.prog 70 #[.slice ao n c] w fun e w'=>∃vo vc,e= .returned (.slice vo n vc)/\Own w' w.heap.size (.slice vo n vc) A/\Below w.heap.size w w':=by
 have key:Calls Tryz.prog 70 #[.slice ao n c] w fun e w'=>∃v,e= .returned v/\Own w' w.heap.size v A/\Below w.heap.size w w':=V7 w hA hreach
 refine key.mono fun e w' ⟨v,he,ho,hb⟩=> ?_
 obtain⟨vo,vc,rfl,_⟩:=ho.sl;have:=hA.len;subst this;exact⟨vo,vc,he,ho,hb⟩
end Go.Proofs.YtimkkkdabmhedaaGreatDoor
